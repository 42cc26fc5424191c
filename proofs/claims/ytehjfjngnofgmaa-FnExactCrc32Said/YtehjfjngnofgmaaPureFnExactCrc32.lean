/- The program's Crc32 and the reference's answer the same, at every text of at most 1048576 bytes (a longer one is let by). -/
import Derived.Test.YtehjfjngnofgmaaHFnExactCrc32x1
import Derived.Test.YtehjfjngnofgmaaThNum
import Derived.Test.YtehjfjngnofgmaaThSum
namespace Go.Proofs.Ytehjfjngnofgmaa.Pure
open Go.RowKit Go.Proofs.Ytehjfjngnofgmaa.PFnExactCrc32 Go.Proofs.YtehjfjngnofgmaaW.PrintWords Go.Proofs.YtehjfjngnofgmaaW.PrintLast Go.Proofs.YtehjfjngnofgmaaW.PrintMore Go.Proofs.Ytehjfjngnofgmaa.Th
set_option linter.unusedVariables false
set_option linter.unusedSimpArgs false

theorem in_f (a b c : Int) : impl_in.f a b c = some (decide (b ≤ a ∧ a ≤ c)) := by
  unfold impl_in.f
  by_cases h : b ≤ a
  · rw [if_pos h]; simp [h]
  · rw [if_neg h]; simp [h]
theorem l1In_f (a b c : Int) : spec_l1In.f a b c = some (decide (b ≤ a ∧ a ≤ c)) := by
  unfold spec_l1In.f
  by_cases h : b ≤ a
  · rw [if_pos h]; simp [h]
  · rw [if_neg h]; simp [h]
theorem spec_l2Crc_l1_ev (s : ByteArray) (i : Int) (hi : 0 ≤ i ∧ i ≤ 100000) (x : Int) (hx : 0 ≤ x ∧ x ≤ 4294967295) (r : Int) (hnext : Ev (fun k => spec_l2Crc.l0 k (cbN 8 x) s (i + 1)) r) :
    ∀ d j : Nat, j + d = 8 → Ev (fun k => spec_l2Crc.l1 k (cbN j x) s i (j : Int)) r := by
  intro d
  induction d with
  | zero =>
    intro j hj
    obtain ⟨K, hK⟩ := hnext
    try dsimp only at hK
    refine ⟨K + 1, fun k hk => ?_⟩
    try dsimp only
    obtain ⟨m, rfl⟩ : ∃ m, k = m + 1 := ⟨k - 1, by omega⟩
    have hm := hK m (by omega)
    rw [spec_l2Crc.l1, if_neg (by omega), w64 (by omega), show j = 8 by omega]
    exact hm
  | succ d ih =>
    intro j hj
    obtain ⟨K, hK⟩ := ih (j + 1) (by omega)
    try dsimp only at hK
    refine ⟨K + 1, fun k hk => ?_⟩
    try dsimp only
    obtain ⟨m, rfl⟩ : ∃ m, k = m + 1 := ⟨k - 1, by omega⟩
    have hm := hK m (by omega)
    have hb := cbN_b j hx
    rw [spec_l2Crc.l1, if_pos (by omega), tmod_pos hb.1, tdiv_pos hb.1, w64 (x := cbN j x / 2) (by omega), w64 (x := (j : Int) + 1) (by omega)]
    simp only [cbN] at hm
    rw [show ((j + 1 : Nat) : Int) = (j : Int) + 1 by omega] at hm
    unfold cb X at hm
    by_cases h : cbN j x % 2 = 1
    · rw [if_pos h] at hm ⊢
      unfold spec_l2Xor.f
      rw [Option.bind_some]
      exact hm
    · rw [if_neg h] at hm ⊢
      exact hm
theorem spec_l2Crc_l0_ev (s : ByteArray) (hs : s.size ≤ 9000) : ∀ (suf pre : List Int) (x : Int), bytesOf s = pre ++ suf → 0 ≤ x ∧ x ≤ 4294967295 → Ev (fun k => spec_l2Crc.l0 k x s (pre.length : Int)) (crS suf x) := by
  intro suf
  induction suf with
  | nil =>
    intro pre x hp hx
    have hl := size_split hp
    refine ⟨1, fun k hk => ?_⟩
    try dsimp only
    obtain ⟨m, rfl⟩ : ∃ m, k = m + 1 := ⟨k - 1, by omega⟩
    rw [spec_l2Crc.l0, if_neg (by simp at hl; omega)]
    rfl
  | cons y suf ih =>
    intro pre x hp hx
    have hl := size_split hp
    simp only [List.length_cons] at hl
    have hy := bt_split hp (i := (pre.length : Int)) rfl
    have hyb := bytesOf_b s y (by rw [hp]; simp)
    have hxb := X_b32 hx (y := y) (by omega)
    have hi := ih (pre ++ [y]) (cbN 8 (X x y)) (by simp [hp]) (cbN_b 8 hxb)
    rw [List.length_append, List.length_singleton, show ((pre.length + 1 : Nat) : Int) = (pre.length : Int) + 1 by omega] at hi
    obtain ⟨K, hK⟩ := spec_l2Crc_l1_ev s (pre.length : Int) (by omega) (X x y) hxb _ hi 8 0 (by omega)
    try dsimp only at hK
    refine ⟨K + 1, fun k hk => ?_⟩
    try dsimp only
    obtain ⟨m, rfl⟩ : ∃ m, k = m + 1 := ⟨k - 1, by omega⟩
    have hm := hK m (by omega)
    rw [spec_l2Crc.l0, if_pos (by omega), if_pos (by omega), hy, w64 (by omega)]
    unfold spec_l2Xor.f
    rw [Option.bind_some]
    exact hm
theorem impl_CrcMore_l1_ev (l : List Int) (i : Int) (hi : 0 ≤ i ∧ i ≤ 100000) (x : Int) (hx : 0 ≤ x ∧ x ≤ 4294967295) (r : Int) (hnext : Ev (fun k => impl_CrcMore.l0 k (cbN 8 x) l (l.length : Int) (i + 1)) r) :
    ∀ d j : Nat, j + d = 8 → Ev (fun k => impl_CrcMore.l1 k (cbN j x) l (l.length : Int) i (j : Int)) r := by
  intro d
  induction d with
  | zero =>
    intro j hj
    obtain ⟨K, hK⟩ := hnext
    try dsimp only at hK
    refine ⟨K + 1, fun k hk => ?_⟩
    try dsimp only
    obtain ⟨m, rfl⟩ : ∃ m, k = m + 1 := ⟨k - 1, by omega⟩
    have hm := hK m (by omega)
    rw [impl_CrcMore.l1, if_neg (by omega), w64 (by omega), show j = 8 by omega]
    exact hm
  | succ d ih =>
    intro j hj
    obtain ⟨K, hK⟩ := ih (j + 1) (by omega)
    try dsimp only at hK
    refine ⟨K + 1, fun k hk => ?_⟩
    try dsimp only
    obtain ⟨m, rfl⟩ : ∃ m, k = m + 1 := ⟨k - 1, by omega⟩
    have hm := hK m (by omega)
    have hb := cbN_b j hx
    rw [impl_CrcMore.l1, if_pos (by omega), and1 hb.1 (by omega), w64 (x := (j : Int) + 1) (by omega)]
    simp only [cbN] at hm
    rw [show ((j + 1 : Nat) : Int) = (j : Int) + 1 by omega] at hm
    unfold cb X at hm
    by_cases h : cbN j x % 2 = 1
    · rw [if_pos h] at hm ⊢
      exact hm
    · rw [if_neg h] at hm ⊢
      exact hm
theorem impl_CrcMore_l0_ev (l : List Int) (hl9 : l.length ≤ 9000) (hlb : ∀ x ∈ l, 0 ≤ x ∧ x ≤ 255) : ∀ (suf pre : List Int) (x : Int), l = pre ++ suf → 0 ≤ x ∧ x ≤ 4294967295 → Ev (fun k => impl_CrcMore.l0 k x l (l.length : Int) (pre.length : Int)) (X (crS suf x) 4294967295) := by
  intro suf
  induction suf with
  | nil =>
    intro pre x hp hx
    refine ⟨1, fun k hk => ?_⟩
    try dsimp only
    obtain ⟨m, rfl⟩ : ∃ m, k = m + 1 := ⟨k - 1, by omega⟩
    rw [impl_CrcMore.l0, if_neg (by rw [hp]; simp)]
    rfl
  | cons y suf ih =>
    intro pre x hp hx
    have hl : l.length = pre.length + suf.length + 1 := by rw [hp]; simp; omega
    have hy : rd l (pre.length : Int) = y := by rw [hp]; exact rd_at _ _ _ rfl
    have hyb := hlb y (by rw [hp]; simp)
    have hxb := X_b32 hx (y := y) (by omega)
    have hi := ih (pre ++ [y]) (cbN 8 (X x y)) (by simp [hp]) (cbN_b 8 hxb)
    rw [List.length_append, List.length_singleton, show ((pre.length + 1 : Nat) : Int) = (pre.length : Int) + 1 by omega] at hi
    obtain ⟨K, hK⟩ := impl_CrcMore_l1_ev l (pre.length : Int) (by omega) (X x y) hxb _ hi 8 0 (by omega)
    try dsimp only at hK
    refine ⟨K + 1, fun k hk => ?_⟩
    try dsimp only
    obtain ⟨m, rfl⟩ : ∃ m, k = m + 1 := ⟨k - 1, by omega⟩
    have hm := hK m (by omega)
    rw [impl_CrcMore.l0, if_pos (by omega), if_pos (by omega), if_pos (by omega), hy, w64 (by omega)]
    exact hm
theorem spec_CrcMore_ev (sum : Int) (s : ByteArray) : Ev (fun k => spec_CrcMore.f k sum s) (crcM sum s) := by
  unfold crcM
  by_cases h : crOk sum s = true
  · have hh := of_decide_eq_true h
    obtain ⟨K, hK⟩ := spec_l2Crc_l0_ev s hh.2.2 (bytesOf s) [] (X sum 4294967295) rfl (X_b32 ⟨hh.1, hh.2.1⟩ (by omega))
    try dsimp only at hK
    refine ⟨K + 1, fun k hk => ?_⟩
    try dsimp only
    obtain ⟨m, rfl⟩ : ∃ m, k = m + 1 := ⟨k - 1, by omega⟩
    have hm : spec_l2Crc.f m (Go.bits .xor .i64 sum 4294967295) s = some (crS (bytesOf s) (X sum 4294967295)) := hK m (by omega)
    unfold spec_CrcMore.f
    rw [if_pos h, l1In_f, Option.bind_some, if_pos (decide_eq_true ⟨hh.1, hh.2.1⟩), spec_CrcMore.j0, if_neg (by simp; omega)]
    unfold spec_l2Xor.f
    rw [Option.bind_some, hm, Option.bind_some, Option.bind_some]
    rfl
  · have hn : ¬ (0 ≤ sum ∧ sum ≤ 4294967295 ∧ s.size ≤ 9000) := fun e => h (decide_eq_true e)
    refine ⟨1, fun k hk => ?_⟩
    try dsimp only
    obtain ⟨m, rfl⟩ : ∃ m, k = m + 1 := ⟨k - 1, by omega⟩
    have hj : spec_CrcMore.j0 (m + 1) sum s true = some 0 := by rw [spec_CrcMore.j0, if_pos rfl]
    unfold spec_CrcMore.f
    rw [if_neg h, l1In_f, Option.bind_some]
    by_cases h1 : 0 ≤ sum ∧ sum ≤ 4294967295
    · rw [if_pos (decide_eq_true h1), decide_eq_true (by omega)]; exact hj
    · rw [if_neg (by simpa using h1)]; exact hj
theorem impl_CrcMore_ev (sum : Int) (s : ByteArray) : Ev (fun k => impl_CrcMore.f k sum s) (crcM sum s) := by
  unfold crcM
  have hbl := bytesOf_length s
  by_cases h : crOk sum s = true
  · have hh := of_decide_eq_true h
    obtain ⟨K, hK⟩ := impl_CrcMore_l0_ev (bytesOf s) (by omega) (bytesOf_b s) (bytesOf s) [] (X sum 4294967295) rfl (X_b32 ⟨hh.1, hh.2.1⟩ (by omega))
    try dsimp only at hK
    refine ⟨K + 1, fun k hk => ?_⟩
    try dsimp only
    obtain ⟨m, rfl⟩ : ∃ m, k = m + 1 := ⟨k - 1, by omega⟩
    have hm := hK m (by omega)
    unfold impl_CrcMore.f
    rw [if_pos h, in_f, Option.bind_some, if_pos (decide_eq_true ⟨hh.1, hh.2.1⟩), impl_CrcMore.j0, if_neg (by simp; omega), if_pos (by omega)]
    exact hm
  · have hn : ¬ (0 ≤ sum ∧ sum ≤ 4294967295 ∧ s.size ≤ 9000) := fun e => h (decide_eq_true e)
    refine ⟨1, fun k hk => ?_⟩
    try dsimp only
    obtain ⟨m, rfl⟩ : ∃ m, k = m + 1 := ⟨k - 1, by omega⟩
    have hj : impl_CrcMore.j0 (m + 1) sum s true = some 0 := by rw [impl_CrcMore.j0, if_pos rfl]
    unfold impl_CrcMore.f
    rw [if_neg h, in_f, Option.bind_some]
    by_cases h1 : 0 ≤ sum ∧ sum ≤ 4294967295
    · rw [if_pos (decide_eq_true h1), decide_eq_true (by omega)]; exact hj
    · rw [if_neg (by simpa using h1)]; exact hj
theorem spec_Crc32_ev (s : ByteArray) : Ev (fun k => spec_Crc32.f k s) (crcM 0 s) := by
  obtain ⟨K, hK⟩ := spec_CrcMore_ev 0 s
  try dsimp only at hK
  refine ⟨K, fun k hk => ?_⟩
  try dsimp only
  try dsimp only
  unfold spec_Crc32.f
  rw [hK k hk, Option.bind_some]
theorem impl_Crc32_ev (s : ByteArray) : Ev (fun k => impl_Crc32.f k s) (crcM 0 s) := by
  obtain ⟨K, hK⟩ := impl_CrcMore_ev 0 s
  try dsimp only at hK
  refine ⟨K, fun k hk => ?_⟩
  try dsimp only
  try dsimp only
  unfold impl_Crc32.f
  rw [hK k hk, Option.bind_some]

theorem FnExactCrc32 : laws_FnExactCrc32.Pure := by
  intro s hs
  unfold laws_FnExactCrc32.f
  by_cases h : (s.size : Int) > 1048576
  · exact ⟨0, by rw [if_pos h]⟩
  obtain ⟨K1, h1⟩ := spec_Crc32_ev s
  try dsimp only at h1
  obtain ⟨K2, h2⟩ := impl_Crc32_ev s
  try dsimp only at h2
  refine ⟨K1 + K2, ?_⟩
  rw [if_neg h, h1 _ (by omega), Option.bind_some, h2 _ (by omega), Option.bind_some, if_pos rfl]

end Go.Proofs.Ytehjfjngnofgmaa.Pure
