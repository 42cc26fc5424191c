/- Of every text that the reference draws from a list of at most 1048576 bytes, and every second such list (longer ones are let by): the program's two sums are the reference's, and a text of which one bit is another one, at the place that the second list's length tells, has two other sums. -/
import Derived.Test.YtfladcffgblfdaaHFnCrcBitx4
import Derived.Test.YtfladcffgblfdaaThNum
import Derived.Test.YtfladcffgblfdaaThSum
import Derived.Test.YtfladcffgblfdaaThXor
import Derived.Test.YtfladcffgblfdaaThStr
import Derived.Test.YtfladcffgblfdaaThCrcBit
namespace Go.Proofs.Ytfladcffgblfdaa.Pure
open Go.RowKit Go.Proofs.Ytfladcffgblfdaa.PFnCrcBit Go.Proofs.YtfladcffgblfdaaW.PrintWords Go.Proofs.YtfladcffgblfdaaW.PrintLast Go.Proofs.YtfladcffgblfdaaW.PrintMore Go.Proofs.Ytfladcffgblfdaa.Th
set_option linter.unusedVariables false
set_option linter.unusedSimpArgs false

theorem in_f (a b c : Int) : impl_in.f a b c = some (decide (b ≤ a ∧ a ≤ c)) := by
  unfold impl_in.f
  by_cases h : b ≤ a
  · rw [if_pos h]; simp [h]
  · rw [if_neg h]; simp [h]
theorem l1In_f (a b c : Int) : spec_l1In.f a b c = some (decide (b ≤ a ∧ a ≤ c)) := by
  unfold spec_l1In.f
  by_cases h : b ≤ a
  · rw [if_pos h]; simp [h]
  · rw [if_neg h]; simp [h]
theorem spec_l2Crc_l1_ev (s : ByteArray) (i : Int) (hi : 0 ≤ i ∧ i ≤ 100000) (x : Int) (hx : 0 ≤ x ∧ x ≤ 4294967295) (r : Int) (hnext : Ev (fun k => spec_l2Crc.l0 k (cbN 8 x) s (i + 1)) r) :
    ∀ d j : Nat, j + d = 8 → Ev (fun k => spec_l2Crc.l1 k (cbN j x) s i (j : Int)) r := by
  intro d
  induction d with
  | zero =>
    intro j hj
    obtain ⟨K, hK⟩ := hnext
    try dsimp only at hK
    refine ⟨K + 1, fun k hk => ?_⟩
    try dsimp only
    obtain ⟨m, rfl⟩ : ∃ m, k = m + 1 := ⟨k - 1, by omega⟩
    have hm := hK m (by omega)
    rw [spec_l2Crc.l1, if_neg (by omega), w64 (by omega), show j = 8 by omega]
    exact hm
  | succ d ih =>
    intro j hj
    obtain ⟨K, hK⟩ := ih (j + 1) (by omega)
    try dsimp only at hK
    refine ⟨K + 1, fun k hk => ?_⟩
    try dsimp only
    obtain ⟨m, rfl⟩ : ∃ m, k = m + 1 := ⟨k - 1, by omega⟩
    have hm := hK m (by omega)
    have hb := cbN_b j hx
    rw [spec_l2Crc.l1, if_pos (by omega), tmod_pos hb.1, tdiv_pos hb.1, w64 (x := cbN j x / 2) (by omega), w64 (x := (j : Int) + 1) (by omega)]
    simp only [cbN] at hm
    rw [show ((j + 1 : Nat) : Int) = (j : Int) + 1 by omega] at hm
    unfold cb X at hm
    by_cases h : cbN j x % 2 = 1
    · rw [if_pos h] at hm ⊢
      unfold spec_l2Xor.f
      rw [Option.bind_some]
      exact hm
    · rw [if_neg h] at hm ⊢
      exact hm
theorem spec_l2Crc_l0_ev (s : ByteArray) (hs : s.size ≤ 9000) : ∀ (suf pre : List Int) (x : Int), bytesOf s = pre ++ suf → 0 ≤ x ∧ x ≤ 4294967295 → Ev (fun k => spec_l2Crc.l0 k x s (pre.length : Int)) (crS suf x) := by
  intro suf
  induction suf with
  | nil =>
    intro pre x hp hx
    have hl := size_split hp
    refine ⟨1, fun k hk => ?_⟩
    try dsimp only
    obtain ⟨m, rfl⟩ : ∃ m, k = m + 1 := ⟨k - 1, by omega⟩
    rw [spec_l2Crc.l0, if_neg (by simp at hl; omega)]
    rfl
  | cons y suf ih =>
    intro pre x hp hx
    have hl := size_split hp
    simp only [List.length_cons] at hl
    have hy := bt_split hp (i := (pre.length : Int)) rfl
    have hyb := bytesOf_b s y (by rw [hp]; simp)
    have hxb := X_b32 hx (y := y) (by omega)
    have hi := ih (pre ++ [y]) (cbN 8 (X x y)) (by simp [hp]) (cbN_b 8 hxb)
    rw [List.length_append, List.length_singleton, show ((pre.length + 1 : Nat) : Int) = (pre.length : Int) + 1 by omega] at hi
    obtain ⟨K, hK⟩ := spec_l2Crc_l1_ev s (pre.length : Int) (by omega) (X x y) hxb _ hi 8 0 (by omega)
    try dsimp only at hK
    refine ⟨K + 1, fun k hk => ?_⟩
    try dsimp only
    obtain ⟨m, rfl⟩ : ∃ m, k = m + 1 := ⟨k - 1, by omega⟩
    have hm := hK m (by omega)
    rw [spec_l2Crc.l0, if_pos (by omega), if_pos (by omega), hy, w64 (by omega)]
    unfold spec_l2Xor.f
    rw [Option.bind_some]
    exact hm
theorem impl_CrcMore_l1_ev (l : List Int) (i : Int) (hi : 0 ≤ i ∧ i ≤ 100000) (x : Int) (hx : 0 ≤ x ∧ x ≤ 4294967295) (r : Int) (hnext : Ev (fun k => impl_CrcMore.l0 k (cbN 8 x) l (l.length : Int) (i + 1)) r) :
    ∀ d j : Nat, j + d = 8 → Ev (fun k => impl_CrcMore.l1 k (cbN j x) l (l.length : Int) i (j : Int)) r := by
  intro d
  induction d with
  | zero =>
    intro j hj
    obtain ⟨K, hK⟩ := hnext
    try dsimp only at hK
    refine ⟨K + 1, fun k hk => ?_⟩
    try dsimp only
    obtain ⟨m, rfl⟩ : ∃ m, k = m + 1 := ⟨k - 1, by omega⟩
    have hm := hK m (by omega)
    rw [impl_CrcMore.l1, if_neg (by omega), w64 (by omega), show j = 8 by omega]
    exact hm
  | succ d ih =>
    intro j hj
    obtain ⟨K, hK⟩ := ih (j + 1) (by omega)
    try dsimp only at hK
    refine ⟨K + 1, fun k hk => ?_⟩
    try dsimp only
    obtain ⟨m, rfl⟩ : ∃ m, k = m + 1 := ⟨k - 1, by omega⟩
    have hm := hK m (by omega)
    have hb := cbN_b j hx
    rw [impl_CrcMore.l1, if_pos (by omega), and1 hb.1 (by omega), w64 (x := (j : Int) + 1) (by omega)]
    simp only [cbN] at hm
    rw [show ((j + 1 : Nat) : Int) = (j : Int) + 1 by omega] at hm
    unfold cb X at hm
    by_cases h : cbN j x % 2 = 1
    · rw [if_pos h] at hm ⊢
      exact hm
    · rw [if_neg h] at hm ⊢
      exact hm
theorem impl_CrcMore_l0_ev (l : List Int) (hl9 : l.length ≤ 9000) (hlb : ∀ x ∈ l, 0 ≤ x ∧ x ≤ 255) : ∀ (suf pre : List Int) (x : Int), l = pre ++ suf → 0 ≤ x ∧ x ≤ 4294967295 → Ev (fun k => impl_CrcMore.l0 k x l (l.length : Int) (pre.length : Int)) (X (crS suf x) 4294967295) := by
  intro suf
  induction suf with
  | nil =>
    intro pre x hp hx
    refine ⟨1, fun k hk => ?_⟩
    try dsimp only
    obtain ⟨m, rfl⟩ : ∃ m, k = m + 1 := ⟨k - 1, by omega⟩
    rw [impl_CrcMore.l0, if_neg (by rw [hp]; simp)]
    rfl
  | cons y suf ih =>
    intro pre x hp hx
    have hl : l.length = pre.length + suf.length + 1 := by rw [hp]; simp; omega
    have hy : rd l (pre.length : Int) = y := by rw [hp]; exact rd_at _ _ _ rfl
    have hyb := hlb y (by rw [hp]; simp)
    have hxb := X_b32 hx (y := y) (by omega)
    have hi := ih (pre ++ [y]) (cbN 8 (X x y)) (by simp [hp]) (cbN_b 8 hxb)
    rw [List.length_append, List.length_singleton, show ((pre.length + 1 : Nat) : Int) = (pre.length : Int) + 1 by omega] at hi
    obtain ⟨K, hK⟩ := impl_CrcMore_l1_ev l (pre.length : Int) (by omega) (X x y) hxb _ hi 8 0 (by omega)
    try dsimp only at hK
    refine ⟨K + 1, fun k hk => ?_⟩
    try dsimp only
    obtain ⟨m, rfl⟩ : ∃ m, k = m + 1 := ⟨k - 1, by omega⟩
    have hm := hK m (by omega)
    rw [impl_CrcMore.l0, if_pos (by omega), if_pos (by omega), if_pos (by omega), hy, w64 (by omega)]
    exact hm
theorem spec_CrcMore_ev (sum : Int) (s : ByteArray) : Ev (fun k => spec_CrcMore.f k sum s) (crcM sum s) := by
  unfold crcM
  by_cases h : crOk sum s = true
  · have hh := of_decide_eq_true h
    obtain ⟨K, hK⟩ := spec_l2Crc_l0_ev s hh.2.2 (bytesOf s) [] (X sum 4294967295) rfl (X_b32 ⟨hh.1, hh.2.1⟩ (by omega))
    try dsimp only at hK
    refine ⟨K + 1, fun k hk => ?_⟩
    try dsimp only
    obtain ⟨m, rfl⟩ : ∃ m, k = m + 1 := ⟨k - 1, by omega⟩
    have hm : spec_l2Crc.f m (Go.bits .xor .i64 sum 4294967295) s = some (crS (bytesOf s) (X sum 4294967295)) := hK m (by omega)
    unfold spec_CrcMore.f
    rw [if_pos h, l1In_f, Option.bind_some, if_pos (decide_eq_true ⟨hh.1, hh.2.1⟩), spec_CrcMore.j0, if_neg (by simp; omega)]
    unfold spec_l2Xor.f
    rw [Option.bind_some, hm, Option.bind_some, Option.bind_some]
    rfl
  · have hn : ¬ (0 ≤ sum ∧ sum ≤ 4294967295 ∧ s.size ≤ 9000) := fun e => h (decide_eq_true e)
    refine ⟨1, fun k hk => ?_⟩
    try dsimp only
    obtain ⟨m, rfl⟩ : ∃ m, k = m + 1 := ⟨k - 1, by omega⟩
    have hj : spec_CrcMore.j0 (m + 1) sum s true = some 0 := by rw [spec_CrcMore.j0, if_pos rfl]
    unfold spec_CrcMore.f
    rw [if_neg h, l1In_f, Option.bind_some]
    by_cases h1 : 0 ≤ sum ∧ sum ≤ 4294967295
    · rw [if_pos (decide_eq_true h1), decide_eq_true (by omega)]; exact hj
    · rw [if_neg (by simpa using h1)]; exact hj
theorem impl_CrcMore_ev (sum : Int) (s : ByteArray) : Ev (fun k => impl_CrcMore.f k sum s) (crcM sum s) := by
  unfold crcM
  have hbl := bytesOf_length s
  by_cases h : crOk sum s = true
  · have hh := of_decide_eq_true h
    obtain ⟨K, hK⟩ := impl_CrcMore_l0_ev (bytesOf s) (by omega) (bytesOf_b s) (bytesOf s) [] (X sum 4294967295) rfl (X_b32 ⟨hh.1, hh.2.1⟩ (by omega))
    try dsimp only at hK
    refine ⟨K + 1, fun k hk => ?_⟩
    try dsimp only
    obtain ⟨m, rfl⟩ : ∃ m, k = m + 1 := ⟨k - 1, by omega⟩
    have hm := hK m (by omega)
    unfold impl_CrcMore.f
    rw [if_pos h, in_f, Option.bind_some, if_pos (decide_eq_true ⟨hh.1, hh.2.1⟩), impl_CrcMore.j0, if_neg (by simp; omega), if_pos (by omega)]
    exact hm
  · have hn : ¬ (0 ≤ sum ∧ sum ≤ 4294967295 ∧ s.size ≤ 9000) := fun e => h (decide_eq_true e)
    refine ⟨1, fun k hk => ?_⟩
    try dsimp only
    obtain ⟨m, rfl⟩ : ∃ m, k = m + 1 := ⟨k - 1, by omega⟩
    have hj : impl_CrcMore.j0 (m + 1) sum s true = some 0 := by rw [impl_CrcMore.j0, if_pos rfl]
    unfold impl_CrcMore.f
    rw [if_neg h, in_f, Option.bind_some]
    by_cases h1 : 0 ≤ sum ∧ sum ≤ 4294967295
    · rw [if_pos (decide_eq_true h1), decide_eq_true (by omega)]; exact hj
    · rw [if_neg (by simpa using h1)]; exact hj
theorem spec_Crc32_ev (s : ByteArray) : Ev (fun k => spec_Crc32.f k s) (crcM 0 s) := by
  obtain ⟨K, hK⟩ := spec_CrcMore_ev 0 s
  try dsimp only at hK
  refine ⟨K, fun k hk => ?_⟩
  try dsimp only
  try dsimp only
  unfold spec_Crc32.f
  rw [hK k hk, Option.bind_some]
theorem impl_Crc32_ev (s : ByteArray) : Ev (fun k => impl_Crc32.f k s) (crcM 0 s) := by
  obtain ⟨K, hK⟩ := impl_CrcMore_ev 0 s
  try dsimp only at hK
  refine ⟨K, fun k hk => ?_⟩
  try dsimp only
  try dsimp only
  unfold impl_Crc32.f
  rw [hK k hk, Option.bind_some]
theorem spec_AdlerMore_l0_ev (s : ByteArray) (hs : s.size ≤ 9000) : ∀ (suf pre : List Int) (a b : Int), bytesOf s = pre ++ suf → 0 ≤ a ∧ a ≤ 65520 → 0 ≤ b ∧ b ≤ 65520 → Ev (fun k => spec_AdlerMore.l0 k s a b (pre.length : Int)) (65536 * (adS suf a b).2 + (adS suf a b).1) := by
  intro suf
  induction suf with
  | nil =>
    intro pre a b hp ha hb
    have hl := size_split hp
    refine ⟨1, fun k hk => ?_⟩
    try dsimp only
    obtain ⟨m, rfl⟩ : ∃ m, k = m + 1 := ⟨k - 1, by omega⟩
    rw [spec_AdlerMore.l0, if_neg (by simp at hl; omega), w64 (x := b * 65536) (by omega), w64 (by omega)]
    simp only [adS]; congr 1; omega
  | cons x suf ih =>
    intro pre a b hp ha hb
    have hl := size_split hp
    simp only [List.length_cons] at hl
    have hx := bt_split hp (i := (pre.length : Int)) rfl
    have hxb := bytesOf_b s x (by rw [hp]; simp)
    obtain ⟨K, hK⟩ := ih (pre ++ [x]) ((a + x) % 65521) ((b + (a + x) % 65521) % 65521) (by simp [hp]) (by omega) (by omega)
    try dsimp only at hK
    refine ⟨K + 1, fun k hk => ?_⟩
    try dsimp only
    obtain ⟨m, rfl⟩ : ∃ m, k = m + 1 := ⟨k - 1, by omega⟩
    have hm := hK m (by omega)
    rw [spec_AdlerMore.l0, if_pos (by omega), if_pos (by omega), hx, w64 (x := x) (by omega), w64 (x := a + x) (by omega), tmod_pos (a := a + x) (by omega), w64 (x := b + _) (by omega), tmod_pos (by omega), w64 (by omega)]
    rw [List.length_append, List.length_singleton, show ((pre.length + 1 : Nat) : Int) = (pre.length : Int) + 1 by omega] at hm
    exact hm
theorem impl_AdlerMore_l0_ev (l : List Int) (hl9 : l.length ≤ 9000) (hlb : ∀ x ∈ l, 0 ≤ x ∧ x ≤ 255) : ∀ (suf pre : List Int) (a b : Int), l = pre ++ suf → 0 ≤ a ∧ a ≤ 65520 → 0 ≤ b ∧ b ≤ 65520 → Ev (fun k => impl_AdlerMore.l0 k a b l (l.length : Int) (pre.length : Int)) (65536 * (adS suf a b).2 + (adS suf a b).1) := by
  intro suf
  induction suf with
  | nil =>
    intro pre a b hp ha hb
    refine ⟨1, fun k hk => ?_⟩
    try dsimp only
    obtain ⟨m, rfl⟩ : ∃ m, k = m + 1 := ⟨k - 1, by omega⟩
    rw [impl_AdlerMore.l0, if_neg (by rw [hp]; simp), w64 (x := 65536 * b) (by omega), w64 (by omega)]
    rfl
  | cons x suf ih =>
    intro pre a b hp ha hb
    have hl : l.length = pre.length + suf.length + 1 := by rw [hp]; simp; omega
    have hx : rd l (pre.length : Int) = x := by rw [hp]; exact rd_at _ _ _ rfl
    have hxb := hlb x (by rw [hp]; simp)
    obtain ⟨K, hK⟩ := ih (pre ++ [x]) ((a + x) % 65521) ((b + (a + x) % 65521) % 65521) (by simp [hp]) (by omega) (by omega)
    try dsimp only at hK
    refine ⟨K + 1, fun k hk => ?_⟩
    try dsimp only
    obtain ⟨m, rfl⟩ : ∃ m, k = m + 1 := ⟨k - 1, by omega⟩
    have hm := hK m (by omega)
    rw [impl_AdlerMore.l0, if_pos (by omega), if_pos (by omega), if_pos (by omega), hx, w64 (x := x) (by omega), w64 (x := a + x) (by omega), tmod_pos (a := a + x) (by omega), w64 (x := b + _) (by omega), tmod_pos (by omega), w64 (by omega)]
    rw [List.length_append, List.length_singleton, show ((pre.length + 1 : Nat) : Int) = (pre.length : Int) + 1 by omega] at hm
    exact hm
theorem spec_AdlerMore_ev (sum : Int) (s : ByteArray) (hw : -9223372036854775808 ≤ sum ∧ sum ≤ 9223372036854775807) : Ev (fun k => spec_AdlerMore.f k sum s) (adlerM sum s) := by
  unfold adlerM
  by_cases h : adOk sum s = true
  · have hh := of_decide_eq_true h
    obtain ⟨K, hK⟩ := spec_AdlerMore_l0_ev s hh.2.2.2.2 (bytesOf s) [] (sum % 65536) (sum / 65536) rfl (by omega) (by omega)
    try dsimp only at hK
    refine ⟨K + 1, fun k hk => ?_⟩
    try dsimp only
    obtain ⟨m, rfl⟩ : ∃ m, k = m + 1 := ⟨k - 1, by omega⟩
    have hm := hK m (by omega)
    unfold spec_AdlerMore.f
    rw [if_pos h, l1In_f, Option.bind_some, if_pos (decide_eq_true ⟨hh.1, hh.2.1⟩), tmod_pos hh.1, tdiv_pos hh.1, w64 (x := sum / 65536) (by omega), if_neg (by omega), if_neg (by omega), spec_AdlerMore.j0, if_neg (by simp; omega)]
    exact hm
  · have hn : ¬ (0 ≤ sum ∧ sum ≤ 4294967295 ∧ sum % 65536 ≤ 65520 ∧ sum / 65536 ≤ 65520 ∧ s.size ≤ 9000) := fun e => h (decide_eq_true e)
    refine ⟨1, fun k hk => ?_⟩
    try dsimp only
    obtain ⟨m, rfl⟩ : ∃ m, k = m + 1 := ⟨k - 1, by omega⟩
    have hj : ∀ a b : Int, spec_AdlerMore.j0 (m + 1) s a b true = some 0 := by intro a b; rw [spec_AdlerMore.j0, if_pos rfl]
    unfold spec_AdlerMore.f
    rw [if_neg h, l1In_f, Option.bind_some]
    by_cases h1 : 0 ≤ sum ∧ sum ≤ 4294967295
    · rw [if_pos (decide_eq_true h1), tmod_pos h1.1, tdiv_pos h1.1, w64 (x := sum / 65536) (by omega)]
      by_cases h2 : sum % 65536 > 65520
      · rw [if_pos h2]; exact hj _ _
      · rw [if_neg h2]
        by_cases h3 : sum / 65536 > 65520
        · rw [if_pos h3]; exact hj _ _
        · rw [if_neg h3, decide_eq_true (by omega)]; exact hj _ _
    · rw [if_neg (by simpa using h1)]; exact hj _ _
theorem impl_AdlerMore_ev (sum : Int) (s : ByteArray) (hw : -9223372036854775808 ≤ sum ∧ sum ≤ 9223372036854775807) : Ev (fun k => impl_AdlerMore.f k sum s) (adlerM sum s) := by
  unfold adlerM
  have hbl := bytesOf_length s
  by_cases h : adOk sum s = true
  · have hh := of_decide_eq_true h
    obtain ⟨K, hK⟩ := impl_AdlerMore_l0_ev (bytesOf s) (by omega) (bytesOf_b s) (bytesOf s) [] (sum % 65536) (sum / 65536) rfl (by omega) (by omega)
    try dsimp only at hK
    refine ⟨K + 1, fun k hk => ?_⟩
    try dsimp only
    obtain ⟨m, rfl⟩ : ∃ m, k = m + 1 := ⟨k - 1, by omega⟩
    have hm := hK m (by omega)
    unfold impl_AdlerMore.f
    rw [if_pos h, in_f, Option.bind_some, if_pos (decide_eq_true ⟨hh.1, hh.2.1⟩), tmod_pos hh.1, tdiv_pos hh.1, w64 (x := sum / 65536) (by omega), if_neg (by omega), if_neg (by omega), impl_AdlerMore.j0, if_neg (by simp; omega), if_pos (by omega)]
    exact hm
  · have hn : ¬ (0 ≤ sum ∧ sum ≤ 4294967295 ∧ sum % 65536 ≤ 65520 ∧ sum / 65536 ≤ 65520 ∧ s.size ≤ 9000) := fun e => h (decide_eq_true e)
    refine ⟨1, fun k hk => ?_⟩
    try dsimp only
    obtain ⟨m, rfl⟩ : ∃ m, k = m + 1 := ⟨k - 1, by omega⟩
    have hj : ∀ a b : Int, impl_AdlerMore.j0 (m + 1) s a b true = some 0 := by intro a b; rw [impl_AdlerMore.j0, if_pos rfl]
    unfold impl_AdlerMore.f
    rw [if_neg h, in_f, Option.bind_some]
    by_cases h1 : 0 ≤ sum ∧ sum ≤ 4294967295
    · rw [if_pos (decide_eq_true h1), tmod_pos h1.1, tdiv_pos h1.1, w64 (x := sum / 65536) (by omega)]
      by_cases h2 : sum % 65536 ≥ 65521
      · rw [if_pos h2]; exact hj _ _
      · rw [if_neg h2]
        by_cases h3 : sum / 65536 ≥ 65521
        · rw [if_pos h3]; exact hj _ _
        · rw [if_neg h3, decide_eq_true (by omega)]; exact hj _ _
    · rw [if_neg (by simpa using h1)]; exact hj _ _
theorem spec_Adler32_ev (s : ByteArray) : Ev (fun k => spec_Adler32.f k s) (adlerM 1 s) := by
  obtain ⟨K, hK⟩ := spec_AdlerMore_ev 1 s (by omega)
  try dsimp only at hK
  refine ⟨K, fun k hk => ?_⟩
  try dsimp only
  try dsimp only
  unfold spec_Adler32.f
  rw [hK k hk, Option.bind_some]
theorem impl_Adler32_ev (s : ByteArray) : Ev (fun k => impl_Adler32.f k s) (adlerM 1 s) := by
  obtain ⟨K, hK⟩ := impl_AdlerMore_ev 1 s (by omega)
  try dsimp only at hK
  refine ⟨K, fun k hk => ?_⟩
  try dsimp only
  try dsimp only
  unfold impl_Adler32.f
  rw [hK k hk, Option.bind_some]
theorem wiPow_l0_ev (n : Nat) (hn : n ≤ 59) : ∀ d i : Nat, i + d = n → Ev (fun k => laws_wiPow.l0 k (n : Int) (P2 i) (i : Int)) (P2 n) := by
  intro d
  induction d with
  | zero =>
    intro i hi
    refine ⟨1, fun k hk => ?_⟩
    try dsimp only
    obtain ⟨m, rfl⟩ : ∃ m, k = m + 1 := ⟨k - 1, by omega⟩
    rw [laws_wiPow.l0, if_neg (by omega), show i = n by omega]
  | succ d ih =>
    intro i hi
    obtain ⟨K, hK⟩ := ih (i + 1) (by omega)
    try dsimp only at hK
    refine ⟨K + 1, fun k hk => ?_⟩
    try dsimp only
    obtain ⟨m, rfl⟩ : ∃ m, k = m + 1 := ⟨k - 1, by omega⟩
    have hm := hK m (by omega)
    have hb := P2_62b (n := i) (by omega)
    have hb' := P2_62b (n := i + 1) (by omega)
    have hs := P2_succ i
    rw [laws_wiPow.l0, if_pos (by omega), if_pos (by omega), w64 (by omega), w64 (by omega), show P2 i * 2 = P2 (i + 1) by omega, show (i : Int) + 1 = ((i + 1 : Nat) : Int) by omega]
    exact hm
theorem wiPow_ev (n : Int) (h0 : 0 ≤ n) (hn : n ≤ 59) : Ev (fun k => laws_wiPow.f k n) (P2 n.toNat) := by
  have h := wiPow_l0_ev n.toNat (by omega) n.toNat 0 (by omega)
  rw [Int.toNat_of_nonneg h0] at h
  exact h
/-- A drawing's bytes. -/
def Code (b : List Int) : Prop := b.length ≤ 2000 ∧ ∀ x ∈ b, 0 ≤ x ∧ x ≤ 255
theorem l1Open_f (l : List Int) : spec_l1Open.f l = some (l.take 2000, 0) := by
  unfold spec_l1Open.f
  by_cases h : (l.length : Int) > 2000
  · rw [if_pos h, if_pos (by omega)]
  · rw [if_neg h, List.take_of_length_le (by omega)]
theorem code_open {l : List Int} (h : ∀ x ∈ l, (Lit.int .u8 x).wf = true) : Code (l.take 2000) := by
  refine ⟨by rw [List.length_take]; omega, fun x hx => ?_⟩
  have := h x (List.mem_of_mem_take hx)
  simp [Lit.wf, IntKind.min, IntKind.max, IntKind.bits, IntKind.signed] at this
  omega
theorem code_rd {b : List Int} (h : Code b) (i : Int) : 0 ≤ rd b i ∧ rd b i ≤ 255 := by
  rcases rd_mem_or b i with h1 | h1
  · exact h.2 _ h1
  · omega
/-- What is picked is there, and the place is one further. -/
theorem pick_ev {b : List Int} (hb : Code b) {p n : Int} (hp : 0 ≤ p ∧ p ≤ 1099511627776) (hn : n ≤ 1099511627776) : ∃ v : Int, (0 ≤ v ∧ (v < n ∨ n < 1 ∧ v = 0)) ∧ Ev (fun k => spec_l1Rd_pick.f k b p n) (v, p + 1) := by
  unfold spec_l1Rd_pick.f
  rw [w64 (x := p + 1) (by omega)]
  by_cases h1 : n < 1
  · refine ⟨0, ⟨by omega, .inr ⟨h1, rfl⟩⟩, 1, fun k hk => ?_⟩
    try dsimp only
    obtain ⟨m, rfl⟩ : ∃ m, k = m + 1 := ⟨k - 1, by omega⟩
    try dsimp only
    rw [if_pos h1, spec_l1Rd_pick.j0, if_pos rfl]
  by_cases h2 : b.length = 0
  · refine ⟨0, ⟨by omega, .inl (by omega)⟩, 1, fun k hk => ?_⟩
    try dsimp only
    obtain ⟨m, rfl⟩ : ∃ m, k = m + 1 := ⟨k - 1, by omega⟩
    try dsimp only
    rw [if_neg h1, spec_l1Rd_pick.j0, if_pos (by simp [h2])]
  have e0 : wrap64 (p + 1 - 1) = p := by rw [w64 (by omega)]; omega
  by_cases h3 : p < b.length
  · have hr := code_rd hb p
    refine ⟨rd b p % n, ⟨Int.emod_nonneg _ (by omega), .inl (Int.emod_lt_of_pos _ (by omega))⟩, 1, fun k hk => ?_⟩
    try dsimp only
    obtain ⟨m, rfl⟩ : ∃ m, k = m + 1 := ⟨k - 1, by omega⟩
    try dsimp only
    rw [if_neg h1, spec_l1Rd_pick.j0, if_neg (by simpa using h2), e0, if_pos h3, if_pos hp.1, if_neg (by omega), w64 (by omega), tmod_pos hr.1]
  · have hl := hb.1
    have m1 : 0 ≤ p % (b.length : Int) ∧ p % (b.length : Int) < b.length := ⟨Int.emod_nonneg _ (by omega), Int.emod_lt_of_pos _ (by omega)⟩
    have m2 : 0 ≤ (p * 7 + 3) % (b.length : Int) ∧ (p * 7 + 3) % (b.length : Int) < b.length := ⟨Int.emod_nonneg _ (by omega), Int.emod_lt_of_pos _ (by omega)⟩
    have r1 := code_rd hb (p % (b.length : Int))
    have r2 := code_rd hb ((p * 7 + 3) % (b.length : Int))
    have q1 : 0 ≤ p / (b.length : Int) := Int.ediv_nonneg hp.1 (by omega)
    have q2 : p / (b.length : Int) ≤ p := Int.ediv_le_self _ hp.1
    obtain ⟨X, hX⟩ : ∃ X, X = rd b (p % (b.length : Int)) * 131 + rd b ((p * 7 + 3) % (b.length : Int)) * 1117 + p * 29 + p / (b.length : Int) * 53 := ⟨_, rfl⟩
    have bX : 0 ≤ X ∧ X ≤ 4611686018427387904 := by omega
    have hx := xor_b (x := X) (y := X / 64) (by omega) (by omega)
    refine ⟨Go.bits .xor .i64 X (X / 64) % n, ⟨Int.emod_nonneg _ (by omega), .inl (Int.emod_lt_of_pos _ (by omega))⟩, 1, fun k hk => ?_⟩
    try dsimp only
    obtain ⟨m, rfl⟩ : ∃ m, k = m + 1 := ⟨k - 1, by omega⟩
    try dsimp only
    rw [if_neg h1, spec_l1Rd_pick.j0, if_neg (by simpa using h2), e0, if_neg h3, if_neg (by omega)]
    rw [w64 (x := p * 7) (by omega), w64 (x := p * 7 + 3) (by omega), tmod_pos (a := p) hp.1, tmod_pos (a := p * 7 + 3) (by omega), tdiv_pos (a := p) hp.1]
    rw [if_pos m1.1, if_pos m1.2, if_pos m2.1, if_pos m2.2, if_neg (by omega)]
    rw [w64 (x := rd b (p % (b.length : Int))) (by omega), w64 (x := rd b ((p * 7 + 3) % (b.length : Int))) (by omega), w64 (x := p / (b.length : Int)) (by omega)]
    rw [w64 (x := rd b (p % (b.length : Int)) * 131) (by omega), w64 (x := rd b ((p * 7 + 3) % (b.length : Int)) * 1117) (by omega), w64 (x := p * 29) (by omega), w64 (x := p / (b.length : Int) * 53) (by omega)]
    rw [w64 (x := rd b (p % (b.length : Int)) * 131 + rd b ((p * 7 + 3) % (b.length : Int)) * 1117) (by omega), w64 (x := rd b (p % (b.length : Int)) * 131 + rd b ((p * 7 + 3) % (b.length : Int)) * 1117 + p * 29) (by omega), w64 (x := rd b (p % (b.length : Int)) * 131 + rd b ((p * 7 + 3) % (b.length : Int)) * 1117 + p * 29 + p / (b.length : Int) * 53) (by omega), ← hX]
    rw [tdiv_pos (by omega), w64 (x := X / 64) (by omega), tmod_pos hx.1]
theorem of_ev {b : List Int} (hb : Code b) {p : Int} (hp : 0 ≤ p ∧ p ≤ 1000000000) (l : List ByteArray) (hl : 1 ≤ l.length) (hl2 : l.length ≤ 1000) : ∃ s, s ∈ l ∧ Ev (fun k => spec_l1Rd_of.f k b p l) (s, p + 1) := by
  obtain ⟨v, hv, K, hK⟩ := pick_ev hb (p := p) (n := (l.length : Int)) (by omega) (by omega)
  try dsimp only at hK
  try dsimp only at hK
  have hvl : v.toNat < l.length := by omega
  have e : rdOf ByteArray.empty l v = l[v.toNat] := by
    unfold rdOf; rw [List.getD_eq_getElem?_getD, List.getElem?_eq_getElem hvl]; rfl
  refine ⟨l[v.toNat], List.getElem_mem _, K, fun k hk => ?_⟩
  try dsimp only
  try dsimp only
  unfold spec_l1Rd_of.f
  rw [hK k hk]
  simp only [Option.bind_some]
  rw [if_pos (by omega), if_pos (by omega), e]
def manyM (s : ByteArray) : Nat → ByteArray
  | 0 => ⟨#[]⟩
  | n + 1 => manyM s n ++ s
theorem manyM_size (s : ByteArray) (n : Nat) : (manyM s n).size = n * s.size := by
  induction n with
  | zero => rw [Nat.zero_mul]; rfl
  | succ n ih => simp only [manyM, ByteArray.size_append, ih, Nat.succ_mul]
theorem l1Many_l0_ev (s : ByteArray) (n : Nat) (hn : n ≤ 100000) (hs : s.size ≤ 100000) : ∀ d i : Nat, i + d = n → Ev (fun k => spec_l1Many.l0 k s (n : Int) (manyM s i) (i : Int)) (manyM s n) := by
  intro d
  induction d with
  | zero =>
    intro i hi
    refine ⟨1, fun k hk => ?_⟩
    try dsimp only
    obtain ⟨m, rfl⟩ : ∃ m, k = m + 1 := ⟨k - 1, by omega⟩
    rw [spec_l1Many.l0, if_neg (by omega), show i = n by omega]
  | succ d ih =>
    intro i hi
    obtain ⟨K, hK⟩ := ih (i + 1) (by omega)
    try dsimp only at hK
    refine ⟨K + 1, fun k hk => ?_⟩
    try dsimp only
    obtain ⟨m, rfl⟩ : ∃ m, k = m + 1 := ⟨k - 1, by omega⟩
    have hm := hK m (by omega)
    have hz := manyM_size s i
    have hz2 : i * s.size ≤ 100000 * 100000 := Nat.mul_le_mul (by omega) hs
    rw [spec_l1Many.l0, if_pos (by omega), if_pos (by omega), w64 (by omega)]
    simp only [manyM] at hm
    rw [show ((i + 1 : Nat) : Int) = (i : Int) + 1 by omega] at hm
    exact hm
theorem l1Many_ev (s : ByteArray) (n : Int) (h0 : 0 ≤ n) (hn : n ≤ 100000) (hs : s.size ≤ 100000) : Ev (fun k => spec_l1Many.f k s n) (manyM s n.toNat) := by
  have h := l1Many_l0_ev s n.toNat (by omega) hs n.toNat 0 (by omega)
  rw [Int.toNat_of_nonneg h0] at h
  exact h
/-- A drawn text: short, or as many t's as may be, or one more. -/
def Short (s : ByteArray) : Prop := s.size ≤ 300 ∨ ∃ n : Nat, (9000 ≤ n ∧ n ≤ 9001) ∧ s = manyM ⟨#[116]⟩ n
theorem short_size {s : ByteArray} (h : Short s) : s.size ≤ 9001 := by
  rcases h with h | ⟨n, hn, rfl⟩
  · omega
  · rw [manyM_size, show (⟨#[116]⟩ : ByteArray).size = 1 from rfl]; omega
theorem l14Text_l1_ev {b : List Int} (hb : Code b) (n : Int) (P : Int) (S A : Nat) (C : Int) (hP : P ≤ 1000000) (hS : S ≤ 300)
    (next : ∀ (s : ByteArray) (p : Int), 0 ≤ p → p ≤ P → s.size ≤ S → ∃ (s' : ByteArray) (p' : Int), (s'.size ≤ s.size + A ∧ p ≤ p' ∧ p' ≤ p + C) ∧ Ev (fun k => spec_l14Text.l0 k s (wrap64 (n - 1)) b p) (s', p')) :
    ∀ (d : Nat) (s : ByteArray) (p : Int), d ≤ 12 → 0 ≤ p → p + d ≤ P → s.size + d ≤ S → ∃ (s' : ByteArray) (p' : Int), (s'.size ≤ s.size + d + A ∧ p ≤ p' ∧ p' ≤ p + d + C) ∧ Ev (fun k => spec_l14Text.l1 k s n (d : Int) b p) (s', p') := by
  intro d
  induction d with
  | zero =>
    intro s p hd h0 hp hs
    obtain ⟨s', p', hh, K, hK⟩ := next s p h0 (by omega) (by omega)
    try dsimp only at hK
    refine ⟨s', p', by omega, K + 1, fun k hk => ?_⟩
    try dsimp only
    obtain ⟨m, rfl⟩ : ∃ m, k = m + 1 := ⟨k - 1, by omega⟩
    try dsimp only
    rw [spec_l14Text.l1, if_neg (by omega)]
    exact hK m (by omega)
  | succ d ih =>
    intro s p hd h0 hp hs
    obtain ⟨v, hv, K1, hK1⟩ := pick_ev hb (p := p) (n := 256) (by omega) (by omega)
    try dsimp only at hK1
    try dsimp only at hK1
    have hz : (s ++ strOfNums [v % 256]).size = s.size + 1 := by rw [ByteArray.size_append, strOfNums_size]; rfl
    have hz1 : (strOfNums [v % 256]).size = 1 := by rw [strOfNums_size]; rfl
    obtain ⟨s', p', hh, K, hK⟩ := ih (s ++ strOfNums [v % 256]) (p + 1) (by omega) (by omega) (by omega) (by omega)
    try dsimp only at hK
    refine ⟨s', p', by omega, K + K1 + 1, fun k hk => ?_⟩
    try dsimp only
    obtain ⟨m, rfl⟩ : ∃ m, k = m + 1 := ⟨k - 1, by omega⟩
    try dsimp only
    rw [spec_l14Text.l1, if_pos (by omega), hK1 m (by omega)]
    simp only [Option.bind_some]
    rw [if_pos (by omega), w64 (by omega), show ((d + 1 : Nat) : Int) - 1 = (d : Int) by omega]
    exact hK m (by omega)
theorem l14Text_l0_ev {b : List Int} (hb : Code b) : ∀ (n : Nat) (s : ByteArray) (p : Int), n ≤ 6 → 0 ≤ p → p ≤ 1000000 - 20 * n → s.size + 39 * n ≤ 300 → ∃ (s' : ByteArray) (p' : Int), (s'.size ≤ s.size + 39 * n ∧ p ≤ p' ∧ p' ≤ p + 20 * n) ∧ Ev (fun k => spec_l14Text.l0 k s (n : Int) b p) (s', p') := by
  intro n
  induction n with
  | zero =>
    intro s p hn h0 hp hs
    refine ⟨s, p, by omega, 1, fun k hk => ?_⟩
    try dsimp only
    obtain ⟨m, rfl⟩ : ∃ m, k = m + 1 := ⟨k - 1, by omega⟩
    try dsimp only
    rw [spec_l14Text.l0, if_neg (by omega)]
  | succ n ih =>
    intro s p hn h0 hp hs
    obtain ⟨v, hv, K1, hK1⟩ := pick_ev hb (p := p) (n := 5) (by omega) (by omega)
    try dsimp only at hK1
    try dsimp only at hK1
    have en : wrap64 (((n + 1 : Nat) : Int) - 1) = (n : Int) := by rw [w64 (by omega)]; omega
    by_cases v0 : v = 0
    · obtain ⟨t, ht, K2, hK2⟩ := of_ev hb (p := p + 1) (by omega) [(⟨#[97]⟩ : ByteArray), (⟨#[98]⟩ : ByteArray), (⟨#[0]⟩ : ByteArray), (⟨#[255]⟩ : ByteArray)] (by decide) (by decide)
      try dsimp only at hK2
      try dsimp only at hK2
      have hts : t.size = 1 := by simp at ht; rcases ht with rfl | rfl | rfl | rfl <;> rfl
      obtain ⟨u, hu, K3, hK3⟩ := pick_ev hb (p := p + 1 + 1) (n := 40) (by omega) (by omega)
      try dsimp only at hK3
      try dsimp only at hK3
      obtain ⟨K4, hK4⟩ := l1Many_ev t u (by omega) (by omega) (by omega)
      try dsimp only at hK4
      try dsimp only at hK4
      have hz := manyM_size t u.toNat
      rw [hts, Nat.mul_one] at hz
      obtain ⟨s', p', hh, K, hK⟩ := ih (s ++ manyM t u.toNat) (p + 1 + 1 + 1) (by omega) (by omega) (by omega) (by rw [ByteArray.size_append]; omega)
      try dsimp only at hK
      rw [ByteArray.size_append] at hh
      refine ⟨s', p', by omega, K + K1 + K2 + K3 + K4 + 1, fun k hk => ?_⟩
      try dsimp only
      obtain ⟨m, rfl⟩ : ∃ m, k = m + 1 := ⟨k - 1, by omega⟩
      try dsimp only
      rw [spec_l14Text.l0, if_pos (by omega), hK1 m (by omega)]
      simp only [Option.bind_some]
      rw [if_pos v0, hK2 m (by omega)]
      simp only [Option.bind_some]
      rw [hK3 m (by omega)]
      simp only [Option.bind_some]
      rw [hK4 m (by omega)]
      simp only [Option.bind_some]
      rw [if_pos (by omega), en]
      exact hK m (by omega)
    by_cases v1 : v = 1
    · obtain ⟨s', p', hh, K, hK⟩ := ih (s ++ (⟨#[97, 32, 116, 101, 120, 116, 32, 116, 104, 97, 116, 32, 99, 111, 109, 101, 115, 32, 97, 103, 97, 105, 110, 44, 32]⟩ : ByteArray)) (p + 1) (by omega) (by omega) (by omega) (by rw [ByteArray.size_append, show (⟨#[97, 32, 116, 101, 120, 116, 32, 116, 104, 97, 116, 32, 99, 111, 109, 101, 115, 32, 97, 103, 97, 105, 110, 44, 32]⟩ : ByteArray).size = 25 from rfl]; omega)
      try dsimp only at hK
      rw [ByteArray.size_append, show (⟨#[97, 32, 116, 101, 120, 116, 32, 116, 104, 97, 116, 32, 99, 111, 109, 101, 115, 32, 97, 103, 97, 105, 110, 44, 32]⟩ : ByteArray).size = 25 from rfl] at hh
      refine ⟨s', p', by omega, K + K1 + 1, fun k hk => ?_⟩
      try dsimp only
      obtain ⟨m, rfl⟩ : ∃ m, k = m + 1 := ⟨k - 1, by omega⟩
      try dsimp only
      rw [spec_l14Text.l0, if_pos (by omega), hK1 m (by omega)]
      simp only [Option.bind_some]
      rw [if_neg v0, if_pos v1, if_pos (by omega), en]
      exact hK m (by omega)
    by_cases v2 : v = 2
    · obtain ⟨u, hu, K3, hK3⟩ := pick_ev hb (p := p + 1) (n := 12) (by omega) (by omega)
      try dsimp only at hK3
      try dsimp only at hK3
      obtain ⟨s', p', hh, K, hK⟩ := l14Text_l1_ev hb ((n + 1 : Nat) : Int) (1000000 - 20 * n) (300 - 39 * n) (39 * n) (20 * n) (by omega) (by omega) (fun s p a1 a2 a3 => by rw [en]; exact ih s p (by omega) a1 a2 (by omega)) u.toNat s (p + 1 + 1) (by omega) (by omega) (by omega) (by omega)
      try dsimp only at hK
      rw [Int.toNat_of_nonneg (by omega)] at hK
      refine ⟨s', p', by omega, K + K1 + K3 + 1, fun k hk => ?_⟩
      try dsimp only
      obtain ⟨m, rfl⟩ : ∃ m, k = m + 1 := ⟨k - 1, by omega⟩
      try dsimp only
      rw [spec_l14Text.l0, if_pos (by omega), hK1 m (by omega)]
      simp only [Option.bind_some]
      rw [if_neg v0, if_neg v1, if_pos v2, hK3 m (by omega)]
      simp only [Option.bind_some]
      exact hK m (by omega)
    · obtain ⟨t, ht, K2, hK2⟩ := of_ev hb (p := p + 1) (by omega) [(⟨#[120]⟩ : ByteArray), (⟨#[97, 98, 99]⟩ : ByteArray), (⟨#[97, 98, 99, 97, 98, 99, 97, 98, 99, 100]⟩ : ByteArray), (⟨#[32]⟩ : ByteArray)] (by decide) (by decide)
      try dsimp only at hK2
      try dsimp only at hK2
      have hts : t.size ≤ 10 := by simp at ht; rcases ht with rfl | rfl | rfl | rfl <;> decide
      obtain ⟨s', p', hh, K, hK⟩ := ih (s ++ t) (p + 1 + 1) (by omega) (by omega) (by omega) (by rw [ByteArray.size_append]; omega)
      try dsimp only at hK
      rw [ByteArray.size_append] at hh
      refine ⟨s', p', by omega, K + K1 + K2 + 1, fun k hk => ?_⟩
      try dsimp only
      obtain ⟨m, rfl⟩ : ∃ m, k = m + 1 := ⟨k - 1, by omega⟩
      try dsimp only
      rw [spec_l14Text.l0, if_pos (by omega), hK1 m (by omega)]
      simp only [Option.bind_some]
      rw [if_neg v0, if_neg v1, if_neg v2, hK2 m (by omega)]
      simp only [Option.bind_some]
      rw [if_pos (by omega), en]
      exact hK m (by omega)
theorem l14Text_ev {b : List Int} (hb : Code b) {p : Int} (hp : 0 ≤ p ∧ p ≤ 900000) : ∃ (s : ByteArray) (p' : Int), (Short s ∧ p ≤ p' ∧ p' ≤ p + 200) ∧ Ev (fun k => spec_l14Text.f k b p) (s, p') := by
  obtain ⟨v, hv, K1, hK1⟩ := pick_ev hb (p := p) (n := 150) (by omega) (by omega)
  try dsimp only at hK1
  try dsimp only at hK1
  by_cases v0 : v = 0
  · obtain ⟨u, hu, K2, hK2⟩ := pick_ev hb (p := p + 1) (n := 2) (by omega) (by omega)
    try dsimp only at hK2
    try dsimp only at hK2
    obtain ⟨K3, hK3⟩ := l1Many_ev (⟨#[116]⟩ : ByteArray) (9000 + u) (by omega) (by omega) (by decide)
    try dsimp only at hK3
    try dsimp only at hK3
    refine ⟨manyM ⟨#[116]⟩ (9000 + u).toNat, p + 1 + 1, ⟨?_, by omega, by omega⟩, K1 + K2 + K3, fun k hk => ?_⟩
    try dsimp only
    · exact .inr ⟨_, by omega, rfl⟩
    · dsimp only
      unfold spec_l14Text.f
      rw [hK1 k (by omega)]
      simp only [Option.bind_some]
      rw [if_pos v0, hK2 k (by omega)]
      simp only [Option.bind_some]
      rw [w64 (by omega), hK3 k (by omega)]
      rfl
  · obtain ⟨u, hu, K2, hK2⟩ := pick_ev hb (p := p + 1) (n := 7) (by omega) (by omega)
    try dsimp only at hK2
    try dsimp only at hK2
    obtain ⟨s', p', hh, K, hK⟩ := l14Text_l0_ev hb u.toNat (⟨#[]⟩ : ByteArray) (p + 1 + 1) (by omega) (by omega) (by omega) (by rw [show (⟨#[]⟩ : ByteArray).size = 0 from rfl]; omega)
    try dsimp only at hK
    rw [show (⟨#[]⟩ : ByteArray).size = 0 from rfl] at hh
    rw [Int.toNat_of_nonneg (by omega)] at hK
    refine ⟨s', p', ⟨.inl (by omega), by omega, by omega⟩, K + K1 + K2, fun k hk => ?_⟩
    try dsimp only
    try dsimp only
    unfold spec_l14Text.f
    rw [hK1 k (by omega)]
    simp only [Option.bind_some]
    rw [if_neg v0, hK2 k (by omega)]
    simp only [Option.bind_some]
    exact hK k (by omega)

theorem draw32_ev {b : List Int} (hb : ∀ x ∈ b, (Lit.int .u8 x).wf = true) : ∃ s : ByteArray, s.size ≤ 9001 ∧ Ev (fun k => spec_DrawCrc32.f k b) s := by
  have hc := code_open hb
  obtain ⟨s, p1, hs, K1, hK1⟩ := l14Text_ev hc (p := 0) (by omega)
  try dsimp only at hK1
  try dsimp only at hK1
  have hz := short_size hs.1
  refine ⟨s, hz, K1, fun k hk => ?_⟩
  try dsimp only
  try dsimp only
  unfold spec_DrawCrc32.f
  rw [l1Open_f, Option.bind_some]
  try dsimp only
  rw [hK1 k (by omega), Option.bind_some]
theorem law_j1_true (l0 l1 : List Int) (s : ByteArray) : Ev (fun k => laws_FnCrcBit.j1 k l0 l1 s true) true := by
  obtain ⟨K1, h1⟩ := impl_Crc32_ev s
  try dsimp only at h1
  obtain ⟨K2, h2⟩ := spec_Crc32_ev s
  try dsimp only at h2
  obtain ⟨K3, h3⟩ := impl_Adler32_ev s
  try dsimp only at h3
  obtain ⟨K4, h4⟩ := spec_Adler32_ev s
  try dsimp only at h4
  refine ⟨K1 + K2 + K3 + K4 + 1, fun k hk => ?_⟩
  try dsimp only
  obtain ⟨m, rfl⟩ : ∃ m, k = m + 1 := ⟨k - 1, by omega⟩
  try dsimp only
  rw [laws_FnCrcBit.j1, if_pos rfl, h1 m (by omega), Option.bind_some, h2 m (by omega), Option.bind_some, if_pos rfl, h3 m (by omega), Option.bind_some, h4 m (by omega), Option.bind_some, beq_self_eq_true]
theorem law_j1_false (l0 l1 : List Int) (hl0 : l0.length ≤ 1048576) (hl1 : l1.length ≤ 1048576) (s : ByteArray) (hs : 1 ≤ s.size ∧ s.size ≤ 9000) : Ev (fun k => laws_FnCrcBit.j1 k l0 l1 s false) true := by
  have hbl := bytesOf_length s
  have hi0 : 0 ≤ (l1.length : Int) % ((bytesOf s).length : Int) := Int.emod_nonneg _ (by omega)
  have hi1 : (l1.length : Int) % ((bytesOf s).length : Int) < ((bytesOf s).length : Int) := Int.emod_lt_of_pos _ (by omega)
  obtain ⟨i, hi⟩ : ∃ i : Nat, (l1.length : Int) % ((bytesOf s).length : Int) = (i : Int) := ⟨((l1.length : Int) % ((bytesOf s).length : Int)).toNat, by omega⟩
  obtain ⟨K5, h5⟩ := wiPow_ev ((l0.length : Int) % 8) (by omega) (by omega)
  try dsimp only at h5
  have hx := xor8 (a := rd (bytesOf s) i) (by rw [rd_bytesOf]; exact bt_range s _) (j := ((l0.length : Int) % 8).toNat) (by omega)
  generalize hb' : Go.bits .xor .u8 (rd (bytesOf s) i) (P2 ((l0.length : Int) % 8).toNat % 256) = b' at hx
  obtain ⟨pre, suf, hsp, hpl⟩ := split_at (bytesOf s) i (by omega)
  have hset : (bytesOf s).set i b' = pre ++ b' :: suf := by
    conv => lhs; rw [hsp]
    exact set_at _ _ _ _ hpl.symm
  have hall := bytesOf_b s
  have hpre : ∀ z ∈ pre, 0 ≤ z ∧ z ≤ 255 := fun z hz => hall z (by rw [hsp]; simp [hz])
  have hsuf : ∀ z ∈ suf, 0 ≤ z ∧ z ≤ 255 := fun z hz => hall z (by rw [hsp]; simp [hz])
  have hrd : 0 ≤ rd (bytesOf s) i ∧ rd (bytesOf s) i ≤ 255 := by rw [rd_bytesOf]; exact bt_range s _
  have hbn : bytesOf (strOfNums ((bytesOf s).set i b')) = pre ++ b' :: suf := by
    rw [hset]
    refine bytesOf_son (fun z hz => ?_)
    rcases List.mem_append.1 hz with hz | hz
    · exact hpre z hz
    · rcases List.mem_cons.1 hz with rfl | hz
      · omega
      · exact hsuf z hz
  have hsz : (strOfNums ((bytesOf s).set i b')).size = s.size := by rw [strOfNums_size, List.length_set, hbl]
  obtain ⟨K1, h1⟩ := impl_Crc32_ev (strOfNums ((bytesOf s).set i b'))
  try dsimp only at h1
  obtain ⟨K2, h2⟩ := impl_Crc32_ev s
  try dsimp only at h2
  obtain ⟨K3, h3⟩ := impl_Adler32_ev (strOfNums ((bytesOf s).set i b'))
  try dsimp only at h3
  obtain ⟨K4, h4⟩ := impl_Adler32_ev s
  try dsimp only at h4
  have hc1 : crcM 0 (strOfNums ((bytesOf s).set i b')) = X (crS (pre ++ b' :: suf) (X 0 4294967295)) 4294967295 := by
    unfold crcM; rw [if_pos (show crOk 0 _ = true from decide_eq_true ⟨by omega, by omega, by omega⟩), hbn]
  have hc2 : crcM 0 s = X (crS (pre ++ rd (bytesOf s) i :: suf) (X 0 4294967295)) 4294967295 := by
    unfold crcM; rw [if_pos (show crOk 0 _ = true from decide_eq_true ⟨by omega, by omega, by omega⟩), ← hsp]
  have hF := X_b32 (x := 0) (y := 4294967295) (by omega) (by omega)
  have hne1 : crcM 0 (strOfNums ((bytesOf s).set i b')) ≠ crcM 0 s := by
    rw [hc1, hc2]
    intro h
    have hall' : ∀ c : Int, 0 ≤ c ∧ c ≤ 255 → ∀ z ∈ pre ++ c :: suf, 0 ≤ z ∧ z ≤ 255 := by
      intro c hc z hz
      rcases List.mem_append.1 hz with hz | hz
      · exact hpre z hz
      · rcases List.mem_cons.1 hz with rfl | hz
        · exact hc
        · exact hsuf z hz
    exact crS_ne pre suf b' (rd (bytesOf s) i) _ hpre hsuf ⟨hx.1, hx.2.1⟩ hrd hF hx.2.2 (X_inj (crS_b _ _ (hall' _ ⟨hx.1, hx.2.1⟩) hF) (crS_b _ _ (hall' _ hrd) hF) (by omega) h)
  have ha1 : adlerM 1 (strOfNums ((bytesOf s).set i b')) = 65536 * (adS (pre ++ b' :: suf) 1 0).2 + (adS (pre ++ b' :: suf) 1 0).1 := by
    unfold adlerM; rw [if_pos (show adOk 1 _ = true from decide_eq_true ⟨by omega, by omega, by omega, by omega, by omega⟩), hbn]; rfl
  have ha2 : adlerM 1 s = 65536 * (adS (pre ++ rd (bytesOf s) i :: suf) 1 0).2 + (adS (pre ++ rd (bytesOf s) i :: suf) 1 0).1 := by
    unfold adlerM; rw [if_pos (show adOk 1 _ = true from decide_eq_true ⟨by omega, by omega, by omega, by omega, by omega⟩), ← hsp]; rfl
  have hne2 : adlerM 1 (strOfNums ((bytesOf s).set i b')) ≠ adlerM 1 s := by
    rw [ha1, ha2]
    have h1 := adS_ne pre suf b' (rd (bytesOf s) i) 1 0 ⟨hx.1, hx.2.1⟩ hrd hx.2.2
    have h2 := adS_b (pre ++ b' :: suf) 1 0 (by omega) (by omega)
    have h3 := adS_b (pre ++ rd (bytesOf s) i :: suf) 1 0 (by omega) (by omega)
    omega
  refine ⟨K1 + K2 + K3 + K4 + K5 + 1, fun k hk => ?_⟩
  try dsimp only
  obtain ⟨m, rfl⟩ : ∃ m, k = m + 1 := ⟨k - 1, by omega⟩
  try dsimp only
  rw [laws_FnCrcBit.j1, if_neg (by decide), if_pos (by omega), Option.bind_some, if_neg (by omega), if_pos hi0, if_pos hi1, h5 m (by omega), Option.bind_some, Option.bind_some, hi, Int.toNat_natCast, hb', h1 m (by omega), Option.bind_some, h2 m (by omega), Option.bind_some, if_neg hne1, h3 m (by omega), Option.bind_some, h4 m (by omega), Option.bind_some]
  rw [bne_iff_ne.2 hne2]
theorem FnCrcBit : laws_FnCrcBit.Pure := by
  intro l0 l1 hl hl1 hw hm hm1 hwm
  by_cases h : (l0.length : Int) > 1048576 ∨ (l1.length : Int) > 1048576
  · refine ⟨1, ?_⟩
    unfold laws_FnCrcBit.f
    by_cases h1 : (l0.length : Int) > 1048576
    · rw [if_pos h1, laws_FnCrcBit.j0, if_pos rfl]
    · rw [if_neg h1, laws_FnCrcBit.j0, if_pos (decide_eq_true (by omega))]
  obtain ⟨s, hs, K1, hK1⟩ := draw32_ev hw
  try dsimp only at hK1
  try dsimp only at hK1
  obtain ⟨K2, h2⟩ := impl_Crc32_ev s
  try dsimp only at h2
  obtain ⟨K3, h3⟩ := spec_Crc32_ev s
  try dsimp only at h3
  obtain ⟨K4, h4⟩ := impl_Adler32_ev s
  try dsimp only at h4
  obtain ⟨K5, h5⟩ := spec_Adler32_ev s
  try dsimp only at h5
  obtain ⟨K6, h6⟩ := law_j1_true l0 l1 s
  try dsimp only at h6
  try dsimp only at h6
  have hjoin : ∀ K : Nat, K1 + K2 + K3 + K4 + K5 + K6 ≤ K → (s.toList = ([] : List UInt8) ∨ s.size > 9000 ∨ laws_FnCrcBit.j1 K l0 l1 s false = some true) → laws_FnCrcBit.f (K + 1) l0 l1 = some true := by
    intro K hK hh
    unfold laws_FnCrcBit.f
    rw [if_neg (by omega), laws_FnCrcBit.j0, if_neg (by simp; omega), hK1 _ (by omega), Option.bind_some, h2 _ (by omega), Option.bind_some, h3 _ (by omega), Option.bind_some, if_pos rfl, h4 _ (by omega), Option.bind_some, h5 _ (by omega), Option.bind_some, if_pos rfl]
    by_cases e : s.toList = ([] : List UInt8)
    · rw [if_pos e]; exact h6 K (by omega)
    · rw [if_neg e]
      by_cases h9 : s.size > 9000
      · rw [decide_eq_true (by omega)]; exact h6 K (by omega)
      · rw [decide_eq_false (by omega)]
        rcases hh with hh | hh | hh
        · exact absurd hh e
        · exact absurd hh h9
        · exact hh
  by_cases e : s.toList = ([] : List UInt8)
  · exact ⟨_, hjoin _ (Nat.le_refl _) (.inl e)⟩
  · by_cases h9 : s.size > 9000
    · exact ⟨_, hjoin _ (Nat.le_refl _) (.inr (.inl h9))⟩
    · have hne : s.size ≠ 0 := by
        intro e0
        apply e
        rw [byte_toList]
        exact List.eq_nil_of_length_eq_zero (by rw [data_length]; exact e0)
      obtain ⟨K7, h7⟩ := law_j1_false l0 l1 (by omega) (by omega) s (by omega)
      try dsimp only at h7
      try dsimp only at h7
      exact ⟨_, hjoin (K1 + K2 + K3 + K4 + K5 + K6 + K7) (by omega) (.inr (.inr (h7 _ (by omega))))⟩

end Go.Proofs.Ytfladcffgblfdaa.Pure
