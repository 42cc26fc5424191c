/- The program's Adler32 and the reference's answer the same, at every text of at most 1048576 bytes (a longer one is let by). -/
import Derived.Test.YtehjfjngnofgmaaHFnExactAdler32x1
import Derived.Test.YtehjfjngnofgmaaThNum
import Derived.Test.YtehjfjngnofgmaaThSum
namespace Go.Proofs.Ytehjfjngnofgmaa.Pure
open Go.RowKit Go.Proofs.Ytehjfjngnofgmaa.PFnExactAdler32 Go.Proofs.YtehjfjngnofgmaaW.PrintWords Go.Proofs.YtehjfjngnofgmaaW.PrintLast Go.Proofs.YtehjfjngnofgmaaW.PrintMore Go.Proofs.Ytehjfjngnofgmaa.Th
set_option linter.unusedVariables false
set_option linter.unusedSimpArgs false

theorem in_f (a b c : Int) : impl_in.f a b c = some (decide (b ≤ a ∧ a ≤ c)) := by
  unfold impl_in.f
  by_cases h : b ≤ a
  · rw [if_pos h]; simp [h]
  · rw [if_neg h]; simp [h]
theorem l1In_f (a b c : Int) : spec_l1In.f a b c = some (decide (b ≤ a ∧ a ≤ c)) := by
  unfold spec_l1In.f
  by_cases h : b ≤ a
  · rw [if_pos h]; simp [h]
  · rw [if_neg h]; simp [h]
theorem spec_AdlerMore_l0_ev (s : ByteArray) (hs : s.size ≤ 9000) : ∀ (suf pre : List Int) (a b : Int), bytesOf s = pre ++ suf → 0 ≤ a ∧ a ≤ 65520 → 0 ≤ b ∧ b ≤ 65520 → Ev (fun k => spec_AdlerMore.l0 k s a b (pre.length : Int)) (65536 * (adS suf a b).2 + (adS suf a b).1) := by
  intro suf
  induction suf with
  | nil =>
    intro pre a b hp ha hb
    have hl := size_split hp
    refine ⟨1, fun k hk => ?_⟩
    try dsimp only
    obtain ⟨m, rfl⟩ : ∃ m, k = m + 1 := ⟨k - 1, by omega⟩
    rw [spec_AdlerMore.l0, if_neg (by simp at hl; omega), w64 (x := b * 65536) (by omega), w64 (by omega)]
    simp only [adS]; congr 1; omega
  | cons x suf ih =>
    intro pre a b hp ha hb
    have hl := size_split hp
    simp only [List.length_cons] at hl
    have hx := bt_split hp (i := (pre.length : Int)) rfl
    have hxb := bytesOf_b s x (by rw [hp]; simp)
    obtain ⟨K, hK⟩ := ih (pre ++ [x]) ((a + x) % 65521) ((b + (a + x) % 65521) % 65521) (by simp [hp]) (by omega) (by omega)
    try dsimp only at hK
    refine ⟨K + 1, fun k hk => ?_⟩
    try dsimp only
    obtain ⟨m, rfl⟩ : ∃ m, k = m + 1 := ⟨k - 1, by omega⟩
    have hm := hK m (by omega)
    rw [spec_AdlerMore.l0, if_pos (by omega), if_pos (by omega), hx, w64 (x := x) (by omega), w64 (x := a + x) (by omega), tmod_pos (a := a + x) (by omega), w64 (x := b + _) (by omega), tmod_pos (by omega), w64 (by omega)]
    rw [List.length_append, List.length_singleton, show ((pre.length + 1 : Nat) : Int) = (pre.length : Int) + 1 by omega] at hm
    exact hm
theorem impl_AdlerMore_l0_ev (l : List Int) (hl9 : l.length ≤ 9000) (hlb : ∀ x ∈ l, 0 ≤ x ∧ x ≤ 255) : ∀ (suf pre : List Int) (a b : Int), l = pre ++ suf → 0 ≤ a ∧ a ≤ 65520 → 0 ≤ b ∧ b ≤ 65520 → Ev (fun k => impl_AdlerMore.l0 k a b l (l.length : Int) (pre.length : Int)) (65536 * (adS suf a b).2 + (adS suf a b).1) := by
  intro suf
  induction suf with
  | nil =>
    intro pre a b hp ha hb
    refine ⟨1, fun k hk => ?_⟩
    try dsimp only
    obtain ⟨m, rfl⟩ : ∃ m, k = m + 1 := ⟨k - 1, by omega⟩
    rw [impl_AdlerMore.l0, if_neg (by rw [hp]; simp), w64 (x := 65536 * b) (by omega), w64 (by omega)]
    rfl
  | cons x suf ih =>
    intro pre a b hp ha hb
    have hl : l.length = pre.length + suf.length + 1 := by rw [hp]; simp; omega
    have hx : rd l (pre.length : Int) = x := by rw [hp]; exact rd_at _ _ _ rfl
    have hxb := hlb x (by rw [hp]; simp)
    obtain ⟨K, hK⟩ := ih (pre ++ [x]) ((a + x) % 65521) ((b + (a + x) % 65521) % 65521) (by simp [hp]) (by omega) (by omega)
    try dsimp only at hK
    refine ⟨K + 1, fun k hk => ?_⟩
    try dsimp only
    obtain ⟨m, rfl⟩ : ∃ m, k = m + 1 := ⟨k - 1, by omega⟩
    have hm := hK m (by omega)
    rw [impl_AdlerMore.l0, if_pos (by omega), if_pos (by omega), if_pos (by omega), hx, w64 (x := x) (by omega), w64 (x := a + x) (by omega), tmod_pos (a := a + x) (by omega), w64 (x := b + _) (by omega), tmod_pos (by omega), w64 (by omega)]
    rw [List.length_append, List.length_singleton, show ((pre.length + 1 : Nat) : Int) = (pre.length : Int) + 1 by omega] at hm
    exact hm
theorem spec_AdlerMore_ev (sum : Int) (s : ByteArray) (hw : -9223372036854775808 ≤ sum ∧ sum ≤ 9223372036854775807) : Ev (fun k => spec_AdlerMore.f k sum s) (adlerM sum s) := by
  unfold adlerM
  by_cases h : adOk sum s = true
  · have hh := of_decide_eq_true h
    obtain ⟨K, hK⟩ := spec_AdlerMore_l0_ev s hh.2.2.2.2 (bytesOf s) [] (sum % 65536) (sum / 65536) rfl (by omega) (by omega)
    try dsimp only at hK
    refine ⟨K + 1, fun k hk => ?_⟩
    try dsimp only
    obtain ⟨m, rfl⟩ : ∃ m, k = m + 1 := ⟨k - 1, by omega⟩
    have hm := hK m (by omega)
    unfold spec_AdlerMore.f
    rw [if_pos h, l1In_f, Option.bind_some, if_pos (decide_eq_true ⟨hh.1, hh.2.1⟩), tmod_pos hh.1, tdiv_pos hh.1, w64 (x := sum / 65536) (by omega), if_neg (by omega), if_neg (by omega), spec_AdlerMore.j0, if_neg (by simp; omega)]
    exact hm
  · have hn : ¬ (0 ≤ sum ∧ sum ≤ 4294967295 ∧ sum % 65536 ≤ 65520 ∧ sum / 65536 ≤ 65520 ∧ s.size ≤ 9000) := fun e => h (decide_eq_true e)
    refine ⟨1, fun k hk => ?_⟩
    try dsimp only
    obtain ⟨m, rfl⟩ : ∃ m, k = m + 1 := ⟨k - 1, by omega⟩
    have hj : ∀ a b : Int, spec_AdlerMore.j0 (m + 1) s a b true = some 0 := by intro a b; rw [spec_AdlerMore.j0, if_pos rfl]
    unfold spec_AdlerMore.f
    rw [if_neg h, l1In_f, Option.bind_some]
    by_cases h1 : 0 ≤ sum ∧ sum ≤ 4294967295
    · rw [if_pos (decide_eq_true h1), tmod_pos h1.1, tdiv_pos h1.1, w64 (x := sum / 65536) (by omega)]
      by_cases h2 : sum % 65536 > 65520
      · rw [if_pos h2]; exact hj _ _
      · rw [if_neg h2]
        by_cases h3 : sum / 65536 > 65520
        · rw [if_pos h3]; exact hj _ _
        · rw [if_neg h3, decide_eq_true (by omega)]; exact hj _ _
    · rw [if_neg (by simpa using h1)]; exact hj _ _
theorem impl_AdlerMore_ev (sum : Int) (s : ByteArray) (hw : -9223372036854775808 ≤ sum ∧ sum ≤ 9223372036854775807) : Ev (fun k => impl_AdlerMore.f k sum s) (adlerM sum s) := by
  unfold adlerM
  have hbl := bytesOf_length s
  by_cases h : adOk sum s = true
  · have hh := of_decide_eq_true h
    obtain ⟨K, hK⟩ := impl_AdlerMore_l0_ev (bytesOf s) (by omega) (bytesOf_b s) (bytesOf s) [] (sum % 65536) (sum / 65536) rfl (by omega) (by omega)
    try dsimp only at hK
    refine ⟨K + 1, fun k hk => ?_⟩
    try dsimp only
    obtain ⟨m, rfl⟩ : ∃ m, k = m + 1 := ⟨k - 1, by omega⟩
    have hm := hK m (by omega)
    unfold impl_AdlerMore.f
    rw [if_pos h, in_f, Option.bind_some, if_pos (decide_eq_true ⟨hh.1, hh.2.1⟩), tmod_pos hh.1, tdiv_pos hh.1, w64 (x := sum / 65536) (by omega), if_neg (by omega), if_neg (by omega), impl_AdlerMore.j0, if_neg (by simp; omega), if_pos (by omega)]
    exact hm
  · have hn : ¬ (0 ≤ sum ∧ sum ≤ 4294967295 ∧ sum % 65536 ≤ 65520 ∧ sum / 65536 ≤ 65520 ∧ s.size ≤ 9000) := fun e => h (decide_eq_true e)
    refine ⟨1, fun k hk => ?_⟩
    try dsimp only
    obtain ⟨m, rfl⟩ : ∃ m, k = m + 1 := ⟨k - 1, by omega⟩
    have hj : ∀ a b : Int, impl_AdlerMore.j0 (m + 1) s a b true = some 0 := by intro a b; rw [impl_AdlerMore.j0, if_pos rfl]
    unfold impl_AdlerMore.f
    rw [if_neg h, in_f, Option.bind_some]
    by_cases h1 : 0 ≤ sum ∧ sum ≤ 4294967295
    · rw [if_pos (decide_eq_true h1), tmod_pos h1.1, tdiv_pos h1.1, w64 (x := sum / 65536) (by omega)]
      by_cases h2 : sum % 65536 ≥ 65521
      · rw [if_pos h2]; exact hj _ _
      · rw [if_neg h2]
        by_cases h3 : sum / 65536 ≥ 65521
        · rw [if_pos h3]; exact hj _ _
        · rw [if_neg h3, decide_eq_true (by omega)]; exact hj _ _
    · rw [if_neg (by simpa using h1)]; exact hj _ _
theorem spec_Adler32_ev (s : ByteArray) : Ev (fun k => spec_Adler32.f k s) (adlerM 1 s) := by
  obtain ⟨K, hK⟩ := spec_AdlerMore_ev 1 s (by omega)
  try dsimp only at hK
  refine ⟨K, fun k hk => ?_⟩
  try dsimp only
  try dsimp only
  unfold spec_Adler32.f
  rw [hK k hk, Option.bind_some]
theorem impl_Adler32_ev (s : ByteArray) : Ev (fun k => impl_Adler32.f k s) (adlerM 1 s) := by
  obtain ⟨K, hK⟩ := impl_AdlerMore_ev 1 s (by omega)
  try dsimp only at hK
  refine ⟨K, fun k hk => ?_⟩
  try dsimp only
  try dsimp only
  unfold impl_Adler32.f
  rw [hK k hk, Option.bind_some]

theorem FnExactAdler32 : laws_FnExactAdler32.Pure := by
  intro s hs
  unfold laws_FnExactAdler32.f
  by_cases h : (s.size : Int) > 1048576
  · exact ⟨0, by rw [if_pos h]⟩
  obtain ⟨K1, h1⟩ := spec_Adler32_ev s
  try dsimp only at h1
  obtain ⟨K2, h2⟩ := impl_Adler32_ev s
  try dsimp only at h2
  refine ⟨K1 + K2, ?_⟩
  rw [if_neg h, h1 _ (by omega), Option.bind_some, h2 _ (by omega), Option.bind_some, if_pos rfl]

end Go.Proofs.Ytehjfjngnofgmaa.Pure
