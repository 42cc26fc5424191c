/- The program's NumGet and the reference's answer the same, at every text of at most 1048576 bytes, every place, size and order of bytes (a longer text is let by). -/
import Derived.Test.YtehjfjngnofgmaaPFnExactNumGetx1
import Derived.Test.YtehjfjngnofgmaaThNum
namespace Go.Proofs.Ytehjfjngnofgmaa.Pure
open Go.RowKit Go.Proofs.Ytehjfjngnofgmaa.PFnExactNumGet Go.Proofs.YtehjfjngnofgmaaW.PrintWords Go.Proofs.YtehjfjngnofgmaaW.PrintLast Go.Proofs.YtehjfjngnofgmaaW.PrintMore Go.Proofs.Ytehjfjngnofgmaa.Th
set_option linter.unusedVariables false
set_option linter.unusedSimpArgs false

theorem in_f (a b c : Int) : impl_in.f a b c = some (decide (b ≤ a ∧ a ≤ c)) := by
  unfold impl_in.f
  by_cases h : b ≤ a
  · rw [if_pos h]; simp [h]
  · rw [if_neg h]; simp [h]

theorem l1In_f (a b c : Int) : spec_l1In.f a b c = some (decide (b ≤ a ∧ a ≤ c)) := by
  unfold spec_l1In.f
  by_cases h : b ≤ a
  · rw [if_pos h]; simp [h]
  · rw [if_neg h]; simp [h]

theorem l1Field_l0_ev (s : ByteArray) (at_ size : Int) (big : Bool) (hs : s.size ≤ 9000) (h0 : 0 ≤ at_) (h1 : 1 ≤ size) (h2 : size ≤ 4) (h3 : at_ + size ≤ s.size) :
    ∀ d i : Nat, i + d = size.toNat → Ev (fun k => spec_l1Field.l0 k s at_ size big (numM s at_ size big i) (i : Int)) (numM s at_ size big size.toNat) := by
  intro d
  induction d with
  | zero =>
    intro i hi
    refine ⟨1, fun k hk => ?_⟩
    try dsimp only
    obtain ⟨m, rfl⟩ : ∃ m, k = m + 1 := ⟨k - 1, by omega⟩
    rw [spec_l1Field.l0, if_neg (by omega), show i = size.toNat by omega]
  | succ d ih =>
    intro i hi
    obtain ⟨K, hK⟩ := ih (i + 1) (by omega)
    try dsimp only at hK
    refine ⟨K + 1, fun k hk => ?_⟩
    try dsimp only
    obtain ⟨m, rfl⟩ : ∃ m, k = m + 1 := ⟨k - 1, by omega⟩
    have hm := hK m (by omega)
    have hb := numM_b4 s at_ size big i (by omega)
    rw [spec_l1Field.l0, if_pos (by omega)]
    cases big
    · have ht := bt_range s (at_ + size - 1 - i)
      simp only [numM, Bool.false_eq_true, if_false] at hm
      simp (disch := omega) only [w64, Bool.false_eq_true, ↓if_false, ↓if_pos]
      exact hm
    · have ht := bt_range s (at_ + i)
      simp only [numM, if_true] at hm
      simp (disch := omega) only [w64, ↓if_true, ↓if_pos]
      exact hm
theorem l1Field_ev (s : ByteArray) (at_ size : Int) (big : Bool) (hs : s.size ≤ 9000) (h0 : 0 ≤ at_) (h1 : 1 ≤ size) (h2 : size ≤ 4) (h3 : at_ + size ≤ s.size) :
    Ev (fun k => spec_l1Field.f k s at_ size big) (numM s at_ size big size.toNat) := by
  obtain ⟨K, hK⟩ := l1Field_l0_ev s at_ size big hs h0 h1 h2 h3 size.toNat 0 (by omega)
  try dsimp only at hK
  refine ⟨K + 1, fun k hk => ?_⟩
  try dsimp only
  obtain ⟨m, rfl⟩ : ∃ m, k = m + 1 := ⟨k - 1, by omega⟩
  have hm := hK m (by omega)
  unfold spec_l1Field.f
  rw [if_neg (by omega), w64 (by omega), spec_l1Field.j0, decide_eq_false (by omega)]
  simp only [Bool.false_eq_true, if_false]
  exact hm

def numGetM (s : ByteArray) (at_ size : Int) (big : Bool) : Int × Bool :=
  if 1 ≤ size ∧ size ≤ 4 ∧ s.size ≤ 9000 ∧ 0 ≤ at_ ∧ at_ + size ≤ s.size then (numM s at_ size big size.toNat, true) else (0, false)
theorem spec_NumGet_ev (s : ByteArray) (at_ size : Int) (big : Bool) (hs : s.size ≤ 1048576) (hw : -9223372036854775808 ≤ size ∧ size ≤ 9223372036854775807) : Ev (fun k => spec_NumGet.f k s at_ size big) (numGetM s at_ size big) := by
  unfold spec_NumGet.f numGetM
  simp only [l1In_f, Option.bind_some, decide_eq_true_eq]
  by_cases h1 : 1 ≤ size ∧ size ≤ 4
  · by_cases h2 : s.size ≤ 9000
    · by_cases h3 : 0 ≤ at_ ∧ at_ + size ≤ s.size
      · obtain ⟨K, hK⟩ := l1Field_ev s at_ size big h2 h3.1 h1.1 h1.2 h3.2
        try dsimp only at hK
        refine ⟨K, fun k hk => ?_⟩
        try dsimp only
        rw [if_pos h1, if_neg (by omega), w64 (by omega), if_pos (by omega), hK k hk, if_pos (by omega)]
        rfl
      · refine ⟨0, fun k hk => ?_⟩
        try dsimp only
        rw [if_pos h1, if_neg (by omega), w64 (by omega), if_neg (by omega), if_neg (by omega)]
    · refine ⟨0, fun k hk => ?_⟩
      try dsimp only
      rw [if_pos h1, if_pos (by omega), if_neg (by omega)]
  · refine ⟨0, fun k hk => ?_⟩
    try dsimp only
    rw [if_neg h1, if_neg (by omega)]
theorem impl_NumGet_l0_ev (s : ByteArray) (at_ size : Int) (big : Bool) (hs : s.size ≤ 9000) (h0 : 0 ≤ at_) (h1 : 1 ≤ size) (h2 : size ≤ 4) (h3 : at_ + size ≤ s.size) :
    ∀ d i : Nat, i + d = size.toNat → Ev (fun k => impl_NumGet.l0 k s at_ size big (numM s at_ size big i) size (i : Int)) (numM s at_ size big size.toNat, true) := by
  intro d
  induction d with
  | zero =>
    intro i hi
    refine ⟨1, fun k hk => ?_⟩
    try dsimp only
    obtain ⟨m, rfl⟩ : ∃ m, k = m + 1 := ⟨k - 1, by omega⟩
    rw [impl_NumGet.l0, if_neg (by omega), show i = size.toNat by omega]
  | succ d ih =>
    intro i hi
    obtain ⟨K, hK⟩ := ih (i + 1) (by omega)
    try dsimp only at hK
    refine ⟨K + 1, fun k hk => ?_⟩
    try dsimp only
    obtain ⟨m, rfl⟩ : ∃ m, k = m + 1 := ⟨k - 1, by omega⟩
    have hm := hK m (by omega)
    have hb := numM_b4 s at_ size big i (by omega)
    have h8 : P2 8 = 256 := rfl
    rw [impl_NumGet.l0, if_pos (by omega)]
    cases big
    · have ht := bt_range s (at_ + size - 1 - i)
      have hj := or_join (i := 8) (x := numM s at_ size false i * 256) (y := bt s (at_ + size - 1 - i)) (by omega) (by rw [h8]; omega) (by omega) (by omega) (by omega) (by omega)
      simp only [numM, Bool.false_eq_true, if_false] at hm
      simp (disch := omega) only [w64, Bool.false_eq_true, ↓if_false, ↓if_pos]
      rw [hj, Int.mul_comm]
      exact hm
    · have ht := bt_range s (at_ + i)
      have hj := or_join (i := 8) (x := numM s at_ size true i * 256) (y := bt s (at_ + i)) (by omega) (by rw [h8]; omega) (by omega) (by omega) (by omega) (by omega)
      simp only [numM, if_true] at hm
      simp (disch := omega) only [w64, ↓if_true, ↓if_pos]
      rw [hj, Int.mul_comm]
      exact hm
theorem impl_NumGet_ev (s : ByteArray) (at_ size : Int) (big : Bool) (hs : s.size ≤ 1048576) (hw : -9223372036854775808 ≤ size ∧ size ≤ 9223372036854775807) : Ev (fun k => impl_NumGet.f k s at_ size big) (numGetM s at_ size big) := by
  unfold impl_NumGet.f numGetM
  simp only [in_f, Option.bind_some, decide_eq_true_eq]
  by_cases h1 : 1 ≤ size ∧ size ≤ 4
  · by_cases h2 : s.size ≤ 9000
    · by_cases h3 : 0 ≤ at_ ∧ at_ + size ≤ s.size
      · obtain ⟨K, hK⟩ := impl_NumGet_l0_ev s at_ size big h2 h3.1 h1.1 h1.2 h3.2 size.toNat 0 (by omega)
        try dsimp only at hK
        refine ⟨K + 1, fun k hk => ?_⟩
        try dsimp only
        obtain ⟨m, rfl⟩ : ∃ m, k = m + 1 := ⟨k - 1, by omega⟩
        have hm := hK m (by omega)
        rw [if_pos h1, if_neg (by omega), w64 (by omega), decide_eq_true (by omega), if_pos (by omega)]
        simp only [Bool.not_true, impl_NumGet.j0, Bool.false_eq_true, if_false]
        exact hm
      · refine ⟨1, fun k hk => ?_⟩
        try dsimp only
        obtain ⟨m, rfl⟩ : ∃ m, k = m + 1 := ⟨k - 1, by omega⟩
        rw [if_pos h1, if_neg (by omega), w64 (by omega), decide_eq_false (by omega), if_neg (by omega)]
        simp only [Bool.not_false, impl_NumGet.j0, if_true]
    · refine ⟨1, fun k hk => ?_⟩
      try dsimp only
      obtain ⟨m, rfl⟩ : ∃ m, k = m + 1 := ⟨k - 1, by omega⟩
      rw [if_pos h1, if_pos (by omega), if_neg (by omega)]
      simp only [impl_NumGet.j0, if_true]
  · refine ⟨1, fun k hk => ?_⟩
    try dsimp only
    obtain ⟨m, rfl⟩ : ∃ m, k = m + 1 := ⟨k - 1, by omega⟩
    rw [if_neg h1, if_neg (by omega)]
    simp only [impl_NumGet.j0, if_true]

theorem FnExactNumGet : laws_FnExactNumGet.Pure := by
  intro s at_ size big hs w1 w2
  have b2 := wf_b w2
  unfold laws_FnExactNumGet.f
  by_cases h : (s.size : Int) > 1048576
  · exact ⟨0, by rw [if_pos h]⟩
  · obtain ⟨K1, h1⟩ := spec_NumGet_ev s at_ size big (by omega) b2
    try dsimp only at h1
    obtain ⟨K2, h2⟩ := impl_NumGet_ev s at_ size big (by omega) b2
    try dsimp only at h2
    refine ⟨K1 + K2, ?_⟩
    rw [if_neg h, h1 _ (by omega), h2 _ (by omega)]
    simp

end Go.Proofs.Ytehjfjngnofgmaa.Pure
