/- The program's NumPut and the reference's answer the same, at every number, size and order of bytes. -/
import Derived.Test.YtehjfjngnofgmaaHFnExactNumPutx1
import Derived.Test.YtehjfjngnofgmaaThNum
import Derived.Test.YtehjfjngnofgmaaThPut
namespace Go.Proofs.Ytehjfjngnofgmaa.Pure
open Go.RowKit Go.Proofs.Ytehjfjngnofgmaa.PFnExactNumPut Go.Proofs.YtehjfjngnofgmaaW.PrintWords Go.Proofs.YtehjfjngnofgmaaW.PrintLast Go.Proofs.YtehjfjngnofgmaaW.PrintMore Go.Proofs.Ytehjfjngnofgmaa.Th
set_option linter.unusedVariables false
set_option linter.unusedSimpArgs false

theorem in_f (a b c : Int) : impl_in.f a b c = some (decide (b ≤ a ∧ a ≤ c)) := by
  unfold impl_in.f
  by_cases h : b ≤ a
  · rw [if_pos h]; simp [h]
  · rw [if_neg h]; simp [h]

theorem l1In_f (a b c : Int) : spec_l1In.f a b c = some (decide (b ≤ a ∧ a ≤ c)) := by
  unfold spec_l1In.f
  by_cases h : b ≤ a
  · rw [if_pos h]; simp [h]
  · rw [if_neg h]; simp [h]

theorem l1Pow_l0_ev (n : Nat) (hn : n ≤ 62) : ∀ d i : Nat, i + d = n → Ev (fun k => spec_l1Pow.l0 k (n : Int) (P2 i) (i : Int)) (P2 n) := by
  intro d
  induction d with
  | zero =>
    intro i hi
    refine ⟨1, fun k hk => ?_⟩
    try dsimp only
    obtain ⟨m, rfl⟩ : ∃ m, k = m + 1 := ⟨k - 1, by omega⟩
    rw [spec_l1Pow.l0, if_neg (by omega), show i = n by omega]
  | succ d ih =>
    intro i hi
    obtain ⟨K, hK⟩ := ih (i + 1) (by omega)
    try dsimp only at hK
    refine ⟨K + 1, fun k hk => ?_⟩
    try dsimp only
    obtain ⟨m, rfl⟩ : ∃ m, k = m + 1 := ⟨k - 1, by omega⟩
    have hm := hK m (by omega)
    have hb := P2_62b (n := i) (by omega)
    have hb' := P2_62b (n := i + 1) (by omega)
    have hs := P2_succ i
    rw [spec_l1Pow.l0, if_pos (by omega), w64 (by omega), w64 (by omega), show P2 i * 2 = P2 (i + 1) by omega, show (i : Int) + 1 = ((i + 1 : Nat) : Int) by omega]
    exact hm
theorem l1Pow_ev (n : Nat) (hn : n ≤ 62) : Ev (fun k => spec_l1Pow.f k (n : Int)) (P2 n) := l1Pow_l0_ev n hn n 0 (by omega)
theorem l1Pow_evI (n : Int) (h0 : 0 ≤ n) (hn : n ≤ 62) : Ev (fun k => spec_l1Pow.f k n) (P2 n.toNat) := by
  have h := l1Pow_ev n.toNat (by omega)
  rw [Int.toNat_of_nonneg h0] at h
  exact h

theorem l1Num_l0_ev (n0 : Int) (size : Nat) (big : Bool) (h2 : size ≤ 4) (hn : 0 ≤ n0) (hn2 : n0 ≤ 9223372036854775807) :
    ∀ d i : Nat, i + d = size → Ev (fun k => spec_l1Num.l0 k (n0 / P2 (8 * i)) (size : Int) big (strOfNums (if big = true then (bytesLo n0 i).reverse else bytesLo n0 i)) (i : Int)) (numPutM n0 size big) := by
  intro d
  induction d with
  | zero =>
    intro i hi
    refine ⟨1, fun k hk => ?_⟩
    try dsimp only
    obtain ⟨m, rfl⟩ : ∃ m, k = m + 1 := ⟨k - 1, by omega⟩
    rw [spec_l1Num.l0, if_neg (by omega), show i = size by omega]
    rfl
  | succ d ih =>
    intro i hi
    obtain ⟨K, hK⟩ := ih (i + 1) (by omega)
    try dsimp only at hK
    refine ⟨K + 1, fun k hk => ?_⟩
    try dsimp only
    obtain ⟨m, rfl⟩ : ∃ m, k = m + 1 := ⟨k - 1, by omega⟩
    have hm := hK m (by omega)
    have hp := P2_pos (8 * i)
    have hq : 0 ≤ n0 / P2 (8 * i) := Int.ediv_nonneg hn (by omega)
    have hq2 : n0 / P2 (8 * i) ≤ n0 := Int.ediv_le_self _ hn
    have hdiv : n0 / P2 (8 * i) / 256 = n0 / P2 (8 * (i + 1)) := by
      rw [Int.ediv_ediv_of_nonneg (by omega), show 8 * (i + 1) = 8 * i + 8 by omega, P2_add]; rfl
    have hmod : Int.tmod (n0 / P2 (8 * i)) 256 % 256 = n0 / P2 (8 * i) % 256 := by rw [tmod_pos hq]; omega
    have hsz := strOfNums_size (if big = true then (bytesLo n0 i).reverse else bytesLo n0 i)
    have hl : (if big = true then (bytesLo n0 i).reverse else bytesLo n0 i).length = i := by cases big <;> simp [bytesLo_length]
    rw [hl] at hsz
    rw [spec_l1Num.l0, if_pos (by omega)]
    simp only [Option.bind_some, hmod, tdiv_pos hq]
    rw [w64 (x := n0 / P2 (8 * i) / 256) (by omega), w64 (x := (i : Int) + 1) (by omega), hdiv, show (i : Int) + 1 = ((i + 1 : Nat) : Int) by omega]
    have h1 := strOfNums_size [n0 / P2 (8 * i) % 256]
    simp only [List.length_singleton] at h1
    cases big
    · simp only [Bool.false_eq_true, if_false] at hsz hm ⊢
      rw [if_pos (by omega), ← son_append]
      simpa only [bytesLo] using hm
    · simp only [if_true] at hsz hm ⊢
      rw [if_pos (by omega), ← son_append]
      simpa only [bytesLo, List.reverse_append, List.reverse_cons, List.reverse_nil, List.nil_append, List.singleton_append, List.cons_append] using hm
theorem l1Num_ev (n0 size : Int) (big : Bool) (h0 : 0 ≤ size) (h2 : size ≤ 4) (hn : 0 ≤ n0) (hn2 : n0 ≤ 9223372036854775807) : Ev (fun k => spec_l1Num.f k n0 size big) (numPutM n0 size.toNat big) := by
  have h := l1Num_l0_ev n0 size.toNat big (by omega) hn hn2 size.toNat 0 (by omega)
  rw [Int.toNat_of_nonneg h0] at h
  have e : n0 / P2 (8 * 0) = n0 := by simp [P2]
  rw [e] at h
  have e2 : strOfNums (if big = true then (bytesLo n0 0).reverse else bytesLo n0 0) = (⟨#[]⟩ : ByteArray) := by cases big <;> simp [bytesLo, son_nil]
  rw [e2] at h
  exact h
def numPutA (n size : Int) (big : Bool) : ByteArray := if 1 ≤ size ∧ size ≤ 4 ∧ 0 ≤ n ∧ n ≤ P2 (8 * size).toNat - 1 then numPutM n size.toNat big else ⟨#[]⟩
theorem spec_NumPut_ev (n size : Int) (big : Bool) (hw : -9223372036854775808 ≤ n ∧ n ≤ 9223372036854775807) : Ev (fun k => spec_NumPut.f k n size big) (numPutA n size big) := by
  unfold spec_NumPut.f numPutA
  simp only [l1In_f, Option.bind_some, decide_eq_true_eq]
  by_cases h1 : 1 ≤ size ∧ size ≤ 4
  · obtain ⟨K1, hK1⟩ := l1Pow_evI (8 * size) (by omega) (by omega)
    try dsimp only at hK1
    have hb := P2_62b (n := (8 * size).toNat) (by omega)
    by_cases h3 : 0 ≤ n ∧ n ≤ P2 (8 * size).toNat - 1
    · obtain ⟨K, hK⟩ := l1Num_ev n size big (by omega) h1.2 h3.1 hw.2
      try dsimp only at hK
      refine ⟨K + K1, fun k hk => ?_⟩
      try dsimp only
      rw [if_pos h1, w64 (by omega), hK1 k (by omega)]
      simp only [Option.bind_some]
      rw [w64 (by omega), if_pos h3, hK k (by omega), if_pos ⟨h1.1, h1.2, h3.1, h3.2⟩]
      rfl
    · refine ⟨K1, fun k hk => ?_⟩
      try dsimp only
      rw [if_pos h1, w64 (by omega), hK1 k (by omega)]
      simp only [Option.bind_some]
      rw [w64 (by omega), if_neg h3, if_neg (by omega)]
  · refine ⟨0, fun k hk => ?_⟩
    try dsimp only
    rw [if_neg h1, if_neg (by omega)]
theorem impl_NumPut_l0_ev (n0 : Int) (size : Nat) (big : Bool) (h2 : size ≤ 4) (hn : 0 ≤ n0) (hn2 : n0 ≤ 9223372036854775807) :
    ∀ d i : Nat, i + d = size → Ev (fun k => impl_NumPut.l0 k n0 (size : Int) big (if big = true then List.replicate d 0 ++ (bytesLo n0 i).reverse else bytesLo n0 i ++ List.replicate d 0) (size : Int) (i : Int)) (numPutM n0 size big) := by
  intro d
  induction d with
  | zero =>
    intro i hi
    refine ⟨1, fun k hk => ?_⟩
    try dsimp only
    obtain ⟨m, rfl⟩ : ∃ m, k = m + 1 := ⟨k - 1, by omega⟩
    rw [impl_NumPut.l0, if_neg (by omega), show i = size by omega]
    unfold numPutM
    cases big <;> simp
  | succ d ih =>
    intro i hi
    obtain ⟨K, hK⟩ := ih (i + 1) (by omega)
    try dsimp only at hK
    refine ⟨K + 1, fun k hk => ?_⟩
    try dsimp only
    obtain ⟨m, rfl⟩ : ∃ m, k = m + 1 := ⟨k - 1, by omega⟩
    have hm := hK m (by omega)
    have e8 : (8 * (i : Int)).toNat = 8 * i := by omega
    rw [impl_NumPut.l0, if_pos (by omega)]
    simp (disch := omega) only [w64, shr_P2, e8]
    cases big
    · simp only [Bool.false_eq_true, if_false] at hm ⊢
      have hl := bytesLo_length n0 i
      rw [if_pos (by omega), if_pos (by omega), if_pos (by simp; omega), List.replicate_succ, set_at _ _ _ _ (by omega)]
      simp only [bytesLo, List.append_assoc, List.singleton_append] at hm
      exact hm
    · simp only [if_true] at hm ⊢
      have hl := bytesLo_length n0 i
      rw [if_pos (by omega), if_pos (by omega), if_pos (by simp; omega), List.replicate_succ', List.append_assoc, List.singleton_append, set_at _ _ _ _ (by simp; omega)]
      simp only [bytesLo, List.reverse_append, List.reverse_cons, List.reverse_nil, List.nil_append, List.singleton_append, List.cons_append] at hm
      exact hm
theorem impl_NumPut_ev (n size : Int) (big : Bool) (hw : -9223372036854775808 ≤ n ∧ n ≤ 9223372036854775807) : Ev (fun k => impl_NumPut.f k n size big) (numPutA n size big) := by
  unfold impl_NumPut.f numPutA
  simp only [in_f, Option.bind_some, decide_eq_true_eq]
  by_cases h1 : 1 ≤ size ∧ size ≤ 4
  · have hb := P2_62b (n := (8 * size).toNat) (by omega)
    rw [w64 (x := 8 * size) (by omega), shl1_P2 (by omega) (by omega), w64 (x := P2 (8 * size).toNat - 1) (by omega)]
    by_cases h3 : 0 ≤ n ∧ n ≤ P2 (8 * size).toNat - 1
    · obtain ⟨K, hK⟩ := impl_NumPut_l0_ev n size.toNat big (by omega) h3.1 hw.2 size.toNat 0 (by omega)
      try dsimp only at hK
      refine ⟨K + 1, fun k hk => ?_⟩
      try dsimp only
      obtain ⟨m, rfl⟩ : ∃ m, k = m + 1 := ⟨k - 1, by omega⟩
      have hm := hK m (by omega)
      rw [Int.toNat_of_nonneg (by omega)] at hm
      rw [if_pos h1, if_pos (by omega), decide_eq_true h3, if_pos ⟨h1.1, h1.2, h3.1, h3.2⟩, impl_NumPut.j0]
      simp only [Bool.not_true, Bool.false_eq_true, if_false, Option.bind_some]
      rw [if_pos (by omega), if_pos (by omega), List.length_replicate, Int.toNat_of_nonneg (by omega)]
      cases big <;> simpa [bytesLo] using hm
    · refine ⟨1, fun k hk => ?_⟩
      try dsimp only
      obtain ⟨m, rfl⟩ : ∃ m, k = m + 1 := ⟨k - 1, by omega⟩
      rw [if_pos h1, if_pos (by omega), decide_eq_false h3, if_neg (by omega), impl_NumPut.j0]
      simp
  · refine ⟨1, fun k hk => ?_⟩
    try dsimp only
    obtain ⟨m, rfl⟩ : ∃ m, k = m + 1 := ⟨k - 1, by omega⟩
    rw [if_neg h1, if_neg (by omega), impl_NumPut.j0]
    simp

theorem FnExactNumPut : laws_FnExactNumPut.Pure := by
  intro n size big w1 w2
  obtain ⟨K1, h1⟩ := spec_NumPut_ev n size big (wf_b w1)
  try dsimp only at h1
  obtain ⟨K2, h2⟩ := impl_NumPut_ev n size big (wf_b w1)
  try dsimp only at h2
  unfold laws_FnExactNumPut.f
  refine ⟨K1 + K2, ?_⟩
  rw [h1 _ (by omega), h2 _ (by omega)]
  simp

end Go.Proofs.Ytehjfjngnofgmaa.Pure
