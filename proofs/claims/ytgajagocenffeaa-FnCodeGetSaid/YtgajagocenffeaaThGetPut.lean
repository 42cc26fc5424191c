/- Plain lemmas: a symbol's bits as they were put, and as they stand in a text. No condition. -/
import Derived.Test.YtgajagocenffeaaThGetM
import Derived.Test.YtgajagocenffeaaThCodePut
namespace Go.Proofs.Ytgajagocenffeaa.Th
open Go.RowKit Go.Proofs.YtgajagocenffeaaW.PrintWords Go.Proofs.YtgajagocenffeaaW.PrintMore

theorem trn_snoc (a b : Int) (hb : 0 ≤ b ∧ b ≤ 1) : ∀ i : Nat, trn (2 * a + b) (i + 1) = b * P2 i + trn a i := by
  intro i
  induction i with
  | zero =>
    have e : P2 0 = 1 := rfl
    simp only [trn, e, Int.ediv_one]; omega
  | succ i ih =>
    have e1 : (2 * a + b) / P2 (i + 1) = a / P2 i := by
      rw [show P2 (i + 1) = 2 * P2 i from P2_succ i, ← Int.ediv_ediv_of_nonneg (by omega)]
      congr 1; omega
    have e2 : trn (2 * a + b) (i + 1 + 1) = 2 * trn (2 * a + b) (i + 1) + (2 * a + b) / P2 (i + 1) % 2 := rfl
    have e3 : trn a (i + 1) = 2 * trn a i + a / P2 i % 2 := rfl
    rw [e2, e1, ih, e3, P2_succ, Int.mul_add, ← Int.mul_assoc, Int.mul_comm 2 b, Int.mul_assoc]; omega
theorem trn_ac (s : ByteArray) (at_ : Int) (n : Nat) : trn (acM s at_ n) n = bitsLo s at_ n := by
  induction n with
  | zero => rfl
  | succ n ih =>
    simp only [acM, bitsLo]
    rw [trn_snoc _ _ (bitM_b s (at_ + n) false), ih]; omega
theorem cpM_ok {L : List Int} (hL : lensOk L) : ∀ (suf : List Int) (acc : List (Int × Int)), (∀ t ∈ acc, 0 ≤ t.2 ∧ t.2 ≤ 15 ∧ 0 ≤ t.1 ∧ t.1 < P2 t.2.toNat) → ∀ t ∈ cpM L acc suf, 0 ≤ t.2 ∧ t.2 ≤ 15 ∧ 0 ≤ t.1 ∧ t.1 < P2 t.2.toNat := by
  intro suf
  induction suf with
  | nil => intro acc h; exact h
  | cons x suf ih =>
    intro acc h t ht
    simp only [cpM] at ht
    split at ht
    · refine ih _ (fun u hu => ?_) t ht
      rcases List.mem_append.1 hu with hu | hu
      · exact h u hu
      · rw [List.mem_singleton] at hu
        subst hu
        have h1 := lensOk_rd hL x
        have h2 := trn_b (rd (codesM L) x) (rd L x).toNat
        exact ⟨h1.1, h1.2, h2.1, h2.2⟩
    · simp at ht
theorem codePutM_ok (S L : List Int) : ∀ t ∈ codePutM S L, 0 ≤ t.2 ∧ t.2 ≤ 15 ∧ 0 ≤ t.1 ∧ t.1 < P2 t.2.toNat := by
  intro t ht
  unfold codePutM at ht
  split at ht
  · rename_i h
    exact cpM_ok (of_decide_eq_true h.1).1 S [] (fun u hu => by simp at hu) t ht
  · simp at ht
theorem codePutM_short (S L : List Int) : (codePutM S L).length ≤ S.length := by
  unfold codePutM
  split
  · have := cpM_length L S []; simpa using this
  · simp
end Go.Proofs.Ytgajagocenffeaa.Th
