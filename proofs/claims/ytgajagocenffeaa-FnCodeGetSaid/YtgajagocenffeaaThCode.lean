/- Plain lemmas: how full a code is. No condition. -/
import Derived.Test.YtgajagocenffeaaThBase
namespace Go.Proofs.Ytgajagocenffeaa.Th
open Go.RowKit Go.Proofs.YtgajagocenffeaaW.PrintWords Go.Proofs.YtgajagocenffeaaW.PrintMore

/-- How much of a whole of 2 to the power of 15 a code takes. -/
def kraft : List Int → Int
  | [] => 0
  | x :: l => (if 0 < x then P2 (15 - x).toNat else 0) + kraft l
def lensOk (l : List Int) : Prop := ∀ x ∈ l, 0 ≤ x ∧ x ≤ 15
instance (l : List Int) : Decidable (lensOk l) := by unfold lensOk; infer_instance
theorem lensOk_cons (x : Int) (l : List Int) : lensOk (x :: l) ↔ (0 ≤ x ∧ x ≤ 15) ∧ lensOk l := by simp [lensOk]
theorem lensOk_nil : lensOk [] := by simp [lensOk]
theorem kraft_b (l : List Int) : 0 ≤ kraft l ∧ (lensOk l → kraft l ≤ 16384 * l.length) := by
  induction l with
  | nil => simp [kraft]
  | cons x l ih =>
    have hp := P2_pos (15 - x).toNat
    refine ⟨by simp only [kraft]; split <;> omega, fun h => ?_⟩
    rw [lensOk_cons] at h
    have := ih.2 h.2
    simp only [kraft, List.length_cons]
    split
    · have h2 := P2_le (n := (15 - x).toNat) (m := 14) (by omega)
      have h3 : P2 14 = 16384 := rfl
      omega
    · omega
theorem kraft_nn (l : List Int) : 0 ≤ kraft l := (kraft_b l).1
theorem kraft_append (a b : List Int) : kraft (a ++ b) = kraft a + kraft b := by
  induction a with
  | nil => simp [kraft]
  | cons x a ih => simp only [List.cons_append, kraft, ih]; omega
/-- Are these the lengths of a code? -/
def codeOkM (l : List Int) : Bool := decide (lensOk l ∧ l.length ≤ 300 ∧ kraft l ≤ 32768)
end Go.Proofs.Ytgajagocenffeaa.Th
