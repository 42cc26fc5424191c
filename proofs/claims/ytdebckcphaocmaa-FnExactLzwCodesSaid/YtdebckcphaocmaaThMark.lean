/- Plain lemmas: lists that are marked with numbers one behind the other. No condition. -/
import Derived.Test.YtdebckcphaocmaaThBase
namespace Go.Proofs.Ytdebckcphaocmaa.Th
open Go.RowKit Go.Proofs.YtdebckcphaocmaaW.PrintWords Go.Proofs.YtdebckcphaocmaaW.PrintMore

/-- n numbers from m on. -/
def marks (m : Int) : Nat → List Int
  | 0 => []
  | n + 1 => marks m n ++ [m + n]
theorem marks_length (m : Int) (n : Nat) : (marks m n).length = n := by
  induction n with
  | zero => rfl
  | succ n ih => simp [marks, ih]
theorem rd_marks (m : Int) : ∀ (n i : Nat), i < n → rd (marks m n) (i : Int) = m + i := by
  intro n
  induction n with
  | zero => intro i hi; omega
  | succ n ih =>
    intro i hi
    by_cases h : i = n
    · subst h; simp only [marks]; exact rd_at _ [] _ (by rw [marks_length])
    · have h1 := ih i (by omega)
      have h2 : i < (marks m n).length := by rw [marks_length]; omega
      simp only [rd, marks, Int.toNat_natCast, List.getD_eq_getElem?_getD] at h1 ⊢
      rw [List.getElem?_append_left h2]; exact h1
end Go.Proofs.Ytdebckcphaocmaa.Th
