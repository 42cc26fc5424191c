/- Plain lemmas: the numbers of a code's symbols, as they are counted up. No condition. -/
import Derived.Test.YtgajagocenffeaaThCode
namespace Go.Proofs.Ytgajagocenffeaa.Th
open Go.RowKit Go.Proofs.YtgajagocenffeaaW.PrintWords Go.Proofs.YtgajagocenffeaaW.PrintMore

/-- What the lengths below n take, in units of length n. -/
def cdA (n : Int) : List Int → Int
  | [] => 0
  | x :: l => (if 0 < x ∧ x < n then P2 (n - x).toNat else 0) + cdA n l
/-- How many lengths are n. -/
def cdB (n : Int) : List Int → Int
  | [] => 0
  | x :: l => (if x = n then 1 else 0) + cdB n l
theorem cdB_append (n : Int) (a b : List Int) : cdB n (a ++ b) = cdB n a + cdB n b := by
  induction a with
  | nil => simp [cdB]
  | cons x a ih => simp only [List.cons_append, cdB, ih]; omega
theorem cdB_b (n : Int) (l : List Int) : 0 ≤ cdB n l ∧ cdB n l ≤ l.length := by
  induction l with
  | nil => simp [cdB]
  | cons x l ih => simp only [cdB, List.length_cons]; split <;> omega
theorem cdA_b (n : Int) (l : List Int) (hn : n ≤ 16) : 0 ≤ cdA n l ∧ cdA n l ≤ 65536 * l.length := by
  induction l with
  | nil => simp [cdA]
  | cons x l ih =>
    have h := P2_pos (n - x).toNat
    simp only [cdA, List.length_cons]
    split
    · have h2 := P2_le (n := (n - x).toNat) (m := 16) (by omega)
      have h3 : P2 16 = 65536 := rfl
      omega
    · omega
theorem cdA_succ (n : Int) (l : List Int) (hn : 1 ≤ n) : cdA (n + 1) l = 2 * (cdA n l + cdB n l) := by
  induction l with
  | nil => simp [cdA, cdB]
  | cons x l ih =>
    simp only [cdA, cdB, ih]
    by_cases h1 : 0 < x ∧ x < n
    · rw [if_pos (by omega), if_pos h1, if_neg (by omega), show (n + 1 - x).toNat = (n - x).toNat + 1 by omega, P2_succ]; omega
    · by_cases h2 : x = n
      · subst h2
        rw [if_pos (by omega), if_neg h1, if_pos rfl, show (x + 1 - x).toNat = 1 by omega]
        have : P2 1 = 2 := rfl
        omega
      · rw [if_neg (by omega), if_neg h1, if_neg h2]; omega
theorem cdA_one (l : List Int) : cdA 1 l = 0 := by
  induction l with
  | nil => rfl
  | cons x l ih => simp only [cdA, ih]; rw [if_neg (by omega)]; rfl
/-- The number of a symbol of length x, behind those in front. -/
def cdN (full pre : List Int) (x : Int) : Int := cdA x full + cdB x pre
/-- The numbers that are told when all lengths below n are done. -/
def cdL (full : List Int) (n : Int) : List Int → List Int → List Int
  | _, [] => []
  | pre, x :: suf => (if 0 < x ∧ x < n then cdN full pre x else 0) :: cdL full n (pre ++ [x]) suf
theorem cdL_length (full : List Int) (n : Int) : ∀ (suf pre : List Int), (cdL full n pre suf).length = suf.length := by
  intro suf
  induction suf with
  | nil => intro pre; rfl
  | cons x suf ih => intro pre; simp [cdL, ih]
theorem cdL_append (full : List Int) (n : Int) : ∀ (a b pre : List Int), cdL full n pre (a ++ b) = cdL full n pre a ++ cdL full n (pre ++ a) b := by
  intro a
  induction a with
  | nil => intro b pre; simp [cdL]
  | cons x a ih => intro b pre; simp [cdL, ih]
theorem cdL_one (full : List Int) : ∀ (suf pre : List Int), cdL full 1 pre suf = List.replicate suf.length 0 := by
  intro suf
  induction suf with
  | nil => intro pre; rfl
  | cons x suf ih => intro pre; simp only [cdL, ih, List.length_cons, List.replicate_succ]; rw [if_neg (by omega)]
/-- All numbers. -/
def codesM (l : List Int) : List Int := cdL l 16 [] l
theorem codesM_length (l : List Int) : (codesM l).length = l.length := cdL_length _ _ _ _
def codeMakeM (l : List Int) : List Int := if codeOkM l = true then codesM l else []
end Go.Proofs.Ytgajagocenffeaa.Th
