/- Plain lemmas: a number's bits turned round, and a text put by a code. No condition. -/
import Derived.Test.YtgajagocenffeaaThMake
namespace Go.Proofs.Ytgajagocenffeaa.Th
open Go.RowKit Go.Proofs.YtgajagocenffeaaW.PrintWords Go.Proofs.YtgajagocenffeaaW.PrintMore

/-- The lowest i bits, turned round. -/
def trn (c : Int) : Nat → Int
  | 0 => 0
  | i + 1 => 2 * trn c i + c / P2 i % 2
theorem trn_b (c : Int) (i : Nat) : 0 ≤ trn c i ∧ trn c i < P2 i := by
  induction i with
  | zero => simp [trn, P2]
  | succ i ih => simp only [trn, P2_succ]; omega
theorem div_P2_succ (c : Int) (i : Nat) : c / P2 i / 2 = c / P2 (i + 1) := by
  rw [Int.ediv_ediv_of_nonneg (by have := P2_pos i; omega), P2_succ, Int.mul_comm]
theorem div_P2_b {c : Int} (i : Nat) (h : 0 ≤ c) : 0 ≤ c / P2 i ∧ c / P2 i ≤ c :=
  ⟨Int.ediv_nonneg h (by have := P2_pos i; omega), Int.ediv_le_self _ h⟩
theorem cdL_b (full : List Int) (n : Int) (hn : n ≤ 16) : ∀ (suf pre : List Int) (y : Int), y ∈ cdL full n pre suf → 0 ≤ y ∧ y ≤ 65537 * full.length + pre.length + suf.length := by
  intro suf
  induction suf with
  | nil => intro pre y h; simp [cdL] at h
  | cons x suf ih =>
    intro pre y h
    simp only [cdL, List.mem_cons] at h
    simp only [List.length_cons]
    rcases h with h | h
    · have hB := cdB_b x pre
      split at h
      · have hA := cdA_b x full (by omega)
        unfold cdN at h
        omega
      · omega
    · have := ih (pre ++ [x]) y h
      rw [List.length_append, List.length_singleton] at this
      omega
theorem codesM_b (l : List Int) (i : Int) : 0 ≤ rd (codesM l) i ∧ rd (codesM l) i ≤ 65538 * l.length := by
  rcases rd_mem_or (codesM l) i with h | h
  · have := cdL_b l 16 (by omega) l [] _ h
    simp only [List.length_nil] at this
    omega
  · rw [h]; omega
theorem lensOk_rd {l : List Int} (h : lensOk l) (i : Int) : 0 ≤ rd l i ∧ rd l i ≤ 15 := by
  rcases rd_mem_or l i with h1 | h1
  · exact h _ h1
  · rw [h1]; omega
/-- A text put by the code of lengths L: a number of bits and how many they are, for each symbol. -/
def cpM (L : List Int) : List (Int × Int) → List Int → List (Int × Int)
  | acc, [] => acc
  | acc, x :: suf => if (0 ≤ x ∧ x ≤ (L.length : Int) - 1) ∧ rd L x ≠ 0 then cpM L (acc ++ [(trn (rd (codesM L) x) (rd L x).toNat, rd L x)]) suf else []
theorem cpM_length (L : List Int) : ∀ (suf : List Int) (acc : List (Int × Int)), (cpM L acc suf).length ≤ acc.length + suf.length := by
  intro suf
  induction suf with
  | nil => intro acc; simp [cpM]
  | cons x suf ih =>
    intro acc
    simp only [cpM]
    split
    · refine Nat.le_trans (ih _) ?_; simp; omega
    · simp
def codePutM (S L : List Int) : List (Int × Int) := if codeOkM L = true ∧ S.length ≤ 9000 then cpM L [] S else []
theorem codePutM_length (S L : List Int) : (codePutM S L).length ≤ 9000 := by
  unfold codePutM
  split
  · have := cpM_length L S []; simp at this; omega
  · simp
end Go.Proofs.Ytgajagocenffeaa.Th
