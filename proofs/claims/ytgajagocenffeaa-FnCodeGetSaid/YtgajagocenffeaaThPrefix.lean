/- Plain lemmas: no symbol's number begins another one's. No condition. -/
import Derived.Test.YtgajagocenffeaaThMake
namespace Go.Proofs.Ytgajagocenffeaa.Th
open Go.RowKit Go.Proofs.YtgajagocenffeaaW.PrintWords Go.Proofs.YtgajagocenffeaaW.PrintMore

/-- What the lengths up to n take of a whole of length n, told in units of length 15. -/
theorem cd_kraft (l : List Int) (h : lensOk l) (n : Int) (h1 : 1 ≤ n) (h2 : n ≤ 15) : (cdA n l + cdB n l) * P2 (15 - n).toNat ≤ kraft l := by
  induction l with
  | nil => simp [cdA, cdB, kraft]
  | cons x l ih =>
    rw [lensOk_cons] at h
    have hi := ih h.2
    simp only [cdA, cdB, kraft]
    by_cases c1 : 0 < x ∧ x < n
    · rw [if_pos c1, if_neg (by omega), if_pos c1.1]
      have e : P2 (15 - x).toNat = P2 (n - x).toNat * P2 (15 - n).toNat := by rw [← P2_add]; congr 1; omega
      rw [e, show P2 (n - x).toNat + cdA n l + (0 + cdB n l) = P2 (n - x).toNat + (cdA n l + cdB n l) by omega, Int.add_mul]
      omega
    · by_cases c2 : x = n
      · rw [if_neg c1, if_pos c2, if_pos (by omega), c2, show 0 + cdA n l + (1 + cdB n l) = 1 + (cdA n l + cdB n l) by omega, Int.add_mul, Int.one_mul]
        omega
      · have hp := P2_pos (15 - x).toNat
        rw [if_neg c1, if_neg c2, show 0 + cdA n l + (0 + cdB n l) = cdA n l + cdB n l by omega]
        split <;> omega
theorem cd_room {l : List Int} (h : lensOk l) (hk : kraft l ≤ 32768) (n : Int) (h1 : 1 ≤ n) (h2 : n ≤ 15) : cdA n l + cdB n l ≤ P2 n.toNat := by
  have h3 := cd_kraft l h n h1 h2
  have e : P2 n.toNat * P2 (15 - n).toNat = 32768 := by rw [← P2_add, ← P2_15]; congr 1; omega
  have hp := P2_pos (15 - n).toNat
  refine Int.not_lt.1 fun hlt => ?_
  have h4 : P2 n.toNat * P2 (15 - n).toNat < (cdA n l + cdB n l) * P2 (15 - n).toNat := Int.mul_lt_mul_of_pos_right hlt (by omega)
  omega
theorem cdA_far (l : List Int) (n : Int) (h1 : 1 ≤ n) : ∀ d : Nat, (cdA n l + cdB n l) * P2 (d + 1) ≤ cdA (n + (d + 1 : Nat)) l := by
  intro d
  induction d with
  | zero =>
    rw [show n + ((0 + 1 : Nat) : Int) = n + 1 by omega, cdA_succ n l h1]
    have : P2 (0 + 1) = 2 := rfl
    rw [this]; omega
  | succ d ih =>
    rw [show n + ((d + 1 + 1 : Nat) : Int) = n + ((d + 1 : Nat) : Int) + 1 by omega, cdA_succ _ l (by omega), P2_succ, ← Int.mul_assoc, Int.mul_comm _ 2, Int.mul_assoc]
    have := (cdB_b (n + ((d + 1 : Nat) : Int)) l).1
    omega
theorem cdL_at (full : List Int) (n : Int) : ∀ (suf pre : List Int) (i : Nat), i < suf.length → (cdL full n pre suf).getD i 0 = if 0 < suf.getD i 0 ∧ suf.getD i 0 < n then cdN full (pre ++ suf.take i) (suf.getD i 0) else 0 := by
  intro suf
  induction suf with
  | nil => intro pre i h; simp at h
  | cons x suf ih =>
    intro pre i h
    cases i with
    | zero => simp [cdL]
    | succ i =>
      have := ih (pre ++ [x]) i (by simpa using h)
      simp only [cdL, List.getD_cons_succ, List.take_succ_cons]
      rw [this]
      simp
/-- A symbol's number. -/
theorem codesM_at (l : List Int) (h : lensOk l) (i : Nat) (hi : i < l.length) : (codesM l).getD i 0 = if 0 < l.getD i 0 then cdA (l.getD i 0) l + cdB (l.getD i 0) (l.take i) else 0 := by
  unfold codesM
  rw [cdL_at l 16 l [] i hi]
  have hm : l.getD i 0 ∈ l := by rw [List.getD_eq_getElem?_getD, List.getElem?_eq_getElem hi]; exact List.getElem_mem _
  have := h _ hm
  by_cases c : 0 < l.getD i 0
  · rw [if_pos ⟨c, by omega⟩, if_pos c]; rfl
  · rw [if_neg (fun h => c h.1), if_neg c]
theorem cdB_take (n : Int) (l : List Int) (i : Nat) (hi : i < l.length) : cdB n (l.take (i + 1)) = cdB n (l.take i) + (if l.getD i 0 = n then 1 else 0) := by
  rw [List.take_add_one, List.getElem?_eq_getElem hi, Option.toList_some, cdB_append]
  simp only [cdB, List.getD_eq_getElem?_getD, List.getElem?_eq_getElem hi, Option.getD_some]
  omega
theorem cdB_mono (n : Int) (l : List Int) {i j : Nat} (h : i ≤ j) : cdB n (l.take i) ≤ cdB n (l.take j) := by
  obtain ⟨d, rfl⟩ : ∃ d, j = i + d := ⟨j - i, by omega⟩
  have e : l.take (i + d) = l.take i ++ (l.drop i).take d := by rw [List.take_add]
  rw [e, cdB_append]
  have := (cdB_b n ((l.drop i).take d)).1
  omega
theorem cdB_strict (n : Int) (l : List Int) {i j : Nat} (h : i < j) (hj : j ≤ l.length) (hx : l.getD i 0 = n) : cdB n (l.take i) + 1 ≤ cdB n (l.take j) := by
  have h1 := cdB_take n l i (by omega)
  rw [if_pos hx] at h1
  have h2 := cdB_mono n l (show i + 1 ≤ j from h)
  omega
/-- It lies within its length. -/
theorem codesM_bp {l : List Int} (h : lensOk l) (hk : kraft l ≤ 32768) (i : Nat) (hi : i < l.length) (hp : 0 < l.getD i 0) : 0 ≤ (codesM l).getD i 0 ∧ (codesM l).getD i 0 + 1 ≤ cdA (l.getD i 0) l + cdB (l.getD i 0) l ∧ (codesM l).getD i 0 + 1 ≤ P2 (l.getD i 0).toNat := by
  have hm : l.getD i 0 ∈ l := by rw [List.getD_eq_getElem?_getD, List.getElem?_eq_getElem hi]; exact List.getElem_mem _
  have hb := h _ hm
  have h1 := cd_room h hk (l.getD i 0) (by omega) hb.2
  have hA := cdA_b (l.getD i 0) l (by omega)
  have hB := cdB_b (l.getD i 0) (l.take i)
  have h2 := cdB_strict (l.getD i 0) l (show i < l.length from hi) (Nat.le_refl _) rfl
  rw [List.take_length] at h2
  rw [codesM_at l h i hi, if_pos hp]
  omega
/-- Two symbols, the second one no shorter: the first one's number does not begin the second one's. -/
theorem codesM_prefix {l : List Int} (h : lensOk l) (hk : kraft l ≤ 32768) (i k : Nat) (hi : i < l.length) (hkl : k < l.length) (hne : k ≠ i) (hp : 0 < l.getD i 0) (hle : l.getD i 0 ≤ l.getD k 0) :
    (codesM l).getD k 0 / P2 (l.getD k 0 - l.getD i 0).toNat ≠ (codesM l).getD i 0 := by
  have hb := codesM_bp h hk i hi hp
  by_cases c : l.getD i 0 = l.getD k 0
  · rw [← c, Int.sub_self]
    have e : P2 (0 : Int).toNat = 1 := rfl
    rw [e, Int.ediv_one, codesM_at l h k hkl, codesM_at l h i hi, if_pos (by omega), if_pos hp, ← c]
    rcases Nat.lt_or_gt_of_ne hne with h1 | h1
    · have := cdB_strict (l.getD i 0) l h1 (by omega) c.symm; omega
    · have := cdB_strict (l.getD i 0) l h1 (by omega) rfl; omega
  · obtain ⟨d, hd⟩ : ∃ d : Nat, l.getD k 0 = l.getD i 0 + (d + 1 : Nat) := ⟨(l.getD k 0 - l.getD i 0 - 1).toNat, by omega⟩
    have hf := cdA_far l (l.getD i 0) (by omega) d
    rw [← hd] at hf
    have e : (l.getD k 0 - l.getD i 0).toNat = d + 1 := by omega
    have hpos := P2_pos (d + 1)
    have hB := cdB_b (l.getD k 0) (l.take k)
    have hc : (codesM l).getD k 0 = cdA (l.getD k 0) l + cdB (l.getD k 0) (l.take k) := by rw [codesM_at l h k hkl, if_pos (by omega)]
    rw [e]
    have h2 : ((codesM l).getD i 0 + 1) * P2 (d + 1) ≤ (codesM l).getD k 0 := by
      have := Int.mul_le_mul_of_nonneg_right hb.2.1 (show 0 ≤ P2 (d + 1) by omega)
      omega
    have h3 := (Int.le_ediv_iff_mul_le (show 0 < P2 (d + 1) by omega)).2 h2
    omega
end Go.Proofs.Ytgajagocenffeaa.Th
