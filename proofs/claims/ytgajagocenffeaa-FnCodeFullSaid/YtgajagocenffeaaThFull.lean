/- Plain lemmas: a code that leaves nothing over has a symbol for whatever comes. No condition. -/
import Derived.Test.YtgajagocenffeaaThGetM
namespace Go.Proofs.Ytgajagocenffeaa.Th
open Go.RowKit Go.Proofs.YtgajagocenffeaaW.PrintWords Go.Proofs.YtgajagocenffeaaW.PrintMore

theorem cd_full (l : List Int) (h : lensOk l) : cdA 15 l + cdB 15 l = kraft l := by
  induction l with
  | nil => rfl
  | cons x l ih =>
    rw [lensOk_cons] at h
    have hi := ih h.2
    simp only [cdA, cdB, kraft]
    by_cases c1 : 0 < x ∧ x < 15
    · rw [if_pos c1, if_neg (by omega), if_pos c1.1]; omega
    · by_cases c2 : x = 15
      · subst c2
        rw [if_neg c1, if_pos rfl, if_pos (by omega)]
        have e : P2 (15 - 15 : Int).toNat = 1 := rfl
        rw [e]; omega
      · rw [if_neg c1, if_neg c2, if_neg (by omega)]; omega
theorem cdB_reach (n : Int) : ∀ (l : List Int) (r : Int), 0 ≤ r → r < cdB n l → ∃ j : Nat, j < l.length ∧ l.getD j 0 = n ∧ cdB n (l.take j) = r := by
  intro l
  induction l with
  | nil => intro r h0 h1; simp only [cdB] at h1; omega
  | cons x l ih =>
    intro r h0 h1
    simp only [cdB] at h1
    by_cases c : x = n
    · rw [if_pos c] at h1
      by_cases c2 : r = 0
      · exact ⟨0, by simp, by simpa using c, by simp [cdB, c2]⟩
      · obtain ⟨j, h3, h4, h5⟩ := ih (r - 1) (by omega) (by omega)
        refine ⟨j + 1, by simp; omega, by simpa using h4, ?_⟩
        rw [List.take_succ_cons]
        simp only [cdB]
        rw [if_pos c, h5]; omega
    · rw [if_neg c] at h1
      obtain ⟨j, h3, h4, h5⟩ := ih r h0 (by omega)
      refine ⟨j + 1, by simp; omega, by simpa using h4, ?_⟩
      rw [List.take_succ_cons]
      simp only [cdB]
      rw [if_neg c, h5]; omega
theorem fM_full {s : ByteArray} {at_ : Int} {L : List Int} (hok : lensOk L) (hk : kraft L = 32768) (hs : at_ + 15 ≤ 8 * (s.size : Int)) : ∀ d i : Nat, i + d = 15 → cdA ((i : Int) + 1) L ≤ 2 * acM s at_ i → fM s at_ L d i ≠ none := by
  intro d
  induction d with
  | zero =>
    intro i hi h
    obtain rfl : i = 15 := by omega
    have h1 := cdA_succ 15 L (by omega)
    have h2 := cd_full L hok
    have h3 := acM_b s at_ 15
    rw [P2_15] at h3
    rw [show ((15 : Nat) : Int) + 1 = 15 + 1 from rfl] at h
    omega
  | succ d ih =>
    intro i hi h
    unfold fM
    rw [if_pos (by omega)]
    cases hq : symF (codesM L) L (acM s at_ (i + 1)) ((i : Int) + 1) L.length with
    | some j => intro e; cases e
    | none =>
      refine ih (i + 1) (by omega) ?_
      rw [show ((i + 1 : Nat) : Int) = (i : Int) + 1 by omega, cdA_succ _ L (by omega)]
      refine Int.mul_le_mul_of_nonneg_left (Int.not_lt.1 fun hlt => ?_) (by omega)
      have hb := bitM_b s (at_ + i) false
      have ha : acM s at_ (i + 1) = 2 * acM s at_ i + bitM s (at_ + i) false := rfl
      obtain ⟨j, h1, h2, h3⟩ := cdB_reach ((i : Int) + 1) L (acM s at_ (i + 1) - cdA ((i : Int) + 1) L) (by omega) (by omega)
      refine symF_none hq j h1 ⟨by omega, ?_, h2⟩
      rw [codesM_at L hok j h1, if_pos (by omega), h2, h3]; omega
end Go.Proofs.Ytgajagocenffeaa.Th
