/- Plain lemmas: how many numbers of a list are the same from a place on, and how many stand ahead of some that are. No condition. -/
import Derived.Test.YtpjkcdgamlllgaaThPut
namespace Go.Proofs.Ytpjkcdgamlllgaa.Th
open Go.RowKit Go.Proofs.YtpjkcdgamlllgaaW.PrintWords Go.Proofs.YtpjkcdgamlllgaaW.PrintMore

def smB (L : List Int) (at_ n : Int) : Bool := decide (at_ + n < L.length ∧ rd L (at_ + n) = rd L at_)
def smC (L : List Int) (at_ : Int) : Nat → Int → Int
  | 0, n => n
  | d + 1, n => if smB L at_ n = true then smC L at_ d (n + 1) else n
/-- How many are the same from a place on. -/
def smM (L : List Int) (at_ : Int) : Int := smC L at_ L.length 1
theorem smC_b (L : List Int) (at_ : Int) : ∀ (d : Nat) (n : Int), (L.length : Int) ≤ at_ + n + d → at_ + n ≤ L.length → n ≤ smC L at_ d n ∧ at_ + smC L at_ d n ≤ L.length ∧ (∀ j, n ≤ j → j < smC L at_ d n → smB L at_ j = true) ∧ smB L at_ (smC L at_ d n) = false := by
  intro d
  induction d with
  | zero =>
    intro n h1 h2
    exact ⟨by simp [smC], by simpa [smC] using h2, fun j a b => by simp [smC] at b; omega, by simp only [smC]; exact decide_eq_false (by omega)⟩
  | succ d ih =>
    intro n h1 h2
    simp only [smC]
    by_cases h : smB L at_ n = true
    · have hh := of_decide_eq_true h
      obtain ⟨i1, i2, i3, i4⟩ := ih (n + 1) (by omega) (by omega)
      rw [if_pos h]
      refine ⟨by omega, i2, fun j a b => ?_, i4⟩
      by_cases e : j = n
      · rw [e]; exact h
      · exact i3 j (by omega) b
    · rw [if_neg h]
      exact ⟨by omega, h2, fun j a b => by omega, by simpa using h⟩
theorem smM_b (L : List Int) (at_ : Int) (h0 : 0 ≤ at_) (h : at_ < L.length) : 1 ≤ smM L at_ ∧ at_ + smM L at_ ≤ L.length ∧ (∀ j, 1 ≤ j → j < smM L at_ → smB L at_ j = true) ∧ smB L at_ (smM L at_) = false :=
  smC_b L at_ L.length 1 (by omega) (by omega)
theorem smM_all (L : List Int) (at_ : Int) (h0 : 0 ≤ at_) (h : at_ < L.length) (j : Int) (j0 : 0 ≤ j) (j1 : j < smM L at_) : rd L (at_ + j) = rd L at_ := by
  by_cases e : j = 0
  · rw [e, Int.add_zero]
  · exact (of_decide_eq_true ((smM_b L at_ h0 h).2.2.1 j (by omega) j1)).2
/-- Goes the piece of those that are not the same on? -/
def otB (L : List Int) (at_ e n : Int) : Bool := decide (n < 128 ∧ at_ + n < L.length ∧ smM L (at_ + n) < e)
def otC (L : List Int) (at_ e : Int) : Nat → Int → Int
  | 0, n => n
  | d + 1, n => if otB L at_ e n = true then otC L at_ e d (n + 1) else n
def otM (L : List Int) (at_ e : Int) : Int := otC L at_ e 127 1
theorem otC_b (L : List Int) (at_ e : Int) : ∀ (d : Nat) (n : Int), n + d = 128 → at_ + n ≤ L.length → n ≤ otC L at_ e d n ∧ otC L at_ e d n ≤ 128 ∧ at_ + otC L at_ e d n ≤ L.length ∧ otB L at_ e (otC L at_ e d n) = false := by
  intro d
  induction d with
  | zero =>
    intro n h1 h2
    exact ⟨by simp [otC], by simp [otC]; omega, by simpa [otC] using h2, by simp only [otC]; exact decide_eq_false (by omega)⟩
  | succ d ih =>
    intro n h1 h2
    simp only [otC]
    by_cases h : otB L at_ e n = true
    · have hh := of_decide_eq_true h
      obtain ⟨i1, i2, i3, i4⟩ := ih (n + 1) (by omega) (by omega)
      rw [if_pos h]
      exact ⟨by omega, i2, i3, i4⟩
    · rw [if_neg h]
      exact ⟨by omega, by omega, h2, by simpa using h⟩
theorem otM_b (L : List Int) (at_ e : Int) (h : at_ < L.length) : 1 ≤ otM L at_ e ∧ otM L at_ e ≤ 128 ∧ at_ + otM L at_ e ≤ L.length ∧ otB L at_ e (otM L at_ e) = false :=
  otC_b L at_ e 127 1 (by omega) (by omega)
/-- A piece: how many, and whether they are the same. -/
def cutM (L : List Int) (at_ e : Int) : Int × Bool := if smM L at_ ≥ e then (if smM L at_ < 128 then smM L at_ else 128, true) else (otM L at_ e, false)
theorem cutM_b (L : List Int) (at_ e : Int) (h0 : 0 ≤ at_) (h : at_ < L.length) (he : e ≤ 128) : 1 ≤ (cutM L at_ e).1 ∧ (cutM L at_ e).1 ≤ 128 ∧ at_ + (cutM L at_ e).1 ≤ L.length ∧ ((cutM L at_ e).2 = true → e ≤ (cutM L at_ e).1 ∧ ∀ j, 0 ≤ j → j < (cutM L at_ e).1 → rd L (at_ + j) = rd L at_) := by
  have h1 := smM_b L at_ h0 h
  have h2 := otM_b L at_ e h
  unfold cutM
  split
  · rename_i hs
    dsimp only
    refine ⟨by split <;> omega, by split <;> omega, by split <;> omega, fun _ => ⟨by split <;> omega, fun j j0 j1 => smM_all L at_ h0 h j j0 (by split at j1 <;> omega)⟩⟩
  · exact ⟨h2.1, h2.2.1, h2.2.2.1, fun e => by simp at e⟩
end Go.Proofs.Ytpjkcdgamlllgaa.Th
