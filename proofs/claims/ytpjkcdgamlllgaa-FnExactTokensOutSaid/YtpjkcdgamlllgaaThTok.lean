/- Plain lemmas: what comes again in a text, and the tokens of it. No condition. -/
import Derived.Test.YtpjkcdgamlllgaaThStr
namespace Go.Proofs.Ytpjkcdgamlllgaa.Th
open Go.RowKit Go.Proofs.YtpjkcdgamlllgaaW.PrintWords Go.Proofs.YtpjkcdgamlllgaaW.PrintMore

/-- Do the n-th bytes behind two places go on alike? -/
def goesOn (s : ByteArray) (a b n : Int) : Bool := decide (n < 258 ∧ b + n < s.size ∧ bt s (a + n) = bt s (b + n))
def cntM (s : ByteArray) (a b : Int) : Nat → Int → Int
  | 0, n => n
  | d + 1, n => if goesOn s a b n = true then cntM s a b d (n + 1) else n
/-- How many bytes are alike. -/
def matM (s : ByteArray) (a b : Int) : Int := cntM s a b 258 0
theorem cntM_b (s : ByteArray) (a b : Int) : ∀ (d : Nat) (n : Int), n + d = 258 → b + n ≤ s.size → n ≤ cntM s a b d n ∧ cntM s a b d n ≤ 258 ∧ b + cntM s a b d n ≤ s.size ∧ (∀ j, n ≤ j → j < cntM s a b d n → bt s (a + j) = bt s (b + j)) ∧ goesOn s a b (cntM s a b d n) = false := by
  intro d
  induction d with
  | zero =>
    intro n hn hb
    refine ⟨by simp [cntM], by simp [cntM]; omega, by simpa [cntM] using hb, fun j h1 h2 => by simp [cntM] at h2; omega, ?_⟩
    simp only [cntM]; exact decide_eq_false (by omega)
  | succ d ih =>
    intro n hn hb
    by_cases h : goesOn s a b n = true
    · have hh := of_decide_eq_true h
      obtain ⟨h1, h2, h3, h4, h5⟩ := ih (n + 1) (by omega) (by omega)
      simp only [cntM]; rw [if_pos h]
      refine ⟨by omega, h2, h3, fun j j1 j2 => ?_, h5⟩
      by_cases e : j = n
      · rw [e]; exact hh.2.2
      · exact h4 j (by omega) j2
    · simp only [cntM]; rw [if_neg h]
      exact ⟨by omega, by omega, hb, fun j j1 j2 => by omega, by simpa using h⟩
theorem matM_b (s : ByteArray) (a b : Int) (hb : b ≤ s.size) : 0 ≤ matM s a b ∧ matM s a b ≤ 258 ∧ b + matM s a b ≤ s.size ∧ (∀ j, 0 ≤ j → j < matM s a b → bt s (a + j) = bt s (b + j)) ∧ goesOn s a b (matM s a b) = false :=
  cntM_b s a b 258 0 (by omega) (by omega)
/-- A byte that is another one stops it. -/
theorem matM_stop {s : ByteArray} {a b z : Int} (hb : b ≤ s.size) (h0 : 0 ≤ z) (h : bt s (a + z) ≠ bt s (b + z)) : matM s a b ≤ z := by
  obtain ⟨_, _, _, h4, _⟩ := matM_b s a b hb
  by_cases e : matM s a b ≤ z
  · exact e
  · exact absurd (h4 z h0 (by omega)) h
def bestM (s : ByteArray) (at_ : Int) : Nat → Int × Int
  | 0 => (0, 0)
  | d + 1 => if matM s (at_ - ((d + 1 : Nat) : Int)) at_ > (bestM s at_ d).1 then (matM s (at_ - ((d + 1 : Nat) : Int)) at_, ((d + 1 : Nat) : Int)) else bestM s at_ d
theorem bestM_b (s : ByteArray) (at_ : Int) (h : at_ ≤ s.size) : ∀ d : Nat, 0 ≤ (bestM s at_ d).1 ∧ (bestM s at_ d).1 ≤ 258 ∧ at_ + (bestM s at_ d).1 ≤ s.size ∧ 0 ≤ (bestM s at_ d).2 ∧ (bestM s at_ d).2 ≤ d ∧ ((bestM s at_ d).1 > 0 → 1 ≤ (bestM s at_ d).2 ∧ ∀ j, 0 ≤ j → j < (bestM s at_ d).1 → bt s (at_ - (bestM s at_ d).2 + j) = bt s (at_ + j)) := by
  intro d
  induction d with
  | zero => simp only [bestM]; exact ⟨by omega, by omega, by omega, by omega, by omega, fun h => by omega⟩
  | succ d ih =>
    simp only [bestM]
    split
    · have hm := matM_b s (at_ - ((d + 1 : Nat) : Int)) at_ h
      exact ⟨hm.1, hm.2.1, hm.2.2.1, by show (0 : Int) ≤ ((d + 1 : Nat) : Int); omega, by show ((d + 1 : Nat) : Int) ≤ ((d + 1 : Nat) : Int); omega, fun _ => ⟨by show (1 : Int) ≤ ((d + 1 : Nat) : Int); omega, hm.2.2.2.1⟩⟩
    · obtain ⟨h1, h2, h3, h4, h5, h6⟩ := ih
      exact ⟨h1, h2, h3, h4, by omega, h6⟩
/-- More cannot come than may: then it is the best of all. -/
theorem bestM_full (s : ByteArray) (at_ : Int) (h : at_ ≤ s.size) (d : Nat) (hf : 258 ≤ (bestM s at_ d).1 ∨ s.size - at_ ≤ (bestM s at_ d).1) : ∀ e : Nat, bestM s at_ (d + e) = bestM s at_ d := by
  intro e
  induction e with
  | zero => rfl
  | succ e ih =>
    have hm := matM_b s (at_ - ((d + e + 1 : Nat) : Int)) at_ h
    rw [show d + (e + 1) = (d + e) + 1 by omega]
    simp only [bestM]
    rw [ih, if_neg (by omega)]
/-- The tokens from a place on: a byte, a size, a distance. -/
def tokM (s : ByteArray) : Nat → Int → List (Int × Int × Int)
  | 0, _ => []
  | f + 1, at_ =>
    if at_ < s.size then
      if (bestM s at_ at_.toNat).1 < 3 then (bt s at_, 0, 0) :: tokM s f (at_ + 1)
      else (0, (bestM s at_ at_.toNat).1, (bestM s at_ at_.toNat).2) :: tokM s f (at_ + (bestM s at_ at_.toNat).1)
    else []
theorem tokM_length (s : ByteArray) : ∀ (f : Nat) (at_ : Int), (tokM s f at_).length ≤ f := by
  intro f
  induction f with
  | zero => intro at_; simp [tokM]
  | succ f ih =>
    intro at_
    simp only [tokM]
    split
    · split
      · have := ih (at_ + 1); simp; omega
      · have := ih (at_ + (bestM s at_ at_.toNat).1); simp; omega
    · simp
def tokensM (s : ByteArray) : List (Int × Int × Int) := if s.size > 5000 then [] else tokM s s.size 0
theorem tokensM_length (s : ByteArray) : (tokensM s).length ≤ 5000 := by
  unfold tokensM; split
  · simp
  · have := tokM_length s s.size 0; omega
end Go.Proofs.Ytpjkcdgamlllgaa.Th
