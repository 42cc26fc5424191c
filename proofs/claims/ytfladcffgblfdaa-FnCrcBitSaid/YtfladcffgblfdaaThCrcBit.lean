/- Plain lemmas: a text of which one byte is another one has other sums. No condition. -/
import Derived.Test.YtfladcffgblfdaaThSum
namespace Go.Proofs.Ytfladcffgblfdaa.Th
open Go.RowKit Go.Proofs.YtfladcffgblfdaaW.PrintWords Go.Proofs.YtfladcffgblfdaaW.PrintMore

theorem X_comm {a b : Int} (ha : 0 ≤ a ∧ a ≤ 4294967295) (hb : 0 ≤ b ∧ b ≤ 4294967295) : X a b = X b a := by
  rw [X_int (by omega) (by omega), X_int (by omega) (by omega), Nat.xor_comm]
theorem X_inj {a b c : Int} (ha : 0 ≤ a ∧ a ≤ 4294967295) (hb : 0 ≤ b ∧ b ≤ 4294967295) (hc : 0 ≤ c ∧ c ≤ 4294967295) (h : X a c = X b c) : a = b := by
  rw [← X_cancel ha hc, ← X_cancel hb hc, h]
theorem X_top {a : Int} (ha : 0 ≤ a ∧ a ≤ 2147483647) : 2147483648 ≤ X a 3988292384 := by
  by_cases h : X a 3988292384 ≤ 2147483647
  · have hb := X_b32 (x := a) (y := 3988292384) (by omega) (by omega)
    have h1 : X (X a 3988292384) a = 3988292384 := by rw [X_comm (a := a) (by omega) (by omega), X_cancel (by omega) (by omega)]
    rw [X_int (x := X a 3988292384) (by omega) (by omega)] at h1
    have : (X a 3988292384).toNat ^^^ a.toNat < 2 ^ 31 := Nat.xor_lt_two_pow (by omega) (by omega)
    omega
  · omega
theorem cb_inj {x y : Int} (hx : 0 ≤ x ∧ x ≤ 4294967295) (hy : 0 ≤ y ∧ y ≤ 4294967295) (h : cb x = cb y) : x = y := by
  have tx := X_top (a := x / 2) (by omega)
  have ty := X_top (a := y / 2) (by omega)
  unfold cb at h
  by_cases h1 : x % 2 = 1
  · by_cases h2 : y % 2 = 1
    · rw [if_pos h1, if_pos h2] at h
      have := X_inj (by omega) (by omega) (by omega) h
      omega
    · rw [if_pos h1, if_neg h2] at h; omega
  · by_cases h2 : y % 2 = 1
    · rw [if_neg h1, if_pos h2] at h; omega
    · rw [if_neg h1, if_neg h2] at h; omega
theorem cbN_inj (n : Nat) {x y : Int} (hx : 0 ≤ x ∧ x ≤ 4294967295) (hy : 0 ≤ y ∧ y ≤ 4294967295) (h : cbN n x = cbN n y) : x = y := by
  induction n with
  | zero => exact h
  | succ n ih => exact ih (cb_inj (cbN_b n hx) (cbN_b n hy) h)
theorem crS_inj : ∀ (l : List Int) (x y : Int), (∀ z ∈ l, 0 ≤ z ∧ z ≤ 255) → 0 ≤ x ∧ x ≤ 4294967295 → 0 ≤ y ∧ y ≤ 4294967295 → crS l x = crS l y → x = y := by
  intro l
  induction l with
  | nil => intro x y _ _ _ h; exact h
  | cons z l ih =>
    intro x y hl hx hy h
    have hz := hl z (by simp)
    have hxb := X_b32 hx (y := z) (by omega)
    have hyb := X_b32 hy (y := z) (by omega)
    have h1 := ih _ _ (fun w hw => hl w (by simp [hw])) (cbN_b 8 hxb) (cbN_b 8 hyb) h
    exact X_inj hx hy (by omega) (cbN_inj 8 hxb hyb h1)
/-- One byte another one: another sum. -/
theorem crS_ne (pre suf : List Int) (a b x : Int) (hp : ∀ z ∈ pre, 0 ≤ z ∧ z ≤ 255) (hs : ∀ z ∈ suf, 0 ≤ z ∧ z ≤ 255) (ha : 0 ≤ a ∧ a ≤ 255) (hb : 0 ≤ b ∧ b ≤ 255) (hx : 0 ≤ x ∧ x ≤ 4294967295) (hne : a ≠ b) : crS (pre ++ a :: suf) x ≠ crS (pre ++ b :: suf) x := by
  intro h
  rw [crS_append, crS_append] at h
  have h0 := crS_b pre x hp hx
  have hA := X_b32 h0 (y := a) (by omega)
  have hB := X_b32 h0 (y := b) (by omega)
  have h1 := cbN_inj 8 hA hB (crS_inj suf _ _ hs (cbN_b 8 hA) (cbN_b 8 hB) h)
  rw [X_comm h0 (by omega), X_comm (b := b) h0 (by omega)] at h1
  exact hne (X_inj (by omega) (by omega) h0 h1)
theorem adS_inj : ∀ (l : List Int) (a b c d : Int), 0 ≤ a ∧ a ≤ 65520 → 0 ≤ c ∧ c ≤ 65520 → (adS l a b).1 = (adS l c d).1 → a = c := by
  intro l
  induction l with
  | nil => intro a b c d _ _ h; exact h
  | cons x l ih =>
    intro a b c d ha hc h
    have := ih _ _ _ _ (by omega) (by omega) h
    omega
theorem adS_ne (pre suf : List Int) (a b x y : Int) (ha : 0 ≤ a ∧ a ≤ 255) (hb : 0 ≤ b ∧ b ≤ 255) (hne : a ≠ b) : (adS (pre ++ a :: suf) x y).1 ≠ (adS (pre ++ b :: suf) x y).1 := by
  intro h
  rw [adS_append, adS_append] at h
  have := adS_inj suf _ _ _ _ (by omega) (by omega) h
  omega
theorem xor8 {a : Int} (ha : 0 ≤ a ∧ a ≤ 255) {j : Nat} (hj : j < 8) : 0 ≤ Go.bits .xor .u8 a (P2 j % 256) ∧ Go.bits .xor .u8 a (P2 j % 256) ≤ 255 ∧ Go.bits .xor .u8 a (P2 j % 256) ≠ a := by
  have : ∀ x : Fin 256, ∀ i : Fin 8, 0 ≤ Go.bits .xor .u8 ((x.1 : Nat) : Int) (P2 i.1 % 256) ∧ Go.bits .xor .u8 ((x.1 : Nat) : Int) (P2 i.1 % 256) ≤ 255 ∧ Go.bits .xor .u8 ((x.1 : Nat) : Int) (P2 i.1 % 256) ≠ ((x.1 : Nat) : Int) := by decide +kernel
  have h := this ⟨a.toNat, by omega⟩ ⟨j, hj⟩
  rw [show ((a.toNat : Nat) : Int) = a by omega] at h
  exact h
theorem split_at (L : List Int) (i : Nat) (h : i < L.length) : ∃ pre suf, L = pre ++ rd L i :: suf ∧ pre.length = i := by
  refine ⟨L.take i, L.drop (i + 1), ?_, by rw [List.length_take]; omega⟩
  have e : rd L (i : Int) = L[i] := by
    unfold rd; rw [Int.toNat_natCast, List.getD_eq_getElem?_getD, List.getElem?_eq_getElem h]; rfl
  rw [e, ← List.drop_eq_getElem_cons h, List.take_append_drop]
end Go.Proofs.Ytfladcffgblfdaa.Th
