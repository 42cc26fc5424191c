/- Plain lemmas: the two sums of a text. No condition. -/
import Derived.Test.YtfladcffgblfdaaThXor
import Derived.Test.YtfladcffgblfdaaThStr
namespace Go.Proofs.Ytfladcffgblfdaa.Th
open Go.RowKit Go.Proofs.YtfladcffgblfdaaW.PrintWords Go.Proofs.YtfladcffgblfdaaW.PrintMore

def adS : List Int → Int → Int → Int × Int
  | [], a, b => (a, b)
  | x :: l, a, b => adS l ((a + x) % 65521) ((b + (a + x) % 65521) % 65521)
theorem adS_b : ∀ (l : List Int) (a b : Int), 0 ≤ a ∧ a ≤ 65520 → 0 ≤ b ∧ b ≤ 65520 → (0 ≤ (adS l a b).1 ∧ (adS l a b).1 ≤ 65520) ∧ (0 ≤ (adS l a b).2 ∧ (adS l a b).2 ≤ 65520) := by
  intro l
  induction l with
  | nil => intro a b ha hb; exact ⟨ha, hb⟩
  | cons x l ih => intro a b ha hb; exact ih _ _ (by omega) (by omega)
theorem adS_append : ∀ (l m : List Int) (a b : Int), adS (l ++ m) a b = adS m (adS l a b).1 (adS l a b).2 := by
  intro l
  induction l with
  | nil => intro m a b; rfl
  | cons x l ih => intro m a b; exact ih _ _ _
def adOk (sum : Int) (s : ByteArray) : Bool := decide (0 ≤ sum ∧ sum ≤ 4294967295 ∧ sum % 65536 ≤ 65520 ∧ sum / 65536 ≤ 65520 ∧ s.size ≤ 9000)
def adlerM (sum : Int) (s : ByteArray) : Int := if adOk sum s = true then 65536 * (adS (bytesOf s) (sum % 65536) (sum / 65536)).2 + (adS (bytesOf s) (sum % 65536) (sum / 65536)).1 else 0

/-- Bit by bit unlike. -/
def X (a b : Int) : Int := Go.bits .xor .i64 a b
theorem X_int {x y : Int} (hx : 0 ≤ x ∧ x ≤ 9223372036854775807) (hy : 0 ≤ y ∧ y ≤ 9223372036854775807) : X x y = ((x.toNat ^^^ y.toNat : Nat) : Int) := xor_int hx hy
theorem X_b32 {x y : Int} (hx : 0 ≤ x ∧ x ≤ 4294967295) (hy : 0 ≤ y ∧ y ≤ 4294967295) : 0 ≤ X x y ∧ X x y ≤ 4294967295 := by
  rw [X_int (by omega) (by omega)]
  have : x.toNat ^^^ y.toNat < 2 ^ 32 := Nat.xor_lt_two_pow (by omega) (by omega)
  omega
def cb (x : Int) : Int := if x % 2 = 1 then X (x / 2) 3988292384 else x / 2
theorem cb_b {x : Int} (hx : 0 ≤ x ∧ x ≤ 4294967295) : 0 ≤ cb x ∧ cb x ≤ 4294967295 := by
  unfold cb
  split
  · exact X_b32 (by omega) (by omega)
  · omega
def cbN : Nat → Int → Int
  | 0, x => x
  | n + 1, x => cb (cbN n x)
theorem cbN_b (n : Nat) {x : Int} (hx : 0 ≤ x ∧ x ≤ 4294967295) : 0 ≤ cbN n x ∧ cbN n x ≤ 4294967295 := by
  induction n with
  | zero => exact hx
  | succ n ih => exact cb_b ih
def crS : List Int → Int → Int
  | [], x => x
  | y :: l, x => crS l (cbN 8 (X x y))
theorem crS_b : ∀ (l : List Int) (x : Int), (∀ y ∈ l, 0 ≤ y ∧ y ≤ 255) → 0 ≤ x ∧ x ≤ 4294967295 → 0 ≤ crS l x ∧ crS l x ≤ 4294967295 := by
  intro l
  induction l with
  | nil => intro x _ hx; exact hx
  | cons y l ih =>
    intro x hl hx
    have hy := hl y (by simp)
    exact ih _ (fun z hz => hl z (by simp [hz])) (cbN_b 8 (X_b32 hx (by omega)))
theorem crS_append : ∀ (l m : List Int) (x : Int), crS (l ++ m) x = crS m (crS l x) := by
  intro l
  induction l with
  | nil => intro m x; rfl
  | cons y l ih => intro m x; exact ih _ _
def crOk (sum : Int) (s : ByteArray) : Bool := decide (0 ≤ sum ∧ sum ≤ 4294967295 ∧ s.size ≤ 9000)
def crcM (sum : Int) (s : ByteArray) : Int := if crOk sum s = true then X (crS (bytesOf s) (X sum 4294967295)) 4294967295 else 0
theorem X_cancel {a b : Int} (ha : 0 ≤ a ∧ a ≤ 4294967295) (hb : 0 ≤ b ∧ b ≤ 4294967295) : X (X a b) b = a := by
  have h := X_b32 ha hb
  rw [X_int (by omega) (by omega), X_int (by omega) (by omega), Int.toNat_natCast, Nat.xor_assoc, Nat.xor_self, Nat.xor_zero]
  omega
theorem crcM_b (sum : Int) (s : ByteArray) : 0 ≤ crcM sum s ∧ crcM sum s ≤ 4294967295 := by
  unfold crcM
  split
  · rename_i h
    have hh := of_decide_eq_true h
    exact X_b32 (crS_b _ _ (fun y hy => bytesOf_b s y hy) (X_b32 ⟨hh.1, hh.2.1⟩ (by omega))) (by omega)
  · omega
theorem crcM_append (sum : Int) (s t : ByteArray) (h0 : 0 ≤ sum ∧ sum ≤ 4294967295) (h : s.size + t.size ≤ 9000) : crcM sum (s ++ t) = crcM (crcM sum s) t := by
  have hb := crcM_b sum s
  have e1 : crOk sum (s ++ t) = true := decide_eq_true ⟨h0.1, h0.2, by rw [ByteArray.size_append]; omega⟩
  have e2 : crOk sum s = true := decide_eq_true ⟨h0.1, h0.2, by omega⟩
  have e3 : crOk (crcM sum s) t = true := decide_eq_true ⟨hb.1, hb.2, by omega⟩
  have hc := crS_b (bytesOf s) (X sum 4294967295) (fun y hy => bytesOf_b s y hy) (X_b32 h0 (by omega))
  have e4 : crcM sum s = X (crS (bytesOf s) (X sum 4294967295)) 4294967295 := by unfold crcM; rw [if_pos e2]
  unfold crcM at e3 ⊢
  rw [if_pos e1, if_pos e2] at *
  rw [if_pos e3, X_cancel hc (by omega), bytesOf_append, crS_append]
theorem adlerM_b (sum : Int) (s : ByteArray) : 0 ≤ adlerM sum s ∧ adlerM sum s ≤ 4294967295 := by
  unfold adlerM
  split
  · rename_i h
    have hh := of_decide_eq_true h
    have := adS_b (bytesOf s) (sum % 65536) (sum / 65536) (by omega) (by omega)
    omega
  · omega
theorem adlerM_append (sum : Int) (s t : ByteArray) (h : s.size + t.size ≤ 9000) (hs : adOk sum s = true) : adlerM sum (s ++ t) = adlerM (adlerM sum s) t := by
  have hh := of_decide_eq_true hs
  have hb := adS_b (bytesOf s) (sum % 65536) (sum / 65536) (by omega) (by omega)
  have e1 : adOk sum (s ++ t) = true := decide_eq_true ⟨hh.1, hh.2.1, hh.2.2.1, hh.2.2.2.1, by rw [ByteArray.size_append]; omega⟩
  have e4 : adlerM sum s = 65536 * (adS (bytesOf s) (sum % 65536) (sum / 65536)).2 + (adS (bytesOf s) (sum % 65536) (sum / 65536)).1 := by unfold adlerM; rw [if_pos hs]
  have m1 : adlerM sum s % 65536 = (adS (bytesOf s) (sum % 65536) (sum / 65536)).1 := by rw [e4]; omega
  have m2 : adlerM sum s / 65536 = (adS (bytesOf s) (sum % 65536) (sum / 65536)).2 := by rw [e4]; omega
  have e3 : adOk (adlerM sum s) t = true := decide_eq_true ⟨by omega, by omega, by omega, by omega, by omega⟩
  generalize adlerM sum s = z at *
  unfold adlerM
  rw [if_pos e1, if_pos e3, m1, m2, bytesOf_append, adS_append]
end Go.Proofs.Ytfladcffgblfdaa.Th
