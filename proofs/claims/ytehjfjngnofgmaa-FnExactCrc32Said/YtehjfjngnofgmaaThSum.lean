/- Plain lemmas: the two sums of a text. No condition. -/
import Derived.Test.YtehjfjngnofgmaaThXor
import Derived.Test.YtehjfjngnofgmaaThStr
namespace Go.Proofs.Ytehjfjngnofgmaa.Th
open Go.RowKit Go.Proofs.YtehjfjngnofgmaaW.PrintWords Go.Proofs.YtehjfjngnofgmaaW.PrintMore

def adS : List Int → Int → Int → Int × Int
  | [], a, b => (a, b)
  | x :: l, a, b => adS l ((a + x) % 65521) ((b + (a + x) % 65521) % 65521)
theorem adS_b : ∀ (l : List Int) (a b : Int), 0 ≤ a ∧ a ≤ 65520 → 0 ≤ b ∧ b ≤ 65520 → (0 ≤ (adS l a b).1 ∧ (adS l a b).1 ≤ 65520) ∧ (0 ≤ (adS l a b).2 ∧ (adS l a b).2 ≤ 65520) := by
  intro l
  induction l with
  | nil => intro a b ha hb; exact ⟨ha, hb⟩
  | cons x l ih => intro a b ha hb; exact ih _ _ (by omega) (by omega)
theorem adS_append : ∀ (l m : List Int) (a b : Int), adS (l ++ m) a b = adS m (adS l a b).1 (adS l a b).2 := by
  intro l
  induction l with
  | nil => intro m a b; rfl
  | cons x l ih => intro m a b; exact ih _ _ _
def adOk (sum : Int) (s : ByteArray) : Bool := decide (0 ≤ sum ∧ sum ≤ 4294967295 ∧ sum % 65536 ≤ 65520 ∧ sum / 65536 ≤ 65520 ∧ s.size ≤ 9000)
def adlerM (sum : Int) (s : ByteArray) : Int := if adOk sum s = true then 65536 * (adS (bytesOf s) (sum % 65536) (sum / 65536)).2 + (adS (bytesOf s) (sum % 65536) (sum / 65536)).1 else 0

/-- Bit by bit unlike. -/
def X (a b : Int) : Int := Go.bits .xor .i64 a b
theorem X_int {x y : Int} (hx : 0 ≤ x ∧ x ≤ 9223372036854775807) (hy : 0 ≤ y ∧ y ≤ 9223372036854775807) : X x y = ((x.toNat ^^^ y.toNat : Nat) : Int) := xor_int hx hy
theorem X_b32 {x y : Int} (hx : 0 ≤ x ∧ x ≤ 4294967295) (hy : 0 ≤ y ∧ y ≤ 4294967295) : 0 ≤ X x y ∧ X x y ≤ 4294967295 := by
  rw [X_int (by omega) (by omega)]
  have : x.toNat ^^^ y.toNat < 2 ^ 32 := Nat.xor_lt_two_pow (by omega) (by omega)
  omega
def cb (x : Int) : Int := if x % 2 = 1 then X (x / 2) 3988292384 else x / 2
theorem cb_b {x : Int} (hx : 0 ≤ x ∧ x ≤ 4294967295) : 0 ≤ cb x ∧ cb x ≤ 4294967295 := by
  unfold cb
  split
  · exact X_b32 (by omega) (by omega)
  · omega
def cbN : Nat → Int → Int
  | 0, x => x
  | n + 1, x => cb (cbN n x)
theorem cbN_b (n : Nat) {x : Int} (hx : 0 ≤ x ∧ x ≤ 4294967295) : 0 ≤ cbN n x ∧ cbN n x ≤ 4294967295 := by
  induction n with
  | zero => exact hx
  | succ n ih => exact cb_b ih
def crS : List Int → Int → Int
  | [], x => x
  | y :: l, x => crS l (cbN 8 (X x y))
theorem crS_b : ∀ (l : List Int) (x : Int), (∀ y ∈ l, 0 ≤ y ∧ y ≤ 255) → 0 ≤ x ∧ x ≤ 4294967295 → 0 ≤ crS l x ∧ crS l x ≤ 4294967295 := by
  intro l
  induction l with
  | nil => intro x _ hx; exact hx
  | cons y l ih =>
    intro x hl hx
    have hy := hl y (by simp)
    exact ih _ (fun z hz => hl z (by simp [hz])) (cbN_b 8 (X_b32 hx (by omega)))
theorem crS_append : ∀ (l m : List Int) (x : Int), crS (l ++ m) x = crS m (crS l x) := by
  intro l
  induction l with
  | nil => intro m x; rfl
  | cons y l ih => intro m x; exact ih _ _
def crOk (sum : Int) (s : ByteArray) : Bool := decide (0 ≤ sum ∧ sum ≤ 4294967295 ∧ s.size ≤ 9000)
def crcM (sum : Int) (s : ByteArray) : Int := if crOk sum s = true then X (crS (bytesOf s) (X sum 4294967295)) 4294967295 else 0
end Go.Proofs.Ytehjfjngnofgmaa.Th
