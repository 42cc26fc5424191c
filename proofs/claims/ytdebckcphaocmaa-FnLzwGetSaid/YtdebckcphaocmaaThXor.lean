/- Plain lemmas: bit by bit unlike, of numbers that are not below 0. No condition. -/
import Derived.Test.YtdebckcphaocmaaThBase
namespace Go.Proofs.Ytdebckcphaocmaa.Th
open Go.RowKit Go.Proofs.YtdebckcphaocmaaW.PrintWords Go.Proofs.YtdebckcphaocmaaW.PrintMore

theorem xor_nat (a b : Nat) (ha : a < 2 ^ 63) (hb : b < 2 ^ 63) : Go.bits .xor .i64 (a : Int) (b : Int) = ((a ^^^ b : Nat) : Int) := by
  have hx : a ^^^ b < 2 ^ 63 := Nat.xor_lt_two_pow ha hb
  have h1 : (BitVec.ofInt 64 (a : Int)).toNat = a := by
    rw [BitVec.ofInt_natCast, BitVec.toNat_ofNat]; exact Nat.mod_eq_of_lt (by omega)
  have h2 : (BitVec.ofInt 64 (b : Int)).toNat = b := by
    rw [BitVec.ofInt_natCast, BitVec.toNat_ofNat]; exact Nat.mod_eq_of_lt (by omega)
  show IntKind.i64.wrap ((BitVec.ofInt 64 (a : Int) ^^^ BitVec.ofInt 64 (b : Int)).toNat : Int) = _
  rw [BitVec.toNat_xor, h1, h2, i64_w', w64 (by omega)]
theorem xor_int {x y : Int} (hx : 0 ≤ x ∧ x ≤ 9223372036854775807) (hy : 0 ≤ y ∧ y ≤ 9223372036854775807) : Go.bits .xor .i64 x y = ((x.toNat ^^^ y.toNat : Nat) : Int) := by
  have := xor_nat x.toNat y.toNat (by omega) (by omega)
  rw [Int.toNat_of_nonneg hx.1, Int.toNat_of_nonneg hy.1] at this
  exact this
theorem xor_b {x y : Int} (hx : 0 ≤ x ∧ x ≤ 9223372036854775807) (hy : 0 ≤ y ∧ y ≤ 9223372036854775807) : 0 ≤ Go.bits .xor .i64 x y ∧ Go.bits .xor .i64 x y ≤ 9223372036854775807 := by
  rw [xor_int hx hy]
  have : x.toNat ^^^ y.toNat < 2 ^ 63 := Nat.xor_lt_two_pow (by omega) (by omega)
  omega
end Go.Proofs.Ytdebckcphaocmaa.Th
