/- Plain lemmas: numbers of bytes and of bits, as lists of bytes tell them. No condition. -/
import Derived.Test.YtdebckcphaocmaaThBase
namespace Go.Proofs.Ytdebckcphaocmaa.Th
open Go.RowKit Go.Proofs.YtdebckcphaocmaaW.PrintWords Go.Proofs.YtdebckcphaocmaaW.PrintMore

/-- The number of the first i of size bytes, from the highest on. -/
def numM (s : ByteArray) (at_ size : Int) (big : Bool) : Nat → Int
  | 0 => 0
  | i + 1 => 256 * numM s at_ size big i + bt s (if big = true then at_ + i else at_ + size - 1 - i)
theorem numM_b (s : ByteArray) (at_ size : Int) (big : Bool) (i : Nat) : 0 ≤ numM s at_ size big i ∧ numM s at_ size big i < P2 (8 * i) := by
  induction i with
  | zero => simp [numM, P2]
  | succ i ih =>
    have h := bt_range s (if big = true then at_ + i else at_ + size - 1 - i)
    have e : P2 (8 * (i + 1)) = 256 * P2 (8 * i) := by rw [show 8 * (i + 1) = 8 + 8 * i by omega, P2_add]; rfl
    simp only [numM, e]
    omega
theorem numM_b4 (s : ByteArray) (at_ size : Int) (big : Bool) (i : Nat) (h : i ≤ 4) : 0 ≤ numM s at_ size big i ∧ numM s at_ size big i < 4294967296 := by
  have h1 := numM_b s at_ size big i
  have h2 := P2_le (n := 8 * i) (m := 32) (by omega)
  rw [P2_32] at h2
  omega

/-- A bit of a text. -/
def bitM (s : ByteArray) (at_ : Int) (high : Bool) : Int := bt s (at_ / 8) / P2 (if high = true then 7 - at_ % 8 else at_ % 8).toNat % 2
theorem bitM_b (s : ByteArray) (at_ : Int) (high : Bool) : 0 ≤ bitM s at_ high ∧ bitM s at_ high ≤ 1 := by unfold bitM; omega
def bitsHi (s : ByteArray) (at_ : Int) : Nat → Int
  | 0 => 0
  | i + 1 => 2 * bitsHi s at_ i + bitM s (at_ + i) true
def bitsLo (s : ByteArray) (at_ : Int) : Nat → Int
  | 0 => 0
  | i + 1 => bitsLo s at_ i + bitM s (at_ + i) false * P2 i
def bitsM (s : ByteArray) (at_ : Int) (high : Bool) (n : Nat) : Int := if high = true then bitsHi s at_ n else bitsLo s at_ n
theorem mul01 {b x : Int} (h : 0 ≤ b ∧ b ≤ 1) : b * x = 0 ∨ b * x = x := by
  rcases (show b = 0 ∨ b = 1 by omega) with rfl | rfl
  · left; omega
  · right; omega
theorem bitsHi_b (s : ByteArray) (at_ : Int) (i : Nat) : 0 ≤ bitsHi s at_ i ∧ bitsHi s at_ i < P2 i := by
  induction i with
  | zero => simp [bitsHi, P2]
  | succ i ih =>
    have h := bitM_b s (at_ + i) true
    simp only [bitsHi, P2_succ]; omega
theorem bitsLo_b (s : ByteArray) (at_ : Int) (i : Nat) : 0 ≤ bitsLo s at_ i ∧ bitsLo s at_ i < P2 i := by
  induction i with
  | zero => simp [bitsLo, P2]
  | succ i ih =>
    have h := mul01 (x := P2 i) (bitM_b s (at_ + i) false)
    have hp := P2_pos i
    simp only [bitsLo, P2_succ]; omega
theorem bitsM_b (s : ByteArray) (at_ : Int) (high : Bool) (i : Nat) : 0 ≤ bitsM s at_ high i ∧ bitsM s at_ high i < P2 i := by
  unfold bitsM
  split
  · exact bitsHi_b s at_ i
  · exact bitsLo_b s at_ i
theorem bitsHi_add (s : ByteArray) (at_ : Int) (a b : Nat) : bitsHi s at_ (a + b) = bitsHi s at_ a * P2 b + bitsHi s (at_ + a) b := by
  induction b with
  | zero => simp [bitsHi, P2_zero]
  | succ b ih =>
    rw [show a + (b + 1) = (a + b) + 1 by omega]
    simp only [bitsHi, P2_succ, ih]
    rw [show at_ + ((a + b : Nat) : Int) = at_ + (a : Int) + (b : Int) by omega, Int.mul_add, Int.mul_left_comm, Int.add_assoc]
theorem bitsLo_add (s : ByteArray) (at_ : Int) (a b : Nat) : bitsLo s at_ (a + b) = bitsLo s at_ a + bitsLo s (at_ + a) b * P2 a := by
  induction b with
  | zero => simp [bitsLo]
  | succ b ih =>
    rw [show a + (b + 1) = (a + b) + 1 by omega]
    simp only [bitsLo, ih]
    rw [show at_ + ((a + b : Nat) : Int) = at_ + (a : Int) + (b : Int) by omega, Int.add_mul, P2_add, Int.mul_assoc, Int.mul_comm (P2 b), Int.add_assoc]
end Go.Proofs.Ytdebckcphaocmaa.Th
