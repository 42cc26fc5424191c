/- Plain lemmas: packets of numbers, read. No condition. -/
import Derived.Test.YtfladcffgblfdaaThNum
import Derived.Test.YtfladcffgblfdaaThStr
namespace Go.Proofs.Ytfladcffgblfdaa.Th
open Go.RowKit Go.Proofs.YtfladcffgblfdaaW.PrintWords Go.Proofs.YtfladcffgblfdaaW.PrintMore

def numA (s : ByteArray) (at_ size : Int) : Int := numM s at_ size false size.toNat
/-- The first j numbers of a packet. -/
def pkM (s : ByteArray) (at_ size : Int) (same : Bool) : Nat → List Int
  | 0 => []
  | j + 1 => pkM s at_ size same j ++ [numA s (if same = true then at_ else at_ + j * size) size]
theorem pkM_length (s : ByteArray) (at_ size : Int) (same : Bool) (j : Nat) : (pkM s at_ size same j).length = j := by
  induction j with
  | zero => rfl
  | succ j ih => simp [pkM, ih]
def pkN (b : Int) : Int := b % 128 + 1
def pkNeed (b size : Int) : Int := if 128 ≤ b then size else pkN b * size
def runM (s : ByteArray) (size count : Int) : Nat → Int → List Int → List Int × Int × Bool
  | 0, at_, out => (out, at_, true)
  | f + 1, at_, out =>
    if (out.length : Int) < count then
      if at_ < s.size then
        if at_ + 1 + pkNeed (bt s at_) size ≤ s.size ∧ (out.length : Int) + pkN (bt s at_) ≤ count then
          runM s size count f (at_ + 1 + pkNeed (bt s at_) size) (out ++ pkM s (at_ + 1) size (decide (128 ≤ bt s at_)) (pkN (bt s at_)).toNat)
        else ([], 0, false)
      else ([], 0, false)
    else (out, at_, true)
def runOk (s : ByteArray) (at_ size count : Int) : Bool := decide ((1 ≤ size ∧ size ≤ 4) ∧ (0 ≤ count ∧ count ≤ 1000) ∧ s.size ≤ 9000 ∧ (0 ≤ at_ ∧ at_ ≤ s.size))
def runGetM (s : ByteArray) (at_ size count : Int) : List Int × Int × Bool := if runOk s at_ size count = true then runM s size count count.toNat at_ [] else ([], 0, false)
theorem runM_length (s : ByteArray) (size count : Int) (hc : 0 ≤ count) : ∀ (f : Nat) (at_ : Int) (out : List Int), (out.length : Int) ≤ count → ((runM s size count f at_ out).1.length : Int) ≤ count := by
  intro f
  induction f with
  | zero => intro at_ out h; simpa [runM] using h
  | succ f ih =>
    intro at_ out h
    have hb := bt_range s at_
    simp only [runM]
    split
    · split
      · split
        · rename_i hh
          apply ih
          rw [List.length_append, pkM_length]
          unfold pkN at hh ⊢; omega
        · simpa using hc
      · simpa using hc
    · exact h
theorem runGetM_length (s : ByteArray) (at_ size count : Int) : (runGetM s at_ size count).1.length ≤ 1000 := by
  unfold runGetM; split
  · rename_i h
    have hh := of_decide_eq_true h
    have := runM_length s size count hh.2.1.1 count.toNat at_ [] (by simpa using hh.2.1.1)
    omega
  · simp
theorem mul_le4 {n size : Int} (hn : 0 ≤ n ∧ n ≤ 128) (hs : 1 ≤ size ∧ size ≤ 4) : 0 ≤ n * size ∧ n * size ≤ 512 ∧ n ≤ n * size :=
  ⟨Int.mul_nonneg hn.1 (by omega), Int.mul_le_mul hn.2 hs.2 (by omega) (by omega), by have := Int.mul_le_mul_of_nonneg_left hs.1 hn.1; omega⟩
theorem mul_step {j n : Nat} {size : Int} (h : j + 1 ≤ n) (hs : 1 ≤ size) : (j : Int) * size + size ≤ n * size ∧ 0 ≤ (j : Int) * size := by
  have h1 : ((j : Int) + 1) * size ≤ (n : Int) * size := Int.mul_le_mul_of_nonneg_right (by omega) (by omega)
  rw [Int.add_mul, Int.one_mul] at h1
  exact ⟨h1, Int.mul_nonneg (by omega) (by omega)⟩
end Go.Proofs.Ytfladcffgblfdaa.Th
