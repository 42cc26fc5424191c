/- Plain lemmas: the bytes of a number. No condition. -/
import Derived.Test.YtpjkcdgamlllgaaThStr
namespace Go.Proofs.Ytpjkcdgamlllgaa.Th
open Go.RowKit Go.Proofs.YtpjkcdgamlllgaaW.PrintWords Go.Proofs.YtpjkcdgamlllgaaW.PrintMore

/-- The lowest i bytes of a number, the lowest first. -/
def bytesLo (n : Int) : Nat → List Int
  | 0 => []
  | i + 1 => bytesLo n i ++ [n / P2 (8 * i) % 256]
theorem bytesLo_length (n : Int) (i : Nat) : (bytesLo n i).length = i := by
  induction i with
  | zero => rfl
  | succ i ih => simp [bytesLo, ih]
theorem bytesLo_b (n : Int) (i : Nat) : ∀ x ∈ bytesLo n i, 0 ≤ x ∧ x ≤ 255 := by
  induction i with
  | zero => simp [bytesLo]
  | succ i ih =>
    intro x hx
    simp only [bytesLo, List.mem_append, List.mem_singleton] at hx
    rcases hx with hx | rfl
    · exact ih x hx
    · omega
def numPutM (n : Int) (size : Nat) (big : Bool) : ByteArray := strOfNums (if big = true then (bytesLo n size).reverse else bytesLo n size)
end Go.Proofs.Ytpjkcdgamlllgaa.Th
