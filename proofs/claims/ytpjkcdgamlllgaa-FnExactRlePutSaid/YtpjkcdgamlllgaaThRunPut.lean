/- Plain lemmas: numbers packed in packets. No condition. -/
import Derived.Test.YtpjkcdgamlllgaaThSame
namespace Go.Proofs.Ytpjkcdgamlllgaa.Th
open Go.RowKit Go.Proofs.YtpjkcdgamlllgaaW.PrintWords Go.Proofs.YtpjkcdgamlllgaaW.PrintMore

/-- The bytes of the first j numbers from a place on. -/
def nmM (L : List Int) (at_ : Int) (size : Nat) : Nat → List Int
  | 0 => []
  | j + 1 => nmM L at_ size j ++ bytesLo (rd L (at_ + j)) size
theorem nmM_length (L : List Int) (at_ : Int) (size : Nat) (j : Nat) : (nmM L at_ size j).length = j * size := by
  induction j with
  | zero => simp [nmM]
  | succ j ih => simp only [nmM, List.length_append, ih, bytesLo_length, Nat.succ_mul]
/-- A piece, packed. -/
def pieceM (L : List Int) (at_ : Int) (size : Nat) : List Int :=
  if (cutM L at_ 2).2 = true then (127 + (cutM L at_ 2).1) :: nmM L at_ size 1 else ((cutM L at_ 2).1 - 1) :: nmM L at_ size (cutM L at_ 2).1.toNat
def rpM (L : List Int) (size : Nat) : Nat → Int → List Int
  | 0, _ => []
  | f + 1, at_ => if at_ < L.length then pieceM L at_ size ++ rpM L size f (at_ + (cutM L at_ 2).1) else []
def runPutOk (L : List Int) (size : Int) : Bool := decide ((1 ≤ size ∧ size ≤ 4) ∧ L.length ≤ 1000 ∧ ∀ x ∈ L, 0 ≤ x ∧ x ≤ P2 (8 * size).toNat - 1)
def runPutM (L : List Int) (size : Int) : ByteArray := if runPutOk L size = true then strOfNums (rpM L size.toNat L.length 0) else ⟨#[]⟩
theorem pieceM_length (L : List Int) (at_ : Int) (size : Nat) (hs : size ≤ 4) (h0 : 0 ≤ at_) (h : at_ < L.length) : (pieceM L at_ size).length ≤ 513 := by
  have hc := cutM_b L at_ 2 h0 h (by omega)
  unfold pieceM
  split
  · rw [List.length_cons, nmM_length]; omega
  · rw [List.length_cons, nmM_length]
    have : (cutM L at_ 2).1.toNat * size ≤ 128 * 4 := Nat.mul_le_mul (by omega) hs
    omega
end Go.Proofs.Ytpjkcdgamlllgaa.Th
