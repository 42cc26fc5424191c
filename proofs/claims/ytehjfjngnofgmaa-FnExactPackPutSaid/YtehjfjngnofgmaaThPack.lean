/- Plain lemmas: a text packed in runs. No condition. -/
import Derived.Test.YtehjfjngnofgmaaThSame
import Derived.Test.YtehjfjngnofgmaaThNumGP
namespace Go.Proofs.Ytehjfjngnofgmaa.Th
open Go.RowKit Go.Proofs.YtehjfjngnofgmaaW.PrintWords Go.Proofs.YtehjfjngnofgmaaW.PrintMore

theorem extract_son (s : ByteArray) (a b : Nat) : s.extract a b = strOfNums (((bytesOf s).drop a).take (b - a)) := by
  rw [← bytesOf_extract, son_bytesOf]
/-- A piece, packed. -/
def ppP (L : List Int) (at_ : Int) : List Int :=
  if (cutM L at_ 3).2 = true then [257 - (cutM L at_ 3).1, rd L at_] else ((cutM L at_ 3).1 - 1) :: (L.drop at_.toNat).take (cutM L at_ 3).1.toNat
def ppM (L : List Int) : Nat → Int → List Int
  | 0, _ => []
  | f + 1, at_ => if at_ < L.length then ppP L at_ ++ ppM L f (at_ + (cutM L at_ 3).1) else []
def packM (s : ByteArray) : ByteArray := if s.size > 5000 then ⟨#[]⟩ else strOfNums (ppM (bytesOf s) s.size 0)
theorem ppP_length (L : List Int) (at_ : Int) (h0 : 0 ≤ at_) (h : at_ < L.length) : (ppP L at_).length ≤ 130 := by
  have hc := cutM_b L at_ 3 h0 h (by omega)
  unfold ppP
  split
  · simp
  · rw [List.length_cons, List.length_take]; omega
end Go.Proofs.Ytehjfjngnofgmaa.Th
