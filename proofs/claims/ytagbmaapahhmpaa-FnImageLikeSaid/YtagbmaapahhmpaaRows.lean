/-
  No cell of these rows narrows 'for every input' (looked for: loops, veiled, ifaces, maps, wideKeys, modest, calm, conditions, laid).
  DERIVED. THE GIVEN ROWS OF THIS SEAT. 2 by the template 'for every input the law returns true; each argument reads behind the call as it read before'; 0 by the template 'total and deterministic' (their statements: YtagbmaapahhmpaaTotals.lean).
  GIVEN WITH THE SEED: the statements are not yours to turn. If you find one false, say at which input.
  Laid BY PROGRAM, IN A SANDBOX (cutbox-rows.mjs): the forced cells as the released guide's own fill.sh prints them over the translation 73620eac148ed7ea… (all of the seat's roots in one cut). By AI agents, Wed Nov 11 2026. No macro, syntax, notation, axiom, sorry.
-/
import Derived.Test.YtagbmaapahhmpaaChecked
import GoSem.Claim
import GoSem.ClaimJoined
import GoSem.ClaimMapViews
import Derived.JoinedTies
import Derived.KernelRfl
namespace Go.Proofs.Ytagbmaapahhmpaa
/- THE CELL 'sum', in the pinned program and in every row, IS THE sha256 OF THE DUMP (.gsa) THAT YtagbmaapahhmpaaProg.lean LOADS. Nothing in Lean hashes anything: it is a label: what it is worth is what the hold of that sum in a sandbox is worth. -/
noncomputable def Try.pinned : Pinned := { name := "ytagbmaapahhmpaa", sum := "73620eac148ed7eab8d3cdd4a7f0e714df771d941f1e147c46c5923f16ba1506", checked := Try.checked }
namespace Rows
def none {H : Type} : Left H := { results := [], args := [] }

/-- 'laws.FnImagePal': WHATEVER THE INPUT: true; the input reads as it did. -/
def fnImagePalSpec : ChangeSpec := { name := "fnImagePal", fn := fun _ => fun
  | [d] => { results := [.lit (.bool true)], args := [d] }
  | _ => none }
def fnImagePalRow : OpenClaim := { program := "ytagbmaapahhmpaa", sum := "73620eac148ed7eab8d3cdd4a7f0e714df771d941f1e147c46c5923f16ba1506", func := "loop.example/intarsia/laws.FnImagePal", spec := "fnImagePal", unfollowed := true, recurses := true, apart := false }
def FnImagePalSaid : Prop := fnImagePalRow.holds Try.pinned (OpenSpec.ofChange fnImagePalSpec)

/-- ITS FALSE NEIGHBOUR: 'it returns false'. Refute it at one input. -/
def fnImagePalWrong : ChangeSpec := { name := "fnImagePal", fn := fun _ => fun
  | [d] => { results := [.lit (.bool false)], args := [d] }
  | _ => none }
def FnImagePalWrongFalsely : Prop := fnImagePalRow.holds Try.pinned (OpenSpec.ofChange fnImagePalWrong)

/-- 'laws.FnImageLike': WHATEVER THE INPUT: true; the input reads as it did. -/
def fnImageLikeSpec : ChangeSpec := { name := "fnImageLike", fn := fun _ => fun
  | [d] => { results := [.lit (.bool true)], args := [d] }
  | _ => none }
def fnImageLikeRow : OpenClaim := { program := "ytagbmaapahhmpaa", sum := "73620eac148ed7eab8d3cdd4a7f0e714df771d941f1e147c46c5923f16ba1506", func := "loop.example/intarsia/laws.FnImageLike", spec := "fnImageLike", unfollowed := true, recurses := true, apart := false }
def FnImageLikeSaid : Prop := fnImageLikeRow.holds Try.pinned (OpenSpec.ofChange fnImageLikeSpec)

/-- ITS FALSE NEIGHBOUR: 'it returns false'. Refute it at one input. -/
def fnImageLikeWrong : ChangeSpec := { name := "fnImageLike", fn := fun _ => fun
  | [d] => { results := [.lit (.bool false)], args := [d] }
  | _ => none }
def FnImageLikeWrongFalsely : Prop := fnImageLikeRow.holds Try.pinned (OpenSpec.ofChange fnImageLikeWrong)

/- THE SECOND FORM. 'bulk': how many values and letters a reading holds, each counted each time it is reached (what is shared counts as often as it is met; a slice's spare places count too). A statement '..UptoSaid' is the law's where the arguments, and the package variables that the reading takes, are together of bulk at most 1048576: NARROWER than '..Said'. Prove '..Said' where nothing that the law and all that it calls make is longer than what came in: it says more and counts as full. Else prove '..UptoSaid'. A law counts once. -/
mutual
def uptoBulk {H : Type} : DataW H → Nat
  | .lit (.string bytes) => bytes.length + 1
  | .lit _ => 1
  | .nil => 1
  | .ptr d => uptoBulk d + 1
  | .slice elems spare => uptoBulkAll elems + uptoBulkAll spare + 1
  | .agg parts => uptoBulkAll parts + 1
  | .iface _ d => uptoBulk d + 1
  | .map entries => uptoBulkEntries entries + 1
  | .held _ => 1
def uptoBulkAll {H : Type} : List (DataW H) → Nat
  | [] => 0
  | d :: r => uptoBulk d + uptoBulkAll r
def uptoBulkEntries {H : Type} : List (Lit × DataW H) → Nat
  | [] => 0
  | x :: r => uptoBulkEntry x + uptoBulkEntries r
def uptoBulkEntry {H : Type} : Lit × DataW H → Nat
  | (.string bytes, d) => bytes.length + uptoBulk d + 1
  | (_, d) => uptoBulk d + 1
 end
def uptoSmall : (H : Type) → List (DataW H) → Bool := fun _ ds => decide (uptoBulkAll ds ≤ 1048576)
def OpenSpec.upto (s : _root_.Go.ChangeSpec) : _root_.Go.OpenSpec := { _root_.Go.OpenSpec.ofChange s with cond := some uptoSmall }

/-- 'laws.FnImagePal', WHERE WHAT IT READS IS OF BULK AT MOST 1048576: true; the input reads as it did. -/
def fnImagePalUptoRow : OpenClaim := { program := "ytagbmaapahhmpaa", sum := "73620eac148ed7eab8d3cdd4a7f0e714df771d941f1e147c46c5923f16ba1506", func := "loop.example/intarsia/laws.FnImagePal", spec := "fnImagePal", unfollowed := true, recurses := true, apart := false, narrowed := true }
def FnImagePalUptoSaid : Prop := fnImagePalUptoRow.holds Try.pinned (OpenSpec.upto fnImagePalSpec)

/-- 'laws.FnImageLike', WHERE WHAT IT READS IS OF BULK AT MOST 1048576: true; the input reads as it did. -/
def fnImageLikeUptoRow : OpenClaim := { program := "ytagbmaapahhmpaa", sum := "73620eac148ed7eab8d3cdd4a7f0e714df771d941f1e147c46c5923f16ba1506", func := "loop.example/intarsia/laws.FnImageLike", spec := "fnImageLike", unfollowed := true, recurses := true, apart := false, narrowed := true }
def FnImageLikeUptoSaid : Prop := fnImageLikeUptoRow.holds Try.pinned (OpenSpec.upto fnImageLikeSpec)

end Rows
end Go.Proofs.Ytagbmaapahhmpaa
