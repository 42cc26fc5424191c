/-
  No cell of these rows narrows 'for every input' (looked for: loops, veiled, ifaces, maps, wideKeys, modest, calm, conditions, laid).
  DERIVED. THE GIVEN ROWS OF THIS SEAT. 12 by the template 'for every input the law returns true; each argument reads behind the call as it read before'; 0 by the template 'total and deterministic' (their statements: YtkjfefiphdloiaaTotals.lean).
  GIVEN WITH THE SEED: the statements are not yours to turn. If you find one false, say at which input.
  Laid BY PROGRAM, IN A SANDBOX (cutbox-rows.mjs): the forced cells as the released guide's own fill.sh prints them over the translation bb6552a1814dc99e… (all of the seat's roots in one cut). By AI agents, Wed Nov 11 2026. No macro, syntax, notation, axiom, sorry.
-/
import Derived.Test.YtkjfefiphdloiaaChecked
import GoSem.Claim
import GoSem.ClaimJoined
import GoSem.ClaimMapViews
import Derived.JoinedTies
import Derived.KernelRfl
namespace Go.Proofs.Ytkjfefiphdloiaa
/- THE CELL 'sum', in the pinned program and in every row, IS THE sha256 OF THE DUMP (.gsa) THAT YtkjfefiphdloiaaProg.lean LOADS. Nothing in Lean hashes anything: it is a label: what it is worth is what the hold of that sum in a sandbox is worth. -/
noncomputable def Try.pinned : Pinned := { name := "ytkjfefiphdloiaa", sum := "bb6552a1814dc99ef788055771dadefb40203d74adcf5d0e609b5a1c902d005c", checked := Try.checked }
namespace Rows
def none {H : Type} : Left H := { results := [], args := [] }

/-- 'laws.FnExactImageOk': WHATEVER THE INPUT: true; the input reads as it did. -/
def fnExactImageOkSpec : ChangeSpec := { name := "fnExactImageOk", fn := fun _ => fun
  | [d] => { results := [.lit (.bool true)], args := [d] }
  | _ => none }
def fnExactImageOkRow : OpenClaim := { program := "ytkjfefiphdloiaa", sum := "bb6552a1814dc99ef788055771dadefb40203d74adcf5d0e609b5a1c902d005c", func := "loop.example/intarsia/laws.FnExactImageOk", spec := "fnExactImageOk", unfollowed := true, recurses := true, apart := false }
def FnExactImageOkSaid : Prop := fnExactImageOkRow.holds Try.pinned (OpenSpec.ofChange fnExactImageOkSpec)

/-- ITS FALSE NEIGHBOUR: 'it returns false'. Refute it at one input. -/
def fnExactImageOkWrong : ChangeSpec := { name := "fnExactImageOk", fn := fun _ => fun
  | [d] => { results := [.lit (.bool false)], args := [d] }
  | _ => none }
def FnExactImageOkWrongFalsely : Prop := fnExactImageOkRow.holds Try.pinned (OpenSpec.ofChange fnExactImageOkWrong)

/-- 'laws.FnExactImageAt': WHATEVER THE INPUT: true; the input reads as it did. -/
def fnExactImageAtSpec : ChangeSpec := { name := "fnExactImageAt", fn := fun _ => fun
  | [d1, d2, d3] => { results := [.lit (.bool true)], args := [d1, d2, d3] }
  | _ => none }
def fnExactImageAtRow : OpenClaim := { program := "ytkjfefiphdloiaa", sum := "bb6552a1814dc99ef788055771dadefb40203d74adcf5d0e609b5a1c902d005c", func := "loop.example/intarsia/laws.FnExactImageAt", spec := "fnExactImageAt", unfollowed := true, recurses := true, apart := false }
def FnExactImageAtSaid : Prop := fnExactImageAtRow.holds Try.pinned (OpenSpec.ofChange fnExactImageAtSpec)

/-- ITS FALSE NEIGHBOUR: 'it returns false'. Refute it at one input. -/
def fnExactImageAtWrong : ChangeSpec := { name := "fnExactImageAt", fn := fun _ => fun
  | [d1, d2, d3] => { results := [.lit (.bool false)], args := [d1, d2, d3] }
  | _ => none }
def FnExactImageAtWrongFalsely : Prop := fnExactImageAtRow.holds Try.pinned (OpenSpec.ofChange fnExactImageAtWrong)

/-- 'laws.FnExactImageLike': WHATEVER THE INPUT: true; the input reads as it did. -/
def fnExactImageLikeSpec : ChangeSpec := { name := "fnExactImageLike", fn := fun _ => fun
  | [d1, d2] => { results := [.lit (.bool true)], args := [d1, d2] }
  | _ => none }
def fnExactImageLikeRow : OpenClaim := { program := "ytkjfefiphdloiaa", sum := "bb6552a1814dc99ef788055771dadefb40203d74adcf5d0e609b5a1c902d005c", func := "loop.example/intarsia/laws.FnExactImageLike", spec := "fnExactImageLike", unfollowed := true, recurses := true, apart := false }
def FnExactImageLikeSaid : Prop := fnExactImageLikeRow.holds Try.pinned (OpenSpec.ofChange fnExactImageLikeSpec)

/-- ITS FALSE NEIGHBOUR: 'it returns false'. Refute it at one input. -/
def fnExactImageLikeWrong : ChangeSpec := { name := "fnExactImageLike", fn := fun _ => fun
  | [d1, d2] => { results := [.lit (.bool false)], args := [d1, d2] }
  | _ => none }
def FnExactImageLikeWrongFalsely : Prop := fnExactImageLikeRow.holds Try.pinned (OpenSpec.ofChange fnExactImageLikeWrong)

/-- 'laws.FnExactImageColor': WHATEVER THE INPUT: true; the input reads as it did. -/
def fnExactImageColorSpec : ChangeSpec := { name := "fnExactImageColor", fn := fun _ => fun
  | [d1, d2, d3] => { results := [.lit (.bool true)], args := [d1, d2, d3] }
  | _ => none }
def fnExactImageColorRow : OpenClaim := { program := "ytkjfefiphdloiaa", sum := "bb6552a1814dc99ef788055771dadefb40203d74adcf5d0e609b5a1c902d005c", func := "loop.example/intarsia/laws.FnExactImageColor", spec := "fnExactImageColor", unfollowed := true, recurses := true, apart := false }
def FnExactImageColorSaid : Prop := fnExactImageColorRow.holds Try.pinned (OpenSpec.ofChange fnExactImageColorSpec)

/-- ITS FALSE NEIGHBOUR: 'it returns false'. Refute it at one input. -/
def fnExactImageColorWrong : ChangeSpec := { name := "fnExactImageColor", fn := fun _ => fun
  | [d1, d2, d3] => { results := [.lit (.bool false)], args := [d1, d2, d3] }
  | _ => none }
def FnExactImageColorWrongFalsely : Prop := fnExactImageColorRow.holds Try.pinned (OpenSpec.ofChange fnExactImageColorWrong)

/-- 'laws.FnExactImageFlip': WHATEVER THE INPUT: true; the input reads as it did. -/
def fnExactImageFlipSpec : ChangeSpec := { name := "fnExactImageFlip", fn := fun _ => fun
  | [d] => { results := [.lit (.bool true)], args := [d] }
  | _ => none }
def fnExactImageFlipRow : OpenClaim := { program := "ytkjfefiphdloiaa", sum := "bb6552a1814dc99ef788055771dadefb40203d74adcf5d0e609b5a1c902d005c", func := "loop.example/intarsia/laws.FnExactImageFlip", spec := "fnExactImageFlip", unfollowed := true, recurses := true, apart := false }
def FnExactImageFlipSaid : Prop := fnExactImageFlipRow.holds Try.pinned (OpenSpec.ofChange fnExactImageFlipSpec)

/-- ITS FALSE NEIGHBOUR: 'it returns false'. Refute it at one input. -/
def fnExactImageFlipWrong : ChangeSpec := { name := "fnExactImageFlip", fn := fun _ => fun
  | [d] => { results := [.lit (.bool false)], args := [d] }
  | _ => none }
def FnExactImageFlipWrongFalsely : Prop := fnExactImageFlipRow.holds Try.pinned (OpenSpec.ofChange fnExactImageFlipWrong)

/-- 'laws.FnExactImageTurn': WHATEVER THE INPUT: true; the input reads as it did. -/
def fnExactImageTurnSpec : ChangeSpec := { name := "fnExactImageTurn", fn := fun _ => fun
  | [d] => { results := [.lit (.bool true)], args := [d] }
  | _ => none }
def fnExactImageTurnRow : OpenClaim := { program := "ytkjfefiphdloiaa", sum := "bb6552a1814dc99ef788055771dadefb40203d74adcf5d0e609b5a1c902d005c", func := "loop.example/intarsia/laws.FnExactImageTurn", spec := "fnExactImageTurn", unfollowed := true, recurses := true, apart := false }
def FnExactImageTurnSaid : Prop := fnExactImageTurnRow.holds Try.pinned (OpenSpec.ofChange fnExactImageTurnSpec)

/-- ITS FALSE NEIGHBOUR: 'it returns false'. Refute it at one input. -/
def fnExactImageTurnWrong : ChangeSpec := { name := "fnExactImageTurn", fn := fun _ => fun
  | [d] => { results := [.lit (.bool false)], args := [d] }
  | _ => none }
def FnExactImageTurnWrongFalsely : Prop := fnExactImageTurnRow.holds Try.pinned (OpenSpec.ofChange fnExactImageTurnWrong)

/-- 'laws.FnExactImageCut': WHATEVER THE INPUT: true; the input reads as it did. -/
def fnExactImageCutSpec : ChangeSpec := { name := "fnExactImageCut", fn := fun _ => fun
  | [d1, d2, d3, d4, d5] => { results := [.lit (.bool true)], args := [d1, d2, d3, d4, d5] }
  | _ => none }
def fnExactImageCutRow : OpenClaim := { program := "ytkjfefiphdloiaa", sum := "bb6552a1814dc99ef788055771dadefb40203d74adcf5d0e609b5a1c902d005c", func := "loop.example/intarsia/laws.FnExactImageCut", spec := "fnExactImageCut", unfollowed := true, recurses := true, apart := false }
def FnExactImageCutSaid : Prop := fnExactImageCutRow.holds Try.pinned (OpenSpec.ofChange fnExactImageCutSpec)

/-- ITS FALSE NEIGHBOUR: 'it returns false'. Refute it at one input. -/
def fnExactImageCutWrong : ChangeSpec := { name := "fnExactImageCut", fn := fun _ => fun
  | [d1, d2, d3, d4, d5] => { results := [.lit (.bool false)], args := [d1, d2, d3, d4, d5] }
  | _ => none }
def FnExactImageCutWrongFalsely : Prop := fnExactImageCutRow.holds Try.pinned (OpenSpec.ofChange fnExactImageCutWrong)

/-- 'laws.FnExactImageRgb': WHATEVER THE INPUT: true; the input reads as it did. -/
def fnExactImageRgbSpec : ChangeSpec := { name := "fnExactImageRgb", fn := fun _ => fun
  | [d] => { results := [.lit (.bool true)], args := [d] }
  | _ => none }
def fnExactImageRgbRow : OpenClaim := { program := "ytkjfefiphdloiaa", sum := "bb6552a1814dc99ef788055771dadefb40203d74adcf5d0e609b5a1c902d005c", func := "loop.example/intarsia/laws.FnExactImageRgb", spec := "fnExactImageRgb", unfollowed := true, recurses := true, apart := false }
def FnExactImageRgbSaid : Prop := fnExactImageRgbRow.holds Try.pinned (OpenSpec.ofChange fnExactImageRgbSpec)

/-- ITS FALSE NEIGHBOUR: 'it returns false'. Refute it at one input. -/
def fnExactImageRgbWrong : ChangeSpec := { name := "fnExactImageRgb", fn := fun _ => fun
  | [d] => { results := [.lit (.bool false)], args := [d] }
  | _ => none }
def FnExactImageRgbWrongFalsely : Prop := fnExactImageRgbRow.holds Try.pinned (OpenSpec.ofChange fnExactImageRgbWrong)

/-- 'laws.FnExactImagePal': WHATEVER THE INPUT: true; the input reads as it did. -/
def fnExactImagePalSpec : ChangeSpec := { name := "fnExactImagePal", fn := fun _ => fun
  | [d] => { results := [.lit (.bool true)], args := [d] }
  | _ => none }
def fnExactImagePalRow : OpenClaim := { program := "ytkjfefiphdloiaa", sum := "bb6552a1814dc99ef788055771dadefb40203d74adcf5d0e609b5a1c902d005c", func := "loop.example/intarsia/laws.FnExactImagePal", spec := "fnExactImagePal", unfollowed := true, recurses := true, apart := false }
def FnExactImagePalSaid : Prop := fnExactImagePalRow.holds Try.pinned (OpenSpec.ofChange fnExactImagePalSpec)

/-- ITS FALSE NEIGHBOUR: 'it returns false'. Refute it at one input. -/
def fnExactImagePalWrong : ChangeSpec := { name := "fnExactImagePal", fn := fun _ => fun
  | [d] => { results := [.lit (.bool false)], args := [d] }
  | _ => none }
def FnExactImagePalWrongFalsely : Prop := fnExactImagePalRow.holds Try.pinned (OpenSpec.ofChange fnExactImagePalWrong)

/-- 'laws.FnImageTurn': WHATEVER THE INPUT: true; the input reads as it did. -/
def fnImageTurnSpec : ChangeSpec := { name := "fnImageTurn", fn := fun _ => fun
  | [d] => { results := [.lit (.bool true)], args := [d] }
  | _ => none }
def fnImageTurnRow : OpenClaim := { program := "ytkjfefiphdloiaa", sum := "bb6552a1814dc99ef788055771dadefb40203d74adcf5d0e609b5a1c902d005c", func := "loop.example/intarsia/laws.FnImageTurn", spec := "fnImageTurn", unfollowed := true, recurses := true, apart := false }
def FnImageTurnSaid : Prop := fnImageTurnRow.holds Try.pinned (OpenSpec.ofChange fnImageTurnSpec)

/-- ITS FALSE NEIGHBOUR: 'it returns false'. Refute it at one input. -/
def fnImageTurnWrong : ChangeSpec := { name := "fnImageTurn", fn := fun _ => fun
  | [d] => { results := [.lit (.bool false)], args := [d] }
  | _ => none }
def FnImageTurnWrongFalsely : Prop := fnImageTurnRow.holds Try.pinned (OpenSpec.ofChange fnImageTurnWrong)

/-- 'laws.FnImageFlip': WHATEVER THE INPUT: true; the input reads as it did. -/
def fnImageFlipSpec : ChangeSpec := { name := "fnImageFlip", fn := fun _ => fun
  | [d] => { results := [.lit (.bool true)], args := [d] }
  | _ => none }
def fnImageFlipRow : OpenClaim := { program := "ytkjfefiphdloiaa", sum := "bb6552a1814dc99ef788055771dadefb40203d74adcf5d0e609b5a1c902d005c", func := "loop.example/intarsia/laws.FnImageFlip", spec := "fnImageFlip", unfollowed := true, recurses := true, apart := false }
def FnImageFlipSaid : Prop := fnImageFlipRow.holds Try.pinned (OpenSpec.ofChange fnImageFlipSpec)

/-- ITS FALSE NEIGHBOUR: 'it returns false'. Refute it at one input. -/
def fnImageFlipWrong : ChangeSpec := { name := "fnImageFlip", fn := fun _ => fun
  | [d] => { results := [.lit (.bool false)], args := [d] }
  | _ => none }
def FnImageFlipWrongFalsely : Prop := fnImageFlipRow.holds Try.pinned (OpenSpec.ofChange fnImageFlipWrong)

/-- 'laws.FnImageCut': WHATEVER THE INPUT: true; the input reads as it did. -/
def fnImageCutSpec : ChangeSpec := { name := "fnImageCut", fn := fun _ => fun
  | [d] => { results := [.lit (.bool true)], args := [d] }
  | _ => none }
def fnImageCutRow : OpenClaim := { program := "ytkjfefiphdloiaa", sum := "bb6552a1814dc99ef788055771dadefb40203d74adcf5d0e609b5a1c902d005c", func := "loop.example/intarsia/laws.FnImageCut", spec := "fnImageCut", unfollowed := true, recurses := true, apart := false }
def FnImageCutSaid : Prop := fnImageCutRow.holds Try.pinned (OpenSpec.ofChange fnImageCutSpec)

/-- ITS FALSE NEIGHBOUR: 'it returns false'. Refute it at one input. -/
def fnImageCutWrong : ChangeSpec := { name := "fnImageCut", fn := fun _ => fun
  | [d] => { results := [.lit (.bool false)], args := [d] }
  | _ => none }
def FnImageCutWrongFalsely : Prop := fnImageCutRow.holds Try.pinned (OpenSpec.ofChange fnImageCutWrong)

/- THE SECOND FORM. 'bulk': how many values and letters a reading holds, each counted each time it is reached (what is shared counts as often as it is met; a slice's spare places count too). A statement '..UptoSaid' is the law's where the arguments, and the package variables that the reading takes, are together of bulk at most 1048576: NARROWER than '..Said'. Prove '..Said' where nothing that the law and all that it calls make is longer than what came in: it says more and counts as full. Else prove '..UptoSaid'. A law counts once. -/
mutual
def uptoBulk {H : Type} : DataW H → Nat
  | .lit (.string bytes) => bytes.length + 1
  | .lit _ => 1
  | .nil => 1
  | .ptr d => uptoBulk d + 1
  | .slice elems spare => uptoBulkAll elems + uptoBulkAll spare + 1
  | .agg parts => uptoBulkAll parts + 1
  | .iface _ d => uptoBulk d + 1
  | .map entries => uptoBulkEntries entries + 1
  | .held _ => 1
def uptoBulkAll {H : Type} : List (DataW H) → Nat
  | [] => 0
  | d :: r => uptoBulk d + uptoBulkAll r
def uptoBulkEntries {H : Type} : List (Lit × DataW H) → Nat
  | [] => 0
  | x :: r => uptoBulkEntry x + uptoBulkEntries r
def uptoBulkEntry {H : Type} : Lit × DataW H → Nat
  | (.string bytes, d) => bytes.length + uptoBulk d + 1
  | (_, d) => uptoBulk d + 1
 end
def uptoSmall : (H : Type) → List (DataW H) → Bool := fun _ ds => decide (uptoBulkAll ds ≤ 1048576)
def OpenSpec.upto (s : _root_.Go.ChangeSpec) : _root_.Go.OpenSpec := { _root_.Go.OpenSpec.ofChange s with cond := some uptoSmall }

/-- 'laws.FnExactImageOk', WHERE WHAT IT READS IS OF BULK AT MOST 1048576: true; the input reads as it did. -/
def fnExactImageOkUptoRow : OpenClaim := { program := "ytkjfefiphdloiaa", sum := "bb6552a1814dc99ef788055771dadefb40203d74adcf5d0e609b5a1c902d005c", func := "loop.example/intarsia/laws.FnExactImageOk", spec := "fnExactImageOk", unfollowed := true, recurses := true, apart := false, narrowed := true }
def FnExactImageOkUptoSaid : Prop := fnExactImageOkUptoRow.holds Try.pinned (OpenSpec.upto fnExactImageOkSpec)

/-- 'laws.FnExactImageAt', WHERE WHAT IT READS IS OF BULK AT MOST 1048576: true; the input reads as it did. -/
def fnExactImageAtUptoRow : OpenClaim := { program := "ytkjfefiphdloiaa", sum := "bb6552a1814dc99ef788055771dadefb40203d74adcf5d0e609b5a1c902d005c", func := "loop.example/intarsia/laws.FnExactImageAt", spec := "fnExactImageAt", unfollowed := true, recurses := true, apart := false, narrowed := true }
def FnExactImageAtUptoSaid : Prop := fnExactImageAtUptoRow.holds Try.pinned (OpenSpec.upto fnExactImageAtSpec)

/-- 'laws.FnExactImageLike', WHERE WHAT IT READS IS OF BULK AT MOST 1048576: true; the input reads as it did. -/
def fnExactImageLikeUptoRow : OpenClaim := { program := "ytkjfefiphdloiaa", sum := "bb6552a1814dc99ef788055771dadefb40203d74adcf5d0e609b5a1c902d005c", func := "loop.example/intarsia/laws.FnExactImageLike", spec := "fnExactImageLike", unfollowed := true, recurses := true, apart := false, narrowed := true }
def FnExactImageLikeUptoSaid : Prop := fnExactImageLikeUptoRow.holds Try.pinned (OpenSpec.upto fnExactImageLikeSpec)

/-- 'laws.FnExactImageColor', WHERE WHAT IT READS IS OF BULK AT MOST 1048576: true; the input reads as it did. -/
def fnExactImageColorUptoRow : OpenClaim := { program := "ytkjfefiphdloiaa", sum := "bb6552a1814dc99ef788055771dadefb40203d74adcf5d0e609b5a1c902d005c", func := "loop.example/intarsia/laws.FnExactImageColor", spec := "fnExactImageColor", unfollowed := true, recurses := true, apart := false, narrowed := true }
def FnExactImageColorUptoSaid : Prop := fnExactImageColorUptoRow.holds Try.pinned (OpenSpec.upto fnExactImageColorSpec)

/-- 'laws.FnExactImageFlip', WHERE WHAT IT READS IS OF BULK AT MOST 1048576: true; the input reads as it did. -/
def fnExactImageFlipUptoRow : OpenClaim := { program := "ytkjfefiphdloiaa", sum := "bb6552a1814dc99ef788055771dadefb40203d74adcf5d0e609b5a1c902d005c", func := "loop.example/intarsia/laws.FnExactImageFlip", spec := "fnExactImageFlip", unfollowed := true, recurses := true, apart := false, narrowed := true }
def FnExactImageFlipUptoSaid : Prop := fnExactImageFlipUptoRow.holds Try.pinned (OpenSpec.upto fnExactImageFlipSpec)

/-- 'laws.FnExactImageTurn', WHERE WHAT IT READS IS OF BULK AT MOST 1048576: true; the input reads as it did. -/
def fnExactImageTurnUptoRow : OpenClaim := { program := "ytkjfefiphdloiaa", sum := "bb6552a1814dc99ef788055771dadefb40203d74adcf5d0e609b5a1c902d005c", func := "loop.example/intarsia/laws.FnExactImageTurn", spec := "fnExactImageTurn", unfollowed := true, recurses := true, apart := false, narrowed := true }
def FnExactImageTurnUptoSaid : Prop := fnExactImageTurnUptoRow.holds Try.pinned (OpenSpec.upto fnExactImageTurnSpec)

/-- 'laws.FnExactImageCut', WHERE WHAT IT READS IS OF BULK AT MOST 1048576: true; the input reads as it did. -/
def fnExactImageCutUptoRow : OpenClaim := { program := "ytkjfefiphdloiaa", sum := "bb6552a1814dc99ef788055771dadefb40203d74adcf5d0e609b5a1c902d005c", func := "loop.example/intarsia/laws.FnExactImageCut", spec := "fnExactImageCut", unfollowed := true, recurses := true, apart := false, narrowed := true }
def FnExactImageCutUptoSaid : Prop := fnExactImageCutUptoRow.holds Try.pinned (OpenSpec.upto fnExactImageCutSpec)

/-- 'laws.FnExactImageRgb', WHERE WHAT IT READS IS OF BULK AT MOST 1048576: true; the input reads as it did. -/
def fnExactImageRgbUptoRow : OpenClaim := { program := "ytkjfefiphdloiaa", sum := "bb6552a1814dc99ef788055771dadefb40203d74adcf5d0e609b5a1c902d005c", func := "loop.example/intarsia/laws.FnExactImageRgb", spec := "fnExactImageRgb", unfollowed := true, recurses := true, apart := false, narrowed := true }
def FnExactImageRgbUptoSaid : Prop := fnExactImageRgbUptoRow.holds Try.pinned (OpenSpec.upto fnExactImageRgbSpec)

/-- 'laws.FnExactImagePal', WHERE WHAT IT READS IS OF BULK AT MOST 1048576: true; the input reads as it did. -/
def fnExactImagePalUptoRow : OpenClaim := { program := "ytkjfefiphdloiaa", sum := "bb6552a1814dc99ef788055771dadefb40203d74adcf5d0e609b5a1c902d005c", func := "loop.example/intarsia/laws.FnExactImagePal", spec := "fnExactImagePal", unfollowed := true, recurses := true, apart := false, narrowed := true }
def FnExactImagePalUptoSaid : Prop := fnExactImagePalUptoRow.holds Try.pinned (OpenSpec.upto fnExactImagePalSpec)

/-- 'laws.FnImageTurn', WHERE WHAT IT READS IS OF BULK AT MOST 1048576: true; the input reads as it did. -/
def fnImageTurnUptoRow : OpenClaim := { program := "ytkjfefiphdloiaa", sum := "bb6552a1814dc99ef788055771dadefb40203d74adcf5d0e609b5a1c902d005c", func := "loop.example/intarsia/laws.FnImageTurn", spec := "fnImageTurn", unfollowed := true, recurses := true, apart := false, narrowed := true }
def FnImageTurnUptoSaid : Prop := fnImageTurnUptoRow.holds Try.pinned (OpenSpec.upto fnImageTurnSpec)

/-- 'laws.FnImageFlip', WHERE WHAT IT READS IS OF BULK AT MOST 1048576: true; the input reads as it did. -/
def fnImageFlipUptoRow : OpenClaim := { program := "ytkjfefiphdloiaa", sum := "bb6552a1814dc99ef788055771dadefb40203d74adcf5d0e609b5a1c902d005c", func := "loop.example/intarsia/laws.FnImageFlip", spec := "fnImageFlip", unfollowed := true, recurses := true, apart := false, narrowed := true }
def FnImageFlipUptoSaid : Prop := fnImageFlipUptoRow.holds Try.pinned (OpenSpec.upto fnImageFlipSpec)

/-- 'laws.FnImageCut', WHERE WHAT IT READS IS OF BULK AT MOST 1048576: true; the input reads as it did. -/
def fnImageCutUptoRow : OpenClaim := { program := "ytkjfefiphdloiaa", sum := "bb6552a1814dc99ef788055771dadefb40203d74adcf5d0e609b5a1c902d005c", func := "loop.example/intarsia/laws.FnImageCut", spec := "fnImageCut", unfollowed := true, recurses := true, apart := false, narrowed := true }
def FnImageCutUptoSaid : Prop := fnImageCutUptoRow.holds Try.pinned (OpenSpec.upto fnImageCutSpec)

end Rows
end Go.Proofs.Ytkjfefiphdloiaa
