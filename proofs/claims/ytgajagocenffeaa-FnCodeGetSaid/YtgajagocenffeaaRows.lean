/-
  No cell of these rows narrows 'for every input' (looked for: loops, veiled, ifaces, maps, wideKeys, modest, calm, conditions, laid).
  DERIVED. THE GIVEN ROWS OF THIS SEAT. 7 by the template 'for every input the law returns true; each argument reads behind the call as it read before'; 0 by the template 'total and deterministic' (their statements: YtgajagocenffeaaTotals.lean).
  GIVEN WITH THE SEED: the statements are not yours to turn. If you find one false, say at which input.
  Laid BY PROGRAM, IN A SANDBOX (cutbox-rows.mjs): the forced cells as the released guide's own fill.sh prints them over the translation 48059008df333317… (all of the seat's roots in one cut). By AI agents, Wed Nov 11 2026. No macro, syntax, notation, axiom, sorry.
-/
import Derived.Test.YtgajagocenffeaaChecked
import GoSem.Claim
import GoSem.ClaimJoined
import GoSem.ClaimMapViews
import Derived.JoinedTies
import Derived.KernelRfl
namespace Go.Proofs.Ytgajagocenffeaa
/- THE CELL 'sum', in the pinned program and in every row, IS THE sha256 OF THE DUMP (.gsa) THAT YtgajagocenffeaaProg.lean LOADS. Nothing in Lean hashes anything: it is a label: what it is worth is what the hold of that sum in a sandbox is worth. -/
noncomputable def Try.pinned : Pinned := { name := "ytgajagocenffeaa", sum := "48059008df33331782fe714b77f39008abf155df158a9d380f176c5fb835d9ad", checked := Try.checked }
namespace Rows
def none {H : Type} : Left H := { results := [], args := [] }

/-- 'laws.FnExactCodeFit': WHATEVER THE INPUT: true; the input reads as it did. -/
def fnExactCodeFitSpec : ChangeSpec := { name := "fnExactCodeFit", fn := fun _ => fun
  | [d1, d2] => { results := [.lit (.bool true)], args := [d1, d2] }
  | _ => none }
def fnExactCodeFitRow : OpenClaim := { program := "ytgajagocenffeaa", sum := "48059008df33331782fe714b77f39008abf155df158a9d380f176c5fb835d9ad", func := "loop.example/intarsia/laws.FnExactCodeFit", spec := "fnExactCodeFit", unfollowed := true, recurses := true, plainKeys := false, apart := false }
def FnExactCodeFitSaid : Prop := fnExactCodeFitRow.holds Try.pinned (OpenSpec.ofChange fnExactCodeFitSpec)

/-- ITS FALSE NEIGHBOUR: 'it returns false'. Refute it at one input. -/
def fnExactCodeFitWrong : ChangeSpec := { name := "fnExactCodeFit", fn := fun _ => fun
  | [d1, d2] => { results := [.lit (.bool false)], args := [d1, d2] }
  | _ => none }
def FnExactCodeFitWrongFalsely : Prop := fnExactCodeFitRow.holds Try.pinned (OpenSpec.ofChange fnExactCodeFitWrong)

/-- 'laws.FnCodeFit': WHATEVER THE INPUT: true; the input reads as it did. -/
def fnCodeFitSpec : ChangeSpec := { name := "fnCodeFit", fn := fun _ => fun
  | [d] => { results := [.lit (.bool true)], args := [d] }
  | _ => none }
def fnCodeFitRow : OpenClaim := { program := "ytgajagocenffeaa", sum := "48059008df33331782fe714b77f39008abf155df158a9d380f176c5fb835d9ad", func := "loop.example/intarsia/laws.FnCodeFit", spec := "fnCodeFit", unfollowed := true, recurses := true, plainKeys := false, apart := false }
def FnCodeFitSaid : Prop := fnCodeFitRow.holds Try.pinned (OpenSpec.ofChange fnCodeFitSpec)

/-- ITS FALSE NEIGHBOUR: 'it returns false'. Refute it at one input. -/
def fnCodeFitWrong : ChangeSpec := { name := "fnCodeFit", fn := fun _ => fun
  | [d] => { results := [.lit (.bool false)], args := [d] }
  | _ => none }
def FnCodeFitWrongFalsely : Prop := fnCodeFitRow.holds Try.pinned (OpenSpec.ofChange fnCodeFitWrong)

/-- 'laws.FnCodeBest': WHATEVER THE INPUT: true; the input reads as it did. -/
def fnCodeBestSpec : ChangeSpec := { name := "fnCodeBest", fn := fun _ => fun
  | [d1, d2] => { results := [.lit (.bool true)], args := [d1, d2] }
  | _ => none }
def fnCodeBestRow : OpenClaim := { program := "ytgajagocenffeaa", sum := "48059008df33331782fe714b77f39008abf155df158a9d380f176c5fb835d9ad", func := "loop.example/intarsia/laws.FnCodeBest", spec := "fnCodeBest", unfollowed := true, recurses := true, plainKeys := false, apart := false }
def FnCodeBestSaid : Prop := fnCodeBestRow.holds Try.pinned (OpenSpec.ofChange fnCodeBestSpec)

/-- ITS FALSE NEIGHBOUR: 'it returns false'. Refute it at one input. -/
def fnCodeBestWrong : ChangeSpec := { name := "fnCodeBest", fn := fun _ => fun
  | [d1, d2] => { results := [.lit (.bool false)], args := [d1, d2] }
  | _ => none }
def FnCodeBestWrongFalsely : Prop := fnCodeBestRow.holds Try.pinned (OpenSpec.ofChange fnCodeBestWrong)

/-- 'laws.FnCodeMake': WHATEVER THE INPUT: true; the input reads as it did. -/
def fnCodeMakeSpec : ChangeSpec := { name := "fnCodeMake", fn := fun _ => fun
  | [d] => { results := [.lit (.bool true)], args := [d] }
  | _ => none }
def fnCodeMakeRow : OpenClaim := { program := "ytgajagocenffeaa", sum := "48059008df33331782fe714b77f39008abf155df158a9d380f176c5fb835d9ad", func := "loop.example/intarsia/laws.FnCodeMake", spec := "fnCodeMake", plainKeys := false, apart := false }
def FnCodeMakeSaid : Prop := fnCodeMakeRow.holds Try.pinned (OpenSpec.ofChange fnCodeMakeSpec)

/-- ITS FALSE NEIGHBOUR: 'it returns false'. Refute it at one input. -/
def fnCodeMakeWrong : ChangeSpec := { name := "fnCodeMake", fn := fun _ => fun
  | [d] => { results := [.lit (.bool false)], args := [d] }
  | _ => none }
def FnCodeMakeWrongFalsely : Prop := fnCodeMakeRow.holds Try.pinned (OpenSpec.ofChange fnCodeMakeWrong)

/-- 'laws.FnExactCodeGet': WHATEVER THE INPUT: true; the input reads as it did. -/
def fnExactCodeGetSpec : ChangeSpec := { name := "fnExactCodeGet", fn := fun _ => fun
  | [d1, d2, d3] => { results := [.lit (.bool true)], args := [d1, d2, d3] }
  | _ => none }
def fnExactCodeGetRow : OpenClaim := { program := "ytgajagocenffeaa", sum := "48059008df33331782fe714b77f39008abf155df158a9d380f176c5fb835d9ad", func := "loop.example/intarsia/laws.FnExactCodeGet", spec := "fnExactCodeGet", plainKeys := false, apart := false }
def FnExactCodeGetSaid : Prop := fnExactCodeGetRow.holds Try.pinned (OpenSpec.ofChange fnExactCodeGetSpec)

/-- ITS FALSE NEIGHBOUR: 'it returns false'. Refute it at one input. -/
def fnExactCodeGetWrong : ChangeSpec := { name := "fnExactCodeGet", fn := fun _ => fun
  | [d1, d2, d3] => { results := [.lit (.bool false)], args := [d1, d2, d3] }
  | _ => none }
def FnExactCodeGetWrongFalsely : Prop := fnExactCodeGetRow.holds Try.pinned (OpenSpec.ofChange fnExactCodeGetWrong)

/-- 'laws.FnCodeGet': WHATEVER THE INPUT: true; the input reads as it did. -/
def fnCodeGetSpec : ChangeSpec := { name := "fnCodeGet", fn := fun _ => fun
  | [d] => { results := [.lit (.bool true)], args := [d] }
  | _ => none }
def fnCodeGetRow : OpenClaim := { program := "ytgajagocenffeaa", sum := "48059008df33331782fe714b77f39008abf155df158a9d380f176c5fb835d9ad", func := "loop.example/intarsia/laws.FnCodeGet", spec := "fnCodeGet", plainKeys := false, apart := false }
def FnCodeGetSaid : Prop := fnCodeGetRow.holds Try.pinned (OpenSpec.ofChange fnCodeGetSpec)

/-- ITS FALSE NEIGHBOUR: 'it returns false'. Refute it at one input. -/
def fnCodeGetWrong : ChangeSpec := { name := "fnCodeGet", fn := fun _ => fun
  | [d] => { results := [.lit (.bool false)], args := [d] }
  | _ => none }
def FnCodeGetWrongFalsely : Prop := fnCodeGetRow.holds Try.pinned (OpenSpec.ofChange fnCodeGetWrong)

/-- 'laws.FnCodeFull': WHATEVER THE INPUT: true; the input reads as it did. -/
def fnCodeFullSpec : ChangeSpec := { name := "fnCodeFull", fn := fun _ => fun
  | [d1, d2] => { results := [.lit (.bool true)], args := [d1, d2] }
  | _ => none }
def fnCodeFullRow : OpenClaim := { program := "ytgajagocenffeaa", sum := "48059008df33331782fe714b77f39008abf155df158a9d380f176c5fb835d9ad", func := "loop.example/intarsia/laws.FnCodeFull", spec := "fnCodeFull", plainKeys := false, apart := false }
def FnCodeFullSaid : Prop := fnCodeFullRow.holds Try.pinned (OpenSpec.ofChange fnCodeFullSpec)

/-- ITS FALSE NEIGHBOUR: 'it returns false'. Refute it at one input. -/
def fnCodeFullWrong : ChangeSpec := { name := "fnCodeFull", fn := fun _ => fun
  | [d1, d2] => { results := [.lit (.bool false)], args := [d1, d2] }
  | _ => none }
def FnCodeFullWrongFalsely : Prop := fnCodeFullRow.holds Try.pinned (OpenSpec.ofChange fnCodeFullWrong)

/- THE SECOND FORM. 'bulk': how many values and letters a reading holds, each counted each time it is reached (what is shared counts as often as it is met; a slice's spare places count too). A statement '..UptoSaid' is the law's where the arguments, and the package variables that the reading takes, are together of bulk at most 1048576: NARROWER than '..Said'. Prove '..Said' where nothing that the law and all that it calls make is longer than what came in: it says more and counts as full. Else prove '..UptoSaid'. A law counts once. -/
mutual
def uptoBulk {H : Type} : DataW H → Nat
  | .lit (.string bytes) => bytes.length + 1
  | .lit _ => 1
  | .nil => 1
  | .ptr d => uptoBulk d + 1
  | .slice elems spare => uptoBulkAll elems + uptoBulkAll spare + 1
  | .agg parts => uptoBulkAll parts + 1
  | .iface _ d => uptoBulk d + 1
  | .map entries => uptoBulkEntries entries + 1
  | .held _ => 1
def uptoBulkAll {H : Type} : List (DataW H) → Nat
  | [] => 0
  | d :: r => uptoBulk d + uptoBulkAll r
def uptoBulkEntries {H : Type} : List (Lit × DataW H) → Nat
  | [] => 0
  | x :: r => uptoBulkEntry x + uptoBulkEntries r
def uptoBulkEntry {H : Type} : Lit × DataW H → Nat
  | (.string bytes, d) => bytes.length + uptoBulk d + 1
  | (_, d) => uptoBulk d + 1
 end
def uptoSmall : (H : Type) → List (DataW H) → Bool := fun _ ds => decide (uptoBulkAll ds ≤ 1048576)
def OpenSpec.upto (s : _root_.Go.ChangeSpec) : _root_.Go.OpenSpec := { _root_.Go.OpenSpec.ofChange s with cond := some uptoSmall }

/-- 'laws.FnExactCodeFit', WHERE WHAT IT READS IS OF BULK AT MOST 1048576: true; the input reads as it did. -/
def fnExactCodeFitUptoRow : OpenClaim := { program := "ytgajagocenffeaa", sum := "48059008df33331782fe714b77f39008abf155df158a9d380f176c5fb835d9ad", func := "loop.example/intarsia/laws.FnExactCodeFit", spec := "fnExactCodeFit", unfollowed := true, recurses := true, plainKeys := false, apart := false, narrowed := true }
def FnExactCodeFitUptoSaid : Prop := fnExactCodeFitUptoRow.holds Try.pinned (OpenSpec.upto fnExactCodeFitSpec)

/-- 'laws.FnCodeFit', WHERE WHAT IT READS IS OF BULK AT MOST 1048576: true; the input reads as it did. -/
def fnCodeFitUptoRow : OpenClaim := { program := "ytgajagocenffeaa", sum := "48059008df33331782fe714b77f39008abf155df158a9d380f176c5fb835d9ad", func := "loop.example/intarsia/laws.FnCodeFit", spec := "fnCodeFit", unfollowed := true, recurses := true, plainKeys := false, apart := false, narrowed := true }
def FnCodeFitUptoSaid : Prop := fnCodeFitUptoRow.holds Try.pinned (OpenSpec.upto fnCodeFitSpec)

/-- 'laws.FnCodeBest', WHERE WHAT IT READS IS OF BULK AT MOST 1048576: true; the input reads as it did. -/
def fnCodeBestUptoRow : OpenClaim := { program := "ytgajagocenffeaa", sum := "48059008df33331782fe714b77f39008abf155df158a9d380f176c5fb835d9ad", func := "loop.example/intarsia/laws.FnCodeBest", spec := "fnCodeBest", unfollowed := true, recurses := true, plainKeys := false, apart := false, narrowed := true }
def FnCodeBestUptoSaid : Prop := fnCodeBestUptoRow.holds Try.pinned (OpenSpec.upto fnCodeBestSpec)

/-- 'laws.FnCodeMake', WHERE WHAT IT READS IS OF BULK AT MOST 1048576: true; the input reads as it did. -/
def fnCodeMakeUptoRow : OpenClaim := { program := "ytgajagocenffeaa", sum := "48059008df33331782fe714b77f39008abf155df158a9d380f176c5fb835d9ad", func := "loop.example/intarsia/laws.FnCodeMake", spec := "fnCodeMake", plainKeys := false, apart := false, narrowed := true }
def FnCodeMakeUptoSaid : Prop := fnCodeMakeUptoRow.holds Try.pinned (OpenSpec.upto fnCodeMakeSpec)

/-- 'laws.FnExactCodeGet', WHERE WHAT IT READS IS OF BULK AT MOST 1048576: true; the input reads as it did. -/
def fnExactCodeGetUptoRow : OpenClaim := { program := "ytgajagocenffeaa", sum := "48059008df33331782fe714b77f39008abf155df158a9d380f176c5fb835d9ad", func := "loop.example/intarsia/laws.FnExactCodeGet", spec := "fnExactCodeGet", plainKeys := false, apart := false, narrowed := true }
def FnExactCodeGetUptoSaid : Prop := fnExactCodeGetUptoRow.holds Try.pinned (OpenSpec.upto fnExactCodeGetSpec)

/-- 'laws.FnCodeGet', WHERE WHAT IT READS IS OF BULK AT MOST 1048576: true; the input reads as it did. -/
def fnCodeGetUptoRow : OpenClaim := { program := "ytgajagocenffeaa", sum := "48059008df33331782fe714b77f39008abf155df158a9d380f176c5fb835d9ad", func := "loop.example/intarsia/laws.FnCodeGet", spec := "fnCodeGet", plainKeys := false, apart := false, narrowed := true }
def FnCodeGetUptoSaid : Prop := fnCodeGetUptoRow.holds Try.pinned (OpenSpec.upto fnCodeGetSpec)

/-- 'laws.FnCodeFull', WHERE WHAT IT READS IS OF BULK AT MOST 1048576: true; the input reads as it did. -/
def fnCodeFullUptoRow : OpenClaim := { program := "ytgajagocenffeaa", sum := "48059008df33331782fe714b77f39008abf155df158a9d380f176c5fb835d9ad", func := "loop.example/intarsia/laws.FnCodeFull", spec := "fnCodeFull", plainKeys := false, apart := false, narrowed := true }
def FnCodeFullUptoSaid : Prop := fnCodeFullUptoRow.holds Try.pinned (OpenSpec.upto fnCodeFullSpec)

end Rows
end Go.Proofs.Ytgajagocenffeaa
