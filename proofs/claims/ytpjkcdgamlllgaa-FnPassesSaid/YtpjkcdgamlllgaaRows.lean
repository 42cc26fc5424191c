/-
  No cell of these rows narrows 'for every input' (looked for: loops, veiled, ifaces, maps, wideKeys, modest, calm, conditions, laid).
  DERIVED. THE GIVEN ROWS OF THIS SEAT. 12 by the template 'for every input the law returns true; each argument reads behind the call as it read before'; 0 by the template 'total and deterministic' (their statements: YtpjkcdgamlllgaaTotals.lean).
  GIVEN WITH THE SEED: the statements are not yours to turn. If you find one false, say at which input.
  Laid BY PROGRAM, IN A SANDBOX (cutbox-rows.mjs): the forced cells as the released guide's own fill.sh prints them over the translation 07ea989dffa24d3b… (all of the seat's roots in one cut). By AI agents, Wed Nov 11 2026. No macro, syntax, notation, axiom, sorry.
-/
import Derived.Test.YtpjkcdgamlllgaaChecked
import GoSem.Claim
import GoSem.ClaimJoined
import GoSem.ClaimMapViews
import Derived.JoinedTies
import Derived.KernelRfl
namespace Go.Proofs.Ytpjkcdgamlllgaa
/- THE CELL 'sum', in the pinned program and in every row, IS THE sha256 OF THE DUMP (.gsa) THAT YtpjkcdgamlllgaaProg.lean LOADS. Nothing in Lean hashes anything: it is a label: what it is worth is what the hold of that sum in a sandbox is worth. -/
noncomputable def Try.pinned : Pinned := { name := "ytpjkcdgamlllgaa", sum := "07ea989dffa24d3bfb65a1e9913ff38218eb93da5f885c9eca22206de1fcf796", checked := Try.checked }
namespace Rows
def none {H : Type} : Left H := { results := [], args := [] }

/-- 'laws.FnExactTokensOut': WHATEVER THE INPUT: true; the input reads as it did. -/
def fnExactTokensOutSpec : ChangeSpec := { name := "fnExactTokensOut", fn := fun _ => fun
  | [d] => { results := [.lit (.bool true)], args := [d] }
  | _ => none }
def fnExactTokensOutRow : OpenClaim := { program := "ytpjkcdgamlllgaa", sum := "07ea989dffa24d3bfb65a1e9913ff38218eb93da5f885c9eca22206de1fcf796", func := "loop.example/intarsia/laws.FnExactTokensOut", spec := "fnExactTokensOut", apart := false }
def FnExactTokensOutSaid : Prop := fnExactTokensOutRow.holds Try.pinned (OpenSpec.ofChange fnExactTokensOutSpec)

/-- ITS FALSE NEIGHBOUR: 'it returns false'. Refute it at one input. -/
def fnExactTokensOutWrong : ChangeSpec := { name := "fnExactTokensOut", fn := fun _ => fun
  | [d] => { results := [.lit (.bool false)], args := [d] }
  | _ => none }
def FnExactTokensOutWrongFalsely : Prop := fnExactTokensOutRow.holds Try.pinned (OpenSpec.ofChange fnExactTokensOutWrong)

/-- 'laws.FnExactCodeCost': WHATEVER THE INPUT: true; the input reads as it did. -/
def fnExactCodeCostSpec : ChangeSpec := { name := "fnExactCodeCost", fn := fun _ => fun
  | [d1, d2] => { results := [.lit (.bool true)], args := [d1, d2] }
  | _ => none }
def fnExactCodeCostRow : OpenClaim := { program := "ytpjkcdgamlllgaa", sum := "07ea989dffa24d3bfb65a1e9913ff38218eb93da5f885c9eca22206de1fcf796", func := "loop.example/intarsia/laws.FnExactCodeCost", spec := "fnExactCodeCost", apart := false }
def FnExactCodeCostSaid : Prop := fnExactCodeCostRow.holds Try.pinned (OpenSpec.ofChange fnExactCodeCostSpec)

/-- ITS FALSE NEIGHBOUR: 'it returns false'. Refute it at one input. -/
def fnExactCodeCostWrong : ChangeSpec := { name := "fnExactCodeCost", fn := fun _ => fun
  | [d1, d2] => { results := [.lit (.bool false)], args := [d1, d2] }
  | _ => none }
def FnExactCodeCostWrongFalsely : Prop := fnExactCodeCostRow.holds Try.pinned (OpenSpec.ofChange fnExactCodeCostWrong)

/-- 'laws.FnExactFilterGet': WHATEVER THE INPUT: true; the input reads as it did. -/
def fnExactFilterGetSpec : ChangeSpec := { name := "fnExactFilterGet", fn := fun _ => fun
  | [d1, d2, d3, d4] => { results := [.lit (.bool true)], args := [d1, d2, d3, d4] }
  | _ => none }
def fnExactFilterGetRow : OpenClaim := { program := "ytpjkcdgamlllgaa", sum := "07ea989dffa24d3bfb65a1e9913ff38218eb93da5f885c9eca22206de1fcf796", func := "loop.example/intarsia/laws.FnExactFilterGet", spec := "fnExactFilterGet", apart := false }
def FnExactFilterGetSaid : Prop := fnExactFilterGetRow.holds Try.pinned (OpenSpec.ofChange fnExactFilterGetSpec)

/-- ITS FALSE NEIGHBOUR: 'it returns false'. Refute it at one input. -/
def fnExactFilterGetWrong : ChangeSpec := { name := "fnExactFilterGet", fn := fun _ => fun
  | [d1, d2, d3, d4] => { results := [.lit (.bool false)], args := [d1, d2, d3, d4] }
  | _ => none }
def FnExactFilterGetWrongFalsely : Prop := fnExactFilterGetRow.holds Try.pinned (OpenSpec.ofChange fnExactFilterGetWrong)

/-- 'laws.FnExactFilterPut': WHATEVER THE INPUT: true; the input reads as it did. -/
def fnExactFilterPutSpec : ChangeSpec := { name := "fnExactFilterPut", fn := fun _ => fun
  | [d1, d2, d3, d4] => { results := [.lit (.bool true)], args := [d1, d2, d3, d4] }
  | _ => none }
def fnExactFilterPutRow : OpenClaim := { program := "ytpjkcdgamlllgaa", sum := "07ea989dffa24d3bfb65a1e9913ff38218eb93da5f885c9eca22206de1fcf796", func := "loop.example/intarsia/laws.FnExactFilterPut", spec := "fnExactFilterPut", apart := false }
def FnExactFilterPutSaid : Prop := fnExactFilterPutRow.holds Try.pinned (OpenSpec.ofChange fnExactFilterPutSpec)

/-- ITS FALSE NEIGHBOUR: 'it returns false'. Refute it at one input. -/
def fnExactFilterPutWrong : ChangeSpec := { name := "fnExactFilterPut", fn := fun _ => fun
  | [d1, d2, d3, d4] => { results := [.lit (.bool false)], args := [d1, d2, d3, d4] }
  | _ => none }
def FnExactFilterPutWrongFalsely : Prop := fnExactFilterPutRow.holds Try.pinned (OpenSpec.ofChange fnExactFilterPutWrong)

/-- 'laws.FnExactRowGet': WHATEVER THE INPUT: true; the input reads as it did. -/
def fnExactRowGetSpec : ChangeSpec := { name := "fnExactRowGet", fn := fun _ => fun
  | [d1, d2, d3] => { results := [.lit (.bool true)], args := [d1, d2, d3] }
  | _ => none }
def fnExactRowGetRow : OpenClaim := { program := "ytpjkcdgamlllgaa", sum := "07ea989dffa24d3bfb65a1e9913ff38218eb93da5f885c9eca22206de1fcf796", func := "loop.example/intarsia/laws.FnExactRowGet", spec := "fnExactRowGet", apart := false }
def FnExactRowGetSaid : Prop := fnExactRowGetRow.holds Try.pinned (OpenSpec.ofChange fnExactRowGetSpec)

/-- ITS FALSE NEIGHBOUR: 'it returns false'. Refute it at one input. -/
def fnExactRowGetWrong : ChangeSpec := { name := "fnExactRowGet", fn := fun _ => fun
  | [d1, d2, d3] => { results := [.lit (.bool false)], args := [d1, d2, d3] }
  | _ => none }
def FnExactRowGetWrongFalsely : Prop := fnExactRowGetRow.holds Try.pinned (OpenSpec.ofChange fnExactRowGetWrong)

/-- 'laws.FnExactCodeMake': WHATEVER THE INPUT: true; the input reads as it did. -/
def fnExactCodeMakeSpec : ChangeSpec := { name := "fnExactCodeMake", fn := fun _ => fun
  | [d] => { results := [.lit (.bool true)], args := [d] }
  | _ => none }
def fnExactCodeMakeRow : OpenClaim := { program := "ytpjkcdgamlllgaa", sum := "07ea989dffa24d3bfb65a1e9913ff38218eb93da5f885c9eca22206de1fcf796", func := "loop.example/intarsia/laws.FnExactCodeMake", spec := "fnExactCodeMake", apart := false }
def FnExactCodeMakeSaid : Prop := fnExactCodeMakeRow.holds Try.pinned (OpenSpec.ofChange fnExactCodeMakeSpec)

/-- ITS FALSE NEIGHBOUR: 'it returns false'. Refute it at one input. -/
def fnExactCodeMakeWrong : ChangeSpec := { name := "fnExactCodeMake", fn := fun _ => fun
  | [d] => { results := [.lit (.bool false)], args := [d] }
  | _ => none }
def FnExactCodeMakeWrongFalsely : Prop := fnExactCodeMakeRow.holds Try.pinned (OpenSpec.ofChange fnExactCodeMakeWrong)

/-- 'laws.FnExactRunGet': WHATEVER THE INPUT: true; the input reads as it did. -/
def fnExactRunGetSpec : ChangeSpec := { name := "fnExactRunGet", fn := fun _ => fun
  | [d1, d2, d3, d4] => { results := [.lit (.bool true)], args := [d1, d2, d3, d4] }
  | _ => none }
def fnExactRunGetRow : OpenClaim := { program := "ytpjkcdgamlllgaa", sum := "07ea989dffa24d3bfb65a1e9913ff38218eb93da5f885c9eca22206de1fcf796", func := "loop.example/intarsia/laws.FnExactRunGet", spec := "fnExactRunGet", apart := false }
def FnExactRunGetSaid : Prop := fnExactRunGetRow.holds Try.pinned (OpenSpec.ofChange fnExactRunGetSpec)

/-- ITS FALSE NEIGHBOUR: 'it returns false'. Refute it at one input. -/
def fnExactRunGetWrong : ChangeSpec := { name := "fnExactRunGet", fn := fun _ => fun
  | [d1, d2, d3, d4] => { results := [.lit (.bool false)], args := [d1, d2, d3, d4] }
  | _ => none }
def FnExactRunGetWrongFalsely : Prop := fnExactRunGetRow.holds Try.pinned (OpenSpec.ofChange fnExactRunGetWrong)

/-- 'laws.FnExactRlePut': WHATEVER THE INPUT: true; the input reads as it did. -/
def fnExactRlePutSpec : ChangeSpec := { name := "fnExactRlePut", fn := fun _ => fun
  | [d] => { results := [.lit (.bool true)], args := [d] }
  | _ => none }
def fnExactRlePutRow : OpenClaim := { program := "ytpjkcdgamlllgaa", sum := "07ea989dffa24d3bfb65a1e9913ff38218eb93da5f885c9eca22206de1fcf796", func := "loop.example/intarsia/laws.FnExactRlePut", spec := "fnExactRlePut", apart := false }
def FnExactRlePutSaid : Prop := fnExactRlePutRow.holds Try.pinned (OpenSpec.ofChange fnExactRlePutSpec)

/-- ITS FALSE NEIGHBOUR: 'it returns false'. Refute it at one input. -/
def fnExactRlePutWrong : ChangeSpec := { name := "fnExactRlePut", fn := fun _ => fun
  | [d] => { results := [.lit (.bool false)], args := [d] }
  | _ => none }
def FnExactRlePutWrongFalsely : Prop := fnExactRlePutRow.holds Try.pinned (OpenSpec.ofChange fnExactRlePutWrong)

/-- 'laws.FnExactTokensOf': WHATEVER THE INPUT: true; the input reads as it did. -/
def fnExactTokensOfSpec : ChangeSpec := { name := "fnExactTokensOf", fn := fun _ => fun
  | [d] => { results := [.lit (.bool true)], args := [d] }
  | _ => none }
def fnExactTokensOfRow : OpenClaim := { program := "ytpjkcdgamlllgaa", sum := "07ea989dffa24d3bfb65a1e9913ff38218eb93da5f885c9eca22206de1fcf796", func := "loop.example/intarsia/laws.FnExactTokensOf", spec := "fnExactTokensOf", apart := false }
def FnExactTokensOfSaid : Prop := fnExactTokensOfRow.holds Try.pinned (OpenSpec.ofChange fnExactTokensOfSpec)

/-- ITS FALSE NEIGHBOUR: 'it returns false'. Refute it at one input. -/
def fnExactTokensOfWrong : ChangeSpec := { name := "fnExactTokensOf", fn := fun _ => fun
  | [d] => { results := [.lit (.bool false)], args := [d] }
  | _ => none }
def FnExactTokensOfWrongFalsely : Prop := fnExactTokensOfRow.holds Try.pinned (OpenSpec.ofChange fnExactTokensOfWrong)

/-- 'laws.FnExactRunPut': WHATEVER THE INPUT: true; the input reads as it did. -/
def fnExactRunPutSpec : ChangeSpec := { name := "fnExactRunPut", fn := fun _ => fun
  | [d1, d2] => { results := [.lit (.bool true)], args := [d1, d2] }
  | _ => none }
def fnExactRunPutRow : OpenClaim := { program := "ytpjkcdgamlllgaa", sum := "07ea989dffa24d3bfb65a1e9913ff38218eb93da5f885c9eca22206de1fcf796", func := "loop.example/intarsia/laws.FnExactRunPut", spec := "fnExactRunPut", apart := false }
def FnExactRunPutSaid : Prop := fnExactRunPutRow.holds Try.pinned (OpenSpec.ofChange fnExactRunPutSpec)

/-- ITS FALSE NEIGHBOUR: 'it returns false'. Refute it at one input. -/
def fnExactRunPutWrong : ChangeSpec := { name := "fnExactRunPut", fn := fun _ => fun
  | [d1, d2] => { results := [.lit (.bool false)], args := [d1, d2] }
  | _ => none }
def FnExactRunPutWrongFalsely : Prop := fnExactRunPutRow.holds Try.pinned (OpenSpec.ofChange fnExactRunPutWrong)

/-- 'laws.FnPasses': WHATEVER THE INPUT: true; the input reads as it did. -/
def fnPassesSpec : ChangeSpec := { name := "fnPasses", fn := fun _ => fun
  | [d] => { results := [.lit (.bool true)], args := [d] }
  | _ => none }
def fnPassesRow : OpenClaim := { program := "ytpjkcdgamlllgaa", sum := "07ea989dffa24d3bfb65a1e9913ff38218eb93da5f885c9eca22206de1fcf796", func := "loop.example/intarsia/laws.FnPasses", spec := "fnPasses", apart := false }
def FnPassesSaid : Prop := fnPassesRow.holds Try.pinned (OpenSpec.ofChange fnPassesSpec)

/-- ITS FALSE NEIGHBOUR: 'it returns false'. Refute it at one input. -/
def fnPassesWrong : ChangeSpec := { name := "fnPasses", fn := fun _ => fun
  | [d] => { results := [.lit (.bool false)], args := [d] }
  | _ => none }
def FnPassesWrongFalsely : Prop := fnPassesRow.holds Try.pinned (OpenSpec.ofChange fnPassesWrong)

/-- 'laws.FnAdlerMore': WHATEVER THE INPUT: true; the input reads as it did. -/
def fnAdlerMoreSpec : ChangeSpec := { name := "fnAdlerMore", fn := fun _ => fun
  | [d1, d2] => { results := [.lit (.bool true)], args := [d1, d2] }
  | _ => none }
def fnAdlerMoreRow : OpenClaim := { program := "ytpjkcdgamlllgaa", sum := "07ea989dffa24d3bfb65a1e9913ff38218eb93da5f885c9eca22206de1fcf796", func := "loop.example/intarsia/laws.FnAdlerMore", spec := "fnAdlerMore", apart := false }
def FnAdlerMoreSaid : Prop := fnAdlerMoreRow.holds Try.pinned (OpenSpec.ofChange fnAdlerMoreSpec)

/-- ITS FALSE NEIGHBOUR: 'it returns false'. Refute it at one input. -/
def fnAdlerMoreWrong : ChangeSpec := { name := "fnAdlerMore", fn := fun _ => fun
  | [d1, d2] => { results := [.lit (.bool false)], args := [d1, d2] }
  | _ => none }
def FnAdlerMoreWrongFalsely : Prop := fnAdlerMoreRow.holds Try.pinned (OpenSpec.ofChange fnAdlerMoreWrong)

/- THE SECOND FORM. 'bulk': how many values and letters a reading holds, each counted each time it is reached (what is shared counts as often as it is met; a slice's spare places count too). A statement '..UptoSaid' is the law's where the arguments, and the package variables that the reading takes, are together of bulk at most 1048576: NARROWER than '..Said'. Prove '..Said' where nothing that the law and all that it calls make is longer than what came in: it says more and counts as full. Else prove '..UptoSaid'. A law counts once. -/
mutual
def uptoBulk {H : Type} : DataW H → Nat
  | .lit (.string bytes) => bytes.length + 1
  | .lit _ => 1
  | .nil => 1
  | .ptr d => uptoBulk d + 1
  | .slice elems spare => uptoBulkAll elems + uptoBulkAll spare + 1
  | .agg parts => uptoBulkAll parts + 1
  | .iface _ d => uptoBulk d + 1
  | .map entries => uptoBulkEntries entries + 1
  | .held _ => 1
def uptoBulkAll {H : Type} : List (DataW H) → Nat
  | [] => 0
  | d :: r => uptoBulk d + uptoBulkAll r
def uptoBulkEntries {H : Type} : List (Lit × DataW H) → Nat
  | [] => 0
  | x :: r => uptoBulkEntry x + uptoBulkEntries r
def uptoBulkEntry {H : Type} : Lit × DataW H → Nat
  | (.string bytes, d) => bytes.length + uptoBulk d + 1
  | (_, d) => uptoBulk d + 1
 end
def uptoSmall : (H : Type) → List (DataW H) → Bool := fun _ ds => decide (uptoBulkAll ds ≤ 1048576)
def OpenSpec.upto (s : _root_.Go.ChangeSpec) : _root_.Go.OpenSpec := { _root_.Go.OpenSpec.ofChange s with cond := some uptoSmall }

/-- 'laws.FnExactTokensOut', WHERE WHAT IT READS IS OF BULK AT MOST 1048576: true; the input reads as it did. -/
def fnExactTokensOutUptoRow : OpenClaim := { program := "ytpjkcdgamlllgaa", sum := "07ea989dffa24d3bfb65a1e9913ff38218eb93da5f885c9eca22206de1fcf796", func := "loop.example/intarsia/laws.FnExactTokensOut", spec := "fnExactTokensOut", apart := false, narrowed := true }
def FnExactTokensOutUptoSaid : Prop := fnExactTokensOutUptoRow.holds Try.pinned (OpenSpec.upto fnExactTokensOutSpec)

/-- 'laws.FnExactCodeCost', WHERE WHAT IT READS IS OF BULK AT MOST 1048576: true; the input reads as it did. -/
def fnExactCodeCostUptoRow : OpenClaim := { program := "ytpjkcdgamlllgaa", sum := "07ea989dffa24d3bfb65a1e9913ff38218eb93da5f885c9eca22206de1fcf796", func := "loop.example/intarsia/laws.FnExactCodeCost", spec := "fnExactCodeCost", apart := false, narrowed := true }
def FnExactCodeCostUptoSaid : Prop := fnExactCodeCostUptoRow.holds Try.pinned (OpenSpec.upto fnExactCodeCostSpec)

/-- 'laws.FnExactFilterGet', WHERE WHAT IT READS IS OF BULK AT MOST 1048576: true; the input reads as it did. -/
def fnExactFilterGetUptoRow : OpenClaim := { program := "ytpjkcdgamlllgaa", sum := "07ea989dffa24d3bfb65a1e9913ff38218eb93da5f885c9eca22206de1fcf796", func := "loop.example/intarsia/laws.FnExactFilterGet", spec := "fnExactFilterGet", apart := false, narrowed := true }
def FnExactFilterGetUptoSaid : Prop := fnExactFilterGetUptoRow.holds Try.pinned (OpenSpec.upto fnExactFilterGetSpec)

/-- 'laws.FnExactFilterPut', WHERE WHAT IT READS IS OF BULK AT MOST 1048576: true; the input reads as it did. -/
def fnExactFilterPutUptoRow : OpenClaim := { program := "ytpjkcdgamlllgaa", sum := "07ea989dffa24d3bfb65a1e9913ff38218eb93da5f885c9eca22206de1fcf796", func := "loop.example/intarsia/laws.FnExactFilterPut", spec := "fnExactFilterPut", apart := false, narrowed := true }
def FnExactFilterPutUptoSaid : Prop := fnExactFilterPutUptoRow.holds Try.pinned (OpenSpec.upto fnExactFilterPutSpec)

/-- 'laws.FnExactRowGet', WHERE WHAT IT READS IS OF BULK AT MOST 1048576: true; the input reads as it did. -/
def fnExactRowGetUptoRow : OpenClaim := { program := "ytpjkcdgamlllgaa", sum := "07ea989dffa24d3bfb65a1e9913ff38218eb93da5f885c9eca22206de1fcf796", func := "loop.example/intarsia/laws.FnExactRowGet", spec := "fnExactRowGet", apart := false, narrowed := true }
def FnExactRowGetUptoSaid : Prop := fnExactRowGetUptoRow.holds Try.pinned (OpenSpec.upto fnExactRowGetSpec)

/-- 'laws.FnExactCodeMake', WHERE WHAT IT READS IS OF BULK AT MOST 1048576: true; the input reads as it did. -/
def fnExactCodeMakeUptoRow : OpenClaim := { program := "ytpjkcdgamlllgaa", sum := "07ea989dffa24d3bfb65a1e9913ff38218eb93da5f885c9eca22206de1fcf796", func := "loop.example/intarsia/laws.FnExactCodeMake", spec := "fnExactCodeMake", apart := false, narrowed := true }
def FnExactCodeMakeUptoSaid : Prop := fnExactCodeMakeUptoRow.holds Try.pinned (OpenSpec.upto fnExactCodeMakeSpec)

/-- 'laws.FnExactRunGet', WHERE WHAT IT READS IS OF BULK AT MOST 1048576: true; the input reads as it did. -/
def fnExactRunGetUptoRow : OpenClaim := { program := "ytpjkcdgamlllgaa", sum := "07ea989dffa24d3bfb65a1e9913ff38218eb93da5f885c9eca22206de1fcf796", func := "loop.example/intarsia/laws.FnExactRunGet", spec := "fnExactRunGet", apart := false, narrowed := true }
def FnExactRunGetUptoSaid : Prop := fnExactRunGetUptoRow.holds Try.pinned (OpenSpec.upto fnExactRunGetSpec)

/-- 'laws.FnExactRlePut', WHERE WHAT IT READS IS OF BULK AT MOST 1048576: true; the input reads as it did. -/
def fnExactRlePutUptoRow : OpenClaim := { program := "ytpjkcdgamlllgaa", sum := "07ea989dffa24d3bfb65a1e9913ff38218eb93da5f885c9eca22206de1fcf796", func := "loop.example/intarsia/laws.FnExactRlePut", spec := "fnExactRlePut", apart := false, narrowed := true }
def FnExactRlePutUptoSaid : Prop := fnExactRlePutUptoRow.holds Try.pinned (OpenSpec.upto fnExactRlePutSpec)

/-- 'laws.FnExactTokensOf', WHERE WHAT IT READS IS OF BULK AT MOST 1048576: true; the input reads as it did. -/
def fnExactTokensOfUptoRow : OpenClaim := { program := "ytpjkcdgamlllgaa", sum := "07ea989dffa24d3bfb65a1e9913ff38218eb93da5f885c9eca22206de1fcf796", func := "loop.example/intarsia/laws.FnExactTokensOf", spec := "fnExactTokensOf", apart := false, narrowed := true }
def FnExactTokensOfUptoSaid : Prop := fnExactTokensOfUptoRow.holds Try.pinned (OpenSpec.upto fnExactTokensOfSpec)

/-- 'laws.FnExactRunPut', WHERE WHAT IT READS IS OF BULK AT MOST 1048576: true; the input reads as it did. -/
def fnExactRunPutUptoRow : OpenClaim := { program := "ytpjkcdgamlllgaa", sum := "07ea989dffa24d3bfb65a1e9913ff38218eb93da5f885c9eca22206de1fcf796", func := "loop.example/intarsia/laws.FnExactRunPut", spec := "fnExactRunPut", apart := false, narrowed := true }
def FnExactRunPutUptoSaid : Prop := fnExactRunPutUptoRow.holds Try.pinned (OpenSpec.upto fnExactRunPutSpec)

/-- 'laws.FnPasses', WHERE WHAT IT READS IS OF BULK AT MOST 1048576: true; the input reads as it did. -/
def fnPassesUptoRow : OpenClaim := { program := "ytpjkcdgamlllgaa", sum := "07ea989dffa24d3bfb65a1e9913ff38218eb93da5f885c9eca22206de1fcf796", func := "loop.example/intarsia/laws.FnPasses", spec := "fnPasses", apart := false, narrowed := true }
def FnPassesUptoSaid : Prop := fnPassesUptoRow.holds Try.pinned (OpenSpec.upto fnPassesSpec)

/-- 'laws.FnAdlerMore', WHERE WHAT IT READS IS OF BULK AT MOST 1048576: true; the input reads as it did. -/
def fnAdlerMoreUptoRow : OpenClaim := { program := "ytpjkcdgamlllgaa", sum := "07ea989dffa24d3bfb65a1e9913ff38218eb93da5f885c9eca22206de1fcf796", func := "loop.example/intarsia/laws.FnAdlerMore", spec := "fnAdlerMore", apart := false, narrowed := true }
def FnAdlerMoreUptoSaid : Prop := fnAdlerMoreUptoRow.holds Try.pinned (OpenSpec.upto fnAdlerMoreSpec)

end Rows
end Go.Proofs.Ytpjkcdgamlllgaa
