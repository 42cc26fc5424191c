/-
  No cell of these rows narrows 'for every input' (looked for: loops, veiled, ifaces, maps, wideKeys, modest, calm, conditions, laid).
  DERIVED. THE GIVEN ROWS OF THIS SEAT. 12 by the template 'for every input the law returns true; each argument reads behind the call as it read before'; 0 by the template 'total and deterministic' (their statements: YtfladcffgblfdaaTotals.lean).
  GIVEN WITH THE SEED: the statements are not yours to turn. If you find one false, say at which input.
  Laid BY PROGRAM, IN A SANDBOX (cutbox-rows.mjs): the forced cells as the released guide's own fill.sh prints them over the translation f81e2ccd7d48a60f… (all of the seat's roots in one cut). By AI agents, Wed Nov 11 2026. No macro, syntax, notation, axiom, sorry.
-/
import Derived.Test.YtfladcffgblfdaaChecked
import GoSem.Claim
import GoSem.ClaimJoined
import GoSem.ClaimMapViews
import Derived.JoinedTies
import Derived.KernelRfl
namespace Go.Proofs.Ytfladcffgblfdaa
/- THE CELL 'sum', in the pinned program and in every row, IS THE sha256 OF THE DUMP (.gsa) THAT YtfladcffgblfdaaProg.lean LOADS. Nothing in Lean hashes anything: it is a label: what it is worth is what the hold of that sum in a sandbox is worth. -/
noncomputable def Try.pinned : Pinned := { name := "ytfladcffgblfdaa", sum := "f81e2ccd7d48a60f8052f980323b3e5439834ad9ce793de45aea32f7afbfe430", checked := Try.checked }
namespace Rows
def none {H : Type} : Left H := { results := [], args := [] }

/-- 'laws.FnCrcMore': WHATEVER THE INPUT: true; the input reads as it did. -/
def fnCrcMoreSpec : ChangeSpec := { name := "fnCrcMore", fn := fun _ => fun
  | [d1, d2] => { results := [.lit (.bool true)], args := [d1, d2] }
  | _ => none }
def fnCrcMoreRow : OpenClaim := { program := "ytfladcffgblfdaa", sum := "f81e2ccd7d48a60f8052f980323b3e5439834ad9ce793de45aea32f7afbfe430", func := "loop.example/intarsia/laws.FnCrcMore", spec := "fnCrcMore", apart := false }
def FnCrcMoreSaid : Prop := fnCrcMoreRow.holds Try.pinned (OpenSpec.ofChange fnCrcMoreSpec)

/-- ITS FALSE NEIGHBOUR: 'it returns false'. Refute it at one input. -/
def fnCrcMoreWrong : ChangeSpec := { name := "fnCrcMore", fn := fun _ => fun
  | [d1, d2] => { results := [.lit (.bool false)], args := [d1, d2] }
  | _ => none }
def FnCrcMoreWrongFalsely : Prop := fnCrcMoreRow.holds Try.pinned (OpenSpec.ofChange fnCrcMoreWrong)

/-- 'laws.FnBitsGet': WHATEVER THE INPUT: true; the input reads as it did. -/
def fnBitsGetSpec : ChangeSpec := { name := "fnBitsGet", fn := fun _ => fun
  | [d] => { results := [.lit (.bool true)], args := [d] }
  | _ => none }
def fnBitsGetRow : OpenClaim := { program := "ytfladcffgblfdaa", sum := "f81e2ccd7d48a60f8052f980323b3e5439834ad9ce793de45aea32f7afbfe430", func := "loop.example/intarsia/laws.FnBitsGet", spec := "fnBitsGet", apart := false }
def FnBitsGetSaid : Prop := fnBitsGetRow.holds Try.pinned (OpenSpec.ofChange fnBitsGetSpec)

/-- ITS FALSE NEIGHBOUR: 'it returns false'. Refute it at one input. -/
def fnBitsGetWrong : ChangeSpec := { name := "fnBitsGet", fn := fun _ => fun
  | [d] => { results := [.lit (.bool false)], args := [d] }
  | _ => none }
def FnBitsGetWrongFalsely : Prop := fnBitsGetRow.holds Try.pinned (OpenSpec.ofChange fnBitsGetWrong)

/-- 'laws.FnCrcBit': WHATEVER THE INPUT: true; the input reads as it did. -/
def fnCrcBitSpec : ChangeSpec := { name := "fnCrcBit", fn := fun _ => fun
  | [d1, d2] => { results := [.lit (.bool true)], args := [d1, d2] }
  | _ => none }
def fnCrcBitRow : OpenClaim := { program := "ytfladcffgblfdaa", sum := "f81e2ccd7d48a60f8052f980323b3e5439834ad9ce793de45aea32f7afbfe430", func := "loop.example/intarsia/laws.FnCrcBit", spec := "fnCrcBit", apart := false }
def FnCrcBitSaid : Prop := fnCrcBitRow.holds Try.pinned (OpenSpec.ofChange fnCrcBitSpec)

/-- ITS FALSE NEIGHBOUR: 'it returns false'. Refute it at one input. -/
def fnCrcBitWrong : ChangeSpec := { name := "fnCrcBit", fn := fun _ => fun
  | [d1, d2] => { results := [.lit (.bool false)], args := [d1, d2] }
  | _ => none }
def FnCrcBitWrongFalsely : Prop := fnCrcBitRow.holds Try.pinned (OpenSpec.ofChange fnCrcBitWrong)

/-- 'laws.FnNumPut': WHATEVER THE INPUT: true; the input reads as it did. -/
def fnNumPutSpec : ChangeSpec := { name := "fnNumPut", fn := fun _ => fun
  | [d1, d2] => { results := [.lit (.bool true)], args := [d1, d2] }
  | _ => none }
def fnNumPutRow : OpenClaim := { program := "ytfladcffgblfdaa", sum := "f81e2ccd7d48a60f8052f980323b3e5439834ad9ce793de45aea32f7afbfe430", func := "loop.example/intarsia/laws.FnNumPut", spec := "fnNumPut", apart := false }
def FnNumPutSaid : Prop := fnNumPutRow.holds Try.pinned (OpenSpec.ofChange fnNumPutSpec)

/-- ITS FALSE NEIGHBOUR: 'it returns false'. Refute it at one input. -/
def fnNumPutWrong : ChangeSpec := { name := "fnNumPut", fn := fun _ => fun
  | [d1, d2] => { results := [.lit (.bool false)], args := [d1, d2] }
  | _ => none }
def FnNumPutWrongFalsely : Prop := fnNumPutRow.holds Try.pinned (OpenSpec.ofChange fnNumPutWrong)

/-- 'laws.FnTokensOut': WHATEVER THE INPUT: true; the input reads as it did. -/
def fnTokensOutSpec : ChangeSpec := { name := "fnTokensOut", fn := fun _ => fun
  | [d1, d2] => { results := [.lit (.bool true)], args := [d1, d2] }
  | _ => none }
def fnTokensOutRow : OpenClaim := { program := "ytfladcffgblfdaa", sum := "f81e2ccd7d48a60f8052f980323b3e5439834ad9ce793de45aea32f7afbfe430", func := "loop.example/intarsia/laws.FnTokensOut", spec := "fnTokensOut", apart := false }
def FnTokensOutSaid : Prop := fnTokensOutRow.holds Try.pinned (OpenSpec.ofChange fnTokensOutSpec)

/-- ITS FALSE NEIGHBOUR: 'it returns false'. Refute it at one input. -/
def fnTokensOutWrong : ChangeSpec := { name := "fnTokensOut", fn := fun _ => fun
  | [d1, d2] => { results := [.lit (.bool false)], args := [d1, d2] }
  | _ => none }
def FnTokensOutWrongFalsely : Prop := fnTokensOutRow.holds Try.pinned (OpenSpec.ofChange fnTokensOutWrong)

/-- 'laws.FnPack': WHATEVER THE INPUT: true; the input reads as it did. -/
def fnPackSpec : ChangeSpec := { name := "fnPack", fn := fun _ => fun
  | [d] => { results := [.lit (.bool true)], args := [d] }
  | _ => none }
def fnPackRow : OpenClaim := { program := "ytfladcffgblfdaa", sum := "f81e2ccd7d48a60f8052f980323b3e5439834ad9ce793de45aea32f7afbfe430", func := "loop.example/intarsia/laws.FnPack", spec := "fnPack", apart := false }
def FnPackSaid : Prop := fnPackRow.holds Try.pinned (OpenSpec.ofChange fnPackSpec)

/-- ITS FALSE NEIGHBOUR: 'it returns false'. Refute it at one input. -/
def fnPackWrong : ChangeSpec := { name := "fnPack", fn := fun _ => fun
  | [d] => { results := [.lit (.bool false)], args := [d] }
  | _ => none }
def FnPackWrongFalsely : Prop := fnPackRow.holds Try.pinned (OpenSpec.ofChange fnPackWrong)

/-- 'laws.FnTokens': WHATEVER THE INPUT: true; the input reads as it did. -/
def fnTokensSpec : ChangeSpec := { name := "fnTokens", fn := fun _ => fun
  | [d] => { results := [.lit (.bool true)], args := [d] }
  | _ => none }
def fnTokensRow : OpenClaim := { program := "ytfladcffgblfdaa", sum := "f81e2ccd7d48a60f8052f980323b3e5439834ad9ce793de45aea32f7afbfe430", func := "loop.example/intarsia/laws.FnTokens", spec := "fnTokens", apart := false }
def FnTokensSaid : Prop := fnTokensRow.holds Try.pinned (OpenSpec.ofChange fnTokensSpec)

/-- ITS FALSE NEIGHBOUR: 'it returns false'. Refute it at one input. -/
def fnTokensWrong : ChangeSpec := { name := "fnTokens", fn := fun _ => fun
  | [d] => { results := [.lit (.bool false)], args := [d] }
  | _ => none }
def FnTokensWrongFalsely : Prop := fnTokensRow.holds Try.pinned (OpenSpec.ofChange fnTokensWrong)

/-- 'laws.FnPackGet': WHATEVER THE INPUT: true; the input reads as it did. -/
def fnPackGetSpec : ChangeSpec := { name := "fnPackGet", fn := fun _ => fun
  | [d1, d2] => { results := [.lit (.bool true)], args := [d1, d2] }
  | _ => none }
def fnPackGetRow : OpenClaim := { program := "ytfladcffgblfdaa", sum := "f81e2ccd7d48a60f8052f980323b3e5439834ad9ce793de45aea32f7afbfe430", func := "loop.example/intarsia/laws.FnPackGet", spec := "fnPackGet", apart := false }
def FnPackGetSaid : Prop := fnPackGetRow.holds Try.pinned (OpenSpec.ofChange fnPackGetSpec)

/-- ITS FALSE NEIGHBOUR: 'it returns false'. Refute it at one input. -/
def fnPackGetWrong : ChangeSpec := { name := "fnPackGet", fn := fun _ => fun
  | [d1, d2] => { results := [.lit (.bool false)], args := [d1, d2] }
  | _ => none }
def FnPackGetWrongFalsely : Prop := fnPackGetRow.holds Try.pinned (OpenSpec.ofChange fnPackGetWrong)

/-- 'laws.FnRun': WHATEVER THE INPUT: true; the input reads as it did. -/
def fnRunSpec : ChangeSpec := { name := "fnRun", fn := fun _ => fun
  | [d] => { results := [.lit (.bool true)], args := [d] }
  | _ => none }
def fnRunRow : OpenClaim := { program := "ytfladcffgblfdaa", sum := "f81e2ccd7d48a60f8052f980323b3e5439834ad9ce793de45aea32f7afbfe430", func := "loop.example/intarsia/laws.FnRun", spec := "fnRun", apart := false }
def FnRunSaid : Prop := fnRunRow.holds Try.pinned (OpenSpec.ofChange fnRunSpec)

/-- ITS FALSE NEIGHBOUR: 'it returns false'. Refute it at one input. -/
def fnRunWrong : ChangeSpec := { name := "fnRun", fn := fun _ => fun
  | [d] => { results := [.lit (.bool false)], args := [d] }
  | _ => none }
def FnRunWrongFalsely : Prop := fnRunRow.holds Try.pinned (OpenSpec.ofChange fnRunWrong)

/-- 'laws.FnRunGet': WHATEVER THE INPUT: true; the input reads as it did. -/
def fnRunGetSpec : ChangeSpec := { name := "fnRunGet", fn := fun _ => fun
  | [d] => { results := [.lit (.bool true)], args := [d] }
  | _ => none }
def fnRunGetRow : OpenClaim := { program := "ytfladcffgblfdaa", sum := "f81e2ccd7d48a60f8052f980323b3e5439834ad9ce793de45aea32f7afbfe430", func := "loop.example/intarsia/laws.FnRunGet", spec := "fnRunGet", apart := false }
def FnRunGetSaid : Prop := fnRunGetRow.holds Try.pinned (OpenSpec.ofChange fnRunGetSpec)

/-- ITS FALSE NEIGHBOUR: 'it returns false'. Refute it at one input. -/
def fnRunGetWrong : ChangeSpec := { name := "fnRunGet", fn := fun _ => fun
  | [d] => { results := [.lit (.bool false)], args := [d] }
  | _ => none }
def FnRunGetWrongFalsely : Prop := fnRunGetRow.holds Try.pinned (OpenSpec.ofChange fnRunGetWrong)

/-- 'laws.FnCodeMake': WHATEVER THE INPUT: true; the input reads as it did. -/
def fnCodeMakeSpec : ChangeSpec := { name := "fnCodeMake", fn := fun _ => fun
  | [d] => { results := [.lit (.bool true)], args := [d] }
  | _ => none }
def fnCodeMakeRow : OpenClaim := { program := "ytfladcffgblfdaa", sum := "f81e2ccd7d48a60f8052f980323b3e5439834ad9ce793de45aea32f7afbfe430", func := "loop.example/intarsia/laws.FnCodeMake", spec := "fnCodeMake", apart := false }
def FnCodeMakeSaid : Prop := fnCodeMakeRow.holds Try.pinned (OpenSpec.ofChange fnCodeMakeSpec)

/-- ITS FALSE NEIGHBOUR: 'it returns false'. Refute it at one input. -/
def fnCodeMakeWrong : ChangeSpec := { name := "fnCodeMake", fn := fun _ => fun
  | [d] => { results := [.lit (.bool false)], args := [d] }
  | _ => none }
def FnCodeMakeWrongFalsely : Prop := fnCodeMakeRow.holds Try.pinned (OpenSpec.ofChange fnCodeMakeWrong)

/-- 'laws.FnExactCodePut': WHATEVER THE INPUT: true; the input reads as it did. -/
def fnExactCodePutSpec : ChangeSpec := { name := "fnExactCodePut", fn := fun _ => fun
  | [d1, d2] => { results := [.lit (.bool true)], args := [d1, d2] }
  | _ => none }
def fnExactCodePutRow : OpenClaim := { program := "ytfladcffgblfdaa", sum := "f81e2ccd7d48a60f8052f980323b3e5439834ad9ce793de45aea32f7afbfe430", func := "loop.example/intarsia/laws.FnExactCodePut", spec := "fnExactCodePut", apart := false }
def FnExactCodePutSaid : Prop := fnExactCodePutRow.holds Try.pinned (OpenSpec.ofChange fnExactCodePutSpec)

/-- ITS FALSE NEIGHBOUR: 'it returns false'. Refute it at one input. -/
def fnExactCodePutWrong : ChangeSpec := { name := "fnExactCodePut", fn := fun _ => fun
  | [d1, d2] => { results := [.lit (.bool false)], args := [d1, d2] }
  | _ => none }
def FnExactCodePutWrongFalsely : Prop := fnExactCodePutRow.holds Try.pinned (OpenSpec.ofChange fnExactCodePutWrong)

/- THE SECOND FORM. 'bulk': how many values and letters a reading holds, each counted each time it is reached (what is shared counts as often as it is met; a slice's spare places count too). A statement '..UptoSaid' is the law's where the arguments, and the package variables that the reading takes, are together of bulk at most 1048576: NARROWER than '..Said'. Prove '..Said' where nothing that the law and all that it calls make is longer than what came in: it says more and counts as full. Else prove '..UptoSaid'. A law counts once. -/
mutual
def uptoBulk {H : Type} : DataW H → Nat
  | .lit (.string bytes) => bytes.length + 1
  | .lit _ => 1
  | .nil => 1
  | .ptr d => uptoBulk d + 1
  | .slice elems spare => uptoBulkAll elems + uptoBulkAll spare + 1
  | .agg parts => uptoBulkAll parts + 1
  | .iface _ d => uptoBulk d + 1
  | .map entries => uptoBulkEntries entries + 1
  | .held _ => 1
def uptoBulkAll {H : Type} : List (DataW H) → Nat
  | [] => 0
  | d :: r => uptoBulk d + uptoBulkAll r
def uptoBulkEntries {H : Type} : List (Lit × DataW H) → Nat
  | [] => 0
  | x :: r => uptoBulkEntry x + uptoBulkEntries r
def uptoBulkEntry {H : Type} : Lit × DataW H → Nat
  | (.string bytes, d) => bytes.length + uptoBulk d + 1
  | (_, d) => uptoBulk d + 1
 end
def uptoSmall : (H : Type) → List (DataW H) → Bool := fun _ ds => decide (uptoBulkAll ds ≤ 1048576)
def OpenSpec.upto (s : _root_.Go.ChangeSpec) : _root_.Go.OpenSpec := { _root_.Go.OpenSpec.ofChange s with cond := some uptoSmall }

/-- 'laws.FnCrcMore', WHERE WHAT IT READS IS OF BULK AT MOST 1048576: true; the input reads as it did. -/
def fnCrcMoreUptoRow : OpenClaim := { program := "ytfladcffgblfdaa", sum := "f81e2ccd7d48a60f8052f980323b3e5439834ad9ce793de45aea32f7afbfe430", func := "loop.example/intarsia/laws.FnCrcMore", spec := "fnCrcMore", apart := false, narrowed := true }
def FnCrcMoreUptoSaid : Prop := fnCrcMoreUptoRow.holds Try.pinned (OpenSpec.upto fnCrcMoreSpec)

/-- 'laws.FnBitsGet', WHERE WHAT IT READS IS OF BULK AT MOST 1048576: true; the input reads as it did. -/
def fnBitsGetUptoRow : OpenClaim := { program := "ytfladcffgblfdaa", sum := "f81e2ccd7d48a60f8052f980323b3e5439834ad9ce793de45aea32f7afbfe430", func := "loop.example/intarsia/laws.FnBitsGet", spec := "fnBitsGet", apart := false, narrowed := true }
def FnBitsGetUptoSaid : Prop := fnBitsGetUptoRow.holds Try.pinned (OpenSpec.upto fnBitsGetSpec)

/-- 'laws.FnCrcBit', WHERE WHAT IT READS IS OF BULK AT MOST 1048576: true; the input reads as it did. -/
def fnCrcBitUptoRow : OpenClaim := { program := "ytfladcffgblfdaa", sum := "f81e2ccd7d48a60f8052f980323b3e5439834ad9ce793de45aea32f7afbfe430", func := "loop.example/intarsia/laws.FnCrcBit", spec := "fnCrcBit", apart := false, narrowed := true }
def FnCrcBitUptoSaid : Prop := fnCrcBitUptoRow.holds Try.pinned (OpenSpec.upto fnCrcBitSpec)

/-- 'laws.FnNumPut', WHERE WHAT IT READS IS OF BULK AT MOST 1048576: true; the input reads as it did. -/
def fnNumPutUptoRow : OpenClaim := { program := "ytfladcffgblfdaa", sum := "f81e2ccd7d48a60f8052f980323b3e5439834ad9ce793de45aea32f7afbfe430", func := "loop.example/intarsia/laws.FnNumPut", spec := "fnNumPut", apart := false, narrowed := true }
def FnNumPutUptoSaid : Prop := fnNumPutUptoRow.holds Try.pinned (OpenSpec.upto fnNumPutSpec)

/-- 'laws.FnTokensOut', WHERE WHAT IT READS IS OF BULK AT MOST 1048576: true; the input reads as it did. -/
def fnTokensOutUptoRow : OpenClaim := { program := "ytfladcffgblfdaa", sum := "f81e2ccd7d48a60f8052f980323b3e5439834ad9ce793de45aea32f7afbfe430", func := "loop.example/intarsia/laws.FnTokensOut", spec := "fnTokensOut", apart := false, narrowed := true }
def FnTokensOutUptoSaid : Prop := fnTokensOutUptoRow.holds Try.pinned (OpenSpec.upto fnTokensOutSpec)

/-- 'laws.FnPack', WHERE WHAT IT READS IS OF BULK AT MOST 1048576: true; the input reads as it did. -/
def fnPackUptoRow : OpenClaim := { program := "ytfladcffgblfdaa", sum := "f81e2ccd7d48a60f8052f980323b3e5439834ad9ce793de45aea32f7afbfe430", func := "loop.example/intarsia/laws.FnPack", spec := "fnPack", apart := false, narrowed := true }
def FnPackUptoSaid : Prop := fnPackUptoRow.holds Try.pinned (OpenSpec.upto fnPackSpec)

/-- 'laws.FnTokens', WHERE WHAT IT READS IS OF BULK AT MOST 1048576: true; the input reads as it did. -/
def fnTokensUptoRow : OpenClaim := { program := "ytfladcffgblfdaa", sum := "f81e2ccd7d48a60f8052f980323b3e5439834ad9ce793de45aea32f7afbfe430", func := "loop.example/intarsia/laws.FnTokens", spec := "fnTokens", apart := false, narrowed := true }
def FnTokensUptoSaid : Prop := fnTokensUptoRow.holds Try.pinned (OpenSpec.upto fnTokensSpec)

/-- 'laws.FnPackGet', WHERE WHAT IT READS IS OF BULK AT MOST 1048576: true; the input reads as it did. -/
def fnPackGetUptoRow : OpenClaim := { program := "ytfladcffgblfdaa", sum := "f81e2ccd7d48a60f8052f980323b3e5439834ad9ce793de45aea32f7afbfe430", func := "loop.example/intarsia/laws.FnPackGet", spec := "fnPackGet", apart := false, narrowed := true }
def FnPackGetUptoSaid : Prop := fnPackGetUptoRow.holds Try.pinned (OpenSpec.upto fnPackGetSpec)

/-- 'laws.FnRun', WHERE WHAT IT READS IS OF BULK AT MOST 1048576: true; the input reads as it did. -/
def fnRunUptoRow : OpenClaim := { program := "ytfladcffgblfdaa", sum := "f81e2ccd7d48a60f8052f980323b3e5439834ad9ce793de45aea32f7afbfe430", func := "loop.example/intarsia/laws.FnRun", spec := "fnRun", apart := false, narrowed := true }
def FnRunUptoSaid : Prop := fnRunUptoRow.holds Try.pinned (OpenSpec.upto fnRunSpec)

/-- 'laws.FnRunGet', WHERE WHAT IT READS IS OF BULK AT MOST 1048576: true; the input reads as it did. -/
def fnRunGetUptoRow : OpenClaim := { program := "ytfladcffgblfdaa", sum := "f81e2ccd7d48a60f8052f980323b3e5439834ad9ce793de45aea32f7afbfe430", func := "loop.example/intarsia/laws.FnRunGet", spec := "fnRunGet", apart := false, narrowed := true }
def FnRunGetUptoSaid : Prop := fnRunGetUptoRow.holds Try.pinned (OpenSpec.upto fnRunGetSpec)

/-- 'laws.FnCodeMake', WHERE WHAT IT READS IS OF BULK AT MOST 1048576: true; the input reads as it did. -/
def fnCodeMakeUptoRow : OpenClaim := { program := "ytfladcffgblfdaa", sum := "f81e2ccd7d48a60f8052f980323b3e5439834ad9ce793de45aea32f7afbfe430", func := "loop.example/intarsia/laws.FnCodeMake", spec := "fnCodeMake", apart := false, narrowed := true }
def FnCodeMakeUptoSaid : Prop := fnCodeMakeUptoRow.holds Try.pinned (OpenSpec.upto fnCodeMakeSpec)

/-- 'laws.FnExactCodePut', WHERE WHAT IT READS IS OF BULK AT MOST 1048576: true; the input reads as it did. -/
def fnExactCodePutUptoRow : OpenClaim := { program := "ytfladcffgblfdaa", sum := "f81e2ccd7d48a60f8052f980323b3e5439834ad9ce793de45aea32f7afbfe430", func := "loop.example/intarsia/laws.FnExactCodePut", spec := "fnExactCodePut", apart := false, narrowed := true }
def FnExactCodePutUptoSaid : Prop := fnExactCodePutUptoRow.holds Try.pinned (OpenSpec.upto fnExactCodePutSpec)

end Rows
end Go.Proofs.Ytfladcffgblfdaa
