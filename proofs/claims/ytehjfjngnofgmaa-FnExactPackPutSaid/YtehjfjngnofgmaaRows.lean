/-
  No cell of these rows narrows 'for every input' (looked for: loops, veiled, ifaces, maps, wideKeys, modest, calm, conditions, laid).
  DERIVED. THE GIVEN ROWS OF THIS SEAT. 12 by the template 'for every input the law returns true; each argument reads behind the call as it read before'; 0 by the template 'total and deterministic' (their statements: YtehjfjngnofgmaaTotals.lean).
  GIVEN WITH THE SEED: the statements are not yours to turn. If you find one false, say at which input.
  Laid BY PROGRAM, IN A SANDBOX (cutbox-rows.mjs): the forced cells as the released guide's own fill.sh prints them over the translation ef141cbce72051f7… (all of the seat's roots in one cut). By AI agents, Wed Nov 11 2026. No macro, syntax, notation, axiom, sorry.
-/
import Derived.Test.YtehjfjngnofgmaaChecked
import GoSem.Claim
import GoSem.ClaimJoined
import GoSem.ClaimMapViews
import Derived.JoinedTies
import Derived.KernelRfl
namespace Go.Proofs.Ytehjfjngnofgmaa
/- THE CELL 'sum', in the pinned program and in every row, IS THE sha256 OF THE DUMP (.gsa) THAT YtehjfjngnofgmaaProg.lean LOADS. Nothing in Lean hashes anything: it is a label: what it is worth is what the hold of that sum in a sandbox is worth. -/
noncomputable def Try.pinned : Pinned := { name := "ytehjfjngnofgmaa", sum := "ef141cbce72051f773478c7d29096c442b7b98b8cf60a96a756726c824ec3ff2", checked := Try.checked }
namespace Rows
def none {H : Type} : Left H := { results := [], args := [] }

/-- 'laws.FnExactConstants': WHATEVER THE INPUT: true; the input reads as it did. -/
def fnExactConstantsSpec : ChangeSpec := { name := "fnExactConstants", fn := fun _ => fun
  | [] => { results := [.lit (.bool true)], args := [] }
  | _ => none }
def fnExactConstantsRow : OpenClaim := { program := "ytehjfjngnofgmaa", sum := "ef141cbce72051f773478c7d29096c442b7b98b8cf60a96a756726c824ec3ff2", func := "loop.example/intarsia/laws.FnExactConstants", spec := "fnExactConstants", apart := false }
def FnExactConstantsSaid : Prop := fnExactConstantsRow.holds Try.pinned (OpenSpec.ofChange fnExactConstantsSpec)

/-- ITS FALSE NEIGHBOUR: 'it returns false'. Refute it at one input. -/
def fnExactConstantsWrong : ChangeSpec := { name := "fnExactConstants", fn := fun _ => fun
  | [] => { results := [.lit (.bool false)], args := [] }
  | _ => none }
def FnExactConstantsWrongFalsely : Prop := fnExactConstantsRow.holds Try.pinned (OpenSpec.ofChange fnExactConstantsWrong)

/-- 'laws.FnExactAdlerMore': WHATEVER THE INPUT: true; the input reads as it did. -/
def fnExactAdlerMoreSpec : ChangeSpec := { name := "fnExactAdlerMore", fn := fun _ => fun
  | [d1, d2] => { results := [.lit (.bool true)], args := [d1, d2] }
  | _ => none }
def fnExactAdlerMoreRow : OpenClaim := { program := "ytehjfjngnofgmaa", sum := "ef141cbce72051f773478c7d29096c442b7b98b8cf60a96a756726c824ec3ff2", func := "loop.example/intarsia/laws.FnExactAdlerMore", spec := "fnExactAdlerMore", apart := false }
def FnExactAdlerMoreSaid : Prop := fnExactAdlerMoreRow.holds Try.pinned (OpenSpec.ofChange fnExactAdlerMoreSpec)

/-- ITS FALSE NEIGHBOUR: 'it returns false'. Refute it at one input. -/
def fnExactAdlerMoreWrong : ChangeSpec := { name := "fnExactAdlerMore", fn := fun _ => fun
  | [d1, d2] => { results := [.lit (.bool false)], args := [d1, d2] }
  | _ => none }
def FnExactAdlerMoreWrongFalsely : Prop := fnExactAdlerMoreRow.holds Try.pinned (OpenSpec.ofChange fnExactAdlerMoreWrong)

/-- 'laws.FnExactAdler32': WHATEVER THE INPUT: true; the input reads as it did. -/
def fnExactAdler32Spec : ChangeSpec := { name := "fnExactAdler32", fn := fun _ => fun
  | [d] => { results := [.lit (.bool true)], args := [d] }
  | _ => none }
def fnExactAdler32Row : OpenClaim := { program := "ytehjfjngnofgmaa", sum := "ef141cbce72051f773478c7d29096c442b7b98b8cf60a96a756726c824ec3ff2", func := "loop.example/intarsia/laws.FnExactAdler32", spec := "fnExactAdler32", apart := false }
def FnExactAdler32Said : Prop := fnExactAdler32Row.holds Try.pinned (OpenSpec.ofChange fnExactAdler32Spec)

/-- ITS FALSE NEIGHBOUR: 'it returns false'. Refute it at one input. -/
def fnExactAdler32Wrong : ChangeSpec := { name := "fnExactAdler32", fn := fun _ => fun
  | [d] => { results := [.lit (.bool false)], args := [d] }
  | _ => none }
def FnExactAdler32WrongFalsely : Prop := fnExactAdler32Row.holds Try.pinned (OpenSpec.ofChange fnExactAdler32Wrong)

/-- 'laws.FnExactNumGet': WHATEVER THE INPUT: true; the input reads as it did. -/
def fnExactNumGetSpec : ChangeSpec := { name := "fnExactNumGet", fn := fun _ => fun
  | [d1, d2, d3, d4] => { results := [.lit (.bool true)], args := [d1, d2, d3, d4] }
  | _ => none }
def fnExactNumGetRow : OpenClaim := { program := "ytehjfjngnofgmaa", sum := "ef141cbce72051f773478c7d29096c442b7b98b8cf60a96a756726c824ec3ff2", func := "loop.example/intarsia/laws.FnExactNumGet", spec := "fnExactNumGet", apart := false }
def FnExactNumGetSaid : Prop := fnExactNumGetRow.holds Try.pinned (OpenSpec.ofChange fnExactNumGetSpec)

/-- ITS FALSE NEIGHBOUR: 'it returns false'. Refute it at one input. -/
def fnExactNumGetWrong : ChangeSpec := { name := "fnExactNumGet", fn := fun _ => fun
  | [d1, d2, d3, d4] => { results := [.lit (.bool false)], args := [d1, d2, d3, d4] }
  | _ => none }
def FnExactNumGetWrongFalsely : Prop := fnExactNumGetRow.holds Try.pinned (OpenSpec.ofChange fnExactNumGetWrong)

/-- 'laws.FnExactCrcMore': WHATEVER THE INPUT: true; the input reads as it did. -/
def fnExactCrcMoreSpec : ChangeSpec := { name := "fnExactCrcMore", fn := fun _ => fun
  | [d1, d2] => { results := [.lit (.bool true)], args := [d1, d2] }
  | _ => none }
def fnExactCrcMoreRow : OpenClaim := { program := "ytehjfjngnofgmaa", sum := "ef141cbce72051f773478c7d29096c442b7b98b8cf60a96a756726c824ec3ff2", func := "loop.example/intarsia/laws.FnExactCrcMore", spec := "fnExactCrcMore", apart := false }
def FnExactCrcMoreSaid : Prop := fnExactCrcMoreRow.holds Try.pinned (OpenSpec.ofChange fnExactCrcMoreSpec)

/-- ITS FALSE NEIGHBOUR: 'it returns false'. Refute it at one input. -/
def fnExactCrcMoreWrong : ChangeSpec := { name := "fnExactCrcMore", fn := fun _ => fun
  | [d1, d2] => { results := [.lit (.bool false)], args := [d1, d2] }
  | _ => none }
def FnExactCrcMoreWrongFalsely : Prop := fnExactCrcMoreRow.holds Try.pinned (OpenSpec.ofChange fnExactCrcMoreWrong)

/-- 'laws.FnExactNumPut': WHATEVER THE INPUT: true; the input reads as it did. -/
def fnExactNumPutSpec : ChangeSpec := { name := "fnExactNumPut", fn := fun _ => fun
  | [d1, d2, d3] => { results := [.lit (.bool true)], args := [d1, d2, d3] }
  | _ => none }
def fnExactNumPutRow : OpenClaim := { program := "ytehjfjngnofgmaa", sum := "ef141cbce72051f773478c7d29096c442b7b98b8cf60a96a756726c824ec3ff2", func := "loop.example/intarsia/laws.FnExactNumPut", spec := "fnExactNumPut", apart := false }
def FnExactNumPutSaid : Prop := fnExactNumPutRow.holds Try.pinned (OpenSpec.ofChange fnExactNumPutSpec)

/-- ITS FALSE NEIGHBOUR: 'it returns false'. Refute it at one input. -/
def fnExactNumPutWrong : ChangeSpec := { name := "fnExactNumPut", fn := fun _ => fun
  | [d1, d2, d3] => { results := [.lit (.bool false)], args := [d1, d2, d3] }
  | _ => none }
def FnExactNumPutWrongFalsely : Prop := fnExactNumPutRow.holds Try.pinned (OpenSpec.ofChange fnExactNumPutWrong)

/-- 'laws.FnExactCrc32': WHATEVER THE INPUT: true; the input reads as it did. -/
def fnExactCrc32Spec : ChangeSpec := { name := "fnExactCrc32", fn := fun _ => fun
  | [d] => { results := [.lit (.bool true)], args := [d] }
  | _ => none }
def fnExactCrc32Row : OpenClaim := { program := "ytehjfjngnofgmaa", sum := "ef141cbce72051f773478c7d29096c442b7b98b8cf60a96a756726c824ec3ff2", func := "loop.example/intarsia/laws.FnExactCrc32", spec := "fnExactCrc32", apart := false }
def FnExactCrc32Said : Prop := fnExactCrc32Row.holds Try.pinned (OpenSpec.ofChange fnExactCrc32Spec)

/-- ITS FALSE NEIGHBOUR: 'it returns false'. Refute it at one input. -/
def fnExactCrc32Wrong : ChangeSpec := { name := "fnExactCrc32", fn := fun _ => fun
  | [d] => { results := [.lit (.bool false)], args := [d] }
  | _ => none }
def FnExactCrc32WrongFalsely : Prop := fnExactCrc32Row.holds Try.pinned (OpenSpec.ofChange fnExactCrc32Wrong)

/-- 'laws.FnImageLike': WHATEVER THE INPUT: true; the input reads as it did. -/
def fnImageLikeSpec : ChangeSpec := { name := "fnImageLike", fn := fun _ => fun
  | [d] => { results := [.lit (.bool true)], args := [d] }
  | _ => none }
def fnImageLikeRow : OpenClaim := { program := "ytehjfjngnofgmaa", sum := "ef141cbce72051f773478c7d29096c442b7b98b8cf60a96a756726c824ec3ff2", func := "loop.example/intarsia/laws.FnImageLike", spec := "fnImageLike", unfollowed := true, recurses := true, apart := false }
def FnImageLikeSaid : Prop := fnImageLikeRow.holds Try.pinned (OpenSpec.ofChange fnImageLikeSpec)

/-- ITS FALSE NEIGHBOUR: 'it returns false'. Refute it at one input. -/
def fnImageLikeWrong : ChangeSpec := { name := "fnImageLike", fn := fun _ => fun
  | [d] => { results := [.lit (.bool false)], args := [d] }
  | _ => none }
def FnImageLikeWrongFalsely : Prop := fnImageLikeRow.holds Try.pinned (OpenSpec.ofChange fnImageLikeWrong)

/-- 'laws.FnExactBitsGet': WHATEVER THE INPUT: true; the input reads as it did. -/
def fnExactBitsGetSpec : ChangeSpec := { name := "fnExactBitsGet", fn := fun _ => fun
  | [d1, d2, d3, d4] => { results := [.lit (.bool true)], args := [d1, d2, d3, d4] }
  | _ => none }
def fnExactBitsGetRow : OpenClaim := { program := "ytehjfjngnofgmaa", sum := "ef141cbce72051f773478c7d29096c442b7b98b8cf60a96a756726c824ec3ff2", func := "loop.example/intarsia/laws.FnExactBitsGet", spec := "fnExactBitsGet", apart := false }
def FnExactBitsGetSaid : Prop := fnExactBitsGetRow.holds Try.pinned (OpenSpec.ofChange fnExactBitsGetSpec)

/-- ITS FALSE NEIGHBOUR: 'it returns false'. Refute it at one input. -/
def fnExactBitsGetWrong : ChangeSpec := { name := "fnExactBitsGet", fn := fun _ => fun
  | [d1, d2, d3, d4] => { results := [.lit (.bool false)], args := [d1, d2, d3, d4] }
  | _ => none }
def FnExactBitsGetWrongFalsely : Prop := fnExactBitsGetRow.holds Try.pinned (OpenSpec.ofChange fnExactBitsGetWrong)

/-- 'laws.FnExactCodeOk': WHATEVER THE INPUT: true; the input reads as it did. -/
def fnExactCodeOkSpec : ChangeSpec := { name := "fnExactCodeOk", fn := fun _ => fun
  | [d] => { results := [.lit (.bool true)], args := [d] }
  | _ => none }
def fnExactCodeOkRow : OpenClaim := { program := "ytehjfjngnofgmaa", sum := "ef141cbce72051f773478c7d29096c442b7b98b8cf60a96a756726c824ec3ff2", func := "loop.example/intarsia/laws.FnExactCodeOk", spec := "fnExactCodeOk", apart := false }
def FnExactCodeOkSaid : Prop := fnExactCodeOkRow.holds Try.pinned (OpenSpec.ofChange fnExactCodeOkSpec)

/-- ITS FALSE NEIGHBOUR: 'it returns false'. Refute it at one input. -/
def fnExactCodeOkWrong : ChangeSpec := { name := "fnExactCodeOk", fn := fun _ => fun
  | [d] => { results := [.lit (.bool false)], args := [d] }
  | _ => none }
def FnExactCodeOkWrongFalsely : Prop := fnExactCodeOkRow.holds Try.pinned (OpenSpec.ofChange fnExactCodeOkWrong)

/-- 'laws.FnExactPackPut': WHATEVER THE INPUT: true; the input reads as it did. -/
def fnExactPackPutSpec : ChangeSpec := { name := "fnExactPackPut", fn := fun _ => fun
  | [d] => { results := [.lit (.bool true)], args := [d] }
  | _ => none }
def fnExactPackPutRow : OpenClaim := { program := "ytehjfjngnofgmaa", sum := "ef141cbce72051f773478c7d29096c442b7b98b8cf60a96a756726c824ec3ff2", func := "loop.example/intarsia/laws.FnExactPackPut", spec := "fnExactPackPut", apart := false }
def FnExactPackPutSaid : Prop := fnExactPackPutRow.holds Try.pinned (OpenSpec.ofChange fnExactPackPutSpec)

/-- ITS FALSE NEIGHBOUR: 'it returns false'. Refute it at one input. -/
def fnExactPackPutWrong : ChangeSpec := { name := "fnExactPackPut", fn := fun _ => fun
  | [d] => { results := [.lit (.bool false)], args := [d] }
  | _ => none }
def FnExactPackPutWrongFalsely : Prop := fnExactPackPutRow.holds Try.pinned (OpenSpec.ofChange fnExactPackPutWrong)

/-- 'laws.FnExactCodeFull': WHATEVER THE INPUT: true; the input reads as it did. -/
def fnExactCodeFullSpec : ChangeSpec := { name := "fnExactCodeFull", fn := fun _ => fun
  | [d] => { results := [.lit (.bool true)], args := [d] }
  | _ => none }
def fnExactCodeFullRow : OpenClaim := { program := "ytehjfjngnofgmaa", sum := "ef141cbce72051f773478c7d29096c442b7b98b8cf60a96a756726c824ec3ff2", func := "loop.example/intarsia/laws.FnExactCodeFull", spec := "fnExactCodeFull", apart := false }
def FnExactCodeFullSaid : Prop := fnExactCodeFullRow.holds Try.pinned (OpenSpec.ofChange fnExactCodeFullSpec)

/-- ITS FALSE NEIGHBOUR: 'it returns false'. Refute it at one input. -/
def fnExactCodeFullWrong : ChangeSpec := { name := "fnExactCodeFull", fn := fun _ => fun
  | [d] => { results := [.lit (.bool false)], args := [d] }
  | _ => none }
def FnExactCodeFullWrongFalsely : Prop := fnExactCodeFullRow.holds Try.pinned (OpenSpec.ofChange fnExactCodeFullWrong)

/- THE SECOND FORM. 'bulk': how many values and letters a reading holds, each counted each time it is reached (what is shared counts as often as it is met; a slice's spare places count too). A statement '..UptoSaid' is the law's where the arguments, and the package variables that the reading takes, are together of bulk at most 1048576: NARROWER than '..Said'. Prove '..Said' where nothing that the law and all that it calls make is longer than what came in: it says more and counts as full. Else prove '..UptoSaid'. A law counts once. -/
mutual
def uptoBulk {H : Type} : DataW H → Nat
  | .lit (.string bytes) => bytes.length + 1
  | .lit _ => 1
  | .nil => 1
  | .ptr d => uptoBulk d + 1
  | .slice elems spare => uptoBulkAll elems + uptoBulkAll spare + 1
  | .agg parts => uptoBulkAll parts + 1
  | .iface _ d => uptoBulk d + 1
  | .map entries => uptoBulkEntries entries + 1
  | .held _ => 1
def uptoBulkAll {H : Type} : List (DataW H) → Nat
  | [] => 0
  | d :: r => uptoBulk d + uptoBulkAll r
def uptoBulkEntries {H : Type} : List (Lit × DataW H) → Nat
  | [] => 0
  | x :: r => uptoBulkEntry x + uptoBulkEntries r
def uptoBulkEntry {H : Type} : Lit × DataW H → Nat
  | (.string bytes, d) => bytes.length + uptoBulk d + 1
  | (_, d) => uptoBulk d + 1
 end
def uptoSmall : (H : Type) → List (DataW H) → Bool := fun _ ds => decide (uptoBulkAll ds ≤ 1048576)
def OpenSpec.upto (s : _root_.Go.ChangeSpec) : _root_.Go.OpenSpec := { _root_.Go.OpenSpec.ofChange s with cond := some uptoSmall }

/-- 'laws.FnExactConstants', WHERE WHAT IT READS IS OF BULK AT MOST 1048576: true; the input reads as it did. -/
def fnExactConstantsUptoRow : OpenClaim := { program := "ytehjfjngnofgmaa", sum := "ef141cbce72051f773478c7d29096c442b7b98b8cf60a96a756726c824ec3ff2", func := "loop.example/intarsia/laws.FnExactConstants", spec := "fnExactConstants", apart := false, narrowed := true }
def FnExactConstantsUptoSaid : Prop := fnExactConstantsUptoRow.holds Try.pinned (OpenSpec.upto fnExactConstantsSpec)

/-- 'laws.FnExactAdlerMore', WHERE WHAT IT READS IS OF BULK AT MOST 1048576: true; the input reads as it did. -/
def fnExactAdlerMoreUptoRow : OpenClaim := { program := "ytehjfjngnofgmaa", sum := "ef141cbce72051f773478c7d29096c442b7b98b8cf60a96a756726c824ec3ff2", func := "loop.example/intarsia/laws.FnExactAdlerMore", spec := "fnExactAdlerMore", apart := false, narrowed := true }
def FnExactAdlerMoreUptoSaid : Prop := fnExactAdlerMoreUptoRow.holds Try.pinned (OpenSpec.upto fnExactAdlerMoreSpec)

/-- 'laws.FnExactAdler32', WHERE WHAT IT READS IS OF BULK AT MOST 1048576: true; the input reads as it did. -/
def fnExactAdler32UptoRow : OpenClaim := { program := "ytehjfjngnofgmaa", sum := "ef141cbce72051f773478c7d29096c442b7b98b8cf60a96a756726c824ec3ff2", func := "loop.example/intarsia/laws.FnExactAdler32", spec := "fnExactAdler32", apart := false, narrowed := true }
def FnExactAdler32UptoSaid : Prop := fnExactAdler32UptoRow.holds Try.pinned (OpenSpec.upto fnExactAdler32Spec)

/-- 'laws.FnExactNumGet', WHERE WHAT IT READS IS OF BULK AT MOST 1048576: true; the input reads as it did. -/
def fnExactNumGetUptoRow : OpenClaim := { program := "ytehjfjngnofgmaa", sum := "ef141cbce72051f773478c7d29096c442b7b98b8cf60a96a756726c824ec3ff2", func := "loop.example/intarsia/laws.FnExactNumGet", spec := "fnExactNumGet", apart := false, narrowed := true }
def FnExactNumGetUptoSaid : Prop := fnExactNumGetUptoRow.holds Try.pinned (OpenSpec.upto fnExactNumGetSpec)

/-- 'laws.FnExactCrcMore', WHERE WHAT IT READS IS OF BULK AT MOST 1048576: true; the input reads as it did. -/
def fnExactCrcMoreUptoRow : OpenClaim := { program := "ytehjfjngnofgmaa", sum := "ef141cbce72051f773478c7d29096c442b7b98b8cf60a96a756726c824ec3ff2", func := "loop.example/intarsia/laws.FnExactCrcMore", spec := "fnExactCrcMore", apart := false, narrowed := true }
def FnExactCrcMoreUptoSaid : Prop := fnExactCrcMoreUptoRow.holds Try.pinned (OpenSpec.upto fnExactCrcMoreSpec)

/-- 'laws.FnExactNumPut', WHERE WHAT IT READS IS OF BULK AT MOST 1048576: true; the input reads as it did. -/
def fnExactNumPutUptoRow : OpenClaim := { program := "ytehjfjngnofgmaa", sum := "ef141cbce72051f773478c7d29096c442b7b98b8cf60a96a756726c824ec3ff2", func := "loop.example/intarsia/laws.FnExactNumPut", spec := "fnExactNumPut", apart := false, narrowed := true }
def FnExactNumPutUptoSaid : Prop := fnExactNumPutUptoRow.holds Try.pinned (OpenSpec.upto fnExactNumPutSpec)

/-- 'laws.FnExactCrc32', WHERE WHAT IT READS IS OF BULK AT MOST 1048576: true; the input reads as it did. -/
def fnExactCrc32UptoRow : OpenClaim := { program := "ytehjfjngnofgmaa", sum := "ef141cbce72051f773478c7d29096c442b7b98b8cf60a96a756726c824ec3ff2", func := "loop.example/intarsia/laws.FnExactCrc32", spec := "fnExactCrc32", apart := false, narrowed := true }
def FnExactCrc32UptoSaid : Prop := fnExactCrc32UptoRow.holds Try.pinned (OpenSpec.upto fnExactCrc32Spec)

/-- 'laws.FnImageLike', WHERE WHAT IT READS IS OF BULK AT MOST 1048576: true; the input reads as it did. -/
def fnImageLikeUptoRow : OpenClaim := { program := "ytehjfjngnofgmaa", sum := "ef141cbce72051f773478c7d29096c442b7b98b8cf60a96a756726c824ec3ff2", func := "loop.example/intarsia/laws.FnImageLike", spec := "fnImageLike", unfollowed := true, recurses := true, apart := false, narrowed := true }
def FnImageLikeUptoSaid : Prop := fnImageLikeUptoRow.holds Try.pinned (OpenSpec.upto fnImageLikeSpec)

/-- 'laws.FnExactBitsGet', WHERE WHAT IT READS IS OF BULK AT MOST 1048576: true; the input reads as it did. -/
def fnExactBitsGetUptoRow : OpenClaim := { program := "ytehjfjngnofgmaa", sum := "ef141cbce72051f773478c7d29096c442b7b98b8cf60a96a756726c824ec3ff2", func := "loop.example/intarsia/laws.FnExactBitsGet", spec := "fnExactBitsGet", apart := false, narrowed := true }
def FnExactBitsGetUptoSaid : Prop := fnExactBitsGetUptoRow.holds Try.pinned (OpenSpec.upto fnExactBitsGetSpec)

/-- 'laws.FnExactCodeOk', WHERE WHAT IT READS IS OF BULK AT MOST 1048576: true; the input reads as it did. -/
def fnExactCodeOkUptoRow : OpenClaim := { program := "ytehjfjngnofgmaa", sum := "ef141cbce72051f773478c7d29096c442b7b98b8cf60a96a756726c824ec3ff2", func := "loop.example/intarsia/laws.FnExactCodeOk", spec := "fnExactCodeOk", apart := false, narrowed := true }
def FnExactCodeOkUptoSaid : Prop := fnExactCodeOkUptoRow.holds Try.pinned (OpenSpec.upto fnExactCodeOkSpec)

/-- 'laws.FnExactPackPut', WHERE WHAT IT READS IS OF BULK AT MOST 1048576: true; the input reads as it did. -/
def fnExactPackPutUptoRow : OpenClaim := { program := "ytehjfjngnofgmaa", sum := "ef141cbce72051f773478c7d29096c442b7b98b8cf60a96a756726c824ec3ff2", func := "loop.example/intarsia/laws.FnExactPackPut", spec := "fnExactPackPut", apart := false, narrowed := true }
def FnExactPackPutUptoSaid : Prop := fnExactPackPutUptoRow.holds Try.pinned (OpenSpec.upto fnExactPackPutSpec)

/-- 'laws.FnExactCodeFull', WHERE WHAT IT READS IS OF BULK AT MOST 1048576: true; the input reads as it did. -/
def fnExactCodeFullUptoRow : OpenClaim := { program := "ytehjfjngnofgmaa", sum := "ef141cbce72051f773478c7d29096c442b7b98b8cf60a96a756726c824ec3ff2", func := "loop.example/intarsia/laws.FnExactCodeFull", spec := "fnExactCodeFull", apart := false, narrowed := true }
def FnExactCodeFullUptoSaid : Prop := fnExactCodeFullUptoRow.holds Try.pinned (OpenSpec.upto fnExactCodeFullSpec)

end Rows
end Go.Proofs.Ytehjfjngnofgmaa
