/- The law's row, out of its pure statement and the walk of what it calls. No condition beside the statement's own. -/
import Derived.Test.YtpjkcdgamlllgaaRows
import Derived.Test.YtpjkcdgamlllgaaHFnExactRlePutx3
import Derived.Test.YtpjkcdgamlllgaaPureFnExactRlePut
import Derived.Test.YtpjkcdgamlllgaaThRow
import Derived.WalkKit
import Derived.ProofKit
import Derived.OpenShut
import Derived.ShutString
import Derived.ChangeOld
import Derived.Below
import Derived.SizedLaws
import Derived.WideShapes
namespace Go.Proofs.Ytpjkcdgamlllgaa.fnExactRlePut
open Go.ChangeShapes Go.WideShapes Go.ChangeAt Go.RowKit Go.Proofs.Ytpjkcdgamlllgaa.Th Go.Proofs.YtpjkcdgamlllgaaW.PrintWords
open Go.ChangeMaps (open_string shut_string)
set_option linter.unusedVariables false
theorem own : ownKnob Try.prog.godebug = none := by kernel_rfl
theorem laidOut : laidOutB Try.prog = true := by kernel_rfl
theorem opens3 : Opens Try.prog 3 (Kd.int .i64) (fun x => (Lit.int .i64 x).wf = true) := opens_int Try.underlying3
theorem opens30 : Opens Try.prog 30 (Kd.slice 3 (Kd.int .i64)) (fun x => (x.length ≤ maxLen ∧ ∀ y0 ∈ x, (Lit.int .i64 y0).wf = true)) := opens_slice Try.underlying30 (show Try.prog.cellsOf 3 = 1 from by kernel_rfl) opens3
theorem opens44 : Opens Try.prog 44 (Kd.slice 30 (Kd.slice 3 (Kd.int .i64))) (fun x => (x.length ≤ maxLen ∧ ∀ y0 ∈ x, (y0.length ≤ maxLen ∧ ∀ y1 ∈ y0, (Lit.int .i64 y1).wf = true))) := opens_slice Try.underlying44 (show Try.prog.cellsOf 30 = 1 from by kernel_rfl) opens30
set_option maxRecDepth 100000 in
theorem lifted (os : Os) (started : os.Started) (H : Type) (enc : TypeId × Value → H) :
    ReturnsInHanded {} Try.checked os 10 .any (Rows.fnExactRlePutSpec.pre6 enc Try.prog Try.f10 Rows.fnExactRlePutRow.domain false) (Rows.fnExactRlePutSpec.post enc Try.prog Try.f10 false true false false) := by
  refine returnsInHanded_of_change_sized (C := Try.checked) own started (by kernel_rfl) Try.func10
    (ChangeSpec.witness6 (enc := enc) (C := Try.checked) false ⟨#[], #[.slice none 0 0], []⟩ 8 (by kernel_rfl) (by kernel_rfl) (by kernel_rfl) (by kernel_rfl)) ?_
  intro W base args ds gs before hval0 hW hcnd hsz0 _
  have hval : ∀ (j : Nat) t v, Try.f10.params[j]? = some t → args[j]? = some v → Value.okWide Try.prog W .any base t v := hval0
  have hW' := hW
  obtain ⟨p, q, hA0, hV, rfl, hfz, hnd⟩ := hW
  have hA : DataW.TrodAll enc Try.prog W 0 (fun _ => true) true Try.f10.params.toList args.toList ds p := hA0
  rw [Try.params10] at hA hval
  obtain ⟨v0, vs0, d0, ds0, p0, q0, hargs, rfl, rfl, h0, r0⟩ := trodAll_cons hA
  obtain ⟨rfl, rfl, rfl⟩ := trodAll_nil r0
  obtain rfl : args = #[v0] := by cases args; simp_all
  obtain ⟨rfl, rfl⟩ := trodVars_none hV
  obtain ⟨a0, len0, cap0, rfl⟩ := okWide_slice Try.underlying44 (hval 0 44 v0 rfl rfl)
  have k0 := h0
  have lt0 : ∀ x ∈ p0, x.block < W.heap.size := by obtain ⟨m, hm⟩ := k0; exact DataW.trod_lt m _ _ _ hm
  obtain ⟨z0, rfl, hc0, hr0, hm0, hw0⟩ := opens_arg opens44 h0
  clear hA0 hval0 hsz0
  refine (PFnExactRlePut.laws_FnExactRlePut.walk Pure.FnExactRlePut a0 cap0 z0 W hr0 hc0 hm0 hw0).mono fun e W' ⟨he, bel⟩ => ?_
  subst he
  exact ⟨_, rfl, _, _, _, [], _, [], hW', trodAll_mk1 (shut_bool Try.underlying4 _), (trodAll_cons_mk (Below.trod laidOut (by kernel_rfl) (of_decide_eq_true (by kernel_rfl)) k0 bel lt0) trodAll_mk0), rfl, bel.frame _, fun h => by cases h⟩
theorem over : Rows.fnExactRlePutRow.holds Try.pinned (OpenSpec.ofChange Rows.fnExactRlePutSpec) :=
  OpenClaim.holds_of_wide 10 Try.f10 rfl rfl rfl rfl rfl rfl rfl ⟨rfl, rfl, rfl, rfl, rfl⟩ rfl rfl rfl rfl rfl (by kernel_rfl) Try.func10 (by kernel_rfl)
    (of_decide_eq_true (by kernel_rfl)) (by unfold Func.isWrapper; first | (rw [if_pos (by decide +kernel)]; kernel_rfl) | (rw [if_neg (by decide +kernel)]; exact ⟨rfl, rfl⟩))
    (fun os started H enc _ => lifted os started H enc)
theorem proved : Rows.FnExactRlePutSaid := over
#print axioms proved
end Go.Proofs.Ytpjkcdgamlllgaa.fnExactRlePut
namespace Go.Proofs.Ytpjkcdgamlllgaa
/-- The row, under a short name, for the claim. -/
theorem fnExactRlePut_holds : Rows.FnExactRlePutSaid := fnExactRlePut.proved
end Go.Proofs.Ytpjkcdgamlllgaa
