/- The law's row, out of its pure statement and the walk of what it calls. No condition beside the statement's own. -/
import Derived.Test.YtpjkcdgamlllgaaRows
import Derived.Test.YtpjkcdgamlllgaaHFnExactTokensOutx3
import Derived.Test.YtpjkcdgamlllgaaPureFnExactTokensOut
import Derived.Test.YtpjkcdgamlllgaaThRow
import Derived.WalkKit
import Derived.ProofKit
import Derived.OpenShut
import Derived.ShutString
import Derived.ChangeOld
import Derived.Below
import Derived.SizedLaws
import Derived.WideShapes
namespace Go.Proofs.Ytpjkcdgamlllgaa.fnExactTokensOut
open Go.ChangeShapes Go.WideShapes Go.ChangeAt Go.RowKit Go.Proofs.Ytpjkcdgamlllgaa.Th Go.Proofs.YtpjkcdgamlllgaaW.PrintWords
open Go.ChangeMaps (open_string shut_string)
set_option linter.unusedVariables false
theorem own : ownKnob Try.prog.godebug = none := by kernel_rfl
theorem laidOut : laidOutB Try.prog = true := by kernel_rfl
theorem opens3 : Opens Try.prog 3 (Kd.int .i64) (fun x => (Lit.int .i64 x).wf = true) := opens_int Try.underlying3
theorem opens74 : Opens Try.prog 74 PFnExactTokensOut.k74 (fun x => (Lit.int .i64 x.f0).wf = true ∧ (Lit.int .i64 x.f1).wf = true ∧ (Lit.int .i64 x.f2).wf = true) := by
  intro H enc w base spare held fuel cs x h
  obtain ⟨hl, hf⟩ := opens_fields Try.underlying74 (by kernel_rfl) (by kernel_rfl) h
  obtain ⟨n0, y0, g0⟩ := hf 0 _ rfl
  obtain ⟨n1, y1, g1⟩ := hf 1 _ rfl
  obtain ⟨n2, y2, g2⟩ := hf 2 _ rfl
  match cs, hl with
  | [c0, c1, c2], _ =>
    obtain ⟨x0, e0, w0⟩ := opens3 g0
    obtain rfl := (List.cons.inj e0).1
    obtain ⟨x1, e1, w1⟩ := opens3 g1
    obtain rfl := (List.cons.inj e1).1
    obtain ⟨x2, e2, w2⟩ := opens3 g2
    obtain rfl := (List.cons.inj e2).1
    exact ⟨⟨x0, x1, x2⟩, PFnExactTokensOut.k74_mk w ⟨x0, x1, x2⟩ , w0, w1, w2⟩
theorem opens22 : Opens Try.prog 22 (Kd.slice 74 PFnExactTokensOut.k74) (fun x => (x.length ≤ maxLen ∧ ∀ y0 ∈ x, PFnExactTokensOut.wfS74 y0)) := opens_slice Try.underlying22 (show Try.prog.cellsOf 74 = 3 from by kernel_rfl) opens74
set_option maxRecDepth 100000 in
theorem lifted (os : Os) (started : os.Started) (H : Type) (enc : TypeId × Value → H) :
    ReturnsInHanded {} Try.checked os 3 .any (Rows.fnExactTokensOutSpec.pre6 enc Try.prog Try.f3 Rows.fnExactTokensOutRow.domain false) (Rows.fnExactTokensOutSpec.post enc Try.prog Try.f3 false true false false) := by
  refine returnsInHanded_of_change_sized (C := Try.checked) own started (by kernel_rfl) Try.func3
    (ChangeSpec.witness6 (enc := enc) (C := Try.checked) false ⟨#[], #[.slice none 0 0], []⟩ 8 (by kernel_rfl) (by kernel_rfl) (by kernel_rfl) (by kernel_rfl)) ?_
  intro W base args ds gs before hval0 hW hcnd hsz0 _
  have hval : ∀ (j : Nat) t v, Try.f3.params[j]? = some t → args[j]? = some v → Value.okWide Try.prog W .any base t v := hval0
  have hW' := hW
  obtain ⟨p, q, hA0, hV, rfl, hfz, hnd⟩ := hW
  have hA : DataW.TrodAll enc Try.prog W 0 (fun _ => true) true Try.f3.params.toList args.toList ds p := hA0
  rw [Try.params3] at hA hval
  obtain ⟨v0, vs0, d0, ds0, p0, q0, hargs, rfl, rfl, h0, r0⟩ := trodAll_cons hA
  obtain ⟨rfl, rfl, rfl⟩ := trodAll_nil r0
  obtain rfl : args = #[v0] := by cases args; simp_all
  obtain ⟨rfl, rfl⟩ := trodVars_none hV
  obtain ⟨a0, len0, cap0, rfl⟩ := okWide_slice Try.underlying22 (hval 0 22 v0 rfl rfl)
  have k0 := h0
  have lt0 : ∀ x ∈ p0, x.block < W.heap.size := by obtain ⟨m, hm⟩ := k0; exact DataW.trod_lt m _ _ _ hm
  obtain ⟨z0, rfl, hc0, hr0, hm0, hw0⟩ := opens_arg opens22 h0
  clear hA0 hval0 hsz0
  refine (PFnExactTokensOut.laws_FnExactTokensOut.walk Pure.FnExactTokensOut a0 cap0 z0 W hr0 hc0 hm0 hw0).mono fun e W' ⟨he, bel⟩ => ?_
  subst he
  exact ⟨_, rfl, _, _, _, [], _, [], hW', trodAll_mk1 (shut_bool Try.underlying4 _), (trodAll_cons_mk (Below.trod laidOut (by kernel_rfl) (of_decide_eq_true (by kernel_rfl)) k0 bel lt0) trodAll_mk0), rfl, bel.frame _, fun h => by cases h⟩
theorem over : Rows.fnExactTokensOutRow.holds Try.pinned (OpenSpec.ofChange Rows.fnExactTokensOutSpec) :=
  OpenClaim.holds_of_wide 3 Try.f3 rfl rfl rfl rfl rfl rfl rfl ⟨rfl, rfl, rfl, rfl, rfl⟩ rfl rfl rfl rfl rfl (by kernel_rfl) Try.func3 (by kernel_rfl)
    (of_decide_eq_true (by kernel_rfl)) (by unfold Func.isWrapper; first | (rw [if_pos (by decide +kernel)]; kernel_rfl) | (rw [if_neg (by decide +kernel)]; exact ⟨rfl, rfl⟩))
    (fun os started H enc _ => lifted os started H enc)
theorem proved : Rows.FnExactTokensOutSaid := over
#print axioms proved
end Go.Proofs.Ytpjkcdgamlllgaa.fnExactTokensOut
namespace Go.Proofs.Ytpjkcdgamlllgaa
/-- The row, under a short name, for the claim. -/
theorem fnExactTokensOut_holds : Rows.FnExactTokensOutSaid := fnExactTokensOut.proved
end Go.Proofs.Ytpjkcdgamlllgaa
