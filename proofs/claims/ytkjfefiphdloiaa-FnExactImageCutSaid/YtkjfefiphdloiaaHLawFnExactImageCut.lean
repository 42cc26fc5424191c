/- The law's row, out of its pure statement and the walk of what it calls. No condition beside the statement's own. -/
import Derived.Test.YtkjfefiphdloiaaRows
import Derived.Test.YtkjfefiphdloiaaHFnExactImageCutx10
import Derived.Test.YtkjfefiphdloiaaPureFnExactImageCut
import Derived.Test.YtkjfefiphdloiaaThRow
import Derived.WalkKit
import Derived.ProofKit
import Derived.OpenShut
import Derived.ShutString
import Derived.ChangeOld
import Derived.Below
import Derived.SizedLaws
import Derived.WideShapes
namespace Go.Proofs.Ytkjfefiphdloiaa.fnExactImageCut
open Go.ChangeShapes Go.WideShapes Go.ChangeAt Go.RowKit Go.Proofs.Ytkjfefiphdloiaa.Th Go.Proofs.YtkjfefiphdloiaaW.PrintWords
open Go.ChangeMaps (open_string shut_string)
set_option linter.unusedVariables false
theorem own : ownKnob Try.prog.godebug = none := by kernel_rfl
theorem laidOut : laidOutB Try.prog = true := by kernel_rfl
theorem opens3 : Opens Try.prog 3 (Kd.int .i64) (fun x => (Lit.int .i64 x).wf = true) := opens_int Try.underlying3
theorem opens22 : Opens Try.prog 22 (Kd.slice 3 (Kd.int .i64)) (fun x => (x.length ≤ maxLen ∧ ∀ y0 ∈ x, (Lit.int .i64 y0).wf = true)) := opens_slice Try.underlying22 (show Try.prog.cellsOf 3 = 1 from by kernel_rfl) opens3
theorem opens24 : Opens Try.prog 24 PFnExactImageCut.k24 (fun x => (Lit.int .i64 x.f0).wf = true ∧ (Lit.int .i64 x.f1).wf = true ∧ (Lit.int .i64 x.f2).wf = true ∧ (Lit.int .i64 x.f3).wf = true ∧ (x.f4.length ≤ maxLen ∧ ∀ y0 ∈ x.f4, (Lit.int .i64 y0).wf = true) ∧ (x.f5.length ≤ maxLen ∧ ∀ y0 ∈ x.f5, (Lit.int .i64 y0).wf = true)) := by
  intro H enc w base spare held fuel cs x h
  obtain ⟨hl, hf⟩ := opens_fields Try.underlying24 (by kernel_rfl) (by kernel_rfl) h
  obtain ⟨n0, y0, g0⟩ := hf 0 _ rfl
  obtain ⟨n1, y1, g1⟩ := hf 1 _ rfl
  obtain ⟨n2, y2, g2⟩ := hf 2 _ rfl
  obtain ⟨n3, y3, g3⟩ := hf 3 _ rfl
  obtain ⟨n4, y4, g4⟩ := hf 4 _ rfl
  obtain ⟨n5, y5, g5⟩ := hf 5 _ rfl
  match cs, hl with
  | [c0, c1, c2, c3, c4, c5], _ =>
    obtain ⟨x0, e0, w0⟩ := opens3 g0
    obtain rfl := (List.cons.inj e0).1
    obtain ⟨x1, e1, w1⟩ := opens3 g1
    obtain rfl := (List.cons.inj e1).1
    obtain ⟨x2, e2, w2⟩ := opens3 g2
    obtain rfl := (List.cons.inj e2).1
    obtain ⟨x3, e3, w3⟩ := opens3 g3
    obtain rfl := (List.cons.inj e3).1
    obtain ⟨x4, e4, w4⟩ := opens22 g4
    obtain ⟨A4, d4, e4, l4, r4⟩ := e4
    obtain rfl := (List.cons.inj e4).1
    obtain ⟨x5, e5, w5⟩ := opens22 g5
    obtain ⟨A5, d5, e5, l5, r5⟩ := e5
    obtain rfl := (List.cons.inj e5).1
    exact ⟨⟨x0, x1, x2, x3, x4, x5⟩, PFnExactImageCut.k24_mk w ⟨x0, x1, x2, x3, x4, x5⟩ l4 r4 l5 r5, w0, w1, w2, w3, w4, w5⟩
set_option maxRecDepth 100000 in
theorem lifted (os : Os) (started : os.Started) (H : Type) (enc : TypeId × Value → H) :
    ReturnsInHanded {} Try.checked os 9 .any (Rows.fnExactImageCutSpec.pre6 enc Try.prog Try.f9 Rows.fnExactImageCutRow.domain false) (Rows.fnExactImageCutSpec.post enc Try.prog Try.f9 false true false false) := by
  refine returnsInHanded_of_change_sized (C := Try.checked) own started (by kernel_rfl) Try.func9
    (ChangeSpec.witness6 (enc := enc) (C := Try.checked) false ⟨#[], #[.agg #[.int .i64 0, .int .i64 0, .int .i64 0, .int .i64 0, .slice none 0 0, .slice none 0 0], .int .i64 0, .int .i64 0, .int .i64 0, .int .i64 0], []⟩ 8 (by kernel_rfl) (by kernel_rfl) (by kernel_rfl) (by kernel_rfl)) ?_
  intro W base args ds gs before hval0 hW hcnd hsz0 _
  have hval : ∀ (j : Nat) t v, Try.f9.params[j]? = some t → args[j]? = some v → Value.okWide Try.prog W .any base t v := hval0
  have hW' := hW
  obtain ⟨p, q, hA0, hV, rfl, hfz, hnd⟩ := hW
  have hA : DataW.TrodAll enc Try.prog W 0 (fun _ => true) true Try.f9.params.toList args.toList ds p := hA0
  rw [Try.params9] at hA hval
  obtain ⟨v0, vs0, d0, ds0, p0, q0, hargs, rfl, rfl, h0, r0⟩ := trodAll_cons hA
  obtain ⟨v1, vs1, d1, ds1, p1, q1, rfl, rfl, rfl, h1, r1⟩ := trodAll_cons r0
  obtain ⟨v2, vs2, d2, ds2, p2, q2, rfl, rfl, rfl, h2, r2⟩ := trodAll_cons r1
  obtain ⟨v3, vs3, d3, ds3, p3, q3, rfl, rfl, rfl, h3, r3⟩ := trodAll_cons r2
  obtain ⟨v4, vs4, d4, ds4, p4, q4, rfl, rfl, rfl, h4, r4⟩ := trodAll_cons r3
  obtain ⟨rfl, rfl, rfl⟩ := trodAll_nil r4
  obtain rfl : args = #[v0, v1, v2, v3, v4] := by cases args; simp_all
  obtain ⟨rfl, rfl⟩ := trodVars_none hV
  obtain ⟨cs0, rfl, _⟩ := okWide_struct Try.underlying24 (hval 0 24 v0 rfl rfl)
  have k0 := h0
  have lt0 : ∀ x ∈ p0, x.block < W.heap.size := by obtain ⟨m, hm⟩ := k0; exact DataW.trod_lt m _ _ _ hm
  obtain ⟨y0, hK0, w0_0, w0_1, w0_2, w0_3, w0_4, w0_5⟩ := opens_agg opens24 h0
  obtain ⟨A0_4, c0_4, A0_5, c0_5, e0, l0_4, g0_4, l0_5, g0_5⟩ := PFnExactImageCut.k24_open hK0
  obtain rfl : cs0 = #[.int .i64 y0.f0, .int .i64 y0.f1, .int .i64 y0.f2, .int .i64 y0.f3, .slice A0_4 y0.f4.length c0_4, .slice A0_5 y0.f5.length c0_5] := by have e_ := congrArg List.toArray e0; simpa using e_
  obtain ⟨a1, rfl, rfl, rfl, w1⟩ := open_int Try.underlying3 (hval 1 3 v1 rfl rfl) h1
  obtain ⟨a2, rfl, rfl, rfl, w2⟩ := open_int Try.underlying3 (hval 2 3 v2 rfl rfl) h2
  obtain ⟨a3, rfl, rfl, rfl, w3⟩ := open_int Try.underlying3 (hval 3 3 v3 rfl rfl) h3
  obtain ⟨a4, rfl, rfl, rfl, w4⟩ := open_int Try.underlying3 (hval 4 3 v4 rfl rfl) h4
  clear hA0 hval0 hsz0
  refine (PFnExactImageCut.laws_FnExactImageCut.walk Pure.FnExactImageCut y0.f0 y0.f1 y0.f2 y0.f3 A0_4 c0_4 y0.f4 A0_5 c0_5 y0.f5 a1 a2 a3 a4 W w0_0 w0_1 w0_2 w0_3 g0_4 l0_4 w0_4.1 w0_4.2 g0_5 l0_5 w0_5.1 w0_5.2 w1 w2 w3 w4).mono fun e W' ⟨he, bel⟩ => ?_
  subst he
  exact ⟨_, rfl, _, _, _, [], _, [], hW', trodAll_mk1 (shut_bool Try.underlying4 _), (trodAll_cons_mk (Below.trod laidOut (by kernel_rfl) (of_decide_eq_true (by kernel_rfl)) k0 bel lt0) (trodAll_cons_mk (shut_int Try.underlying3 w1) (trodAll_cons_mk (shut_int Try.underlying3 w2) (trodAll_cons_mk (shut_int Try.underlying3 w3) (trodAll_cons_mk (shut_int Try.underlying3 w4) trodAll_mk0))))), rfl, bel.frame _, fun h => by cases h⟩
theorem over : Rows.fnExactImageCutRow.holds Try.pinned (OpenSpec.ofChange Rows.fnExactImageCutSpec) :=
  OpenClaim.holds_of_wide 9 Try.f9 rfl rfl rfl rfl rfl rfl rfl ⟨rfl, rfl, rfl, rfl, rfl⟩ rfl rfl rfl rfl rfl (by kernel_rfl) Try.func9 (by kernel_rfl)
    (of_decide_eq_true (by kernel_rfl)) (by unfold Func.isWrapper; first | (rw [if_pos (by decide +kernel)]; kernel_rfl) | (rw [if_neg (by decide +kernel)]; exact ⟨rfl, rfl⟩))
    (fun os started H enc _ => lifted os started H enc)
theorem proved : Rows.FnExactImageCutSaid := over
#print axioms proved
end Go.Proofs.Ytkjfefiphdloiaa.fnExactImageCut
namespace Go.Proofs.Ytkjfefiphdloiaa
/-- The row, under a short name, for the claim. -/
theorem fnExactImageCut_holds : Rows.FnExactImageCutSaid := fnExactImageCut.proved
end Go.Proofs.Ytkjfefiphdloiaa
