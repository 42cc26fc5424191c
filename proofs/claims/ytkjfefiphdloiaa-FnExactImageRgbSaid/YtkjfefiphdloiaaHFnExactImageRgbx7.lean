/- What the functions that the law comes to compute, as plain functions, and that the machine's calls come to just that: written by a program for this claim, and turned where Lean did not take it. No condition. -/
import Derived.Test.YtkjfefiphdloiaaHFnExactImageRgbx0
import Derived.Test.YtkjfefiphdloiaaHFnExactImageRgbx1
import Derived.Test.YtkjfefiphdloiaaHFnExactImageRgbx4
import Derived.Test.YtkjfefiphdloiaaHFnExactImageRgbx6
namespace Go.Proofs.Ytkjfefiphdloiaa.PFnExactImageRgb
open Go.RowKit Go.Proofs.YtkjfefiphdloiaaW.PrintWords Go.Proofs.YtkjfefiphdloiaaW.PrintLast Go.Proofs.YtkjfefiphdloiaaW.PrintMore
attribute [local go_sem] max2_int min2_int max_two min_two max_three min_three max_four min_four   -- for this text's walks alone
set_option linter.unusedVariables false
set_option linter.unusedSimpArgs false

/-! ### laws_FnExactImageRgb: function 10 -/
mutual
def laws_FnExactImageRgb.j0 : Nat → Bool → Bool → Bool → Int → Int → Int → Int → List Int → List Int → Int → Int → Int → Int → List Int → List Int → Int → Int → Int → Int → List Int → List Int → Int → Int → Int → Int → List Int → List Int → Option (Bool)
  | 0, _, _, _, _, _, _, _, _, _, _, _, _, _, _, _, _, _, _, _, _, _, _, _, _, _, _, _ => none
  | k + 1, x5, x8, x40, x180000, x180001, x180002, x180003, x180004, x180005, x203000, x203001, x203002, x203003, x203004, x203005, x214000, x214001, x214002, x214003, x214004, x214005, x226000, x226001, x226002, x226003, x226004, x226005 => if x40 = true then (some false) else ((laws_toImage.f k x180000 x180001 x180002 x180003 x180004 x180005).bind fun bt227 => ((laws_eqImage.f k x214000 x214001 x214002 x214003 x214004 x214005 bt227.1 bt227.2.1 bt227.2.2.1 bt227.2.2.2.1 bt227.2.2.2.2.1 bt227.2.2.2.2.2).bind fun t237 => (if t237 = true then ((laws_markImage.f k x214000 x214001 x214002 x214003 x214004 x214005 1).bind fun bt238 => (if bt238.1 < 0 then (laws_FnExactImageRgb.j1 k x5 true x180000 x180001 x180002 x180003 x180004 x180005 x203000 x203001 x203002 x203003 x203004 x203005 x226000 x226001 x226002 x226003 x226004 x226005) else ((laws_eqImage.f k x226000 x226001 x226002 x226003 x226004 x226005 x203000 x203001 x203002 x203003 x203004 x203005).bind fun t241 => (if t241 = true then (laws_FnExactImageRgb.j1 k x5 (x8 != x5) x180000 x180001 x180002 x180003 x180004 x180005 x203000 x203001 x203002 x203003 x203004 x203005 x226000 x226001 x226002 x226003 x226004 x226005) else (laws_FnExactImageRgb.j1 k x5 true x180000 x180001 x180002 x180003 x180004 x180005 x203000 x203001 x203002 x203003 x203004 x203005 x226000 x226001 x226002 x226003 x226004 x226005))))) else (some false))))
def laws_FnExactImageRgb.j1 : Nat → Bool → Bool → Int → Int → Int → Int → List Int → List Int → Int → Int → Int → Int → List Int → List Int → Int → Int → Int → Int → List Int → List Int → Option (Bool)
  | 0, _, _, _, _, _, _, _, _, _, _, _, _, _, _, _, _, _, _, _, _ => none
  | k + 1, x5, x61, x180000, x180001, x180002, x180003, x180004, x180005, x203000, x203001, x203002, x203003, x203004, x203005, x226000, x226001, x226002, x226003, x226004, x226005 => if x61 = true then (some false) else ((laws_markImage.f k x226000 x226001 x226002 x226003 x226004 x226005 1).bind fun bt242 => ((laws_heldImage.f k x226000 x226001 x226002 x226003 bt242.2.1 bt242.2.2 1).bind fun t245 => (if t245 < 0 then (some false) else (if t245 = bt242.1 then ((laws_toImage.f k x180000 x180001 x180002 x180003 x180004 x180005).bind fun bt246 => ((impl_ImageRgb.f k bt246.1 bt246.2.1 bt246.2.2.1 bt246.2.2.2.1 bt246.2.2.2.2.1 bt246.2.2.2.2.2).bind fun bt256 => ((laws_eqImage.f k bt256.1 bt256.2.1 bt256.2.2.1 bt256.2.2.2.1 bt256.2.2.2.2.1 bt256.2.2.2.2.2.1 x203000 x203001 x203002 x203003 x203004 x203005).bind fun t268 => (if t268 = true then (laws_FnExactImageRgb.j2 k bt242.1 (bt256.2.2.2.2.2.2 != x5) x226000 x226001 x226002 x226003 bt242.2.1 bt242.2.2) else (laws_FnExactImageRgb.j2 k bt242.1 true x226000 x226001 x226002 x226003 bt242.2.1 bt242.2.2))))) else (some false)))))
def laws_FnExactImageRgb.j2 : Nat → Int → Bool → Int → Int → Int → Int → List Int → List Int → Option (Bool)
  | 0, _, _, _, _, _, _, _, _ => none
  | k + 1, x10, x87, x226000, x226001, x226002, x226003, x226004, x226005 => if x87 = true then (some false) else ((laws_heldImage.f k x226000 x226001 x226002 x226003 x226004 x226005 1).bind fun t269 => (if t269 < 0 then (some false) else (if t269 = x10 then (some true) else (some false))))
end
def laws_FnExactImageRgb.f (k : Nat) (a0_0 : Int) (a0_1 : Int) (a0_2 : Int) (a0_3 : Int) (l0_4 : List Int) (l0_5 : List Int) : Option (Bool) := (laws_szImage.f a0_0 a0_1 a0_2 a0_3 l0_4 l0_5 1048576).bind fun t180 => (if t180 < 0 then (some true) else ((laws_toImage.f k a0_0 a0_1 a0_2 a0_3 l0_4 l0_5).bind fun bt181 => ((spec_ImageRgb.f k bt181.1 bt181.2.1 bt181.2.2.1 bt181.2.2.2.1 bt181.2.2.2.2.1 bt181.2.2.2.2.2).bind fun bt191 => ((laws_toImage.f k a0_0 a0_1 a0_2 a0_3 l0_4 l0_5).bind fun bt203 => ((impl_ImageRgb.f k bt203.1 bt203.2.1 bt203.2.2.1 bt203.2.2.2.1 bt203.2.2.2.2.1 bt203.2.2.2.2.2).bind fun bt214 => ((laws_eqImage.f k bt214.1 bt214.2.1 bt214.2.2.1 bt214.2.2.2.1 bt214.2.2.2.2.1 bt214.2.2.2.2.2.1 bt191.1 bt191.2.1 bt191.2.2.1 bt191.2.2.2.1 bt191.2.2.2.2.1 bt191.2.2.2.2.2.1).bind fun t226 => (if t226 = true then (laws_FnExactImageRgb.j0 k bt191.2.2.2.2.2.2 bt214.2.2.2.2.2.2 (bt214.2.2.2.2.2.2 != bt191.2.2.2.2.2.2) a0_0 a0_1 a0_2 a0_3 l0_4 l0_5 bt191.1 bt191.2.1 bt191.2.2.1 bt191.2.2.2.1 bt191.2.2.2.2.1 bt191.2.2.2.2.2.1 bt203.1 bt203.2.1 bt203.2.2.1 bt203.2.2.2.1 bt203.2.2.2.2.1 bt203.2.2.2.2.2 bt214.1 bt214.2.1 bt214.2.2.1 bt214.2.2.2.1 bt214.2.2.2.2.1 bt214.2.2.2.2.2.1) else (laws_FnExactImageRgb.j0 k bt191.2.2.2.2.2.2 bt214.2.2.2.2.2.2 true a0_0 a0_1 a0_2 a0_3 l0_4 l0_5 bt191.1 bt191.2.1 bt191.2.2.1 bt191.2.2.2.1 bt191.2.2.2.2.1 bt191.2.2.2.2.2.1 bt203.1 bt203.2.1 bt203.2.2.1 bt203.2.2.2.1 bt203.2.2.2.2.1 bt203.2.2.2.2.2 bt214.1 bt214.2.1 bt214.2.2.1 bt214.2.2.2.1 bt214.2.2.2.2.1 bt214.2.2.2.2.2.1))))))))
theorem laws_FnExactImageRgb.mono_l : ∀ k, (∀ y0 y1 y2 y3 y4 y5 y6 y7 y8 y9 y10 y11 y12 y13 y14 y15 y16 y17 y18 y19 y20 y21 y22 y23 y24 y25 y26, LeO (laws_FnExactImageRgb.j0 k y0 y1 y2 y3 y4 y5 y6 y7 y8 y9 y10 y11 y12 y13 y14 y15 y16 y17 y18 y19 y20 y21 y22 y23 y24 y25 y26) (laws_FnExactImageRgb.j0 (k + 1) y0 y1 y2 y3 y4 y5 y6 y7 y8 y9 y10 y11 y12 y13 y14 y15 y16 y17 y18 y19 y20 y21 y22 y23 y24 y25 y26)) ∧ (∀ y0 y1 y2 y3 y4 y5 y6 y7 y8 y9 y10 y11 y12 y13 y14 y15 y16 y17 y18 y19, LeO (laws_FnExactImageRgb.j1 k y0 y1 y2 y3 y4 y5 y6 y7 y8 y9 y10 y11 y12 y13 y14 y15 y16 y17 y18 y19) (laws_FnExactImageRgb.j1 (k + 1) y0 y1 y2 y3 y4 y5 y6 y7 y8 y9 y10 y11 y12 y13 y14 y15 y16 y17 y18 y19)) ∧ (∀ y0 y1 y2 y3 y4 y5 y6 y7, LeO (laws_FnExactImageRgb.j2 k y0 y1 y2 y3 y4 y5 y6 y7) (laws_FnExactImageRgb.j2 (k + 1) y0 y1 y2 y3 y4 y5 y6 y7))
  | 0 => ⟨fun _ _ _ _ _ _ _ _ _ _ _ _ _ _ _ _ _ _ _ _ _ _ _ _ _ _ _ r h => by simp [laws_FnExactImageRgb.j0] at h, fun _ _ _ _ _ _ _ _ _ _ _ _ _ _ _ _ _ _ _ _ r h => by simp [laws_FnExactImageRgb.j1] at h, fun _ _ _ _ _ _ _ _ r h => by simp [laws_FnExactImageRgb.j2] at h⟩
  | k + 1 => by
    obtain ⟨ih0, ih1, ih2⟩ := laws_FnExactImageRgb.mono_l k
    refine ⟨?_, ?_, ?_⟩
    · intro y0 y1 y2 y3 y4 y5 y6 y7 y8 y9 y10 y11 y12 y13 y14 y15 y16 y17 y18 y19 y20 y21 y22 y23 y24 y25 y26
      unfold laws_FnExactImageRgb.j0
      repeat' first
      | (with_reducible exact ih0 _ _ _ _ _ _ _ _ _ _ _ _ _ _ _ _ _ _ _ _ _ _ _ _ _ _ _)
      | (with_reducible exact ih1 _ _ _ _ _ _ _ _ _ _ _ _ _ _ _ _ _ _ _ _)
      | (with_reducible exact ih2 _ _ _ _ _ _ _ _)
      | (with_reducible exact impl_ImageRgb.mono _ _ _ _ _ _ _)
      | (with_reducible exact laws_eqImage.mono _ _ _ _ _ _ _ _ _ _ _ _ _)
      | (with_reducible exact laws_heldImage.mono _ _ _ _ _ _ _ _)
      | (with_reducible exact laws_markImage.mono _ _ _ _ _ _ _ _)
      | (with_reducible exact laws_toImage.mono _ _ _ _ _ _ _)
      | (with_reducible exact spec_ImageRgb.mono _ _ _ _ _ _ _)
      | (with_reducible exact LeO.refl _)
      | (with_reducible exact LeO.none _)
      | (with_reducible refine LeO.ite ?_ ?_)
      | (with_reducible refine LeO.bind ?_ (fun _ => ?_))
      | exact ih0 _ _ _ _ _ _ _ _ _ _ _ _ _ _ _ _ _ _ _ _ _ _ _ _ _ _ _
      | exact ih1 _ _ _ _ _ _ _ _ _ _ _ _ _ _ _ _ _ _ _ _
      | exact ih2 _ _ _ _ _ _ _ _
      | exact impl_ImageRgb.mono _ _ _ _ _ _ _
      | exact laws_eqImage.mono _ _ _ _ _ _ _ _ _ _ _ _ _
      | exact laws_heldImage.mono _ _ _ _ _ _ _ _
      | exact laws_markImage.mono _ _ _ _ _ _ _ _
      | exact laws_toImage.mono _ _ _ _ _ _ _
      | exact spec_ImageRgb.mono _ _ _ _ _ _ _
      | exact LeO.none _
      | refine LeO.ite ?_ ?_
      | refine LeO.bind ?_ (fun _ => ?_)
    · intro y0 y1 y2 y3 y4 y5 y6 y7 y8 y9 y10 y11 y12 y13 y14 y15 y16 y17 y18 y19
      unfold laws_FnExactImageRgb.j1
      repeat' first
      | (with_reducible exact ih0 _ _ _ _ _ _ _ _ _ _ _ _ _ _ _ _ _ _ _ _ _ _ _ _ _ _ _)
      | (with_reducible exact ih1 _ _ _ _ _ _ _ _ _ _ _ _ _ _ _ _ _ _ _ _)
      | (with_reducible exact ih2 _ _ _ _ _ _ _ _)
      | (with_reducible exact impl_ImageRgb.mono _ _ _ _ _ _ _)
      | (with_reducible exact laws_eqImage.mono _ _ _ _ _ _ _ _ _ _ _ _ _)
      | (with_reducible exact laws_heldImage.mono _ _ _ _ _ _ _ _)
      | (with_reducible exact laws_markImage.mono _ _ _ _ _ _ _ _)
      | (with_reducible exact laws_toImage.mono _ _ _ _ _ _ _)
      | (with_reducible exact spec_ImageRgb.mono _ _ _ _ _ _ _)
      | (with_reducible exact LeO.refl _)
      | (with_reducible exact LeO.none _)
      | (with_reducible refine LeO.ite ?_ ?_)
      | (with_reducible refine LeO.bind ?_ (fun _ => ?_))
      | exact ih0 _ _ _ _ _ _ _ _ _ _ _ _ _ _ _ _ _ _ _ _ _ _ _ _ _ _ _
      | exact ih1 _ _ _ _ _ _ _ _ _ _ _ _ _ _ _ _ _ _ _ _
      | exact ih2 _ _ _ _ _ _ _ _
      | exact impl_ImageRgb.mono _ _ _ _ _ _ _
      | exact laws_eqImage.mono _ _ _ _ _ _ _ _ _ _ _ _ _
      | exact laws_heldImage.mono _ _ _ _ _ _ _ _
      | exact laws_markImage.mono _ _ _ _ _ _ _ _
      | exact laws_toImage.mono _ _ _ _ _ _ _
      | exact spec_ImageRgb.mono _ _ _ _ _ _ _
      | exact LeO.none _
      | refine LeO.ite ?_ ?_
      | refine LeO.bind ?_ (fun _ => ?_)
    · intro y0 y1 y2 y3 y4 y5 y6 y7
      unfold laws_FnExactImageRgb.j2
      repeat' first
      | (with_reducible exact ih0 _ _ _ _ _ _ _ _ _ _ _ _ _ _ _ _ _ _ _ _ _ _ _ _ _ _ _)
      | (with_reducible exact ih1 _ _ _ _ _ _ _ _ _ _ _ _ _ _ _ _ _ _ _ _)
      | (with_reducible exact ih2 _ _ _ _ _ _ _ _)
      | (with_reducible exact impl_ImageRgb.mono _ _ _ _ _ _ _)
      | (with_reducible exact laws_eqImage.mono _ _ _ _ _ _ _ _ _ _ _ _ _)
      | (with_reducible exact laws_heldImage.mono _ _ _ _ _ _ _ _)
      | (with_reducible exact laws_markImage.mono _ _ _ _ _ _ _ _)
      | (with_reducible exact laws_toImage.mono _ _ _ _ _ _ _)
      | (with_reducible exact spec_ImageRgb.mono _ _ _ _ _ _ _)
      | (with_reducible exact LeO.refl _)
      | (with_reducible exact LeO.none _)
      | (with_reducible refine LeO.ite ?_ ?_)
      | (with_reducible refine LeO.bind ?_ (fun _ => ?_))
      | exact ih0 _ _ _ _ _ _ _ _ _ _ _ _ _ _ _ _ _ _ _ _ _ _ _ _ _ _ _
      | exact ih1 _ _ _ _ _ _ _ _ _ _ _ _ _ _ _ _ _ _ _ _
      | exact ih2 _ _ _ _ _ _ _ _
      | exact impl_ImageRgb.mono _ _ _ _ _ _ _
      | exact laws_eqImage.mono _ _ _ _ _ _ _ _ _ _ _ _ _
      | exact laws_heldImage.mono _ _ _ _ _ _ _ _
      | exact laws_markImage.mono _ _ _ _ _ _ _ _
      | exact laws_toImage.mono _ _ _ _ _ _ _
      | exact spec_ImageRgb.mono _ _ _ _ _ _ _
      | exact LeO.none _
      | refine LeO.ite ?_ ?_
      | refine LeO.bind ?_ (fun _ => ?_)
theorem laws_FnExactImageRgb.mono : ∀ a0 a1 a2 a3 a4 a5 k, LeO (laws_FnExactImageRgb.f k a0 a1 a2 a3 a4 a5) (laws_FnExactImageRgb.f (k + 1) a0 a1 a2 a3 a4 a5) := by
  intro a0 a1 a2 a3 a4 a5 k
  obtain ⟨ih0, ih1, ih2⟩ := laws_FnExactImageRgb.mono_l k
  unfold laws_FnExactImageRgb.f
  repeat' first
      | (with_reducible exact ih0 _ _ _ _ _ _ _ _ _ _ _ _ _ _ _ _ _ _ _ _ _ _ _ _ _ _ _)
      | (with_reducible exact ih1 _ _ _ _ _ _ _ _ _ _ _ _ _ _ _ _ _ _ _ _)
      | (with_reducible exact ih2 _ _ _ _ _ _ _ _)
      | (with_reducible exact impl_ImageRgb.mono _ _ _ _ _ _ _)
      | (with_reducible exact laws_eqImage.mono _ _ _ _ _ _ _ _ _ _ _ _ _)
      | (with_reducible exact laws_heldImage.mono _ _ _ _ _ _ _ _)
      | (with_reducible exact laws_markImage.mono _ _ _ _ _ _ _ _)
      | (with_reducible exact laws_toImage.mono _ _ _ _ _ _ _)
      | (with_reducible exact spec_ImageRgb.mono _ _ _ _ _ _ _)
      | (with_reducible exact LeO.refl _)
      | (with_reducible exact LeO.none _)
      | (with_reducible refine LeO.ite ?_ ?_)
      | (with_reducible refine LeO.bind ?_ (fun _ => ?_))
      | exact ih0 _ _ _ _ _ _ _ _ _ _ _ _ _ _ _ _ _ _ _ _ _ _ _ _ _ _ _
      | exact ih1 _ _ _ _ _ _ _ _ _ _ _ _ _ _ _ _ _ _ _ _
      | exact ih2 _ _ _ _ _ _ _ _
      | exact impl_ImageRgb.mono _ _ _ _ _ _ _
      | exact laws_eqImage.mono _ _ _ _ _ _ _ _ _ _ _ _ _
      | exact laws_heldImage.mono _ _ _ _ _ _ _ _
      | exact laws_markImage.mono _ _ _ _ _ _ _ _
      | exact laws_toImage.mono _ _ _ _ _ _ _
      | exact spec_ImageRgb.mono _ _ _ _ _ _ _
      | exact LeO.none _
      | refine LeO.ite ?_ ?_
      | refine LeO.bind ?_ (fun _ => ?_)
set_option maxHeartbeats 8000000 in
set_option maxRecDepth 100000 in
theorem laws_FnExactImageRgb.calls (k : Nat) (a0_0 : Int) (a0_1 : Int) (a0_2 : Int) (a0_3 : Int) (A0_4 : Option Addr) (c0_4 : Nat) (l0_4 : List Int) (A0_5 : Option Addr) (c0_5 : Nat) (l0_5 : List Int) (w : World) (hr0_4 : Kd.C (Kd.int .i64) w A0_4 l0_4.length l0_4) (hc0_4 : l0_4.length ≤ c0_4) (hr0_5 : Kd.C (Kd.int .i64) w A0_5 l0_5.length l0_5) (hc0_5 : l0_5.length ≤ c0_5) (h : laws_FnExactImageRgb.f k a0_0 a0_1 a0_2 a0_3 l0_4 l0_5 = some true) :
    Calls Try.prog 10 #[.agg #[.int .i64 a0_0, .int .i64 a0_1, .int .i64 a0_2, .int .i64 a0_3, .slice A0_4 l0_4.length c0_4, .slice A0_5 l0_5.length c0_5]] w fun e w' => e = .returned (.bool true) ∧ Below w.heap.size w w' := by
  have hu24 := Try.underlying24
  have hu27 := Try.underlying27
  have HR0_4 := Aside0.mk hr0_4
  have HC0_4 := Aside0.mk hc0_4
  clear hr0_4 hc0_4
  have HR0_5 := Aside0.mk hr0_5
  have HC0_5 := Aside0.mk hc0_5
  clear hr0_5 hc0_5
  have HB := Aside0.mk (Below.refl w.heap.size w)
  have H : ((laws_szImage.f a0_0 a0_1 a0_2 a0_3 l0_4 l0_5 1048576).bind fun t180 => (if t180 < 0 then (some true) else ((laws_toImage.f k a0_0 a0_1 a0_2 a0_3 l0_4 l0_5).bind fun bt181 => ((spec_ImageRgb.f k bt181.1 bt181.2.1 bt181.2.2.1 bt181.2.2.2.1 bt181.2.2.2.2.1 bt181.2.2.2.2.2).bind fun bt191 => ((laws_toImage.f k a0_0 a0_1 a0_2 a0_3 l0_4 l0_5).bind fun bt203 => ((impl_ImageRgb.f k bt203.1 bt203.2.1 bt203.2.2.1 bt203.2.2.2.1 bt203.2.2.2.2.1 bt203.2.2.2.2.2).bind fun bt214 => ((laws_eqImage.f k bt214.1 bt214.2.1 bt214.2.2.1 bt214.2.2.2.1 bt214.2.2.2.2.1 bt214.2.2.2.2.2.1 bt191.1 bt191.2.1 bt191.2.2.1 bt191.2.2.2.1 bt191.2.2.2.2.1 bt191.2.2.2.2.2.1).bind fun t226 => (if t226 = true then (laws_FnExactImageRgb.j0 k bt191.2.2.2.2.2.2 bt214.2.2.2.2.2.2 (bt214.2.2.2.2.2.2 != bt191.2.2.2.2.2.2) a0_0 a0_1 a0_2 a0_3 l0_4 l0_5 bt191.1 bt191.2.1 bt191.2.2.1 bt191.2.2.2.1 bt191.2.2.2.2.1 bt191.2.2.2.2.2.1 bt203.1 bt203.2.1 bt203.2.2.1 bt203.2.2.2.1 bt203.2.2.2.2.1 bt203.2.2.2.2.2 bt214.1 bt214.2.1 bt214.2.2.1 bt214.2.2.2.1 bt214.2.2.2.2.1 bt214.2.2.2.2.2.1) else (laws_FnExactImageRgb.j0 k bt191.2.2.2.2.2.2 bt214.2.2.2.2.2.2 true a0_0 a0_1 a0_2 a0_3 l0_4 l0_5 bt191.1 bt191.2.1 bt191.2.2.1 bt191.2.2.2.1 bt191.2.2.2.2.1 bt191.2.2.2.2.2.1 bt203.1 bt203.2.1 bt203.2.2.1 bt203.2.2.2.1 bt203.2.2.2.2.1 bt203.2.2.2.2.2 bt214.1 bt214.2.1 bt214.2.2.1 bt214.2.2.2.1 bt214.2.2.2.2.1 bt214.2.2.2.2.2.1))))))))) = some true := h
  clear h
  replace H := Option.bind_eq_some_iff.mp H
  obtain ⟨t180, A20, H⟩ := H
  replace H : (if t180 < 0 then (some true) else ((laws_toImage.f k a0_0 a0_1 a0_2 a0_3 l0_4 l0_5).bind fun bt181 => ((spec_ImageRgb.f k bt181.1 bt181.2.1 bt181.2.2.1 bt181.2.2.2.1 bt181.2.2.2.2.1 bt181.2.2.2.2.2).bind fun bt191 => ((laws_toImage.f k a0_0 a0_1 a0_2 a0_3 l0_4 l0_5).bind fun bt203 => ((impl_ImageRgb.f k bt203.1 bt203.2.1 bt203.2.2.1 bt203.2.2.2.1 bt203.2.2.2.2.1 bt203.2.2.2.2.2).bind fun bt214 => ((laws_eqImage.f k bt214.1 bt214.2.1 bt214.2.2.1 bt214.2.2.2.1 bt214.2.2.2.2.1 bt214.2.2.2.2.2.1 bt191.1 bt191.2.1 bt191.2.2.1 bt191.2.2.2.1 bt191.2.2.2.2.1 bt191.2.2.2.2.2.1).bind fun t226 => (if t226 = true then (laws_FnExactImageRgb.j0 k bt191.2.2.2.2.2.2 bt214.2.2.2.2.2.2 (bt214.2.2.2.2.2.2 != bt191.2.2.2.2.2.2) a0_0 a0_1 a0_2 a0_3 l0_4 l0_5 bt191.1 bt191.2.1 bt191.2.2.1 bt191.2.2.2.1 bt191.2.2.2.2.1 bt191.2.2.2.2.2.1 bt203.1 bt203.2.1 bt203.2.2.1 bt203.2.2.2.1 bt203.2.2.2.2.1 bt203.2.2.2.2.2 bt214.1 bt214.2.1 bt214.2.2.1 bt214.2.2.2.1 bt214.2.2.2.2.1 bt214.2.2.2.2.2.1) else (laws_FnExactImageRgb.j0 k bt191.2.2.2.2.2.2 bt214.2.2.2.2.2.2 true a0_0 a0_1 a0_2 a0_3 l0_4 l0_5 bt191.1 bt191.2.1 bt191.2.2.1 bt191.2.2.2.1 bt191.2.2.2.2.1 bt191.2.2.2.2.2.1 bt203.1 bt203.2.1 bt203.2.2.1 bt203.2.2.2.1 bt203.2.2.2.2.1 bt203.2.2.2.2.2 bt214.1 bt214.2.1 bt214.2.2.1 bt214.2.2.2.1 bt214.2.2.2.2.1 bt214.2.2.2.2.2.1)))))))) = some true := H
  have A2 := Aside0.mk A20
  clear A20
  by_cases c3 : t180 < 0
  · rw [if_pos c3] at H
    have c3b0 : decide (t180 < 0) = true := decide_eq_true c3
    clear c3
    clear H
    go_enter Try.func10, Try.ntmps10
    go_wp2_with (first | ((with_reducible refine gate_dst (N := 1) rfl ?_); refine box_event ?hg (N := 1) ?hd (cs := #[.int .i64 a0_0, .int .i64 a0_1, .int .i64 a0_2, .int .i64 a0_3, .slice A0_4 l0_4.length c0_4, .slice A0_5 l0_5.length c0_5]) (t := 24) ?hr ?_; (case hd => rfl); (case hg => rfl); (case hr => first | (go_simp; done) | (go_simp; rfl)); intro gb179 hg w4 hbox hb; have n0_ := Aside0.mk (below_step (by repeat (first | (with_reducible first | exact HB.out | apply below_alloc | apply pw_below_drewN | apply below_drew1) | exact HB.out)) hb); have n1_ := Aside0.mk (hbox); have n2_ := Aside0.mk ((by rw [hg]; exact (below_size (by repeat (first | (with_reducible first | exact HB.out | apply below_alloc | apply pw_below_drewN | apply below_drew1) | exact HB.out))) : w.heap.size ≤ gb179)); have n3_ := Aside0.mk ((by rw [hg]; exact (below_size (by repeat (first | (with_reducible first | exact HB.out | apply below_alloc | apply pw_below_drewN | apply below_drew1) | exact HB.out))) : w.heap.size ≤ gb179)); clear HB; have HB := n0_; have BK179 := n1_; have GW179 := n2_; have GE179 := n3_; clear n0_ n1_ n2_ n3_; clear hb hbox hg; have hcz5_0 : w4.cell? ⟨gb179, 0, none⟩ = some (.int .i64 a0_0) := (blk_cell BK179.out 0).trans rfl; have hcz5_1 : w4.cell? ⟨gb179, 1, none⟩ = some (.int .i64 a0_1) := (blk_cell BK179.out 1).trans rfl; have hcz5_2 : w4.cell? ⟨gb179, 2, none⟩ = some (.int .i64 a0_2) := (blk_cell BK179.out 2).trans rfl; have hcz5_3 : w4.cell? ⟨gb179, 3, none⟩ = some (.int .i64 a0_3) := (blk_cell BK179.out 3).trans rfl; have hcz5_4 : w4.cell? ⟨gb179, 4, none⟩ = some (.slice A0_4 l0_4.length c0_4) := (blk_cell BK179.out 4).trans rfl; have hcz5_5 : w4.cell? ⟨gb179, 5, none⟩ = some (.slice A0_5 l0_5.length c0_5) := (blk_cell BK179.out 5).trans rfl; have hfz5_0 := blk_frozen BK179.out 0; have hfz5_1 := blk_frozen BK179.out 1; have hfz5_2 := blk_frozen BK179.out 2; have hfz5_3 := blk_frozen BK179.out 3; have hfz5_4 := blk_frozen BK179.out 4; have hfz5_5 := blk_frozen BK179.out 5) | ((with_reducible refine gate_callee (f := 15) rfl ?_); refine goesL_ (some 16) rfl rfl Try.func15 (by kernel_rfl) rfl #[.agg #[.int .i64 a0_0, .int .i64 a0_1, .int .i64 a0_2, .int .i64 a0_3, .slice A0_4 l0_4.length c0_4, .slice A0_5 l0_5.length c0_5], .int .i64 1048576] rfl (by (try simp only [List.map_toArray, List.map_cons, List.map_nil]); first | done | rfl | (simp only [List.length_drop, List.length_take]; rfl)) ?_; (with_reducible refine (laws_szImage.calls a0_0 a0_1 a0_2 a0_3 _ _ l0_4 _ _ l0_5 1048576 t180 _ ?side1 ?side2 ?side3 ?side4 A2.out).mono ?_); (case side1 => repeat (first | exact (Kd.C_below HR0_4.out HB.out) | (with_reducible refine Kd.C_alloc ?_ _) | (with_reducible refine Kd.C_drewN ?_ _) | (with_reducible refine Kd.C_drew ?_))); (case side2 => exact HC0_4.out); (case side3 => repeat (first | exact (Kd.C_below HR0_5.out HB.out) | (with_reducible refine Kd.C_alloc ?_ _) | (with_reducible refine Kd.C_drewN ?_ _) | (with_reducible refine Kd.C_drew ?_))); (case side4 => exact HC0_5.out); rintro e w6 ⟨rfl, hb⟩; refine ⟨_, rfl, ?_⟩; have n0_ := Aside0.mk (blk_below (g := gb179) (o := .cells #[.int .i64 a0_0, .int .i64 a0_1, .int .i64 a0_2, .int .i64 a0_3, .slice A0_4 l0_4.length c0_4, .slice A0_5 l0_5.length c0_5] 24 (0, 0)) (by (with_reducible repeat (first | refine blk_drewN ?_ _ | refine blk_drew ?_ | refine blk_alloc ?_ _)); exact BK179.out) hb); have n1_ := Aside0.mk (below_step (by repeat (first | (with_reducible first | exact HB.out | apply below_alloc | apply pw_below_drewN | apply below_drew1 | refine below_set ?_ GE179.out) | exact HB.out)) hb); clear BK179; clear HB; have BK179 := n0_; have HB := n1_; clear n0_ n1_; (try clear hb); (try clear hb2); (try clear hk); (try clear hi)))
    go_ret
    exact ⟨by first | rfl | (simp [errW_none, errW_some] <;> rfl) | (simp [*, errW_none, errW_some] <;> rfl), by repeat (first | (with_reducible first | exact HB.out | apply below_alloc | apply pw_below_drewN | apply below_drew1 | refine below_set ?_ GE179.out) | exact HB.out)⟩
  · rw [if_neg c3] at H
    have c3b0 : decide (t180 < 0) = false := decide_eq_false c3
    clear c3
    replace H := Option.bind_eq_some_iff.mp H
    obtain ⟨⟨t181, t182, t183, t184, t185, t188⟩, A70, H⟩ := H
    replace H : ((spec_ImageRgb.f k t181 t182 t183 t184 t185 t188).bind fun bt191 => ((laws_toImage.f k a0_0 a0_1 a0_2 a0_3 l0_4 l0_5).bind fun bt203 => ((impl_ImageRgb.f k bt203.1 bt203.2.1 bt203.2.2.1 bt203.2.2.2.1 bt203.2.2.2.2.1 bt203.2.2.2.2.2).bind fun bt214 => ((laws_eqImage.f k bt214.1 bt214.2.1 bt214.2.2.1 bt214.2.2.2.1 bt214.2.2.2.2.1 bt214.2.2.2.2.2.1 bt191.1 bt191.2.1 bt191.2.2.1 bt191.2.2.2.1 bt191.2.2.2.2.1 bt191.2.2.2.2.2.1).bind fun t226 => (if t226 = true then (laws_FnExactImageRgb.j0 k bt191.2.2.2.2.2.2 bt214.2.2.2.2.2.2 (bt214.2.2.2.2.2.2 != bt191.2.2.2.2.2.2) a0_0 a0_1 a0_2 a0_3 l0_4 l0_5 bt191.1 bt191.2.1 bt191.2.2.1 bt191.2.2.2.1 bt191.2.2.2.2.1 bt191.2.2.2.2.2.1 bt203.1 bt203.2.1 bt203.2.2.1 bt203.2.2.2.1 bt203.2.2.2.2.1 bt203.2.2.2.2.2 bt214.1 bt214.2.1 bt214.2.2.1 bt214.2.2.2.1 bt214.2.2.2.2.1 bt214.2.2.2.2.2.1) else (laws_FnExactImageRgb.j0 k bt191.2.2.2.2.2.2 bt214.2.2.2.2.2.2 true a0_0 a0_1 a0_2 a0_3 l0_4 l0_5 bt191.1 bt191.2.1 bt191.2.2.1 bt191.2.2.2.1 bt191.2.2.2.2.1 bt191.2.2.2.2.2.1 bt203.1 bt203.2.1 bt203.2.2.1 bt203.2.2.2.1 bt203.2.2.2.2.1 bt203.2.2.2.2.2 bt214.1 bt214.2.1 bt214.2.2.1 bt214.2.2.2.1 bt214.2.2.2.2.1 bt214.2.2.2.2.2.1)))))) = some true := H
    have A7 := Aside0.mk A70
    clear A70
    replace H := Option.bind_eq_some_iff.mp H
    obtain ⟨⟨t191, t192, t193, t194, t195, t198, t201⟩, A80, H⟩ := H
    replace H : ((laws_toImage.f k a0_0 a0_1 a0_2 a0_3 l0_4 l0_5).bind fun bt203 => ((impl_ImageRgb.f k bt203.1 bt203.2.1 bt203.2.2.1 bt203.2.2.2.1 bt203.2.2.2.2.1 bt203.2.2.2.2.2).bind fun bt214 => ((laws_eqImage.f k bt214.1 bt214.2.1 bt214.2.2.1 bt214.2.2.2.1 bt214.2.2.2.2.1 bt214.2.2.2.2.2.1 t191 t192 t193 t194 t195 t198).bind fun t226 => (if t226 = true then (laws_FnExactImageRgb.j0 k t201 bt214.2.2.2.2.2.2 (bt214.2.2.2.2.2.2 != t201) a0_0 a0_1 a0_2 a0_3 l0_4 l0_5 t191 t192 t193 t194 t195 t198 bt203.1 bt203.2.1 bt203.2.2.1 bt203.2.2.2.1 bt203.2.2.2.2.1 bt203.2.2.2.2.2 bt214.1 bt214.2.1 bt214.2.2.1 bt214.2.2.2.1 bt214.2.2.2.2.1 bt214.2.2.2.2.2.1) else (laws_FnExactImageRgb.j0 k t201 bt214.2.2.2.2.2.2 true a0_0 a0_1 a0_2 a0_3 l0_4 l0_5 t191 t192 t193 t194 t195 t198 bt203.1 bt203.2.1 bt203.2.2.1 bt203.2.2.2.1 bt203.2.2.2.2.1 bt203.2.2.2.2.2 bt214.1 bt214.2.1 bt214.2.2.1 bt214.2.2.2.1 bt214.2.2.2.2.1 bt214.2.2.2.2.2.1))))) = some true := H
    have A8 := Aside0.mk A80
    clear A80
    replace H := Option.bind_eq_some_iff.mp H
    obtain ⟨⟨t203, t204, t205, t206, t207, t210⟩, A90, H⟩ := H
    replace H : ((impl_ImageRgb.f k t203 t204 t205 t206 t207 t210).bind fun bt214 => ((laws_eqImage.f k bt214.1 bt214.2.1 bt214.2.2.1 bt214.2.2.2.1 bt214.2.2.2.2.1 bt214.2.2.2.2.2.1 t191 t192 t193 t194 t195 t198).bind fun t226 => (if t226 = true then (laws_FnExactImageRgb.j0 k t201 bt214.2.2.2.2.2.2 (bt214.2.2.2.2.2.2 != t201) a0_0 a0_1 a0_2 a0_3 l0_4 l0_5 t191 t192 t193 t194 t195 t198 t203 t204 t205 t206 t207 t210 bt214.1 bt214.2.1 bt214.2.2.1 bt214.2.2.2.1 bt214.2.2.2.2.1 bt214.2.2.2.2.2.1) else (laws_FnExactImageRgb.j0 k t201 bt214.2.2.2.2.2.2 true a0_0 a0_1 a0_2 a0_3 l0_4 l0_5 t191 t192 t193 t194 t195 t198 t203 t204 t205 t206 t207 t210 bt214.1 bt214.2.1 bt214.2.2.1 bt214.2.2.2.1 bt214.2.2.2.2.1 bt214.2.2.2.2.2.1)))) = some true := H
    have A9 := Aside0.mk A90
    clear A90
    replace H := Option.bind_eq_some_iff.mp H
    obtain ⟨⟨t214, t215, t216, t217, t218, t221, t224⟩, A100, H⟩ := H
    replace H : ((laws_eqImage.f k t214 t215 t216 t217 t218 t221 t191 t192 t193 t194 t195 t198).bind fun t226 => (if t226 = true then (laws_FnExactImageRgb.j0 k t201 t224 (t224 != t201) a0_0 a0_1 a0_2 a0_3 l0_4 l0_5 t191 t192 t193 t194 t195 t198 t203 t204 t205 t206 t207 t210 t214 t215 t216 t217 t218 t221) else (laws_FnExactImageRgb.j0 k t201 t224 true a0_0 a0_1 a0_2 a0_3 l0_4 l0_5 t191 t192 t193 t194 t195 t198 t203 t204 t205 t206 t207 t210 t214 t215 t216 t217 t218 t221))) = some true := H
    have A10 := Aside0.mk A100
    clear A100
    have HC11 := Aside0.mk H
    clear H
    go_enter Try.func10, Try.ntmps10
    go_upto_region 8 with (first | ((with_reducible refine gate_dst (N := 1) rfl ?_); refine box_event ?hg (N := 1) ?hd (cs := #[.int .i64 a0_0, .int .i64 a0_1, .int .i64 a0_2, .int .i64 a0_3, .slice A0_4 l0_4.length c0_4, .slice A0_5 l0_5.length c0_5]) (t := 24) ?hr ?_; (case hd => rfl); (case hg => rfl); (case hr => first | (go_simp; done) | (go_simp; rfl)); intro gb179 hg w12 hbox hb; have n0_ := Aside0.mk (below_step (by repeat (first | (with_reducible first | exact HB.out | apply below_alloc | apply pw_below_drewN | apply below_drew1) | exact HB.out)) hb); have n1_ := Aside0.mk (hbox); have n2_ := Aside0.mk ((by rw [hg]; exact (below_size (by repeat (first | (with_reducible first | exact HB.out | apply below_alloc | apply pw_below_drewN | apply below_drew1) | exact HB.out))) : w.heap.size ≤ gb179)); have n3_ := Aside0.mk ((by rw [hg]; exact (below_size (by repeat (first | (with_reducible first | exact HB.out | apply below_alloc | apply pw_below_drewN | apply below_drew1) | exact HB.out))) : w.heap.size ≤ gb179)); clear HB; have HB := n0_; have BK179 := n1_; have GW179 := n2_; have GE179 := n3_; clear n0_ n1_ n2_ n3_; clear hb hbox hg; have hcz13_0 : w12.cell? ⟨gb179, 0, none⟩ = some (.int .i64 a0_0) := (blk_cell BK179.out 0).trans rfl; have hcz13_1 : w12.cell? ⟨gb179, 1, none⟩ = some (.int .i64 a0_1) := (blk_cell BK179.out 1).trans rfl; have hcz13_2 : w12.cell? ⟨gb179, 2, none⟩ = some (.int .i64 a0_2) := (blk_cell BK179.out 2).trans rfl; have hcz13_3 : w12.cell? ⟨gb179, 3, none⟩ = some (.int .i64 a0_3) := (blk_cell BK179.out 3).trans rfl; have hcz13_4 : w12.cell? ⟨gb179, 4, none⟩ = some (.slice A0_4 l0_4.length c0_4) := (blk_cell BK179.out 4).trans rfl; have hcz13_5 : w12.cell? ⟨gb179, 5, none⟩ = some (.slice A0_5 l0_5.length c0_5) := (blk_cell BK179.out 5).trans rfl; have hfz13_0 := blk_frozen BK179.out 0; have hfz13_1 := blk_frozen BK179.out 1; have hfz13_2 := blk_frozen BK179.out 2; have hfz13_3 := blk_frozen BK179.out 3; have hfz13_4 := blk_frozen BK179.out 4; have hfz13_5 := blk_frozen BK179.out 5) | ((with_reducible refine gate_callee (f := 15) rfl ?_); refine goesL_ (some 16) rfl rfl Try.func15 (by kernel_rfl) rfl #[.agg #[.int .i64 a0_0, .int .i64 a0_1, .int .i64 a0_2, .int .i64 a0_3, .slice A0_4 l0_4.length c0_4, .slice A0_5 l0_5.length c0_5], .int .i64 1048576] rfl (by (try simp only [List.map_toArray, List.map_cons, List.map_nil]); first | done | rfl | (simp only [List.length_drop, List.length_take]; rfl)) ?_; (with_reducible refine (laws_szImage.calls a0_0 a0_1 a0_2 a0_3 _ _ l0_4 _ _ l0_5 1048576 t180 _ ?side1 ?side2 ?side3 ?side4 A2.out).mono ?_); (case side1 => repeat (first | exact (Kd.C_below HR0_4.out HB.out) | (with_reducible refine Kd.C_alloc ?_ _) | (with_reducible refine Kd.C_drewN ?_ _) | (with_reducible refine Kd.C_drew ?_))); (case side2 => exact HC0_4.out); (case side3 => repeat (first | exact (Kd.C_below HR0_5.out HB.out) | (with_reducible refine Kd.C_alloc ?_ _) | (with_reducible refine Kd.C_drewN ?_ _) | (with_reducible refine Kd.C_drew ?_))); (case side4 => exact HC0_5.out); rintro e w14 ⟨rfl, hb⟩; refine ⟨_, rfl, ?_⟩; have n0_ := Aside0.mk (blk_below (g := gb179) (o := .cells #[.int .i64 a0_0, .int .i64 a0_1, .int .i64 a0_2, .int .i64 a0_3, .slice A0_4 l0_4.length c0_4, .slice A0_5 l0_5.length c0_5] 24 (0, 0)) (by (with_reducible repeat (first | refine blk_drewN ?_ _ | refine blk_drew ?_ | refine blk_alloc ?_ _)); exact BK179.out) hb); have n1_ := Aside0.mk (below_step (by repeat (first | (with_reducible first | exact HB.out | apply below_alloc | apply pw_below_drewN | apply below_drew1 | refine below_set ?_ GE179.out) | exact HB.out)) hb); clear BK179; clear HB; have BK179 := n0_; have HB := n1_; clear n0_ n1_; (try clear hb); (try clear hb2); (try clear hk); (try clear hi); have hcz15_0 : w14.cell? ⟨gb179, 0, none⟩ = some (.int .i64 a0_0) := (blk_cell BK179.out 0).trans rfl; have hcz15_1 : w14.cell? ⟨gb179, 1, none⟩ = some (.int .i64 a0_1) := (blk_cell BK179.out 1).trans rfl; have hcz15_2 : w14.cell? ⟨gb179, 2, none⟩ = some (.int .i64 a0_2) := (blk_cell BK179.out 2).trans rfl; have hcz15_3 : w14.cell? ⟨gb179, 3, none⟩ = some (.int .i64 a0_3) := (blk_cell BK179.out 3).trans rfl; have hcz15_4 : w14.cell? ⟨gb179, 4, none⟩ = some (.slice A0_4 l0_4.length c0_4) := (blk_cell BK179.out 4).trans rfl; have hcz15_5 : w14.cell? ⟨gb179, 5, none⟩ = some (.slice A0_5 l0_5.length c0_5) := (blk_cell BK179.out 5).trans rfl; have hfz15_0 := blk_frozen BK179.out 0; have hfz15_1 := blk_frozen BK179.out 1; have hfz15_2 := blk_frozen BK179.out 2; have hfz15_3 := blk_frozen BK179.out 3; have hfz15_4 := blk_frozen BK179.out 4; have hfz15_5 := blk_frozen BK179.out 5) | ((with_reducible refine gate_callee (f := 17) rfl ?_); refine goesL_ (some 21) rfl rfl Try.func17 (by kernel_rfl) rfl #[.agg #[.int .i64 a0_0, .int .i64 a0_1, .int .i64 a0_2, .int .i64 a0_3, .slice A0_4 l0_4.length c0_4, .slice A0_5 l0_5.length c0_5]] rfl (by (try simp only [List.map_toArray, List.map_cons, List.map_nil]); first | done | rfl | (simp only [List.length_drop, List.length_take]; rfl)) ?_; (with_reducible refine (laws_toImage.calls k a0_0 a0_1 a0_2 a0_3 _ _ l0_4 _ _ l0_5 t181 t182 t183 t184 t185 t188 _ ?side1 ?side2 ?side3 ?side4 A7.out).mono ?_); (case side1 => repeat (first | exact (Kd.C_below HR0_4.out HB.out) | (with_reducible refine Kd.C_alloc ?_ _) | (with_reducible refine Kd.C_drewN ?_ _) | (with_reducible refine Kd.C_drew ?_))); (case side2 => exact HC0_4.out); (case side3 => repeat (first | exact (Kd.C_below HR0_5.out HB.out) | (with_reducible refine Kd.C_alloc ?_ _) | (with_reducible refine Kd.C_drewN ?_ _) | (with_reducible refine Kd.C_drew ?_))); (case side4 => exact HC0_5.out); rintro e w16 ⟨v186, v189, rfl, ho0, ho1, hb⟩; refine ⟨_, rfl, ?_⟩; have n0_ := Aside0.mk (Kd.R_lower ho0 (below_size (by repeat (first | (with_reducible first | exact HB.out | apply below_alloc | apply pw_below_drewN | apply below_drew1 | refine below_set ?_ GE179.out) | exact HB.out)))); have n1_ := Aside0.mk (Kd.R_lower ho1 (below_size (by repeat (first | (with_reducible first | exact HB.out | apply below_alloc | apply pw_below_drewN | apply below_drew1 | refine below_set ?_ GE179.out) | exact HB.out)))); have n2_ := Aside0.mk (blk_below (g := gb179) (o := .cells #[.int .i64 a0_0, .int .i64 a0_1, .int .i64 a0_2, .int .i64 a0_3, .slice A0_4 l0_4.length c0_4, .slice A0_5 l0_5.length c0_5] 24 (0, 0)) (by (with_reducible repeat (first | refine blk_drewN ?_ _ | refine blk_drew ?_ | refine blk_alloc ?_ _)); exact BK179.out) hb); have n3_ := Aside0.mk (below_step (by repeat (first | (with_reducible first | exact HB.out | apply below_alloc | apply pw_below_drewN | apply below_drew1 | refine below_set ?_ GE179.out) | exact HB.out)) hb); clear BK179; clear HB; have HO187 := n0_; have HO190 := n1_; have BK179 := n2_; have HB := n3_; clear n0_ n1_ n2_ n3_; (try clear hb); (try clear hb2); (try clear hk); (try clear hi); (try clear ho0); (try clear ho1); obtain ⟨Ao17, co17, eo17⟩ := Kd.R_slice HO187.out; subst eo17; obtain ⟨Ao18, co18, eo18⟩ := Kd.R_slice HO190.out; subst eo18) | ((with_reducible refine gate_callee (f := 34) rfl ?_); refine goesL_ (some 22) rfl rfl Try.func34 (by kernel_rfl) rfl #[.agg #[.int .i64 t181, .int .i64 t182, .int .i64 t183, .int .i64 t184, .slice Ao17 t185.length co17, .slice Ao18 t188.length co18]] rfl (by (try simp only [List.map_toArray, List.map_cons, List.map_nil]); first | done | rfl | (simp only [List.length_drop, List.length_take]; rfl)) ?_; (with_reducible refine (spec_ImageRgb.calls k t181 t182 t183 t184 _ _ t185 _ _ t188 t191 t192 t193 t194 t195 t198 t201 _ ?side1 ?side2 ?side3 ?side4 A8.out).mono ?_); (case side1 => repeat (first | exact (Kd.R_reads' HO187.out).2.2 | (with_reducible refine Kd.C_alloc ?_ _) | (with_reducible refine Kd.C_drewN ?_ _) | (with_reducible refine Kd.C_drew ?_))); (case side2 => exact (Kd.R_reads' HO187.out).2.1); (case side3 => repeat (first | exact (Kd.R_reads' HO190.out).2.2 | (with_reducible refine Kd.C_alloc ?_ _) | (with_reducible refine Kd.C_drewN ?_ _) | (with_reducible refine Kd.C_drew ?_))); (case side4 => exact (Kd.R_reads' HO190.out).2.1); rintro e w19 ⟨v196, v199, rfl, ho0, ho1, hb⟩; refine ⟨_, rfl, ?_⟩; have n0_ := Aside0.mk (Kd.R_mono (Kd.R_told (Kd.R_told (Kd.R_old (by (with_reducible repeat (first | apply Kd.R_alloc | apply Kd.R_drewN | apply Kd.R_drew)); exact HO187.out) hb) (Kd.R_base ho0)) (Kd.R_base ho1)) (fun _ h_ => h_.1)); have n1_ := Aside0.mk (Kd.R_mono (Kd.R_told (Kd.R_told (Kd.R_old (by (with_reducible repeat (first | apply Kd.R_alloc | apply Kd.R_drewN | apply Kd.R_drew)); exact HO190.out) hb) (Kd.R_base ho0)) (Kd.R_base ho1)) (fun _ h_ => h_.1)); have n2_ := Aside0.mk (Kd.R_lower (Kd.R_new' (Kd.R_new' ho0 (Kd.R_lt (by (with_reducible repeat (first | apply Kd.R_alloc | apply Kd.R_drewN | apply Kd.R_drew)); exact HO187.out))) (Kd.R_lt (by (with_reducible repeat (first | apply Kd.R_alloc | apply Kd.R_drewN | apply Kd.R_drew)); exact HO190.out))) (below_size (by repeat (first | (with_reducible first | exact HB.out | apply below_alloc | apply pw_below_drewN | apply below_drew1 | refine below_set ?_ GE179.out) | exact HB.out)))); have n3_ := Aside0.mk (Kd.R_lower (Kd.R_new' (Kd.R_new' ho1 (Kd.R_lt (by (with_reducible repeat (first | apply Kd.R_alloc | apply Kd.R_drewN | apply Kd.R_drew)); exact HO187.out))) (Kd.R_lt (by (with_reducible repeat (first | apply Kd.R_alloc | apply Kd.R_drewN | apply Kd.R_drew)); exact HO190.out))) (below_size (by repeat (first | (with_reducible first | exact HB.out | apply below_alloc | apply pw_below_drewN | apply below_drew1 | refine below_set ?_ GE179.out) | exact HB.out)))); have n4_ := Aside0.mk (blk_below (g := gb179) (o := .cells #[.int .i64 a0_0, .int .i64 a0_1, .int .i64 a0_2, .int .i64 a0_3, .slice A0_4 l0_4.length c0_4, .slice A0_5 l0_5.length c0_5] 24 (0, 0)) (by (with_reducible repeat (first | refine blk_drewN ?_ _ | refine blk_drew ?_ | refine blk_alloc ?_ _)); exact BK179.out) hb); have n5_ := Aside0.mk (below_step (by repeat (first | (with_reducible first | exact HB.out | apply below_alloc | apply pw_below_drewN | apply below_drew1 | refine below_set ?_ GE179.out) | exact HB.out)) hb); clear HO187; clear HO190; clear BK179; clear HB; have HO187 := n0_; have HO190 := n1_; have HO197 := n2_; have HO200 := n3_; have BK179 := n4_; have HB := n5_; clear n0_ n1_ n2_ n3_ n4_ n5_; (try clear hb); (try clear hb2); (try clear hk); (try clear hi); (try clear ho0); (try clear ho1)) | ((with_reducible refine gate_dst (N := 4) rfl ?_); refine box_event ?hg (N := 4) ?hd (cs := #[.int .i64 0, .int .i64 0, .int .i64 0, .int .i64 0, .slice none 0 0, .slice none 0 0]) (t := 27) ?hr ?_; (case hd => rfl); (case hg => rfl); (case hr => first | (go_simp; done) | (go_simp; rfl)); intro gb202 hg w20 hbox hb; have n0_ := Aside0.mk (Kd.R_below (by (with_reducible repeat (first | apply Kd.R_alloc | apply Kd.R_drewN | apply Kd.R_drew)); exact HO187.out) hb); have n1_ := Aside0.mk (Kd.R_below (by (with_reducible repeat (first | apply Kd.R_alloc | apply Kd.R_drewN | apply Kd.R_drew)); exact HO190.out) hb); have n2_ := Aside0.mk (Kd.R_below (by (with_reducible repeat (first | apply Kd.R_alloc | apply Kd.R_drewN | apply Kd.R_drew)); exact HO197.out) hb); have n3_ := Aside0.mk (Kd.R_below (by (with_reducible repeat (first | apply Kd.R_alloc | apply Kd.R_drewN | apply Kd.R_drew)); exact HO200.out) hb); have n4_ := Aside0.mk (blk_below (g := gb179) (o := .cells #[.int .i64 a0_0, .int .i64 a0_1, .int .i64 a0_2, .int .i64 a0_3, .slice A0_4 l0_4.length c0_4, .slice A0_5 l0_5.length c0_5] 24 (0, 0)) (by (with_reducible repeat (first | refine blk_drewN ?_ _ | refine blk_drew ?_ | refine blk_alloc ?_ _)); exact BK179.out) hb); have n5_ := Aside0.mk (below_step (by repeat (first | (with_reducible first | exact HB.out | apply below_alloc | apply pw_below_drewN | apply below_drew1 | refine below_set ?_ GE179.out) | exact HB.out)) hb); have n6_ := Aside0.mk (hbox); have n7_ := Aside0.mk ((by rw [hg]; exact (below_size (by repeat (first | (with_reducible first | exact HB.out | apply below_alloc | apply pw_below_drewN | apply below_drew1 | refine below_set ?_ GE179.out) | exact HB.out))) : w.heap.size ≤ gb202)); have n8_ := Aside0.mk ((by rw [hg]; exact (below_size (by repeat (first | (with_reducible first | exact HB.out | apply below_alloc | apply pw_below_drewN | apply below_drew1 | refine below_set ?_ GE179.out) | exact HB.out))) : w.heap.size ≤ gb202)); have n9_ := Aside0.mk ((by rw [hg]; exact Nat.ne_of_lt (blk_lt (g := gb179) (o := .cells #[.int .i64 a0_0, .int .i64 a0_1, .int .i64 a0_2, .int .i64 a0_3, .slice A0_4 l0_4.length c0_4, .slice A0_5 l0_5.length c0_5] 24 (0, 0)) (by (with_reducible repeat (first | refine blk_drewN ?_ _ | refine blk_drew ?_ | refine blk_alloc ?_ _)); exact BK179.out)) : gb179 ≠ gb202)); have n10_ := Aside0.mk ((by rw [hg]; exact Nat.ne_of_gt (blk_lt (g := gb179) (o := .cells #[.int .i64 a0_0, .int .i64 a0_1, .int .i64 a0_2, .int .i64 a0_3, .slice A0_4 l0_4.length c0_4, .slice A0_5 l0_5.length c0_5] 24 (0, 0)) (by (with_reducible repeat (first | refine blk_drewN ?_ _ | refine blk_drew ?_ | refine blk_alloc ?_ _)); exact BK179.out)) : gb202 ≠ gb179)); clear HO187; clear HO190; clear HO197; clear HO200; clear BK179; clear HB; have HO187 := n0_; have HO190 := n1_; have HO197 := n2_; have HO200 := n3_; have BK179 := n4_; have HB := n5_; have BK202 := n6_; have GW202 := n7_; have GE202 := n8_; have NB179_202 := n9_; have NB202_179 := n10_; clear n0_ n1_ n2_ n3_ n4_ n5_ n6_ n7_ n8_ n9_ n10_; clear hb hbox hg; have hnb21 := NB202_179.out; have hnc21 := NB179_202.out; have hcz22_0 : w20.cell? ⟨gb202, 0, none⟩ = some (.int .i64 0) := (blk_cell BK202.out 0).trans rfl; have hcz22_1 : w20.cell? ⟨gb202, 1, none⟩ = some (.int .i64 0) := (blk_cell BK202.out 1).trans rfl; have hcz22_2 : w20.cell? ⟨gb202, 2, none⟩ = some (.int .i64 0) := (blk_cell BK202.out 2).trans rfl; have hcz22_3 : w20.cell? ⟨gb202, 3, none⟩ = some (.int .i64 0) := (blk_cell BK202.out 3).trans rfl; have hcz22_4 : w20.cell? ⟨gb202, 4, none⟩ = some (.slice none 0 0) := (blk_cell BK202.out 4).trans rfl; have hcz22_5 : w20.cell? ⟨gb202, 5, none⟩ = some (.slice none 0 0) := (blk_cell BK202.out 5).trans rfl; have hfz22_0 := blk_frozen BK202.out 0; have hfz22_1 := blk_frozen BK202.out 1; have hfz22_2 := blk_frozen BK202.out 2; have hfz22_3 := blk_frozen BK202.out 3; have hfz22_4 := blk_frozen BK202.out 4; have hfz22_5 := blk_frozen BK202.out 5; obtain ⟨Ao23, co23, eo23⟩ := Kd.R_slice HO197.out; subst eo23; obtain ⟨Ao24, co24, eo24⟩ := Kd.R_slice HO200.out; subst eo24; have hcz25_0 : w20.cell? ⟨gb179, 0, none⟩ = some (.int .i64 a0_0) := (blk_cell BK179.out 0).trans rfl; have hcz25_1 : w20.cell? ⟨gb179, 1, none⟩ = some (.int .i64 a0_1) := (blk_cell BK179.out 1).trans rfl; have hcz25_2 : w20.cell? ⟨gb179, 2, none⟩ = some (.int .i64 a0_2) := (blk_cell BK179.out 2).trans rfl; have hcz25_3 : w20.cell? ⟨gb179, 3, none⟩ = some (.int .i64 a0_3) := (blk_cell BK179.out 3).trans rfl; have hcz25_4 : w20.cell? ⟨gb179, 4, none⟩ = some (.slice A0_4 l0_4.length c0_4) := (blk_cell BK179.out 4).trans rfl; have hcz25_5 : w20.cell? ⟨gb179, 5, none⟩ = some (.slice A0_5 l0_5.length c0_5) := (blk_cell BK179.out 5).trans rfl; have hfz25_0 := blk_frozen BK179.out 0; have hfz25_1 := blk_frozen BK179.out 1; have hfz25_2 := blk_frozen BK179.out 2; have hfz25_3 := blk_frozen BK179.out 3; have hfz25_4 := blk_frozen BK179.out 4; have hfz25_5 := blk_frozen BK179.out 5) | ((with_reducible refine gate_callee (f := 17) rfl ?_); refine goesL_ (some 26) rfl rfl Try.func17 (by kernel_rfl) rfl #[.agg #[.int .i64 a0_0, .int .i64 a0_1, .int .i64 a0_2, .int .i64 a0_3, .slice A0_4 l0_4.length c0_4, .slice A0_5 l0_5.length c0_5]] rfl (by (try simp only [List.map_toArray, List.map_cons, List.map_nil]); first | done | rfl | (simp only [List.length_drop, List.length_take]; rfl)) ?_; (with_reducible refine (laws_toImage.calls k a0_0 a0_1 a0_2 a0_3 _ _ l0_4 _ _ l0_5 t203 t204 t205 t206 t207 t210 _ ?side1 ?side2 ?side3 ?side4 A9.out).mono ?_); (case side1 => exact Kd.C_below HR0_4.out (by repeat (first | (with_reducible first | exact HB.out | apply below_alloc | apply pw_below_drewN | apply below_drew1 | refine below_set ?_ GE179.out | refine below_set ?_ GE202.out) | exact HB.out))); (case side2 => exact HC0_4.out); (case side3 => exact Kd.C_below HR0_5.out (by repeat (first | (with_reducible first | exact HB.out | apply below_alloc | apply pw_below_drewN | apply below_drew1 | refine below_set ?_ GE179.out | refine below_set ?_ GE202.out) | exact HB.out))); (case side4 => exact HC0_5.out); rintro e w26 ⟨v208, v211, rfl, ho0, ho1, hb⟩; refine ⟨_, rfl, ?_⟩; have n0_ := Aside0.mk (Kd.R_mono (Kd.R_told (Kd.R_told (Kd.R_old (by (with_reducible repeat (first | apply Kd.R_alloc | apply Kd.R_drewN | apply Kd.R_drew)); exact (Kd.R_mono (Kd.R_far (p := ⟨gb202, 5, none⟩) (Kd.R_far (p := ⟨gb202, 4, none⟩) (Kd.R_far (p := ⟨gb202, 3, none⟩) (Kd.R_far (p := ⟨gb202, 2, none⟩) (Kd.R_far (p := ⟨gb202, 1, none⟩) (Kd.R_far (p := ⟨gb202, 0, none⟩) (Kd.R_types HO187.out BK202.out (by decide)) (fun _ hk => hk.2) (.int .i64 t191)) (fun _ hk => hk.2) (.int .i64 t192)) (fun _ hk => hk.2) (.int .i64 t193)) (fun _ hk => hk.2) (.int .i64 t194)) (fun _ hk => hk.2) (.slice Ao23 t195.length co23)) (fun _ hk => hk.2) (.slice Ao24 t198.length co24)) (fun _ h_ => h_.1))) hb) (Kd.R_base ho0)) (Kd.R_base ho1)) (fun _ h_ => h_.1)); have n1_ := Aside0.mk (Kd.R_mono (Kd.R_told (Kd.R_told (Kd.R_old (by (with_reducible repeat (first | apply Kd.R_alloc | apply Kd.R_drewN | apply Kd.R_drew)); exact (Kd.R_mono (Kd.R_far (p := ⟨gb202, 5, none⟩) (Kd.R_far (p := ⟨gb202, 4, none⟩) (Kd.R_far (p := ⟨gb202, 3, none⟩) (Kd.R_far (p := ⟨gb202, 2, none⟩) (Kd.R_far (p := ⟨gb202, 1, none⟩) (Kd.R_far (p := ⟨gb202, 0, none⟩) (Kd.R_types HO190.out BK202.out (by decide)) (fun _ hk => hk.2) (.int .i64 t191)) (fun _ hk => hk.2) (.int .i64 t192)) (fun _ hk => hk.2) (.int .i64 t193)) (fun _ hk => hk.2) (.int .i64 t194)) (fun _ hk => hk.2) (.slice Ao23 t195.length co23)) (fun _ hk => hk.2) (.slice Ao24 t198.length co24)) (fun _ h_ => h_.1))) hb) (Kd.R_base ho0)) (Kd.R_base ho1)) (fun _ h_ => h_.1)); have n2_ := Aside0.mk (Kd.R_mono (Kd.R_told (Kd.R_told (Kd.R_old (by (with_reducible repeat (first | apply Kd.R_alloc | apply Kd.R_drewN | apply Kd.R_drew)); exact (Kd.R_mono (Kd.R_far (p := ⟨gb202, 5, none⟩) (Kd.R_far (p := ⟨gb202, 4, none⟩) (Kd.R_far (p := ⟨gb202, 3, none⟩) (Kd.R_far (p := ⟨gb202, 2, none⟩) (Kd.R_far (p := ⟨gb202, 1, none⟩) (Kd.R_far (p := ⟨gb202, 0, none⟩) (Kd.R_types HO197.out BK202.out (by decide)) (fun _ hk => hk.2) (.int .i64 t191)) (fun _ hk => hk.2) (.int .i64 t192)) (fun _ hk => hk.2) (.int .i64 t193)) (fun _ hk => hk.2) (.int .i64 t194)) (fun _ hk => hk.2) (.slice Ao23 t195.length co23)) (fun _ hk => hk.2) (.slice Ao24 t198.length co24)) (fun _ h_ => h_.1))) hb) (Kd.R_base ho0)) (Kd.R_base ho1)) (fun _ h_ => h_.1)); have n3_ := Aside0.mk (Kd.R_mono (Kd.R_told (Kd.R_told (Kd.R_old (by (with_reducible repeat (first | apply Kd.R_alloc | apply Kd.R_drewN | apply Kd.R_drew)); exact (Kd.R_mono (Kd.R_far (p := ⟨gb202, 5, none⟩) (Kd.R_far (p := ⟨gb202, 4, none⟩) (Kd.R_far (p := ⟨gb202, 3, none⟩) (Kd.R_far (p := ⟨gb202, 2, none⟩) (Kd.R_far (p := ⟨gb202, 1, none⟩) (Kd.R_far (p := ⟨gb202, 0, none⟩) (Kd.R_types HO200.out BK202.out (by decide)) (fun _ hk => hk.2) (.int .i64 t191)) (fun _ hk => hk.2) (.int .i64 t192)) (fun _ hk => hk.2) (.int .i64 t193)) (fun _ hk => hk.2) (.int .i64 t194)) (fun _ hk => hk.2) (.slice Ao23 t195.length co23)) (fun _ hk => hk.2) (.slice Ao24 t198.length co24)) (fun _ h_ => h_.1))) hb) (Kd.R_base ho0)) (Kd.R_base ho1)) (fun _ h_ => h_.1)); have n4_ := Aside0.mk (Kd.R_lower (Kd.R_new' (Kd.R_new' (Kd.R_new' (Kd.R_new' ho0 (Kd.R_lt (by (with_reducible repeat (first | apply Kd.R_alloc | apply Kd.R_drewN | apply Kd.R_drew)); exact (Kd.R_mono (Kd.R_far (p := ⟨gb202, 5, none⟩) (Kd.R_far (p := ⟨gb202, 4, none⟩) (Kd.R_far (p := ⟨gb202, 3, none⟩) (Kd.R_far (p := ⟨gb202, 2, none⟩) (Kd.R_far (p := ⟨gb202, 1, none⟩) (Kd.R_far (p := ⟨gb202, 0, none⟩) (Kd.R_types HO187.out BK202.out (by decide)) (fun _ hk => hk.2) (.int .i64 t191)) (fun _ hk => hk.2) (.int .i64 t192)) (fun _ hk => hk.2) (.int .i64 t193)) (fun _ hk => hk.2) (.int .i64 t194)) (fun _ hk => hk.2) (.slice Ao23 t195.length co23)) (fun _ hk => hk.2) (.slice Ao24 t198.length co24)) (fun _ h_ => h_.1))))) (Kd.R_lt (by (with_reducible repeat (first | apply Kd.R_alloc | apply Kd.R_drewN | apply Kd.R_drew)); exact (Kd.R_mono (Kd.R_far (p := ⟨gb202, 5, none⟩) (Kd.R_far (p := ⟨gb202, 4, none⟩) (Kd.R_far (p := ⟨gb202, 3, none⟩) (Kd.R_far (p := ⟨gb202, 2, none⟩) (Kd.R_far (p := ⟨gb202, 1, none⟩) (Kd.R_far (p := ⟨gb202, 0, none⟩) (Kd.R_types HO190.out BK202.out (by decide)) (fun _ hk => hk.2) (.int .i64 t191)) (fun _ hk => hk.2) (.int .i64 t192)) (fun _ hk => hk.2) (.int .i64 t193)) (fun _ hk => hk.2) (.int .i64 t194)) (fun _ hk => hk.2) (.slice Ao23 t195.length co23)) (fun _ hk => hk.2) (.slice Ao24 t198.length co24)) (fun _ h_ => h_.1))))) (Kd.R_lt (by (with_reducible repeat (first | apply Kd.R_alloc | apply Kd.R_drewN | apply Kd.R_drew)); exact (Kd.R_mono (Kd.R_far (p := ⟨gb202, 5, none⟩) (Kd.R_far (p := ⟨gb202, 4, none⟩) (Kd.R_far (p := ⟨gb202, 3, none⟩) (Kd.R_far (p := ⟨gb202, 2, none⟩) (Kd.R_far (p := ⟨gb202, 1, none⟩) (Kd.R_far (p := ⟨gb202, 0, none⟩) (Kd.R_types HO197.out BK202.out (by decide)) (fun _ hk => hk.2) (.int .i64 t191)) (fun _ hk => hk.2) (.int .i64 t192)) (fun _ hk => hk.2) (.int .i64 t193)) (fun _ hk => hk.2) (.int .i64 t194)) (fun _ hk => hk.2) (.slice Ao23 t195.length co23)) (fun _ hk => hk.2) (.slice Ao24 t198.length co24)) (fun _ h_ => h_.1))))) (Kd.R_lt (by (with_reducible repeat (first | apply Kd.R_alloc | apply Kd.R_drewN | apply Kd.R_drew)); exact (Kd.R_mono (Kd.R_far (p := ⟨gb202, 5, none⟩) (Kd.R_far (p := ⟨gb202, 4, none⟩) (Kd.R_far (p := ⟨gb202, 3, none⟩) (Kd.R_far (p := ⟨gb202, 2, none⟩) (Kd.R_far (p := ⟨gb202, 1, none⟩) (Kd.R_far (p := ⟨gb202, 0, none⟩) (Kd.R_types HO200.out BK202.out (by decide)) (fun _ hk => hk.2) (.int .i64 t191)) (fun _ hk => hk.2) (.int .i64 t192)) (fun _ hk => hk.2) (.int .i64 t193)) (fun _ hk => hk.2) (.int .i64 t194)) (fun _ hk => hk.2) (.slice Ao23 t195.length co23)) (fun _ hk => hk.2) (.slice Ao24 t198.length co24)) (fun _ h_ => h_.1))))) (below_size (by repeat (first | (with_reducible first | exact HB.out | apply below_alloc | apply pw_below_drewN | apply below_drew1 | refine below_set ?_ GE179.out | refine below_set ?_ GE202.out) | exact HB.out)))); have n5_ := Aside0.mk (Kd.R_lower (Kd.R_new' (Kd.R_new' (Kd.R_new' (Kd.R_new' ho1 (Kd.R_lt (by (with_reducible repeat (first | apply Kd.R_alloc | apply Kd.R_drewN | apply Kd.R_drew)); exact (Kd.R_mono (Kd.R_far (p := ⟨gb202, 5, none⟩) (Kd.R_far (p := ⟨gb202, 4, none⟩) (Kd.R_far (p := ⟨gb202, 3, none⟩) (Kd.R_far (p := ⟨gb202, 2, none⟩) (Kd.R_far (p := ⟨gb202, 1, none⟩) (Kd.R_far (p := ⟨gb202, 0, none⟩) (Kd.R_types HO187.out BK202.out (by decide)) (fun _ hk => hk.2) (.int .i64 t191)) (fun _ hk => hk.2) (.int .i64 t192)) (fun _ hk => hk.2) (.int .i64 t193)) (fun _ hk => hk.2) (.int .i64 t194)) (fun _ hk => hk.2) (.slice Ao23 t195.length co23)) (fun _ hk => hk.2) (.slice Ao24 t198.length co24)) (fun _ h_ => h_.1))))) (Kd.R_lt (by (with_reducible repeat (first | apply Kd.R_alloc | apply Kd.R_drewN | apply Kd.R_drew)); exact (Kd.R_mono (Kd.R_far (p := ⟨gb202, 5, none⟩) (Kd.R_far (p := ⟨gb202, 4, none⟩) (Kd.R_far (p := ⟨gb202, 3, none⟩) (Kd.R_far (p := ⟨gb202, 2, none⟩) (Kd.R_far (p := ⟨gb202, 1, none⟩) (Kd.R_far (p := ⟨gb202, 0, none⟩) (Kd.R_types HO190.out BK202.out (by decide)) (fun _ hk => hk.2) (.int .i64 t191)) (fun _ hk => hk.2) (.int .i64 t192)) (fun _ hk => hk.2) (.int .i64 t193)) (fun _ hk => hk.2) (.int .i64 t194)) (fun _ hk => hk.2) (.slice Ao23 t195.length co23)) (fun _ hk => hk.2) (.slice Ao24 t198.length co24)) (fun _ h_ => h_.1))))) (Kd.R_lt (by (with_reducible repeat (first | apply Kd.R_alloc | apply Kd.R_drewN | apply Kd.R_drew)); exact (Kd.R_mono (Kd.R_far (p := ⟨gb202, 5, none⟩) (Kd.R_far (p := ⟨gb202, 4, none⟩) (Kd.R_far (p := ⟨gb202, 3, none⟩) (Kd.R_far (p := ⟨gb202, 2, none⟩) (Kd.R_far (p := ⟨gb202, 1, none⟩) (Kd.R_far (p := ⟨gb202, 0, none⟩) (Kd.R_types HO197.out BK202.out (by decide)) (fun _ hk => hk.2) (.int .i64 t191)) (fun _ hk => hk.2) (.int .i64 t192)) (fun _ hk => hk.2) (.int .i64 t193)) (fun _ hk => hk.2) (.int .i64 t194)) (fun _ hk => hk.2) (.slice Ao23 t195.length co23)) (fun _ hk => hk.2) (.slice Ao24 t198.length co24)) (fun _ h_ => h_.1))))) (Kd.R_lt (by (with_reducible repeat (first | apply Kd.R_alloc | apply Kd.R_drewN | apply Kd.R_drew)); exact (Kd.R_mono (Kd.R_far (p := ⟨gb202, 5, none⟩) (Kd.R_far (p := ⟨gb202, 4, none⟩) (Kd.R_far (p := ⟨gb202, 3, none⟩) (Kd.R_far (p := ⟨gb202, 2, none⟩) (Kd.R_far (p := ⟨gb202, 1, none⟩) (Kd.R_far (p := ⟨gb202, 0, none⟩) (Kd.R_types HO200.out BK202.out (by decide)) (fun _ hk => hk.2) (.int .i64 t191)) (fun _ hk => hk.2) (.int .i64 t192)) (fun _ hk => hk.2) (.int .i64 t193)) (fun _ hk => hk.2) (.int .i64 t194)) (fun _ hk => hk.2) (.slice Ao23 t195.length co23)) (fun _ hk => hk.2) (.slice Ao24 t198.length co24)) (fun _ h_ => h_.1))))) (below_size (by repeat (first | (with_reducible first | exact HB.out | apply below_alloc | apply pw_below_drewN | apply below_drew1 | refine below_set ?_ GE179.out | refine below_set ?_ GE202.out) | exact HB.out)))); have n6_ := Aside0.mk (blk_below (g := gb179) (o := .cells #[.int .i64 a0_0, .int .i64 a0_1, .int .i64 a0_2, .int .i64 a0_3, .slice A0_4 l0_4.length c0_4, .slice A0_5 l0_5.length c0_5] 24 (0, 0)) (by (with_reducible repeat (first | refine blk_drewN ?_ _ | refine blk_drew ?_ | refine blk_alloc ?_ _)); refine blk_far ?_ NB179_202.out _; (with_reducible repeat (first | refine blk_drewN ?_ _ | refine blk_drew ?_ | refine blk_alloc ?_ _)); refine blk_far ?_ NB179_202.out _; (with_reducible repeat (first | refine blk_drewN ?_ _ | refine blk_drew ?_ | refine blk_alloc ?_ _)); refine blk_far ?_ NB179_202.out _; (with_reducible repeat (first | refine blk_drewN ?_ _ | refine blk_drew ?_ | refine blk_alloc ?_ _)); refine blk_far ?_ NB179_202.out _; (with_reducible repeat (first | refine blk_drewN ?_ _ | refine blk_drew ?_ | refine blk_alloc ?_ _)); refine blk_far ?_ NB179_202.out _; (with_reducible repeat (first | refine blk_drewN ?_ _ | refine blk_drew ?_ | refine blk_alloc ?_ _)); refine blk_far ?_ NB179_202.out _; (with_reducible repeat (first | refine blk_drewN ?_ _ | refine blk_drew ?_ | refine blk_alloc ?_ _)); exact BK179.out) hb); have n7_ := Aside0.mk (blk_below (g := gb202) (o := .cells #[.int .i64 t191, .int .i64 t192, .int .i64 t193, .int .i64 t194, .slice Ao23 t195.length co23, .slice Ao24 t198.length co24] 27 (0, 0)) (by (with_reducible repeat (first | refine blk_drewN ?_ _ | refine blk_drew ?_ | refine blk_alloc ?_ _)); refine blk_put (cs := #[.int .i64 t191, .int .i64 t192, .int .i64 t193, .int .i64 t194, .slice Ao23 t195.length co23, .slice none 0 0]) ?_ 5 _ rfl; (with_reducible repeat (first | refine blk_drewN ?_ _ | refine blk_drew ?_ | refine blk_alloc ?_ _)); refine blk_put (cs := #[.int .i64 t191, .int .i64 t192, .int .i64 t193, .int .i64 t194, .slice none 0 0, .slice none 0 0]) ?_ 4 _ rfl; (with_reducible repeat (first | refine blk_drewN ?_ _ | refine blk_drew ?_ | refine blk_alloc ?_ _)); refine blk_put (cs := #[.int .i64 t191, .int .i64 t192, .int .i64 t193, .int .i64 0, .slice none 0 0, .slice none 0 0]) ?_ 3 _ rfl; (with_reducible repeat (first | refine blk_drewN ?_ _ | refine blk_drew ?_ | refine blk_alloc ?_ _)); refine blk_put (cs := #[.int .i64 t191, .int .i64 t192, .int .i64 0, .int .i64 0, .slice none 0 0, .slice none 0 0]) ?_ 2 _ rfl; (with_reducible repeat (first | refine blk_drewN ?_ _ | refine blk_drew ?_ | refine blk_alloc ?_ _)); refine blk_put (cs := #[.int .i64 t191, .int .i64 0, .int .i64 0, .int .i64 0, .slice none 0 0, .slice none 0 0]) ?_ 1 _ rfl; (with_reducible repeat (first | refine blk_drewN ?_ _ | refine blk_drew ?_ | refine blk_alloc ?_ _)); refine blk_put (cs := #[.int .i64 0, .int .i64 0, .int .i64 0, .int .i64 0, .slice none 0 0, .slice none 0 0]) ?_ 0 _ rfl; (with_reducible repeat (first | refine blk_drewN ?_ _ | refine blk_drew ?_ | refine blk_alloc ?_ _)); exact BK202.out) hb); have n8_ := Aside0.mk (below_step (by repeat (first | (with_reducible first | exact HB.out | apply below_alloc | apply pw_below_drewN | apply below_drew1 | refine below_set ?_ GE179.out | refine below_set ?_ GE202.out) | exact HB.out)) hb); clear HO187; clear HO190; clear HO197; clear HO200; clear BK179; clear BK202; clear HB; have HO187 := n0_; have HO190 := n1_; have HO197 := n2_; have HO200 := n3_; have HO209 := n4_; have HO212 := n5_; have BK179 := n6_; have BK202 := n7_; have HB := n8_; clear n0_ n1_ n2_ n3_ n4_ n5_ n6_ n7_ n8_; (try clear hb); (try clear hb2); (try clear hk); (try clear hi); (try clear ho0); (try clear ho1)) | ((with_reducible refine gate_dst (N := 6) rfl ?_); refine box_event ?hg (N := 6) ?hd (cs := #[.int .i64 0, .int .i64 0, .int .i64 0, .int .i64 0, .slice none 0 0, .slice none 0 0]) (t := 27) ?hr ?_; (case hd => rfl); (case hg => rfl); (case hr => first | (go_simp; done) | (go_simp; rfl)); intro gb213 hg w27 hbox hb; have n0_ := Aside0.mk (Kd.R_below (by (with_reducible repeat (first | apply Kd.R_alloc | apply Kd.R_drewN | apply Kd.R_drew)); exact HO187.out) hb); have n1_ := Aside0.mk (Kd.R_below (by (with_reducible repeat (first | apply Kd.R_alloc | apply Kd.R_drewN | apply Kd.R_drew)); exact HO190.out) hb); have n2_ := Aside0.mk (Kd.R_below (by (with_reducible repeat (first | apply Kd.R_alloc | apply Kd.R_drewN | apply Kd.R_drew)); exact HO197.out) hb); have n3_ := Aside0.mk (Kd.R_below (by (with_reducible repeat (first | apply Kd.R_alloc | apply Kd.R_drewN | apply Kd.R_drew)); exact HO200.out) hb); have n4_ := Aside0.mk (Kd.R_below (by (with_reducible repeat (first | apply Kd.R_alloc | apply Kd.R_drewN | apply Kd.R_drew)); exact HO209.out) hb); have n5_ := Aside0.mk (Kd.R_below (by (with_reducible repeat (first | apply Kd.R_alloc | apply Kd.R_drewN | apply Kd.R_drew)); exact HO212.out) hb); have n6_ := Aside0.mk (blk_below (g := gb179) (o := .cells #[.int .i64 a0_0, .int .i64 a0_1, .int .i64 a0_2, .int .i64 a0_3, .slice A0_4 l0_4.length c0_4, .slice A0_5 l0_5.length c0_5] 24 (0, 0)) (by (with_reducible repeat (first | refine blk_drewN ?_ _ | refine blk_drew ?_ | refine blk_alloc ?_ _)); exact BK179.out) hb); have n7_ := Aside0.mk (blk_below (g := gb202) (o := .cells #[.int .i64 t191, .int .i64 t192, .int .i64 t193, .int .i64 t194, .slice Ao23 t195.length co23, .slice Ao24 t198.length co24] 27 (0, 0)) (by (with_reducible repeat (first | refine blk_drewN ?_ _ | refine blk_drew ?_ | refine blk_alloc ?_ _)); exact BK202.out) hb); have n8_ := Aside0.mk (below_step (by repeat (first | (with_reducible first | exact HB.out | apply below_alloc | apply pw_below_drewN | apply below_drew1 | refine below_set ?_ GE179.out | refine below_set ?_ GE202.out) | exact HB.out)) hb); have n9_ := Aside0.mk (hbox); have n10_ := Aside0.mk ((by rw [hg]; exact (below_size (by repeat (first | (with_reducible first | exact HB.out | apply below_alloc | apply pw_below_drewN | apply below_drew1 | refine below_set ?_ GE179.out | refine below_set ?_ GE202.out) | exact HB.out))) : w.heap.size ≤ gb213)); have n11_ := Aside0.mk ((by rw [hg]; exact (below_size (by repeat (first | (with_reducible first | exact HB.out | apply below_alloc | apply pw_below_drewN | apply below_drew1 | refine below_set ?_ GE179.out | refine below_set ?_ GE202.out) | exact HB.out))) : w.heap.size ≤ gb213)); have n12_ := Aside0.mk ((by rw [hg]; exact Nat.ne_of_lt (blk_lt (g := gb179) (o := .cells #[.int .i64 a0_0, .int .i64 a0_1, .int .i64 a0_2, .int .i64 a0_3, .slice A0_4 l0_4.length c0_4, .slice A0_5 l0_5.length c0_5] 24 (0, 0)) (by (with_reducible repeat (first | refine blk_drewN ?_ _ | refine blk_drew ?_ | refine blk_alloc ?_ _)); exact BK179.out)) : gb179 ≠ gb213)); have n13_ := Aside0.mk ((by rw [hg]; exact Nat.ne_of_gt (blk_lt (g := gb179) (o := .cells #[.int .i64 a0_0, .int .i64 a0_1, .int .i64 a0_2, .int .i64 a0_3, .slice A0_4 l0_4.length c0_4, .slice A0_5 l0_5.length c0_5] 24 (0, 0)) (by (with_reducible repeat (first | refine blk_drewN ?_ _ | refine blk_drew ?_ | refine blk_alloc ?_ _)); exact BK179.out)) : gb213 ≠ gb179)); have n14_ := Aside0.mk ((by rw [hg]; exact Nat.ne_of_lt (blk_lt (g := gb202) (o := .cells #[.int .i64 t191, .int .i64 t192, .int .i64 t193, .int .i64 t194, .slice Ao23 t195.length co23, .slice Ao24 t198.length co24] 27 (0, 0)) (by (with_reducible repeat (first | refine blk_drewN ?_ _ | refine blk_drew ?_ | refine blk_alloc ?_ _)); exact BK202.out)) : gb202 ≠ gb213)); have n15_ := Aside0.mk ((by rw [hg]; exact Nat.ne_of_gt (blk_lt (g := gb202) (o := .cells #[.int .i64 t191, .int .i64 t192, .int .i64 t193, .int .i64 t194, .slice Ao23 t195.length co23, .slice Ao24 t198.length co24] 27 (0, 0)) (by (with_reducible repeat (first | refine blk_drewN ?_ _ | refine blk_drew ?_ | refine blk_alloc ?_ _)); exact BK202.out)) : gb213 ≠ gb202)); clear HO187; clear HO190; clear HO197; clear HO200; clear HO209; clear HO212; clear BK179; clear BK202; clear HB; have HO187 := n0_; have HO190 := n1_; have HO197 := n2_; have HO200 := n3_; have HO209 := n4_; have HO212 := n5_; have BK179 := n6_; have BK202 := n7_; have HB := n8_; have BK213 := n9_; have GW213 := n10_; have GE213 := n11_; have NB179_213 := n12_; have NB213_179 := n13_; have NB202_213 := n14_; have NB213_202 := n15_; clear n0_ n1_ n2_ n3_ n4_ n5_ n6_ n7_ n8_ n9_ n10_ n11_ n12_ n13_ n14_ n15_; clear hb hbox hg; have hnb28 := NB213_179.out; have hnc28 := NB179_213.out; have hnb29 := NB213_202.out; have hnc29 := NB202_213.out; have hcz30_0 : w27.cell? ⟨gb213, 0, none⟩ = some (.int .i64 0) := (blk_cell BK213.out 0).trans rfl; have hcz30_1 : w27.cell? ⟨gb213, 1, none⟩ = some (.int .i64 0) := (blk_cell BK213.out 1).trans rfl; have hcz30_2 : w27.cell? ⟨gb213, 2, none⟩ = some (.int .i64 0) := (blk_cell BK213.out 2).trans rfl; have hcz30_3 : w27.cell? ⟨gb213, 3, none⟩ = some (.int .i64 0) := (blk_cell BK213.out 3).trans rfl; have hcz30_4 : w27.cell? ⟨gb213, 4, none⟩ = some (.slice none 0 0) := (blk_cell BK213.out 4).trans rfl; have hcz30_5 : w27.cell? ⟨gb213, 5, none⟩ = some (.slice none 0 0) := (blk_cell BK213.out 5).trans rfl; have hfz30_0 := blk_frozen BK213.out 0; have hfz30_1 := blk_frozen BK213.out 1; have hfz30_2 := blk_frozen BK213.out 2; have hfz30_3 := blk_frozen BK213.out 3; have hfz30_4 := blk_frozen BK213.out 4; have hfz30_5 := blk_frozen BK213.out 5; obtain ⟨Ao31, co31, eo31⟩ := Kd.R_slice HO209.out; subst eo31; obtain ⟨Ao32, co32, eo32⟩ := Kd.R_slice HO212.out; subst eo32) | ((with_reducible refine gate_callee (f := 35) rfl ?_); refine goesL_ (some 29) rfl rfl Try.func35 (by kernel_rfl) rfl #[.agg #[.int .i64 t203, .int .i64 t204, .int .i64 t205, .int .i64 t206, .slice Ao31 t207.length co31, .slice Ao32 t210.length co32]] rfl (by (try simp only [List.map_toArray, List.map_cons, List.map_nil]); first | done | rfl | (simp only [List.length_drop, List.length_take]; rfl)) ?_; (with_reducible refine (impl_ImageRgb.calls k t203 t204 t205 t206 _ _ t207 _ _ t210 t214 t215 t216 t217 t218 t221 t224 _ ?side1 ?side2 ?side3 ?side4 A10.out).mono ?_); (case side1 => refine (Kd.R_reads' (e := 3) (base := w.heap.size) (ok := fun k_ => ((((some k_ ≠ (.slice Ao32 t210.length co32 : Value).ownBlock ∧ some k_ ≠ (.slice Ao17 t185.length co17 : Value).ownBlock) ∧ some k_ ≠ (.slice Ao18 t188.length co18 : Value).ownBlock) ∧ some k_ ≠ (.slice Ao23 t195.length co23 : Value).ownBlock) ∧ some k_ ≠ (.slice Ao24 t198.length co24 : Value).ownBlock)) (n := t207.length) (c := co31) ?_).2.2; exact (by (with_reducible repeat (first | apply Kd.R_alloc | apply Kd.R_drewN | apply Kd.R_drew)); exact (Kd.R_mono (Kd.R_far (p := ⟨gb213, 5, none⟩) (Kd.R_far (p := ⟨gb213, 4, none⟩) (Kd.R_far (p := ⟨gb213, 3, none⟩) (Kd.R_far (p := ⟨gb213, 2, none⟩) (Kd.R_far (p := ⟨gb213, 1, none⟩) (Kd.R_far (p := ⟨gb213, 0, none⟩) (Kd.R_types HO209.out BK213.out (by decide)) (fun _ hk => hk.2) (.int .i64 t203)) (fun _ hk => hk.2) (.int .i64 t204)) (fun _ hk => hk.2) (.int .i64 t205)) (fun _ hk => hk.2) (.int .i64 t206)) (fun _ hk => hk.2) (.slice Ao31 t207.length co31)) (fun _ hk => hk.2) (.slice Ao32 t210.length co32)) (fun _ h_ => h_.1)))); (case side2 => exact (Kd.R_reads' HO209.out).2.1); (case side3 => refine (Kd.R_reads' (e := 3) (base := w.heap.size) (ok := fun k_ => ((((some k_ ≠ (.slice Ao31 t207.length co31 : Value).ownBlock ∧ some k_ ≠ (.slice Ao17 t185.length co17 : Value).ownBlock) ∧ some k_ ≠ (.slice Ao18 t188.length co18 : Value).ownBlock) ∧ some k_ ≠ (.slice Ao23 t195.length co23 : Value).ownBlock) ∧ some k_ ≠ (.slice Ao24 t198.length co24 : Value).ownBlock)) (n := t210.length) (c := co32) ?_).2.2; exact (by (with_reducible repeat (first | apply Kd.R_alloc | apply Kd.R_drewN | apply Kd.R_drew)); exact (Kd.R_mono (Kd.R_far (p := ⟨gb213, 5, none⟩) (Kd.R_far (p := ⟨gb213, 4, none⟩) (Kd.R_far (p := ⟨gb213, 3, none⟩) (Kd.R_far (p := ⟨gb213, 2, none⟩) (Kd.R_far (p := ⟨gb213, 1, none⟩) (Kd.R_far (p := ⟨gb213, 0, none⟩) (Kd.R_types HO212.out BK213.out (by decide)) (fun _ hk => hk.2) (.int .i64 t203)) (fun _ hk => hk.2) (.int .i64 t204)) (fun _ hk => hk.2) (.int .i64 t205)) (fun _ hk => hk.2) (.int .i64 t206)) (fun _ hk => hk.2) (.slice Ao31 t207.length co31)) (fun _ hk => hk.2) (.slice Ao32 t210.length co32)) (fun _ h_ => h_.1)))); (case side4 => exact (Kd.R_reads' HO212.out).2.1); rintro e w33 ⟨v219, v222, rfl, ho0, ho1, hb⟩; refine ⟨_, rfl, ?_⟩; have n0_ := Aside0.mk (Kd.R_mono (Kd.R_told (Kd.R_told (Kd.R_old (by (with_reducible repeat (first | apply Kd.R_alloc | apply Kd.R_drewN | apply Kd.R_drew)); exact (Kd.R_mono (Kd.R_far (p := ⟨gb213, 5, none⟩) (Kd.R_far (p := ⟨gb213, 4, none⟩) (Kd.R_far (p := ⟨gb213, 3, none⟩) (Kd.R_far (p := ⟨gb213, 2, none⟩) (Kd.R_far (p := ⟨gb213, 1, none⟩) (Kd.R_far (p := ⟨gb213, 0, none⟩) (Kd.R_types HO187.out BK213.out (by decide)) (fun _ hk => hk.2) (.int .i64 t203)) (fun _ hk => hk.2) (.int .i64 t204)) (fun _ hk => hk.2) (.int .i64 t205)) (fun _ hk => hk.2) (.int .i64 t206)) (fun _ hk => hk.2) (.slice Ao31 t207.length co31)) (fun _ hk => hk.2) (.slice Ao32 t210.length co32)) (fun _ h_ => h_.1))) hb) (Kd.R_base ho0)) (Kd.R_base ho1)) (fun _ h_ => h_.1)); have n1_ := Aside0.mk (Kd.R_mono (Kd.R_told (Kd.R_told (Kd.R_old (by (with_reducible repeat (first | apply Kd.R_alloc | apply Kd.R_drewN | apply Kd.R_drew)); exact (Kd.R_mono (Kd.R_far (p := ⟨gb213, 5, none⟩) (Kd.R_far (p := ⟨gb213, 4, none⟩) (Kd.R_far (p := ⟨gb213, 3, none⟩) (Kd.R_far (p := ⟨gb213, 2, none⟩) (Kd.R_far (p := ⟨gb213, 1, none⟩) (Kd.R_far (p := ⟨gb213, 0, none⟩) (Kd.R_types HO190.out BK213.out (by decide)) (fun _ hk => hk.2) (.int .i64 t203)) (fun _ hk => hk.2) (.int .i64 t204)) (fun _ hk => hk.2) (.int .i64 t205)) (fun _ hk => hk.2) (.int .i64 t206)) (fun _ hk => hk.2) (.slice Ao31 t207.length co31)) (fun _ hk => hk.2) (.slice Ao32 t210.length co32)) (fun _ h_ => h_.1))) hb) (Kd.R_base ho0)) (Kd.R_base ho1)) (fun _ h_ => h_.1)); have n2_ := Aside0.mk (Kd.R_mono (Kd.R_told (Kd.R_told (Kd.R_old (by (with_reducible repeat (first | apply Kd.R_alloc | apply Kd.R_drewN | apply Kd.R_drew)); exact (Kd.R_mono (Kd.R_far (p := ⟨gb213, 5, none⟩) (Kd.R_far (p := ⟨gb213, 4, none⟩) (Kd.R_far (p := ⟨gb213, 3, none⟩) (Kd.R_far (p := ⟨gb213, 2, none⟩) (Kd.R_far (p := ⟨gb213, 1, none⟩) (Kd.R_far (p := ⟨gb213, 0, none⟩) (Kd.R_types HO197.out BK213.out (by decide)) (fun _ hk => hk.2) (.int .i64 t203)) (fun _ hk => hk.2) (.int .i64 t204)) (fun _ hk => hk.2) (.int .i64 t205)) (fun _ hk => hk.2) (.int .i64 t206)) (fun _ hk => hk.2) (.slice Ao31 t207.length co31)) (fun _ hk => hk.2) (.slice Ao32 t210.length co32)) (fun _ h_ => h_.1))) hb) (Kd.R_base ho0)) (Kd.R_base ho1)) (fun _ h_ => h_.1)); have n3_ := Aside0.mk (Kd.R_mono (Kd.R_told (Kd.R_told (Kd.R_old (by (with_reducible repeat (first | apply Kd.R_alloc | apply Kd.R_drewN | apply Kd.R_drew)); exact (Kd.R_mono (Kd.R_far (p := ⟨gb213, 5, none⟩) (Kd.R_far (p := ⟨gb213, 4, none⟩) (Kd.R_far (p := ⟨gb213, 3, none⟩) (Kd.R_far (p := ⟨gb213, 2, none⟩) (Kd.R_far (p := ⟨gb213, 1, none⟩) (Kd.R_far (p := ⟨gb213, 0, none⟩) (Kd.R_types HO200.out BK213.out (by decide)) (fun _ hk => hk.2) (.int .i64 t203)) (fun _ hk => hk.2) (.int .i64 t204)) (fun _ hk => hk.2) (.int .i64 t205)) (fun _ hk => hk.2) (.int .i64 t206)) (fun _ hk => hk.2) (.slice Ao31 t207.length co31)) (fun _ hk => hk.2) (.slice Ao32 t210.length co32)) (fun _ h_ => h_.1))) hb) (Kd.R_base ho0)) (Kd.R_base ho1)) (fun _ h_ => h_.1)); have n4_ := Aside0.mk (Kd.R_mono (Kd.R_told (Kd.R_told (Kd.R_old (by (with_reducible repeat (first | apply Kd.R_alloc | apply Kd.R_drewN | apply Kd.R_drew)); exact (Kd.R_mono (Kd.R_far (p := ⟨gb213, 5, none⟩) (Kd.R_far (p := ⟨gb213, 4, none⟩) (Kd.R_far (p := ⟨gb213, 3, none⟩) (Kd.R_far (p := ⟨gb213, 2, none⟩) (Kd.R_far (p := ⟨gb213, 1, none⟩) (Kd.R_far (p := ⟨gb213, 0, none⟩) (Kd.R_types HO209.out BK213.out (by decide)) (fun _ hk => hk.2) (.int .i64 t203)) (fun _ hk => hk.2) (.int .i64 t204)) (fun _ hk => hk.2) (.int .i64 t205)) (fun _ hk => hk.2) (.int .i64 t206)) (fun _ hk => hk.2) (.slice Ao31 t207.length co31)) (fun _ hk => hk.2) (.slice Ao32 t210.length co32)) (fun _ h_ => h_.1))) hb) (Kd.R_base ho0)) (Kd.R_base ho1)) (fun _ h_ => h_.1)); have n5_ := Aside0.mk (Kd.R_mono (Kd.R_told (Kd.R_told (Kd.R_old (by (with_reducible repeat (first | apply Kd.R_alloc | apply Kd.R_drewN | apply Kd.R_drew)); exact (Kd.R_mono (Kd.R_far (p := ⟨gb213, 5, none⟩) (Kd.R_far (p := ⟨gb213, 4, none⟩) (Kd.R_far (p := ⟨gb213, 3, none⟩) (Kd.R_far (p := ⟨gb213, 2, none⟩) (Kd.R_far (p := ⟨gb213, 1, none⟩) (Kd.R_far (p := ⟨gb213, 0, none⟩) (Kd.R_types HO212.out BK213.out (by decide)) (fun _ hk => hk.2) (.int .i64 t203)) (fun _ hk => hk.2) (.int .i64 t204)) (fun _ hk => hk.2) (.int .i64 t205)) (fun _ hk => hk.2) (.int .i64 t206)) (fun _ hk => hk.2) (.slice Ao31 t207.length co31)) (fun _ hk => hk.2) (.slice Ao32 t210.length co32)) (fun _ h_ => h_.1))) hb) (Kd.R_base ho0)) (Kd.R_base ho1)) (fun _ h_ => h_.1)); have n6_ := Aside0.mk (Kd.R_lower (Kd.R_new' (Kd.R_new' (Kd.R_new' (Kd.R_new' (Kd.R_new' (Kd.R_new' ho0 (Kd.R_lt (by (with_reducible repeat (first | apply Kd.R_alloc | apply Kd.R_drewN | apply Kd.R_drew)); exact (Kd.R_mono (Kd.R_far (p := ⟨gb213, 5, none⟩) (Kd.R_far (p := ⟨gb213, 4, none⟩) (Kd.R_far (p := ⟨gb213, 3, none⟩) (Kd.R_far (p := ⟨gb213, 2, none⟩) (Kd.R_far (p := ⟨gb213, 1, none⟩) (Kd.R_far (p := ⟨gb213, 0, none⟩) (Kd.R_types HO187.out BK213.out (by decide)) (fun _ hk => hk.2) (.int .i64 t203)) (fun _ hk => hk.2) (.int .i64 t204)) (fun _ hk => hk.2) (.int .i64 t205)) (fun _ hk => hk.2) (.int .i64 t206)) (fun _ hk => hk.2) (.slice Ao31 t207.length co31)) (fun _ hk => hk.2) (.slice Ao32 t210.length co32)) (fun _ h_ => h_.1))))) (Kd.R_lt (by (with_reducible repeat (first | apply Kd.R_alloc | apply Kd.R_drewN | apply Kd.R_drew)); exact (Kd.R_mono (Kd.R_far (p := ⟨gb213, 5, none⟩) (Kd.R_far (p := ⟨gb213, 4, none⟩) (Kd.R_far (p := ⟨gb213, 3, none⟩) (Kd.R_far (p := ⟨gb213, 2, none⟩) (Kd.R_far (p := ⟨gb213, 1, none⟩) (Kd.R_far (p := ⟨gb213, 0, none⟩) (Kd.R_types HO190.out BK213.out (by decide)) (fun _ hk => hk.2) (.int .i64 t203)) (fun _ hk => hk.2) (.int .i64 t204)) (fun _ hk => hk.2) (.int .i64 t205)) (fun _ hk => hk.2) (.int .i64 t206)) (fun _ hk => hk.2) (.slice Ao31 t207.length co31)) (fun _ hk => hk.2) (.slice Ao32 t210.length co32)) (fun _ h_ => h_.1))))) (Kd.R_lt (by (with_reducible repeat (first | apply Kd.R_alloc | apply Kd.R_drewN | apply Kd.R_drew)); exact (Kd.R_mono (Kd.R_far (p := ⟨gb213, 5, none⟩) (Kd.R_far (p := ⟨gb213, 4, none⟩) (Kd.R_far (p := ⟨gb213, 3, none⟩) (Kd.R_far (p := ⟨gb213, 2, none⟩) (Kd.R_far (p := ⟨gb213, 1, none⟩) (Kd.R_far (p := ⟨gb213, 0, none⟩) (Kd.R_types HO197.out BK213.out (by decide)) (fun _ hk => hk.2) (.int .i64 t203)) (fun _ hk => hk.2) (.int .i64 t204)) (fun _ hk => hk.2) (.int .i64 t205)) (fun _ hk => hk.2) (.int .i64 t206)) (fun _ hk => hk.2) (.slice Ao31 t207.length co31)) (fun _ hk => hk.2) (.slice Ao32 t210.length co32)) (fun _ h_ => h_.1))))) (Kd.R_lt (by (with_reducible repeat (first | apply Kd.R_alloc | apply Kd.R_drewN | apply Kd.R_drew)); exact (Kd.R_mono (Kd.R_far (p := ⟨gb213, 5, none⟩) (Kd.R_far (p := ⟨gb213, 4, none⟩) (Kd.R_far (p := ⟨gb213, 3, none⟩) (Kd.R_far (p := ⟨gb213, 2, none⟩) (Kd.R_far (p := ⟨gb213, 1, none⟩) (Kd.R_far (p := ⟨gb213, 0, none⟩) (Kd.R_types HO200.out BK213.out (by decide)) (fun _ hk => hk.2) (.int .i64 t203)) (fun _ hk => hk.2) (.int .i64 t204)) (fun _ hk => hk.2) (.int .i64 t205)) (fun _ hk => hk.2) (.int .i64 t206)) (fun _ hk => hk.2) (.slice Ao31 t207.length co31)) (fun _ hk => hk.2) (.slice Ao32 t210.length co32)) (fun _ h_ => h_.1))))) (Kd.R_lt (by (with_reducible repeat (first | apply Kd.R_alloc | apply Kd.R_drewN | apply Kd.R_drew)); exact (Kd.R_mono (Kd.R_far (p := ⟨gb213, 5, none⟩) (Kd.R_far (p := ⟨gb213, 4, none⟩) (Kd.R_far (p := ⟨gb213, 3, none⟩) (Kd.R_far (p := ⟨gb213, 2, none⟩) (Kd.R_far (p := ⟨gb213, 1, none⟩) (Kd.R_far (p := ⟨gb213, 0, none⟩) (Kd.R_types HO209.out BK213.out (by decide)) (fun _ hk => hk.2) (.int .i64 t203)) (fun _ hk => hk.2) (.int .i64 t204)) (fun _ hk => hk.2) (.int .i64 t205)) (fun _ hk => hk.2) (.int .i64 t206)) (fun _ hk => hk.2) (.slice Ao31 t207.length co31)) (fun _ hk => hk.2) (.slice Ao32 t210.length co32)) (fun _ h_ => h_.1))))) (Kd.R_lt (by (with_reducible repeat (first | apply Kd.R_alloc | apply Kd.R_drewN | apply Kd.R_drew)); exact (Kd.R_mono (Kd.R_far (p := ⟨gb213, 5, none⟩) (Kd.R_far (p := ⟨gb213, 4, none⟩) (Kd.R_far (p := ⟨gb213, 3, none⟩) (Kd.R_far (p := ⟨gb213, 2, none⟩) (Kd.R_far (p := ⟨gb213, 1, none⟩) (Kd.R_far (p := ⟨gb213, 0, none⟩) (Kd.R_types HO212.out BK213.out (by decide)) (fun _ hk => hk.2) (.int .i64 t203)) (fun _ hk => hk.2) (.int .i64 t204)) (fun _ hk => hk.2) (.int .i64 t205)) (fun _ hk => hk.2) (.int .i64 t206)) (fun _ hk => hk.2) (.slice Ao31 t207.length co31)) (fun _ hk => hk.2) (.slice Ao32 t210.length co32)) (fun _ h_ => h_.1))))) (below_size (by repeat (first | (with_reducible first | exact HB.out | apply below_alloc | apply pw_below_drewN | apply below_drew1 | refine below_set ?_ GE179.out | refine below_set ?_ GE202.out | refine below_set ?_ GE213.out) | exact HB.out)))); have n7_ := Aside0.mk (Kd.R_lower (Kd.R_new' (Kd.R_new' (Kd.R_new' (Kd.R_new' (Kd.R_new' (Kd.R_new' ho1 (Kd.R_lt (by (with_reducible repeat (first | apply Kd.R_alloc | apply Kd.R_drewN | apply Kd.R_drew)); exact (Kd.R_mono (Kd.R_far (p := ⟨gb213, 5, none⟩) (Kd.R_far (p := ⟨gb213, 4, none⟩) (Kd.R_far (p := ⟨gb213, 3, none⟩) (Kd.R_far (p := ⟨gb213, 2, none⟩) (Kd.R_far (p := ⟨gb213, 1, none⟩) (Kd.R_far (p := ⟨gb213, 0, none⟩) (Kd.R_types HO187.out BK213.out (by decide)) (fun _ hk => hk.2) (.int .i64 t203)) (fun _ hk => hk.2) (.int .i64 t204)) (fun _ hk => hk.2) (.int .i64 t205)) (fun _ hk => hk.2) (.int .i64 t206)) (fun _ hk => hk.2) (.slice Ao31 t207.length co31)) (fun _ hk => hk.2) (.slice Ao32 t210.length co32)) (fun _ h_ => h_.1))))) (Kd.R_lt (by (with_reducible repeat (first | apply Kd.R_alloc | apply Kd.R_drewN | apply Kd.R_drew)); exact (Kd.R_mono (Kd.R_far (p := ⟨gb213, 5, none⟩) (Kd.R_far (p := ⟨gb213, 4, none⟩) (Kd.R_far (p := ⟨gb213, 3, none⟩) (Kd.R_far (p := ⟨gb213, 2, none⟩) (Kd.R_far (p := ⟨gb213, 1, none⟩) (Kd.R_far (p := ⟨gb213, 0, none⟩) (Kd.R_types HO190.out BK213.out (by decide)) (fun _ hk => hk.2) (.int .i64 t203)) (fun _ hk => hk.2) (.int .i64 t204)) (fun _ hk => hk.2) (.int .i64 t205)) (fun _ hk => hk.2) (.int .i64 t206)) (fun _ hk => hk.2) (.slice Ao31 t207.length co31)) (fun _ hk => hk.2) (.slice Ao32 t210.length co32)) (fun _ h_ => h_.1))))) (Kd.R_lt (by (with_reducible repeat (first | apply Kd.R_alloc | apply Kd.R_drewN | apply Kd.R_drew)); exact (Kd.R_mono (Kd.R_far (p := ⟨gb213, 5, none⟩) (Kd.R_far (p := ⟨gb213, 4, none⟩) (Kd.R_far (p := ⟨gb213, 3, none⟩) (Kd.R_far (p := ⟨gb213, 2, none⟩) (Kd.R_far (p := ⟨gb213, 1, none⟩) (Kd.R_far (p := ⟨gb213, 0, none⟩) (Kd.R_types HO197.out BK213.out (by decide)) (fun _ hk => hk.2) (.int .i64 t203)) (fun _ hk => hk.2) (.int .i64 t204)) (fun _ hk => hk.2) (.int .i64 t205)) (fun _ hk => hk.2) (.int .i64 t206)) (fun _ hk => hk.2) (.slice Ao31 t207.length co31)) (fun _ hk => hk.2) (.slice Ao32 t210.length co32)) (fun _ h_ => h_.1))))) (Kd.R_lt (by (with_reducible repeat (first | apply Kd.R_alloc | apply Kd.R_drewN | apply Kd.R_drew)); exact (Kd.R_mono (Kd.R_far (p := ⟨gb213, 5, none⟩) (Kd.R_far (p := ⟨gb213, 4, none⟩) (Kd.R_far (p := ⟨gb213, 3, none⟩) (Kd.R_far (p := ⟨gb213, 2, none⟩) (Kd.R_far (p := ⟨gb213, 1, none⟩) (Kd.R_far (p := ⟨gb213, 0, none⟩) (Kd.R_types HO200.out BK213.out (by decide)) (fun _ hk => hk.2) (.int .i64 t203)) (fun _ hk => hk.2) (.int .i64 t204)) (fun _ hk => hk.2) (.int .i64 t205)) (fun _ hk => hk.2) (.int .i64 t206)) (fun _ hk => hk.2) (.slice Ao31 t207.length co31)) (fun _ hk => hk.2) (.slice Ao32 t210.length co32)) (fun _ h_ => h_.1))))) (Kd.R_lt (by (with_reducible repeat (first | apply Kd.R_alloc | apply Kd.R_drewN | apply Kd.R_drew)); exact (Kd.R_mono (Kd.R_far (p := ⟨gb213, 5, none⟩) (Kd.R_far (p := ⟨gb213, 4, none⟩) (Kd.R_far (p := ⟨gb213, 3, none⟩) (Kd.R_far (p := ⟨gb213, 2, none⟩) (Kd.R_far (p := ⟨gb213, 1, none⟩) (Kd.R_far (p := ⟨gb213, 0, none⟩) (Kd.R_types HO209.out BK213.out (by decide)) (fun _ hk => hk.2) (.int .i64 t203)) (fun _ hk => hk.2) (.int .i64 t204)) (fun _ hk => hk.2) (.int .i64 t205)) (fun _ hk => hk.2) (.int .i64 t206)) (fun _ hk => hk.2) (.slice Ao31 t207.length co31)) (fun _ hk => hk.2) (.slice Ao32 t210.length co32)) (fun _ h_ => h_.1))))) (Kd.R_lt (by (with_reducible repeat (first | apply Kd.R_alloc | apply Kd.R_drewN | apply Kd.R_drew)); exact (Kd.R_mono (Kd.R_far (p := ⟨gb213, 5, none⟩) (Kd.R_far (p := ⟨gb213, 4, none⟩) (Kd.R_far (p := ⟨gb213, 3, none⟩) (Kd.R_far (p := ⟨gb213, 2, none⟩) (Kd.R_far (p := ⟨gb213, 1, none⟩) (Kd.R_far (p := ⟨gb213, 0, none⟩) (Kd.R_types HO212.out BK213.out (by decide)) (fun _ hk => hk.2) (.int .i64 t203)) (fun _ hk => hk.2) (.int .i64 t204)) (fun _ hk => hk.2) (.int .i64 t205)) (fun _ hk => hk.2) (.int .i64 t206)) (fun _ hk => hk.2) (.slice Ao31 t207.length co31)) (fun _ hk => hk.2) (.slice Ao32 t210.length co32)) (fun _ h_ => h_.1))))) (below_size (by repeat (first | (with_reducible first | exact HB.out | apply below_alloc | apply pw_below_drewN | apply below_drew1 | refine below_set ?_ GE179.out | refine below_set ?_ GE202.out | refine below_set ?_ GE213.out) | exact HB.out)))); have n8_ := Aside0.mk (blk_below (g := gb179) (o := .cells #[.int .i64 a0_0, .int .i64 a0_1, .int .i64 a0_2, .int .i64 a0_3, .slice A0_4 l0_4.length c0_4, .slice A0_5 l0_5.length c0_5] 24 (0, 0)) (by (with_reducible repeat (first | refine blk_drewN ?_ _ | refine blk_drew ?_ | refine blk_alloc ?_ _)); refine blk_far ?_ NB179_213.out _; (with_reducible repeat (first | refine blk_drewN ?_ _ | refine blk_drew ?_ | refine blk_alloc ?_ _)); refine blk_far ?_ NB179_213.out _; (with_reducible repeat (first | refine blk_drewN ?_ _ | refine blk_drew ?_ | refine blk_alloc ?_ _)); refine blk_far ?_ NB179_213.out _; (with_reducible repeat (first | refine blk_drewN ?_ _ | refine blk_drew ?_ | refine blk_alloc ?_ _)); refine blk_far ?_ NB179_213.out _; (with_reducible repeat (first | refine blk_drewN ?_ _ | refine blk_drew ?_ | refine blk_alloc ?_ _)); refine blk_far ?_ NB179_213.out _; (with_reducible repeat (first | refine blk_drewN ?_ _ | refine blk_drew ?_ | refine blk_alloc ?_ _)); refine blk_far ?_ NB179_213.out _; (with_reducible repeat (first | refine blk_drewN ?_ _ | refine blk_drew ?_ | refine blk_alloc ?_ _)); exact BK179.out) hb); have n9_ := Aside0.mk (blk_below (g := gb202) (o := .cells #[.int .i64 t191, .int .i64 t192, .int .i64 t193, .int .i64 t194, .slice Ao23 t195.length co23, .slice Ao24 t198.length co24] 27 (0, 0)) (by (with_reducible repeat (first | refine blk_drewN ?_ _ | refine blk_drew ?_ | refine blk_alloc ?_ _)); refine blk_far ?_ NB202_213.out _; (with_reducible repeat (first | refine blk_drewN ?_ _ | refine blk_drew ?_ | refine blk_alloc ?_ _)); refine blk_far ?_ NB202_213.out _; (with_reducible repeat (first | refine blk_drewN ?_ _ | refine blk_drew ?_ | refine blk_alloc ?_ _)); refine blk_far ?_ NB202_213.out _; (with_reducible repeat (first | refine blk_drewN ?_ _ | refine blk_drew ?_ | refine blk_alloc ?_ _)); refine blk_far ?_ NB202_213.out _; (with_reducible repeat (first | refine blk_drewN ?_ _ | refine blk_drew ?_ | refine blk_alloc ?_ _)); refine blk_far ?_ NB202_213.out _; (with_reducible repeat (first | refine blk_drewN ?_ _ | refine blk_drew ?_ | refine blk_alloc ?_ _)); refine blk_far ?_ NB202_213.out _; (with_reducible repeat (first | refine blk_drewN ?_ _ | refine blk_drew ?_ | refine blk_alloc ?_ _)); exact BK202.out) hb); have n10_ := Aside0.mk (blk_below (g := gb213) (o := .cells #[.int .i64 t203, .int .i64 t204, .int .i64 t205, .int .i64 t206, .slice Ao31 t207.length co31, .slice Ao32 t210.length co32] 27 (0, 0)) (by (with_reducible repeat (first | refine blk_drewN ?_ _ | refine blk_drew ?_ | refine blk_alloc ?_ _)); refine blk_put (cs := #[.int .i64 t203, .int .i64 t204, .int .i64 t205, .int .i64 t206, .slice Ao31 t207.length co31, .slice none 0 0]) ?_ 5 _ rfl; (with_reducible repeat (first | refine blk_drewN ?_ _ | refine blk_drew ?_ | refine blk_alloc ?_ _)); refine blk_put (cs := #[.int .i64 t203, .int .i64 t204, .int .i64 t205, .int .i64 t206, .slice none 0 0, .slice none 0 0]) ?_ 4 _ rfl; (with_reducible repeat (first | refine blk_drewN ?_ _ | refine blk_drew ?_ | refine blk_alloc ?_ _)); refine blk_put (cs := #[.int .i64 t203, .int .i64 t204, .int .i64 t205, .int .i64 0, .slice none 0 0, .slice none 0 0]) ?_ 3 _ rfl; (with_reducible repeat (first | refine blk_drewN ?_ _ | refine blk_drew ?_ | refine blk_alloc ?_ _)); refine blk_put (cs := #[.int .i64 t203, .int .i64 t204, .int .i64 0, .int .i64 0, .slice none 0 0, .slice none 0 0]) ?_ 2 _ rfl; (with_reducible repeat (first | refine blk_drewN ?_ _ | refine blk_drew ?_ | refine blk_alloc ?_ _)); refine blk_put (cs := #[.int .i64 t203, .int .i64 0, .int .i64 0, .int .i64 0, .slice none 0 0, .slice none 0 0]) ?_ 1 _ rfl; (with_reducible repeat (first | refine blk_drewN ?_ _ | refine blk_drew ?_ | refine blk_alloc ?_ _)); refine blk_put (cs := #[.int .i64 0, .int .i64 0, .int .i64 0, .int .i64 0, .slice none 0 0, .slice none 0 0]) ?_ 0 _ rfl; (with_reducible repeat (first | refine blk_drewN ?_ _ | refine blk_drew ?_ | refine blk_alloc ?_ _)); exact BK213.out) hb); have n11_ := Aside0.mk (below_step (by repeat (first | (with_reducible first | exact HB.out | apply below_alloc | apply pw_below_drewN | apply below_drew1 | refine below_set ?_ GE179.out | refine below_set ?_ GE202.out | refine below_set ?_ GE213.out) | exact HB.out)) hb); clear HO187; clear HO190; clear HO197; clear HO200; clear HO209; clear HO212; clear BK179; clear BK202; clear BK213; clear HB; have HO187 := n0_; have HO190 := n1_; have HO197 := n2_; have HO200 := n3_; have HO209 := n4_; have HO212 := n5_; have HO220 := n6_; have HO223 := n7_; have BK179 := n8_; have BK202 := n9_; have BK213 := n10_; have HB := n11_; clear n0_ n1_ n2_ n3_ n4_ n5_ n6_ n7_ n8_ n9_ n10_ n11_; (try clear hb); (try clear hb2); (try clear hk); (try clear hi); (try clear ho0); (try clear ho1)) | ((with_reducible refine gate_dst (N := 7) rfl ?_); refine box_event ?hg (N := 7) ?hd (cs := #[.int .i64 0, .int .i64 0, .int .i64 0, .int .i64 0, .slice none 0 0, .slice none 0 0]) (t := 27) ?hr ?_; (case hd => rfl); (case hg => rfl); (case hr => first | (go_simp; done) | (go_simp; rfl)); intro gb225 hg w34 hbox hb; have n0_ := Aside0.mk (Kd.R_below (by (with_reducible repeat (first | apply Kd.R_alloc | apply Kd.R_drewN | apply Kd.R_drew)); exact HO187.out) hb); have n1_ := Aside0.mk (Kd.R_below (by (with_reducible repeat (first | apply Kd.R_alloc | apply Kd.R_drewN | apply Kd.R_drew)); exact HO190.out) hb); have n2_ := Aside0.mk (Kd.R_below (by (with_reducible repeat (first | apply Kd.R_alloc | apply Kd.R_drewN | apply Kd.R_drew)); exact HO197.out) hb); have n3_ := Aside0.mk (Kd.R_below (by (with_reducible repeat (first | apply Kd.R_alloc | apply Kd.R_drewN | apply Kd.R_drew)); exact HO200.out) hb); have n4_ := Aside0.mk (Kd.R_below (by (with_reducible repeat (first | apply Kd.R_alloc | apply Kd.R_drewN | apply Kd.R_drew)); exact HO209.out) hb); have n5_ := Aside0.mk (Kd.R_below (by (with_reducible repeat (first | apply Kd.R_alloc | apply Kd.R_drewN | apply Kd.R_drew)); exact HO212.out) hb); have n6_ := Aside0.mk (Kd.R_below (by (with_reducible repeat (first | apply Kd.R_alloc | apply Kd.R_drewN | apply Kd.R_drew)); exact HO220.out) hb); have n7_ := Aside0.mk (Kd.R_below (by (with_reducible repeat (first | apply Kd.R_alloc | apply Kd.R_drewN | apply Kd.R_drew)); exact HO223.out) hb); have n8_ := Aside0.mk (blk_below (g := gb179) (o := .cells #[.int .i64 a0_0, .int .i64 a0_1, .int .i64 a0_2, .int .i64 a0_3, .slice A0_4 l0_4.length c0_4, .slice A0_5 l0_5.length c0_5] 24 (0, 0)) (by (with_reducible repeat (first | refine blk_drewN ?_ _ | refine blk_drew ?_ | refine blk_alloc ?_ _)); exact BK179.out) hb); have n9_ := Aside0.mk (blk_below (g := gb202) (o := .cells #[.int .i64 t191, .int .i64 t192, .int .i64 t193, .int .i64 t194, .slice Ao23 t195.length co23, .slice Ao24 t198.length co24] 27 (0, 0)) (by (with_reducible repeat (first | refine blk_drewN ?_ _ | refine blk_drew ?_ | refine blk_alloc ?_ _)); exact BK202.out) hb); have n10_ := Aside0.mk (blk_below (g := gb213) (o := .cells #[.int .i64 t203, .int .i64 t204, .int .i64 t205, .int .i64 t206, .slice Ao31 t207.length co31, .slice Ao32 t210.length co32] 27 (0, 0)) (by (with_reducible repeat (first | refine blk_drewN ?_ _ | refine blk_drew ?_ | refine blk_alloc ?_ _)); exact BK213.out) hb); have n11_ := Aside0.mk (below_step (by repeat (first | (with_reducible first | exact HB.out | apply below_alloc | apply pw_below_drewN | apply below_drew1 | refine below_set ?_ GE179.out | refine below_set ?_ GE202.out | refine below_set ?_ GE213.out) | exact HB.out)) hb); have n12_ := Aside0.mk (hbox); have n13_ := Aside0.mk ((by rw [hg]; exact (below_size (by repeat (first | (with_reducible first | exact HB.out | apply below_alloc | apply pw_below_drewN | apply below_drew1 | refine below_set ?_ GE179.out | refine below_set ?_ GE202.out | refine below_set ?_ GE213.out) | exact HB.out))) : w.heap.size ≤ gb225)); have n14_ := Aside0.mk ((by rw [hg]; exact (below_size (by repeat (first | (with_reducible first | exact HB.out | apply below_alloc | apply pw_below_drewN | apply below_drew1 | refine below_set ?_ GE179.out | refine below_set ?_ GE202.out | refine below_set ?_ GE213.out) | exact HB.out))) : w.heap.size ≤ gb225)); have n15_ := Aside0.mk ((by rw [hg]; exact Nat.ne_of_lt (blk_lt (g := gb179) (o := .cells #[.int .i64 a0_0, .int .i64 a0_1, .int .i64 a0_2, .int .i64 a0_3, .slice A0_4 l0_4.length c0_4, .slice A0_5 l0_5.length c0_5] 24 (0, 0)) (by (with_reducible repeat (first | refine blk_drewN ?_ _ | refine blk_drew ?_ | refine blk_alloc ?_ _)); exact BK179.out)) : gb179 ≠ gb225)); have n16_ := Aside0.mk ((by rw [hg]; exact Nat.ne_of_gt (blk_lt (g := gb179) (o := .cells #[.int .i64 a0_0, .int .i64 a0_1, .int .i64 a0_2, .int .i64 a0_3, .slice A0_4 l0_4.length c0_4, .slice A0_5 l0_5.length c0_5] 24 (0, 0)) (by (with_reducible repeat (first | refine blk_drewN ?_ _ | refine blk_drew ?_ | refine blk_alloc ?_ _)); exact BK179.out)) : gb225 ≠ gb179)); have n17_ := Aside0.mk ((by rw [hg]; exact Nat.ne_of_lt (blk_lt (g := gb202) (o := .cells #[.int .i64 t191, .int .i64 t192, .int .i64 t193, .int .i64 t194, .slice Ao23 t195.length co23, .slice Ao24 t198.length co24] 27 (0, 0)) (by (with_reducible repeat (first | refine blk_drewN ?_ _ | refine blk_drew ?_ | refine blk_alloc ?_ _)); exact BK202.out)) : gb202 ≠ gb225)); have n18_ := Aside0.mk ((by rw [hg]; exact Nat.ne_of_gt (blk_lt (g := gb202) (o := .cells #[.int .i64 t191, .int .i64 t192, .int .i64 t193, .int .i64 t194, .slice Ao23 t195.length co23, .slice Ao24 t198.length co24] 27 (0, 0)) (by (with_reducible repeat (first | refine blk_drewN ?_ _ | refine blk_drew ?_ | refine blk_alloc ?_ _)); exact BK202.out)) : gb225 ≠ gb202)); have n19_ := Aside0.mk ((by rw [hg]; exact Nat.ne_of_lt (blk_lt (g := gb213) (o := .cells #[.int .i64 t203, .int .i64 t204, .int .i64 t205, .int .i64 t206, .slice Ao31 t207.length co31, .slice Ao32 t210.length co32] 27 (0, 0)) (by (with_reducible repeat (first | refine blk_drewN ?_ _ | refine blk_drew ?_ | refine blk_alloc ?_ _)); exact BK213.out)) : gb213 ≠ gb225)); have n20_ := Aside0.mk ((by rw [hg]; exact Nat.ne_of_gt (blk_lt (g := gb213) (o := .cells #[.int .i64 t203, .int .i64 t204, .int .i64 t205, .int .i64 t206, .slice Ao31 t207.length co31, .slice Ao32 t210.length co32] 27 (0, 0)) (by (with_reducible repeat (first | refine blk_drewN ?_ _ | refine blk_drew ?_ | refine blk_alloc ?_ _)); exact BK213.out)) : gb225 ≠ gb213)); clear HO187; clear HO190; clear HO197; clear HO200; clear HO209; clear HO212; clear HO220; clear HO223; clear BK179; clear BK202; clear BK213; clear HB; have HO187 := n0_; have HO190 := n1_; have HO197 := n2_; have HO200 := n3_; have HO209 := n4_; have HO212 := n5_; have HO220 := n6_; have HO223 := n7_; have BK179 := n8_; have BK202 := n9_; have BK213 := n10_; have HB := n11_; have BK225 := n12_; have GW225 := n13_; have GE225 := n14_; have NB179_225 := n15_; have NB225_179 := n16_; have NB202_225 := n17_; have NB225_202 := n18_; have NB213_225 := n19_; have NB225_213 := n20_; clear n0_ n1_ n2_ n3_ n4_ n5_ n6_ n7_ n8_ n9_ n10_ n11_ n12_ n13_ n14_ n15_ n16_ n17_ n18_ n19_ n20_; clear hb hbox hg; have hnb35 := NB225_179.out; have hnc35 := NB179_225.out; have hnb36 := NB225_202.out; have hnc36 := NB202_225.out; have hnb37 := NB225_213.out; have hnc37 := NB213_225.out; have hcz38_0 : w34.cell? ⟨gb225, 0, none⟩ = some (.int .i64 0) := (blk_cell BK225.out 0).trans rfl; have hcz38_1 : w34.cell? ⟨gb225, 1, none⟩ = some (.int .i64 0) := (blk_cell BK225.out 1).trans rfl; have hcz38_2 : w34.cell? ⟨gb225, 2, none⟩ = some (.int .i64 0) := (blk_cell BK225.out 2).trans rfl; have hcz38_3 : w34.cell? ⟨gb225, 3, none⟩ = some (.int .i64 0) := (blk_cell BK225.out 3).trans rfl; have hcz38_4 : w34.cell? ⟨gb225, 4, none⟩ = some (.slice none 0 0) := (blk_cell BK225.out 4).trans rfl; have hcz38_5 : w34.cell? ⟨gb225, 5, none⟩ = some (.slice none 0 0) := (blk_cell BK225.out 5).trans rfl; have hfz38_0 := blk_frozen BK225.out 0; have hfz38_1 := blk_frozen BK225.out 1; have hfz38_2 := blk_frozen BK225.out 2; have hfz38_3 := blk_frozen BK225.out 3; have hfz38_4 := blk_frozen BK225.out 4; have hfz38_5 := blk_frozen BK225.out 5; obtain ⟨Ao39, co39, eo39⟩ := Kd.R_slice HO220.out; subst eo39; obtain ⟨Ao40, co40, eo40⟩ := Kd.R_slice HO223.out; subst eo40))
    (try simp only [Act.put, List.setIfInBounds_toArray, List.set_cons_zero, List.set_cons_succ])
    go_cut [40] (fun v40 wc => ∃ (kq : Nat) (x40_10 : Bool), v40 = .bool x40_10 ∧ Aside0 (laws_FnExactImageRgb.j0 kq t201 t224 x40_10 a0_0 a0_1 a0_2 a0_3 l0_4 l0_5 t191 t192 t193 t194 t195 t198 t203 t204 t205 t206 t207 t210 t214 t215 t216 t217 t218 t221 = some true) ∧ Aside0 (kq ≤ k) ∧ Aside0 (Kd.R (Kd.int .i64) 3 wc w.heap.size (fun k_ => some k_ ≠ ((.slice Ao24 t198.length co24) : Value).ownBlock ∧ some k_ ≠ ((.slice Ao31 t207.length co31) : Value).ownBlock ∧ some k_ ≠ ((.slice Ao32 t210.length co32) : Value).ownBlock ∧ some k_ ≠ ((.slice Ao39 t218.length co39) : Value).ownBlock ∧ some k_ ≠ ((.slice Ao40 t221.length co40) : Value).ownBlock) (.slice Ao23 t195.length co23) t195) ∧ Aside0 (Kd.R (Kd.int .i64) 3 wc w.heap.size (fun k_ => some k_ ≠ ((.slice Ao23 t195.length co23) : Value).ownBlock ∧ some k_ ≠ ((.slice Ao31 t207.length co31) : Value).ownBlock ∧ some k_ ≠ ((.slice Ao32 t210.length co32) : Value).ownBlock ∧ some k_ ≠ ((.slice Ao39 t218.length co39) : Value).ownBlock ∧ some k_ ≠ ((.slice Ao40 t221.length co40) : Value).ownBlock) (.slice Ao24 t198.length co24) t198) ∧ Aside0 (Kd.R (Kd.int .i64) 3 wc w.heap.size (fun k_ => some k_ ≠ ((.slice Ao23 t195.length co23) : Value).ownBlock ∧ some k_ ≠ ((.slice Ao24 t198.length co24) : Value).ownBlock ∧ some k_ ≠ ((.slice Ao32 t210.length co32) : Value).ownBlock ∧ some k_ ≠ ((.slice Ao39 t218.length co39) : Value).ownBlock ∧ some k_ ≠ ((.slice Ao40 t221.length co40) : Value).ownBlock) (.slice Ao31 t207.length co31) t207) ∧ Aside0 (Kd.R (Kd.int .i64) 3 wc w.heap.size (fun k_ => some k_ ≠ ((.slice Ao23 t195.length co23) : Value).ownBlock ∧ some k_ ≠ ((.slice Ao24 t198.length co24) : Value).ownBlock ∧ some k_ ≠ ((.slice Ao31 t207.length co31) : Value).ownBlock ∧ some k_ ≠ ((.slice Ao39 t218.length co39) : Value).ownBlock ∧ some k_ ≠ ((.slice Ao40 t221.length co40) : Value).ownBlock) (.slice Ao32 t210.length co32) t210) ∧ Aside0 (Kd.R (Kd.int .i64) 3 wc w.heap.size (fun k_ => some k_ ≠ ((.slice Ao23 t195.length co23) : Value).ownBlock ∧ some k_ ≠ ((.slice Ao24 t198.length co24) : Value).ownBlock ∧ some k_ ≠ ((.slice Ao31 t207.length co31) : Value).ownBlock ∧ some k_ ≠ ((.slice Ao32 t210.length co32) : Value).ownBlock ∧ some k_ ≠ ((.slice Ao40 t221.length co40) : Value).ownBlock) (.slice Ao39 t218.length co39) t218) ∧ Aside0 (Kd.R (Kd.int .i64) 3 wc w.heap.size (fun k_ => some k_ ≠ ((.slice Ao23 t195.length co23) : Value).ownBlock ∧ some k_ ≠ ((.slice Ao24 t198.length co24) : Value).ownBlock ∧ some k_ ≠ ((.slice Ao31 t207.length co31) : Value).ownBlock ∧ some k_ ≠ ((.slice Ao32 t210.length co32) : Value).ownBlock ∧ some k_ ≠ ((.slice Ao39 t218.length co39) : Value).ownBlock) (.slice Ao40 t221.length co40) t221) ∧ Aside0 (wc.heap[gb179]? = some (.cells #[.int .i64 a0_0, .int .i64 a0_1, .int .i64 a0_2, .int .i64 a0_3, (.slice A0_4 l0_4.length c0_4), (.slice A0_5 l0_5.length c0_5)] 24 (0, 0))) ∧ Aside0 (wc.heap[gb202]? = some (.cells #[.int .i64 t191, .int .i64 t192, .int .i64 t193, .int .i64 t194, (.slice Ao23 t195.length co23), (.slice Ao24 t198.length co24)] 27 (0, 0))) ∧ Aside0 (wc.heap[gb213]? = some (.cells #[.int .i64 t203, .int .i64 t204, .int .i64 t205, .int .i64 t206, (.slice Ao31 t207.length co31), (.slice Ao32 t210.length co32)] 27 (0, 0))) ∧ Aside0 (wc.heap[gb225]? = some (.cells #[.int .i64 t214, .int .i64 t215, .int .i64 t216, .int .i64 t217, (.slice Ao39 t218.length co39), (.slice Ao40 t221.length co40)] 27 (0, 0))) ∧ Aside0 (Below w.heap.size w wc))
    case first =>
      have H := HC11.out
      clear HC11
      replace H := Option.bind_eq_some_iff.mp H
      obtain ⟨t226, A410, H⟩ := H
      replace H : (if t226 = true then (laws_FnExactImageRgb.j0 k t201 t224 (t224 != t201) a0_0 a0_1 a0_2 a0_3 l0_4 l0_5 t191 t192 t193 t194 t195 t198 t203 t204 t205 t206 t207 t210 t214 t215 t216 t217 t218 t221) else (laws_FnExactImageRgb.j0 k t201 t224 true a0_0 a0_1 a0_2 a0_3 l0_4 l0_5 t191 t192 t193 t194 t195 t198 t203 t204 t205 t206 t207 t210 t214 t215 t216 t217 t218 t221)) = some true := H
      have A41 := Aside0.mk A410
      clear A410
      by_cases c42 : t226 = true
      · subst c42
        have H1 : (laws_FnExactImageRgb.j0 k t201 t224 (t224 != t201) a0_0 a0_1 a0_2 a0_3 l0_4 l0_5 t191 t192 t193 t194 t195 t198 t203 t204 t205 t206 t207 t210 t214 t215 t216 t217 t218 t221) = some true := by first | (rw [if_pos rfl] at H; exact H) | rfl
        clear H
        have H := H1
        clear H1
        have H' := Aside0.mk H
        clear H
        have hnb43 := NB225_179.out
        have hnc43 := NB179_225.out
        have hnb44 := NB225_202.out
        have hnc44 := NB202_225.out
        have hnb45 := NB225_213.out
        have hnc45 := NB213_225.out
        have hcz46_0 : w34.cell? ⟨gb225, 0, none⟩ = some (.int .i64 0) := (blk_cell BK225.out 0).trans rfl
        have hcz46_1 : w34.cell? ⟨gb225, 1, none⟩ = some (.int .i64 0) := (blk_cell BK225.out 1).trans rfl
        have hcz46_2 : w34.cell? ⟨gb225, 2, none⟩ = some (.int .i64 0) := (blk_cell BK225.out 2).trans rfl
        have hcz46_3 : w34.cell? ⟨gb225, 3, none⟩ = some (.int .i64 0) := (blk_cell BK225.out 3).trans rfl
        have hcz46_4 : w34.cell? ⟨gb225, 4, none⟩ = some (.slice none 0 0) := (blk_cell BK225.out 4).trans rfl
        have hcz46_5 : w34.cell? ⟨gb225, 5, none⟩ = some (.slice none 0 0) := (blk_cell BK225.out 5).trans rfl
        have hfz46_0 := blk_frozen BK225.out 0
        have hfz46_1 := blk_frozen BK225.out 1
        have hfz46_2 := blk_frozen BK225.out 2
        have hfz46_3 := blk_frozen BK225.out 3
        have hfz46_4 := blk_frozen BK225.out 4
        have hfz46_5 := blk_frozen BK225.out 5
        have hnb47 := NB202_179.out
        have hnc47 := NB179_202.out
        have hnb48 := NB202_213.out
        have hnc48 := NB213_202.out
        have hcz49_0 : w34.cell? ⟨gb202, 0, none⟩ = some (.int .i64 t191) := (blk_cell BK202.out 0).trans rfl
        have hcz49_1 : w34.cell? ⟨gb202, 1, none⟩ = some (.int .i64 t192) := (blk_cell BK202.out 1).trans rfl
        have hcz49_2 : w34.cell? ⟨gb202, 2, none⟩ = some (.int .i64 t193) := (blk_cell BK202.out 2).trans rfl
        have hcz49_3 : w34.cell? ⟨gb202, 3, none⟩ = some (.int .i64 t194) := (blk_cell BK202.out 3).trans rfl
        have hcz49_4 : w34.cell? ⟨gb202, 4, none⟩ = some (.slice Ao23 t195.length co23) := (blk_cell BK202.out 4).trans rfl
        have hcz49_5 : w34.cell? ⟨gb202, 5, none⟩ = some (.slice Ao24 t198.length co24) := (blk_cell BK202.out 5).trans rfl
        have hfz49_0 := blk_frozen BK202.out 0
        have hfz49_1 := blk_frozen BK202.out 1
        have hfz49_2 := blk_frozen BK202.out 2
        have hfz49_3 := blk_frozen BK202.out 3
        have hfz49_4 := blk_frozen BK202.out 4
        have hfz49_5 := blk_frozen BK202.out 5
        go_wp2_with (first | ((with_reducible refine gate_callee (f := 19) rfl ?_); refine goesL_ (some 34) rfl rfl Try.func19 (by kernel_rfl) rfl #[.agg #[.int .i64 t214, .int .i64 t215, .int .i64 t216, .int .i64 t217, .slice Ao39 t218.length co39, .slice Ao40 t221.length co40], .agg #[.int .i64 t191, .int .i64 t192, .int .i64 t193, .int .i64 t194, .slice Ao23 t195.length co23, .slice Ao24 t198.length co24]] rfl (by (try simp only [List.map_toArray, List.map_cons, List.map_nil]); first | done | rfl | (simp only [List.length_drop, List.length_take]; rfl)) ?_; (with_reducible refine (laws_eqImage.calls k t214 t215 t216 t217 _ _ t218 _ _ t221 t191 t192 t193 t194 _ _ t195 _ _ t198 true _ ?side1 ?side2 ?side3 ?side4 ?side5 ?side6 ?side7 ?side8 A41.out).mono ?_); (case side1 => refine (Kd.R_reads' (e := 3) (base := w.heap.size) (ok := fun k_ => ((((((some k_ ≠ (.slice Ao40 t221.length co40 : Value).ownBlock ∧ some k_ ≠ (.slice Ao17 t185.length co17 : Value).ownBlock) ∧ some k_ ≠ (.slice Ao18 t188.length co18 : Value).ownBlock) ∧ some k_ ≠ (.slice Ao23 t195.length co23 : Value).ownBlock) ∧ some k_ ≠ (.slice Ao24 t198.length co24 : Value).ownBlock) ∧ some k_ ≠ (.slice Ao31 t207.length co31 : Value).ownBlock) ∧ some k_ ≠ (.slice Ao32 t210.length co32 : Value).ownBlock)) (n := t218.length) (c := co39) ?_).2.2; exact (by (with_reducible repeat (first | apply Kd.R_alloc | apply Kd.R_drewN | apply Kd.R_drew)); exact (Kd.R_mono (Kd.R_far (p := ⟨gb225, 5, none⟩) (Kd.R_far (p := ⟨gb225, 4, none⟩) (Kd.R_far (p := ⟨gb225, 3, none⟩) (Kd.R_far (p := ⟨gb225, 2, none⟩) (Kd.R_far (p := ⟨gb225, 1, none⟩) (Kd.R_far (p := ⟨gb225, 0, none⟩) (Kd.R_types HO220.out BK225.out (by decide)) (fun _ hk => hk.2) (.int .i64 t214)) (fun _ hk => hk.2) (.int .i64 t215)) (fun _ hk => hk.2) (.int .i64 t216)) (fun _ hk => hk.2) (.int .i64 t217)) (fun _ hk => hk.2) (.slice Ao39 t218.length co39)) (fun _ hk => hk.2) (.slice Ao40 t221.length co40)) (fun _ h_ => h_.1)))); (case side2 => exact (Kd.R_reads' HO220.out).2.1); (case side3 => refine (Kd.R_reads' (e := 3) (base := w.heap.size) (ok := fun k_ => ((((((some k_ ≠ (.slice Ao39 t218.length co39 : Value).ownBlock ∧ some k_ ≠ (.slice Ao17 t185.length co17 : Value).ownBlock) ∧ some k_ ≠ (.slice Ao18 t188.length co18 : Value).ownBlock) ∧ some k_ ≠ (.slice Ao23 t195.length co23 : Value).ownBlock) ∧ some k_ ≠ (.slice Ao24 t198.length co24 : Value).ownBlock) ∧ some k_ ≠ (.slice Ao31 t207.length co31 : Value).ownBlock) ∧ some k_ ≠ (.slice Ao32 t210.length co32 : Value).ownBlock)) (n := t221.length) (c := co40) ?_).2.2; exact (by (with_reducible repeat (first | apply Kd.R_alloc | apply Kd.R_drewN | apply Kd.R_drew)); exact (Kd.R_mono (Kd.R_far (p := ⟨gb225, 5, none⟩) (Kd.R_far (p := ⟨gb225, 4, none⟩) (Kd.R_far (p := ⟨gb225, 3, none⟩) (Kd.R_far (p := ⟨gb225, 2, none⟩) (Kd.R_far (p := ⟨gb225, 1, none⟩) (Kd.R_far (p := ⟨gb225, 0, none⟩) (Kd.R_types HO223.out BK225.out (by decide)) (fun _ hk => hk.2) (.int .i64 t214)) (fun _ hk => hk.2) (.int .i64 t215)) (fun _ hk => hk.2) (.int .i64 t216)) (fun _ hk => hk.2) (.int .i64 t217)) (fun _ hk => hk.2) (.slice Ao39 t218.length co39)) (fun _ hk => hk.2) (.slice Ao40 t221.length co40)) (fun _ h_ => h_.1)))); (case side4 => exact (Kd.R_reads' HO223.out).2.1); (case side5 => refine (Kd.R_reads' (e := 3) (base := w.heap.size) (ok := fun k_ => ((((((some k_ ≠ (.slice Ao24 t198.length co24 : Value).ownBlock ∧ some k_ ≠ (.slice Ao17 t185.length co17 : Value).ownBlock) ∧ some k_ ≠ (.slice Ao18 t188.length co18 : Value).ownBlock) ∧ some k_ ≠ (.slice Ao31 t207.length co31 : Value).ownBlock) ∧ some k_ ≠ (.slice Ao32 t210.length co32 : Value).ownBlock) ∧ some k_ ≠ (.slice Ao39 t218.length co39 : Value).ownBlock) ∧ some k_ ≠ (.slice Ao40 t221.length co40 : Value).ownBlock)) (n := t195.length) (c := co23) ?_).2.2; exact (by (with_reducible repeat (first | apply Kd.R_alloc | apply Kd.R_drewN | apply Kd.R_drew)); exact (Kd.R_mono (Kd.R_far (p := ⟨gb225, 5, none⟩) (Kd.R_far (p := ⟨gb225, 4, none⟩) (Kd.R_far (p := ⟨gb225, 3, none⟩) (Kd.R_far (p := ⟨gb225, 2, none⟩) (Kd.R_far (p := ⟨gb225, 1, none⟩) (Kd.R_far (p := ⟨gb225, 0, none⟩) (Kd.R_types HO197.out BK225.out (by decide)) (fun _ hk => hk.2) (.int .i64 t214)) (fun _ hk => hk.2) (.int .i64 t215)) (fun _ hk => hk.2) (.int .i64 t216)) (fun _ hk => hk.2) (.int .i64 t217)) (fun _ hk => hk.2) (.slice Ao39 t218.length co39)) (fun _ hk => hk.2) (.slice Ao40 t221.length co40)) (fun _ h_ => h_.1)))); (case side6 => exact (Kd.R_reads' HO197.out).2.1); (case side7 => refine (Kd.R_reads' (e := 3) (base := w.heap.size) (ok := fun k_ => ((((((some k_ ≠ (.slice Ao23 t195.length co23 : Value).ownBlock ∧ some k_ ≠ (.slice Ao17 t185.length co17 : Value).ownBlock) ∧ some k_ ≠ (.slice Ao18 t188.length co18 : Value).ownBlock) ∧ some k_ ≠ (.slice Ao31 t207.length co31 : Value).ownBlock) ∧ some k_ ≠ (.slice Ao32 t210.length co32 : Value).ownBlock) ∧ some k_ ≠ (.slice Ao39 t218.length co39 : Value).ownBlock) ∧ some k_ ≠ (.slice Ao40 t221.length co40 : Value).ownBlock)) (n := t198.length) (c := co24) ?_).2.2; exact (by (with_reducible repeat (first | apply Kd.R_alloc | apply Kd.R_drewN | apply Kd.R_drew)); exact (Kd.R_mono (Kd.R_far (p := ⟨gb225, 5, none⟩) (Kd.R_far (p := ⟨gb225, 4, none⟩) (Kd.R_far (p := ⟨gb225, 3, none⟩) (Kd.R_far (p := ⟨gb225, 2, none⟩) (Kd.R_far (p := ⟨gb225, 1, none⟩) (Kd.R_far (p := ⟨gb225, 0, none⟩) (Kd.R_types HO200.out BK225.out (by decide)) (fun _ hk => hk.2) (.int .i64 t214)) (fun _ hk => hk.2) (.int .i64 t215)) (fun _ hk => hk.2) (.int .i64 t216)) (fun _ hk => hk.2) (.int .i64 t217)) (fun _ hk => hk.2) (.slice Ao39 t218.length co39)) (fun _ hk => hk.2) (.slice Ao40 t221.length co40)) (fun _ h_ => h_.1)))); (case side8 => exact (Kd.R_reads' HO200.out).2.1); rintro e w50 ⟨rfl, hb⟩; refine ⟨_, rfl, ?_⟩; have n0_ := Aside0.mk (Kd.R_below (by (with_reducible repeat (first | apply Kd.R_alloc | apply Kd.R_drewN | apply Kd.R_drew)); exact (Kd.R_mono (Kd.R_far (p := ⟨gb225, 5, none⟩) (Kd.R_far (p := ⟨gb225, 4, none⟩) (Kd.R_far (p := ⟨gb225, 3, none⟩) (Kd.R_far (p := ⟨gb225, 2, none⟩) (Kd.R_far (p := ⟨gb225, 1, none⟩) (Kd.R_far (p := ⟨gb225, 0, none⟩) (Kd.R_types HO187.out BK225.out (by decide)) (fun _ hk => hk.2) (.int .i64 t214)) (fun _ hk => hk.2) (.int .i64 t215)) (fun _ hk => hk.2) (.int .i64 t216)) (fun _ hk => hk.2) (.int .i64 t217)) (fun _ hk => hk.2) (.slice Ao39 t218.length co39)) (fun _ hk => hk.2) (.slice Ao40 t221.length co40)) (fun _ h_ => h_.1))) hb); have n1_ := Aside0.mk (Kd.R_below (by (with_reducible repeat (first | apply Kd.R_alloc | apply Kd.R_drewN | apply Kd.R_drew)); exact (Kd.R_mono (Kd.R_far (p := ⟨gb225, 5, none⟩) (Kd.R_far (p := ⟨gb225, 4, none⟩) (Kd.R_far (p := ⟨gb225, 3, none⟩) (Kd.R_far (p := ⟨gb225, 2, none⟩) (Kd.R_far (p := ⟨gb225, 1, none⟩) (Kd.R_far (p := ⟨gb225, 0, none⟩) (Kd.R_types HO190.out BK225.out (by decide)) (fun _ hk => hk.2) (.int .i64 t214)) (fun _ hk => hk.2) (.int .i64 t215)) (fun _ hk => hk.2) (.int .i64 t216)) (fun _ hk => hk.2) (.int .i64 t217)) (fun _ hk => hk.2) (.slice Ao39 t218.length co39)) (fun _ hk => hk.2) (.slice Ao40 t221.length co40)) (fun _ h_ => h_.1))) hb); have n2_ := Aside0.mk (Kd.R_below (by (with_reducible repeat (first | apply Kd.R_alloc | apply Kd.R_drewN | apply Kd.R_drew)); exact (Kd.R_mono (Kd.R_far (p := ⟨gb225, 5, none⟩) (Kd.R_far (p := ⟨gb225, 4, none⟩) (Kd.R_far (p := ⟨gb225, 3, none⟩) (Kd.R_far (p := ⟨gb225, 2, none⟩) (Kd.R_far (p := ⟨gb225, 1, none⟩) (Kd.R_far (p := ⟨gb225, 0, none⟩) (Kd.R_types HO197.out BK225.out (by decide)) (fun _ hk => hk.2) (.int .i64 t214)) (fun _ hk => hk.2) (.int .i64 t215)) (fun _ hk => hk.2) (.int .i64 t216)) (fun _ hk => hk.2) (.int .i64 t217)) (fun _ hk => hk.2) (.slice Ao39 t218.length co39)) (fun _ hk => hk.2) (.slice Ao40 t221.length co40)) (fun _ h_ => h_.1))) hb); have n3_ := Aside0.mk (Kd.R_below (by (with_reducible repeat (first | apply Kd.R_alloc | apply Kd.R_drewN | apply Kd.R_drew)); exact (Kd.R_mono (Kd.R_far (p := ⟨gb225, 5, none⟩) (Kd.R_far (p := ⟨gb225, 4, none⟩) (Kd.R_far (p := ⟨gb225, 3, none⟩) (Kd.R_far (p := ⟨gb225, 2, none⟩) (Kd.R_far (p := ⟨gb225, 1, none⟩) (Kd.R_far (p := ⟨gb225, 0, none⟩) (Kd.R_types HO200.out BK225.out (by decide)) (fun _ hk => hk.2) (.int .i64 t214)) (fun _ hk => hk.2) (.int .i64 t215)) (fun _ hk => hk.2) (.int .i64 t216)) (fun _ hk => hk.2) (.int .i64 t217)) (fun _ hk => hk.2) (.slice Ao39 t218.length co39)) (fun _ hk => hk.2) (.slice Ao40 t221.length co40)) (fun _ h_ => h_.1))) hb); have n4_ := Aside0.mk (Kd.R_below (by (with_reducible repeat (first | apply Kd.R_alloc | apply Kd.R_drewN | apply Kd.R_drew)); exact (Kd.R_mono (Kd.R_far (p := ⟨gb225, 5, none⟩) (Kd.R_far (p := ⟨gb225, 4, none⟩) (Kd.R_far (p := ⟨gb225, 3, none⟩) (Kd.R_far (p := ⟨gb225, 2, none⟩) (Kd.R_far (p := ⟨gb225, 1, none⟩) (Kd.R_far (p := ⟨gb225, 0, none⟩) (Kd.R_types HO209.out BK225.out (by decide)) (fun _ hk => hk.2) (.int .i64 t214)) (fun _ hk => hk.2) (.int .i64 t215)) (fun _ hk => hk.2) (.int .i64 t216)) (fun _ hk => hk.2) (.int .i64 t217)) (fun _ hk => hk.2) (.slice Ao39 t218.length co39)) (fun _ hk => hk.2) (.slice Ao40 t221.length co40)) (fun _ h_ => h_.1))) hb); have n5_ := Aside0.mk (Kd.R_below (by (with_reducible repeat (first | apply Kd.R_alloc | apply Kd.R_drewN | apply Kd.R_drew)); exact (Kd.R_mono (Kd.R_far (p := ⟨gb225, 5, none⟩) (Kd.R_far (p := ⟨gb225, 4, none⟩) (Kd.R_far (p := ⟨gb225, 3, none⟩) (Kd.R_far (p := ⟨gb225, 2, none⟩) (Kd.R_far (p := ⟨gb225, 1, none⟩) (Kd.R_far (p := ⟨gb225, 0, none⟩) (Kd.R_types HO212.out BK225.out (by decide)) (fun _ hk => hk.2) (.int .i64 t214)) (fun _ hk => hk.2) (.int .i64 t215)) (fun _ hk => hk.2) (.int .i64 t216)) (fun _ hk => hk.2) (.int .i64 t217)) (fun _ hk => hk.2) (.slice Ao39 t218.length co39)) (fun _ hk => hk.2) (.slice Ao40 t221.length co40)) (fun _ h_ => h_.1))) hb); have n6_ := Aside0.mk (Kd.R_below (by (with_reducible repeat (first | apply Kd.R_alloc | apply Kd.R_drewN | apply Kd.R_drew)); exact (Kd.R_mono (Kd.R_far (p := ⟨gb225, 5, none⟩) (Kd.R_far (p := ⟨gb225, 4, none⟩) (Kd.R_far (p := ⟨gb225, 3, none⟩) (Kd.R_far (p := ⟨gb225, 2, none⟩) (Kd.R_far (p := ⟨gb225, 1, none⟩) (Kd.R_far (p := ⟨gb225, 0, none⟩) (Kd.R_types HO220.out BK225.out (by decide)) (fun _ hk => hk.2) (.int .i64 t214)) (fun _ hk => hk.2) (.int .i64 t215)) (fun _ hk => hk.2) (.int .i64 t216)) (fun _ hk => hk.2) (.int .i64 t217)) (fun _ hk => hk.2) (.slice Ao39 t218.length co39)) (fun _ hk => hk.2) (.slice Ao40 t221.length co40)) (fun _ h_ => h_.1))) hb); have n7_ := Aside0.mk (Kd.R_below (by (with_reducible repeat (first | apply Kd.R_alloc | apply Kd.R_drewN | apply Kd.R_drew)); exact (Kd.R_mono (Kd.R_far (p := ⟨gb225, 5, none⟩) (Kd.R_far (p := ⟨gb225, 4, none⟩) (Kd.R_far (p := ⟨gb225, 3, none⟩) (Kd.R_far (p := ⟨gb225, 2, none⟩) (Kd.R_far (p := ⟨gb225, 1, none⟩) (Kd.R_far (p := ⟨gb225, 0, none⟩) (Kd.R_types HO223.out BK225.out (by decide)) (fun _ hk => hk.2) (.int .i64 t214)) (fun _ hk => hk.2) (.int .i64 t215)) (fun _ hk => hk.2) (.int .i64 t216)) (fun _ hk => hk.2) (.int .i64 t217)) (fun _ hk => hk.2) (.slice Ao39 t218.length co39)) (fun _ hk => hk.2) (.slice Ao40 t221.length co40)) (fun _ h_ => h_.1))) hb); have n8_ := Aside0.mk (blk_below (g := gb179) (o := .cells #[.int .i64 a0_0, .int .i64 a0_1, .int .i64 a0_2, .int .i64 a0_3, .slice A0_4 l0_4.length c0_4, .slice A0_5 l0_5.length c0_5] 24 (0, 0)) (by (with_reducible repeat (first | refine blk_drewN ?_ _ | refine blk_drew ?_ | refine blk_alloc ?_ _)); refine blk_far ?_ NB179_225.out _; (with_reducible repeat (first | refine blk_drewN ?_ _ | refine blk_drew ?_ | refine blk_alloc ?_ _)); refine blk_far ?_ NB179_225.out _; (with_reducible repeat (first | refine blk_drewN ?_ _ | refine blk_drew ?_ | refine blk_alloc ?_ _)); refine blk_far ?_ NB179_225.out _; (with_reducible repeat (first | refine blk_drewN ?_ _ | refine blk_drew ?_ | refine blk_alloc ?_ _)); refine blk_far ?_ NB179_225.out _; (with_reducible repeat (first | refine blk_drewN ?_ _ | refine blk_drew ?_ | refine blk_alloc ?_ _)); refine blk_far ?_ NB179_225.out _; (with_reducible repeat (first | refine blk_drewN ?_ _ | refine blk_drew ?_ | refine blk_alloc ?_ _)); refine blk_far ?_ NB179_225.out _; (with_reducible repeat (first | refine blk_drewN ?_ _ | refine blk_drew ?_ | refine blk_alloc ?_ _)); exact BK179.out) hb); have n9_ := Aside0.mk (blk_below (g := gb202) (o := .cells #[.int .i64 t191, .int .i64 t192, .int .i64 t193, .int .i64 t194, .slice Ao23 t195.length co23, .slice Ao24 t198.length co24] 27 (0, 0)) (by (with_reducible repeat (first | refine blk_drewN ?_ _ | refine blk_drew ?_ | refine blk_alloc ?_ _)); refine blk_far ?_ NB202_225.out _; (with_reducible repeat (first | refine blk_drewN ?_ _ | refine blk_drew ?_ | refine blk_alloc ?_ _)); refine blk_far ?_ NB202_225.out _; (with_reducible repeat (first | refine blk_drewN ?_ _ | refine blk_drew ?_ | refine blk_alloc ?_ _)); refine blk_far ?_ NB202_225.out _; (with_reducible repeat (first | refine blk_drewN ?_ _ | refine blk_drew ?_ | refine blk_alloc ?_ _)); refine blk_far ?_ NB202_225.out _; (with_reducible repeat (first | refine blk_drewN ?_ _ | refine blk_drew ?_ | refine blk_alloc ?_ _)); refine blk_far ?_ NB202_225.out _; (with_reducible repeat (first | refine blk_drewN ?_ _ | refine blk_drew ?_ | refine blk_alloc ?_ _)); refine blk_far ?_ NB202_225.out _; (with_reducible repeat (first | refine blk_drewN ?_ _ | refine blk_drew ?_ | refine blk_alloc ?_ _)); exact BK202.out) hb); have n10_ := Aside0.mk (blk_below (g := gb213) (o := .cells #[.int .i64 t203, .int .i64 t204, .int .i64 t205, .int .i64 t206, .slice Ao31 t207.length co31, .slice Ao32 t210.length co32] 27 (0, 0)) (by (with_reducible repeat (first | refine blk_drewN ?_ _ | refine blk_drew ?_ | refine blk_alloc ?_ _)); refine blk_far ?_ NB213_225.out _; (with_reducible repeat (first | refine blk_drewN ?_ _ | refine blk_drew ?_ | refine blk_alloc ?_ _)); refine blk_far ?_ NB213_225.out _; (with_reducible repeat (first | refine blk_drewN ?_ _ | refine blk_drew ?_ | refine blk_alloc ?_ _)); refine blk_far ?_ NB213_225.out _; (with_reducible repeat (first | refine blk_drewN ?_ _ | refine blk_drew ?_ | refine blk_alloc ?_ _)); refine blk_far ?_ NB213_225.out _; (with_reducible repeat (first | refine blk_drewN ?_ _ | refine blk_drew ?_ | refine blk_alloc ?_ _)); refine blk_far ?_ NB213_225.out _; (with_reducible repeat (first | refine blk_drewN ?_ _ | refine blk_drew ?_ | refine blk_alloc ?_ _)); refine blk_far ?_ NB213_225.out _; (with_reducible repeat (first | refine blk_drewN ?_ _ | refine blk_drew ?_ | refine blk_alloc ?_ _)); exact BK213.out) hb); have n11_ := Aside0.mk (blk_below (g := gb225) (o := .cells #[.int .i64 t214, .int .i64 t215, .int .i64 t216, .int .i64 t217, .slice Ao39 t218.length co39, .slice Ao40 t221.length co40] 27 (0, 0)) (by (with_reducible repeat (first | refine blk_drewN ?_ _ | refine blk_drew ?_ | refine blk_alloc ?_ _)); refine blk_put (cs := #[.int .i64 t214, .int .i64 t215, .int .i64 t216, .int .i64 t217, .slice Ao39 t218.length co39, .slice none 0 0]) ?_ 5 _ rfl; (with_reducible repeat (first | refine blk_drewN ?_ _ | refine blk_drew ?_ | refine blk_alloc ?_ _)); refine blk_put (cs := #[.int .i64 t214, .int .i64 t215, .int .i64 t216, .int .i64 t217, .slice none 0 0, .slice none 0 0]) ?_ 4 _ rfl; (with_reducible repeat (first | refine blk_drewN ?_ _ | refine blk_drew ?_ | refine blk_alloc ?_ _)); refine blk_put (cs := #[.int .i64 t214, .int .i64 t215, .int .i64 t216, .int .i64 0, .slice none 0 0, .slice none 0 0]) ?_ 3 _ rfl; (with_reducible repeat (first | refine blk_drewN ?_ _ | refine blk_drew ?_ | refine blk_alloc ?_ _)); refine blk_put (cs := #[.int .i64 t214, .int .i64 t215, .int .i64 0, .int .i64 0, .slice none 0 0, .slice none 0 0]) ?_ 2 _ rfl; (with_reducible repeat (first | refine blk_drewN ?_ _ | refine blk_drew ?_ | refine blk_alloc ?_ _)); refine blk_put (cs := #[.int .i64 t214, .int .i64 0, .int .i64 0, .int .i64 0, .slice none 0 0, .slice none 0 0]) ?_ 1 _ rfl; (with_reducible repeat (first | refine blk_drewN ?_ _ | refine blk_drew ?_ | refine blk_alloc ?_ _)); refine blk_put (cs := #[.int .i64 0, .int .i64 0, .int .i64 0, .int .i64 0, .slice none 0 0, .slice none 0 0]) ?_ 0 _ rfl; (with_reducible repeat (first | refine blk_drewN ?_ _ | refine blk_drew ?_ | refine blk_alloc ?_ _)); exact BK225.out) hb); have n12_ := Aside0.mk (below_step (by repeat (first | (with_reducible first | exact HB.out | apply below_alloc | apply pw_below_drewN | apply below_drew1 | refine below_set ?_ GE179.out | refine below_set ?_ GE202.out | refine below_set ?_ GE213.out | refine below_set ?_ GE225.out) | exact HB.out)) hb); clear HO187; clear HO190; clear HO197; clear HO200; clear HO209; clear HO212; clear HO220; clear HO223; clear BK179; clear BK202; clear BK213; clear BK225; clear HB; have HO187 := n0_; have HO190 := n1_; have HO197 := n2_; have HO200 := n3_; have HO209 := n4_; have HO212 := n5_; have HO220 := n6_; have HO223 := n7_; have BK179 := n8_; have BK202 := n9_; have BK213 := n10_; have BK225 := n11_; have HB := n12_; clear n0_ n1_ n2_ n3_ n4_ n5_ n6_ n7_ n8_ n9_ n10_ n11_ n12_; (try clear hb); (try clear hb2); (try clear hk); (try clear hi)))
        go_meet
        case rel => exact ⟨_, ((t224 != t201)), (by first | rfl | (simp; done) | (simp [*]; done)), H', ⟨by first | omega | exact Nat.le_refl _⟩, ⟨by (with_reducible repeat (first | apply Kd.R_alloc | apply Kd.R_drewN | apply Kd.R_drew)); exact Kd.R_mono HO197.out (fun _ hk => ⟨hk.1.1.1.1.1.1, ⟨hk.1.1.1.2, ⟨hk.1.1.2, ⟨hk.1.2, hk.2⟩⟩⟩⟩)⟩, ⟨by (with_reducible repeat (first | apply Kd.R_alloc | apply Kd.R_drewN | apply Kd.R_drew)); exact Kd.R_mono HO200.out (fun _ hk => ⟨hk.1.1.1.1.1.1, ⟨hk.1.1.1.2, ⟨hk.1.1.2, ⟨hk.1.2, hk.2⟩⟩⟩⟩)⟩, ⟨by (with_reducible repeat (first | apply Kd.R_alloc | apply Kd.R_drewN | apply Kd.R_drew)); exact Kd.R_mono HO209.out (fun _ hk => ⟨hk.1.1.1.2, ⟨hk.1.1.2, ⟨hk.1.1.1.1.1.1, ⟨hk.1.2, hk.2⟩⟩⟩⟩)⟩, ⟨by (with_reducible repeat (first | apply Kd.R_alloc | apply Kd.R_drewN | apply Kd.R_drew)); exact Kd.R_mono HO212.out (fun _ hk => ⟨hk.1.1.1.2, ⟨hk.1.1.2, ⟨hk.1.1.1.1.1.1, ⟨hk.1.2, hk.2⟩⟩⟩⟩)⟩, ⟨by (with_reducible repeat (first | apply Kd.R_alloc | apply Kd.R_drewN | apply Kd.R_drew)); exact Kd.R_mono HO220.out (fun _ hk => ⟨hk.1.1.1.2, ⟨hk.1.1.2, ⟨hk.1.2, ⟨hk.2, hk.1.1.1.1.1.1⟩⟩⟩⟩)⟩, ⟨by (with_reducible repeat (first | apply Kd.R_alloc | apply Kd.R_drewN | apply Kd.R_drew)); exact Kd.R_mono HO223.out (fun _ hk => ⟨hk.1.1.1.2, ⟨hk.1.1.2, ⟨hk.1.2, ⟨hk.2, hk.1.1.1.1.1.1⟩⟩⟩⟩)⟩, ⟨by (with_reducible repeat (first | refine blk_drewN ?_ _ | refine blk_drew ?_ | refine blk_alloc ?_ _)); exact BK179.out⟩, ⟨by (with_reducible repeat (first | refine blk_drewN ?_ _ | refine blk_drew ?_ | refine blk_alloc ?_ _)); exact BK202.out⟩, ⟨by (with_reducible repeat (first | refine blk_drewN ?_ _ | refine blk_drew ?_ | refine blk_alloc ?_ _)); exact BK213.out⟩, ⟨by (with_reducible repeat (first | refine blk_drewN ?_ _ | refine blk_drew ?_ | refine blk_alloc ?_ _)); exact BK225.out⟩, ⟨by repeat (first | (with_reducible first | exact HB.out | apply below_alloc | apply pw_below_drewN | apply below_drew1 | refine below_set ?_ GE179.out | refine below_set ?_ GE202.out | refine below_set ?_ GE213.out | refine below_set ?_ GE225.out) | exact HB.out)⟩⟩
      · replace c42 := Bool.eq_false_iff.mpr c42
        subst c42
        have H1 : (laws_FnExactImageRgb.j0 k t201 t224 true a0_0 a0_1 a0_2 a0_3 l0_4 l0_5 t191 t192 t193 t194 t195 t198 t203 t204 t205 t206 t207 t210 t214 t215 t216 t217 t218 t221) = some true := by first | (rw [if_neg (show ¬ (false = true) by decide)] at H; exact H) | rfl
        clear H
        have H := H1
        clear H1
        exact absurd H (by cases k <;> simp [laws_FnExactImageRgb.j0])
    case rest =>
      clear HC11
      try clear c1
      try clear c2
      try clear p2
      try clear c3
      try clear c3b0
      try clear c4
      try clear c10
      try clear c15
      try clear c17
      try clear c19
      try clear c21
      try clear c28
      try clear c29
      try clear c34
      try clear c35
      try clear c36
      try clear c37
      try clear c42
      try clear c43
      try clear c44
      try clear c45
      try clear c47
      try clear c48
      try clear hcz13_0
      try clear hcz13_1
      try clear hcz13_2
      try clear hcz13_3
      try clear hcz13_4
      try clear hcz13_5
      try clear hcz15_0
      try clear hcz15_1
      try clear hcz15_2
      try clear hcz15_3
      try clear hcz15_4
      try clear hcz15_5
      try clear hcz22_0
      try clear hcz22_1
      try clear hcz22_2
      try clear hcz22_3
      try clear hcz22_4
      try clear hcz22_5
      try clear hcz25_0
      try clear hcz25_1
      try clear hcz25_2
      try clear hcz25_3
      try clear hcz25_4
      try clear hcz25_5
      try clear hcz30_0
      try clear hcz30_1
      try clear hcz30_2
      try clear hcz30_3
      try clear hcz30_4
      try clear hcz30_5
      try clear hcz38_0
      try clear hcz38_1
      try clear hcz38_2
      try clear hcz38_3
      try clear hcz38_4
      try clear hcz38_5
      try clear hcz46_0
      try clear hcz46_1
      try clear hcz46_2
      try clear hcz46_3
      try clear hcz46_4
      try clear hcz46_5
      try clear hcz49_0
      try clear hcz49_1
      try clear hcz49_2
      try clear hcz49_3
      try clear hcz49_4
      try clear hcz49_5
      try clear hcz5_0
      try clear hcz5_1
      try clear hcz5_2
      try clear hcz5_3
      try clear hcz5_4
      try clear hcz5_5
      try clear hfz13_0
      try clear hfz13_1
      try clear hfz13_2
      try clear hfz13_3
      try clear hfz13_4
      try clear hfz13_5
      try clear hfz15_0
      try clear hfz15_1
      try clear hfz15_2
      try clear hfz15_3
      try clear hfz15_4
      try clear hfz15_5
      try clear hfz22_0
      try clear hfz22_1
      try clear hfz22_2
      try clear hfz22_3
      try clear hfz22_4
      try clear hfz22_5
      try clear hfz25_0
      try clear hfz25_1
      try clear hfz25_2
      try clear hfz25_3
      try clear hfz25_4
      try clear hfz25_5
      try clear hfz30_0
      try clear hfz30_1
      try clear hfz30_2
      try clear hfz30_3
      try clear hfz30_4
      try clear hfz30_5
      try clear hfz38_0
      try clear hfz38_1
      try clear hfz38_2
      try clear hfz38_3
      try clear hfz38_4
      try clear hfz38_5
      try clear hfz46_0
      try clear hfz46_1
      try clear hfz46_2
      try clear hfz46_3
      try clear hfz46_4
      try clear hfz46_5
      try clear hfz49_0
      try clear hfz49_1
      try clear hfz49_2
      try clear hfz49_3
      try clear hfz49_4
      try clear hfz49_5
      try clear hfz5_0
      try clear hfz5_1
      try clear hfz5_2
      try clear hfz5_3
      try clear hfz5_4
      try clear hfz5_5
      obtain ⟨kq, x40_10, rfl, HA, HJ10, HO_203004, HO_203005, HO_214004, HO_214005, HO_226004, HO_226005, BK179, BK202, BK213, BK225, HB⟩ := hcut
      cases kq with
      | zero => exact absurd HA.out (by simp [laws_FnExactImageRgb.j0])
      | succ kj10 =>
        have H := HA.out
        clear HA
        simp only [laws_FnExactImageRgb.j0] at H
        by_cases c51 : x40_10 = true
        · subst c51
          have H1 : (some false) = some true := by first | (rw [if_pos rfl] at H; exact H) | rfl
          clear H
          have H := H1
          clear H1
          exact absurd H (by simp)
        · replace c51 := Bool.eq_false_iff.mpr c51
          subst c51
          have H1 : ((laws_toImage.f kj10 a0_0 a0_1 a0_2 a0_3 l0_4 l0_5).bind fun bt227 => ((laws_eqImage.f kj10 t203 t204 t205 t206 t207 t210 bt227.1 bt227.2.1 bt227.2.2.1 bt227.2.2.2.1 bt227.2.2.2.2.1 bt227.2.2.2.2.2).bind fun t237 => (if t237 = true then ((laws_markImage.f kj10 t203 t204 t205 t206 t207 t210 1).bind fun bt238 => (if bt238.1 < 0 then (laws_FnExactImageRgb.j1 kj10 t201 true a0_0 a0_1 a0_2 a0_3 l0_4 l0_5 t191 t192 t193 t194 t195 t198 t214 t215 t216 t217 t218 t221) else ((laws_eqImage.f kj10 t214 t215 t216 t217 t218 t221 t191 t192 t193 t194 t195 t198).bind fun t241 => (if t241 = true then (laws_FnExactImageRgb.j1 kj10 t201 (t224 != t201) a0_0 a0_1 a0_2 a0_3 l0_4 l0_5 t191 t192 t193 t194 t195 t198 t214 t215 t216 t217 t218 t221) else (laws_FnExactImageRgb.j1 kj10 t201 true a0_0 a0_1 a0_2 a0_3 l0_4 l0_5 t191 t192 t193 t194 t195 t198 t214 t215 t216 t217 t218 t221))))) else (some false)))) = some true := by first | (rw [if_neg (show ¬ (false = true) by decide)] at H; exact H) | rfl
          clear H
          have H := H1
          clear H1
          replace H := Option.bind_eq_some_iff.mp H
          obtain ⟨⟨t227, t228, t229, t230, t231, t234⟩, A520, H⟩ := H
          replace H : ((laws_eqImage.f kj10 t203 t204 t205 t206 t207 t210 t227 t228 t229 t230 t231 t234).bind fun t237 => (if t237 = true then ((laws_markImage.f kj10 t203 t204 t205 t206 t207 t210 1).bind fun bt238 => (if bt238.1 < 0 then (laws_FnExactImageRgb.j1 kj10 t201 true a0_0 a0_1 a0_2 a0_3 l0_4 l0_5 t191 t192 t193 t194 t195 t198 t214 t215 t216 t217 t218 t221) else ((laws_eqImage.f kj10 t214 t215 t216 t217 t218 t221 t191 t192 t193 t194 t195 t198).bind fun t241 => (if t241 = true then (laws_FnExactImageRgb.j1 kj10 t201 (t224 != t201) a0_0 a0_1 a0_2 a0_3 l0_4 l0_5 t191 t192 t193 t194 t195 t198 t214 t215 t216 t217 t218 t221) else (laws_FnExactImageRgb.j1 kj10 t201 true a0_0 a0_1 a0_2 a0_3 l0_4 l0_5 t191 t192 t193 t194 t195 t198 t214 t215 t216 t217 t218 t221))))) else (some false))) = some true := H
          have A52 := Aside0.mk A520
          clear A520
          replace H := Option.bind_eq_some_iff.mp H
          obtain ⟨t237, A530, H⟩ := H
          replace H : (if t237 = true then ((laws_markImage.f kj10 t203 t204 t205 t206 t207 t210 1).bind fun bt238 => (if bt238.1 < 0 then (laws_FnExactImageRgb.j1 kj10 t201 true a0_0 a0_1 a0_2 a0_3 l0_4 l0_5 t191 t192 t193 t194 t195 t198 t214 t215 t216 t217 t218 t221) else ((laws_eqImage.f kj10 t214 t215 t216 t217 t218 t221 t191 t192 t193 t194 t195 t198).bind fun t241 => (if t241 = true then (laws_FnExactImageRgb.j1 kj10 t201 (t224 != t201) a0_0 a0_1 a0_2 a0_3 l0_4 l0_5 t191 t192 t193 t194 t195 t198 t214 t215 t216 t217 t218 t221) else (laws_FnExactImageRgb.j1 kj10 t201 true a0_0 a0_1 a0_2 a0_3 l0_4 l0_5 t191 t192 t193 t194 t195 t198 t214 t215 t216 t217 t218 t221))))) else (some false)) = some true := H
          have A53 := Aside0.mk A530
          clear A530
          by_cases c54 : t237 = true
          · subst c54
            have H1 : ((laws_markImage.f kj10 t203 t204 t205 t206 t207 t210 1).bind fun bt238 => (if bt238.1 < 0 then (laws_FnExactImageRgb.j1 kj10 t201 true a0_0 a0_1 a0_2 a0_3 l0_4 l0_5 t191 t192 t193 t194 t195 t198 t214 t215 t216 t217 t218 t221) else ((laws_eqImage.f kj10 t214 t215 t216 t217 t218 t221 t191 t192 t193 t194 t195 t198).bind fun t241 => (if t241 = true then (laws_FnExactImageRgb.j1 kj10 t201 (t224 != t201) a0_0 a0_1 a0_2 a0_3 l0_4 l0_5 t191 t192 t193 t194 t195 t198 t214 t215 t216 t217 t218 t221) else (laws_FnExactImageRgb.j1 kj10 t201 true a0_0 a0_1 a0_2 a0_3 l0_4 l0_5 t191 t192 t193 t194 t195 t198 t214 t215 t216 t217 t218 t221))))) = some true := by first | (rw [if_pos rfl] at H; exact H) | rfl
            clear H
            have H := H1
            clear H1
            replace H := Option.bind_eq_some_iff.mp H
            obtain ⟨⟨t238, t239, t240⟩, A550, H⟩ := H
            replace H : (if t238 < 0 then (laws_FnExactImageRgb.j1 kj10 t201 true a0_0 a0_1 a0_2 a0_3 l0_4 l0_5 t191 t192 t193 t194 t195 t198 t214 t215 t216 t217 t218 t221) else ((laws_eqImage.f kj10 t214 t215 t216 t217 t218 t221 t191 t192 t193 t194 t195 t198).bind fun t241 => (if t241 = true then (laws_FnExactImageRgb.j1 kj10 t201 (t224 != t201) a0_0 a0_1 a0_2 a0_3 l0_4 l0_5 t191 t192 t193 t194 t195 t198 t214 t215 t216 t217 t218 t221) else (laws_FnExactImageRgb.j1 kj10 t201 true a0_0 a0_1 a0_2 a0_3 l0_4 l0_5 t191 t192 t193 t194 t195 t198 t214 t215 t216 t217 t218 t221)))) = some true := H
            have A55 := Aside0.mk A550
            clear A550
            have HC56 := Aside0.mk H
            clear H
            try go_wp2
            have n0_ := Aside0.mk (Kd.R_drew HO_203004.out)
            have n1_ := Aside0.mk (Kd.R_drew HO_203005.out)
            have n2_ := Aside0.mk (Kd.R_drew HO_214004.out)
            have n3_ := Aside0.mk (Kd.R_drew HO_214005.out)
            have n4_ := Aside0.mk (Kd.R_drew HO_226004.out)
            have n5_ := Aside0.mk (Kd.R_drew HO_226005.out)
            have n6_ := Aside0.mk (blk_drew BK179.out)
            have n7_ := Aside0.mk (blk_drew BK202.out)
            have n8_ := Aside0.mk (blk_drew BK213.out)
            have n9_ := Aside0.mk (blk_drew BK225.out)
            have n10_ := Aside0.mk (below_drew1 HB.out)
            clear HO_203004
            clear HO_203005
            clear HO_214004
            clear HO_214005
            clear HO_226004
            clear HO_226005
            clear BK179
            clear BK202
            clear BK213
            clear BK225
            clear HB
            have HO_203004 := n0_
            have HO_203005 := n1_
            have HO_214004 := n2_
            have HO_214005 := n3_
            have HO_226004 := n4_
            have HO_226005 := n5_
            have BK179 := n6_
            have BK202 := n7_
            have BK213 := n8_
            have BK225 := n9_
            have HB := n10_
            clear n0_ n1_ n2_ n3_ n4_ n5_ n6_ n7_ n8_ n9_ n10_
            refine start_ (n := 5) (S := fun w' => w'.cell? ⟨gb213, 0, none⟩ = some (.int .i64 t203) ∧ w'.cell? ⟨gb213, 1, none⟩ = some (.int .i64 t204) ∧ w'.cell? ⟨gb213, 2, none⟩ = some (.int .i64 t205) ∧ w'.cell? ⟨gb213, 3, none⟩ = some (.int .i64 t206) ∧ w'.cell? ⟨gb213, 4, none⟩ = some (.slice Ao31 t207.length co31) ∧ w'.cell? ⟨gb213, 5, none⟩ = some (.slice Ao32 t210.length co32) ∧ w'.cell? ⟨gb179, 0, none⟩ = some (.int .i64 a0_0) ∧ w'.cell? ⟨gb179, 1, none⟩ = some (.int .i64 a0_1) ∧ w'.cell? ⟨gb179, 2, none⟩ = some (.int .i64 a0_2) ∧ w'.cell? ⟨gb179, 3, none⟩ = some (.int .i64 a0_3) ∧ w'.cell? ⟨gb179, 4, none⟩ = some (.slice A0_4 l0_4.length c0_4) ∧ w'.cell? ⟨gb179, 5, none⟩ = some (.slice A0_5 l0_5.length c0_5)) (ds := []) #[false, false, false, false, false] (by kernel_rfl) rfl rfl ⟨(blk_cell BK213.out 0).trans rfl, (blk_cell BK213.out 1).trans rfl, (blk_cell BK213.out 2).trans rfl, (blk_cell BK213.out 3).trans rfl, (blk_cell BK213.out 4).trans rfl, (blk_cell BK213.out 5).trans rfl, (blk_cell BK179.out 0).trans rfl, (blk_cell BK179.out 1).trans rfl, (blk_cell BK179.out 2).trans rfl, (blk_cell BK179.out 3).trans rfl, (blk_cell BK179.out 4).trans rfl, (blk_cell BK179.out 5).trans rfl⟩ (fun hHeld => ?_)
            generalize wc.drew = w57 at HO_203004 HO_203005 HO_214004 HO_214005 HO_226004 HO_226005 BK179 BK202 BK213 BK225 HB hHeld ⊢
            refine take_ (i := 0) (N := some 41) (v := ?_) (a' := ?_) #[true, false, false, false, false] rfl rfl (by kernel_rfl) (fun _ _ _ h => h) (Or.inl ⟨by rfl, ?_⟩) hHeld ?_ ?_
            rotate_left
            · rintro w' ⟨s0, s1, s2, s3, s4, s5, s6, s7, s8, s9, s10, s11⟩
              go_simp
              with_reducible rfl
            rotate_left
            · simp only [Act.put, List.setIfInBounds_toArray, List.set_cons_zero, List.set_cons_succ, i64_w, i32_w]
              rfl
            refine take_ (i := 1) (N := some 42) (v := ?_) (a' := ?_) #[true, true, false, false, false] rfl rfl (by kernel_rfl) (fun _ _ _ h => h) (Or.inl ⟨by rfl, ?_⟩) hHeld ?_ ?_
            rotate_left
            · rintro w' ⟨s0, s1, s2, s3, s4, s5, s6, s7, s8, s9, s10, s11⟩
              go_simp
              with_reducible rfl
            rotate_left
            · simp only [Act.put, List.setIfInBounds_toArray, List.set_cons_zero, List.set_cons_succ, i64_w, i32_w]
              rfl
            refine one_ (i := 2) (N := some 43) #[true, true, true, false, false] rfl rfl (by kernel_rfl) (by decide) (fun K hK => ?_)
            refine goes_ Try.func17 (by kernel_rfl) rfl #[.agg #[.int .i64 a0_0, .int .i64 a0_1, .int .i64 a0_2, .int .i64 a0_3, .slice A0_4 l0_4.length c0_4, .slice A0_5 l0_5.length c0_5]] (by rfl) rfl rfl (by (try simp only [List.map_toArray, List.map_cons, List.map_nil]); first | done | rfl | (simp only [List.length_drop, List.length_take]; rfl)) ?_
            with_reducible refine (laws_toImage.calls kj10 a0_0 a0_1 a0_2 a0_3 _ _ l0_4 _ _ l0_5 t227 t228 t229 t230 t231 t234 _ ?side1 ?side2 ?side3 ?side4 A52.out).mono ?_
            (case side1 => repeat (first | exact (Kd.C_below HR0_4.out HB.out) | (with_reducible refine Kd.C_alloc ?_ _) | (with_reducible refine Kd.C_drewN ?_ _) | (with_reducible refine Kd.C_drew ?_)))
            (case side2 => exact HC0_4.out)
            (case side3 => repeat (first | exact (Kd.C_below HR0_5.out HB.out) | (with_reducible refine Kd.C_alloc ?_ _) | (with_reducible refine Kd.C_drewN ?_ _) | (with_reducible refine Kd.C_drew ?_)))
            (case side4 => exact HC0_5.out)
            rintro e w58 ⟨v232, v235, rfl, ho0, ho1, hb⟩
            refine ⟨_, rfl, ?_⟩
            have n0_ := Aside0.mk (Kd.R_mono (Kd.R_told (Kd.R_told (Kd.R_old (by (with_reducible repeat (first | apply Kd.R_alloc | apply Kd.R_drewN | apply Kd.R_drew)); exact HO_203004.out) hb) (Kd.R_base ho0)) (Kd.R_base ho1)) (fun _ h_ => h_.1))
            have n1_ := Aside0.mk (Kd.R_mono (Kd.R_told (Kd.R_told (Kd.R_old (by (with_reducible repeat (first | apply Kd.R_alloc | apply Kd.R_drewN | apply Kd.R_drew)); exact HO_203005.out) hb) (Kd.R_base ho0)) (Kd.R_base ho1)) (fun _ h_ => h_.1))
            have n2_ := Aside0.mk (Kd.R_mono (Kd.R_told (Kd.R_told (Kd.R_old (by (with_reducible repeat (first | apply Kd.R_alloc | apply Kd.R_drewN | apply Kd.R_drew)); exact HO_214004.out) hb) (Kd.R_base ho0)) (Kd.R_base ho1)) (fun _ h_ => h_.1))
            have n3_ := Aside0.mk (Kd.R_mono (Kd.R_told (Kd.R_told (Kd.R_old (by (with_reducible repeat (first | apply Kd.R_alloc | apply Kd.R_drewN | apply Kd.R_drew)); exact HO_214005.out) hb) (Kd.R_base ho0)) (Kd.R_base ho1)) (fun _ h_ => h_.1))
            have n4_ := Aside0.mk (Kd.R_mono (Kd.R_told (Kd.R_told (Kd.R_old (by (with_reducible repeat (first | apply Kd.R_alloc | apply Kd.R_drewN | apply Kd.R_drew)); exact HO_226004.out) hb) (Kd.R_base ho0)) (Kd.R_base ho1)) (fun _ h_ => h_.1))
            have n5_ := Aside0.mk (Kd.R_mono (Kd.R_told (Kd.R_told (Kd.R_old (by (with_reducible repeat (first | apply Kd.R_alloc | apply Kd.R_drewN | apply Kd.R_drew)); exact HO_226005.out) hb) (Kd.R_base ho0)) (Kd.R_base ho1)) (fun _ h_ => h_.1))
            have n6_ := Aside0.mk (Kd.R_lower (Kd.R_new' (Kd.R_new' (Kd.R_new' (Kd.R_new' (Kd.R_new' (Kd.R_new' ho0 (Kd.R_lt (by (with_reducible repeat (first | apply Kd.R_alloc | apply Kd.R_drewN | apply Kd.R_drew)); exact HO_203004.out))) (Kd.R_lt (by (with_reducible repeat (first | apply Kd.R_alloc | apply Kd.R_drewN | apply Kd.R_drew)); exact HO_203005.out))) (Kd.R_lt (by (with_reducible repeat (first | apply Kd.R_alloc | apply Kd.R_drewN | apply Kd.R_drew)); exact HO_214004.out))) (Kd.R_lt (by (with_reducible repeat (first | apply Kd.R_alloc | apply Kd.R_drewN | apply Kd.R_drew)); exact HO_214005.out))) (Kd.R_lt (by (with_reducible repeat (first | apply Kd.R_alloc | apply Kd.R_drewN | apply Kd.R_drew)); exact HO_226004.out))) (Kd.R_lt (by (with_reducible repeat (first | apply Kd.R_alloc | apply Kd.R_drewN | apply Kd.R_drew)); exact HO_226005.out))) (below_size (by repeat (first | (with_reducible first | exact HB.out | apply below_alloc | apply pw_below_drewN | apply below_drew1 | refine below_set ?_ GE179.out | refine below_set ?_ GE202.out | refine below_set ?_ GE213.out | refine below_set ?_ GE225.out) | exact HB.out))))
            have n7_ := Aside0.mk (Kd.R_lower (Kd.R_new' (Kd.R_new' (Kd.R_new' (Kd.R_new' (Kd.R_new' (Kd.R_new' ho1 (Kd.R_lt (by (with_reducible repeat (first | apply Kd.R_alloc | apply Kd.R_drewN | apply Kd.R_drew)); exact HO_203004.out))) (Kd.R_lt (by (with_reducible repeat (first | apply Kd.R_alloc | apply Kd.R_drewN | apply Kd.R_drew)); exact HO_203005.out))) (Kd.R_lt (by (with_reducible repeat (first | apply Kd.R_alloc | apply Kd.R_drewN | apply Kd.R_drew)); exact HO_214004.out))) (Kd.R_lt (by (with_reducible repeat (first | apply Kd.R_alloc | apply Kd.R_drewN | apply Kd.R_drew)); exact HO_214005.out))) (Kd.R_lt (by (with_reducible repeat (first | apply Kd.R_alloc | apply Kd.R_drewN | apply Kd.R_drew)); exact HO_226004.out))) (Kd.R_lt (by (with_reducible repeat (first | apply Kd.R_alloc | apply Kd.R_drewN | apply Kd.R_drew)); exact HO_226005.out))) (below_size (by repeat (first | (with_reducible first | exact HB.out | apply below_alloc | apply pw_below_drewN | apply below_drew1 | refine below_set ?_ GE179.out | refine below_set ?_ GE202.out | refine below_set ?_ GE213.out | refine below_set ?_ GE225.out) | exact HB.out))))
            have n8_ := Aside0.mk (blk_below (g := gb179) (o := .cells #[.int .i64 a0_0, .int .i64 a0_1, .int .i64 a0_2, .int .i64 a0_3, .slice A0_4 l0_4.length c0_4, .slice A0_5 l0_5.length c0_5] 24 (0, 0)) (by (with_reducible repeat (first | refine blk_drewN ?_ _ | refine blk_drew ?_ | refine blk_alloc ?_ _)); exact BK179.out) hb)
            have n9_ := Aside0.mk (blk_below (g := gb202) (o := .cells #[.int .i64 t191, .int .i64 t192, .int .i64 t193, .int .i64 t194, .slice Ao23 t195.length co23, .slice Ao24 t198.length co24] 27 (0, 0)) (by (with_reducible repeat (first | refine blk_drewN ?_ _ | refine blk_drew ?_ | refine blk_alloc ?_ _)); exact BK202.out) hb)
            have n10_ := Aside0.mk (blk_below (g := gb213) (o := .cells #[.int .i64 t203, .int .i64 t204, .int .i64 t205, .int .i64 t206, .slice Ao31 t207.length co31, .slice Ao32 t210.length co32] 27 (0, 0)) (by (with_reducible repeat (first | refine blk_drewN ?_ _ | refine blk_drew ?_ | refine blk_alloc ?_ _)); exact BK213.out) hb)
            have n11_ := Aside0.mk (blk_below (g := gb225) (o := .cells #[.int .i64 t214, .int .i64 t215, .int .i64 t216, .int .i64 t217, .slice Ao39 t218.length co39, .slice Ao40 t221.length co40] 27 (0, 0)) (by (with_reducible repeat (first | refine blk_drewN ?_ _ | refine blk_drew ?_ | refine blk_alloc ?_ _)); exact BK225.out) hb)
            have n12_ := Aside0.mk (below_step (by repeat (first | (with_reducible first | exact HB.out | apply below_alloc | apply pw_below_drewN | apply below_drew1 | refine below_set ?_ GE179.out | refine below_set ?_ GE202.out | refine below_set ?_ GE213.out | refine below_set ?_ GE225.out) | exact HB.out)) hb)
            clear HO_203004
            clear HO_203005
            clear HO_214004
            clear HO_214005
            clear HO_226004
            clear HO_226005
            clear BK179
            clear BK202
            clear BK213
            clear BK225
            clear HB
            have HO_203004 := n0_
            have HO_203005 := n1_
            have HO_214004 := n2_
            have HO_214005 := n3_
            have HO_226004 := n4_
            have HO_226005 := n5_
            have HO233 := n6_
            have HO236 := n7_
            have BK179 := n8_
            have BK202 := n9_
            have BK213 := n10_
            have BK225 := n11_
            have HB := n12_
            clear n0_ n1_ n2_ n3_ n4_ n5_ n6_ n7_ n8_ n9_ n10_ n11_ n12_
            (try clear hb)
            (try clear hb2)
            (try clear hk)
            (try clear hi)
            (try clear ho0)
            (try clear ho1)
            obtain ⟨Ao59, co59, eo59⟩ := Kd.R_slice HO233.out
            (first | subst eo59 | (injection eo59 with f1_ f2_ f3_; have f4_ := f1_.symm; have f5_ := f3_.symm; clear f1_ f2_ f3_; subst f4_; subst f5_))
            obtain ⟨Ao60, co60, eo60⟩ := Kd.R_slice HO236.out
            (first | subst eo60 | (injection eo60 with f1_ f2_ f3_; have f4_ := f1_.symm; have f5_ := f3_.symm; clear f1_ f2_ f3_; subst f4_; subst f5_))
            refine hK.out _ _ ⟨(blk_cell BK213.out 0).trans rfl, (blk_cell BK213.out 1).trans rfl, (blk_cell BK213.out 2).trans rfl, (blk_cell BK213.out 3).trans rfl, (blk_cell BK213.out 4).trans rfl, (blk_cell BK213.out 5).trans rfl, (blk_cell BK179.out 0).trans rfl, (blk_cell BK179.out 1).trans rfl, (blk_cell BK179.out 2).trans rfl, (blk_cell BK179.out 3).trans rfl, (blk_cell BK179.out 4).trans rfl, (blk_cell BK179.out 5).trans rfl⟩ (fun hHeld => ?_)
            clear hK K
            refine norm_ (a' := ?_) ?_ ?_
            rotate_left
            · show Act.put _ (some 43) _ = _
              simp only [Act.put, List.setIfInBounds_toArray, List.set_cons_zero, List.set_cons_succ, i64_w, i32_w]
              rfl
            refine one_ (i := 3) (N := some 44) #[true, true, true, true, false] rfl rfl (by kernel_rfl) (by decide) (fun K hK => ?_)
            refine goes_ Try.func19 (by kernel_rfl) rfl #[.agg #[.int .i64 t203, .int .i64 t204, .int .i64 t205, .int .i64 t206, .slice Ao31 t207.length co31, .slice Ao32 t210.length co32], .agg #[.int .i64 t227, .int .i64 t228, .int .i64 t229, .int .i64 t230, .slice Ao59 t231.length co59, .slice Ao60 t234.length co60]] (by rfl) rfl rfl (by (try simp only [List.map_toArray, List.map_cons, List.map_nil]); first | done | rfl | (simp only [List.length_drop, List.length_take]; rfl)) ?_
            with_reducible refine (laws_eqImage.calls kj10 t203 t204 t205 t206 _ _ t207 _ _ t210 t227 t228 t229 t230 _ _ t231 _ _ t234 true _ ?side1 ?side2 ?side3 ?side4 ?side5 ?side6 ?side7 ?side8 A53.out).mono ?_
            (case side1 => repeat (first | exact (Kd.R_reads' HO_214004.out).2.2 | (with_reducible refine Kd.C_alloc ?_ _) | (with_reducible refine Kd.C_drewN ?_ _) | (with_reducible refine Kd.C_drew ?_)))
            (case side2 => exact (Kd.R_reads' HO_214004.out).2.1)
            (case side3 => repeat (first | exact (Kd.R_reads' HO_214005.out).2.2 | (with_reducible refine Kd.C_alloc ?_ _) | (with_reducible refine Kd.C_drewN ?_ _) | (with_reducible refine Kd.C_drew ?_)))
            (case side4 => exact (Kd.R_reads' HO_214005.out).2.1)
            (case side5 => repeat (first | exact (Kd.R_reads' HO233.out).2.2 | (with_reducible refine Kd.C_alloc ?_ _) | (with_reducible refine Kd.C_drewN ?_ _) | (with_reducible refine Kd.C_drew ?_)))
            (case side6 => exact (Kd.R_reads' HO233.out).2.1)
            (case side7 => repeat (first | exact (Kd.R_reads' HO236.out).2.2 | (with_reducible refine Kd.C_alloc ?_ _) | (with_reducible refine Kd.C_drewN ?_ _) | (with_reducible refine Kd.C_drew ?_)))
            (case side8 => exact (Kd.R_reads' HO236.out).2.1)
            rintro e w61 ⟨rfl, hb⟩
            refine ⟨_, rfl, ?_⟩
            have n0_ := Aside0.mk (Kd.R_below (by (with_reducible repeat (first | apply Kd.R_alloc | apply Kd.R_drewN | apply Kd.R_drew)); exact HO_203004.out) hb)
            have n1_ := Aside0.mk (Kd.R_below (by (with_reducible repeat (first | apply Kd.R_alloc | apply Kd.R_drewN | apply Kd.R_drew)); exact HO_203005.out) hb)
            have n2_ := Aside0.mk (Kd.R_below (by (with_reducible repeat (first | apply Kd.R_alloc | apply Kd.R_drewN | apply Kd.R_drew)); exact HO_214004.out) hb)
            have n3_ := Aside0.mk (Kd.R_below (by (with_reducible repeat (first | apply Kd.R_alloc | apply Kd.R_drewN | apply Kd.R_drew)); exact HO_214005.out) hb)
            have n4_ := Aside0.mk (Kd.R_below (by (with_reducible repeat (first | apply Kd.R_alloc | apply Kd.R_drewN | apply Kd.R_drew)); exact HO_226004.out) hb)
            have n5_ := Aside0.mk (Kd.R_below (by (with_reducible repeat (first | apply Kd.R_alloc | apply Kd.R_drewN | apply Kd.R_drew)); exact HO_226005.out) hb)
            have n6_ := Aside0.mk (Kd.R_below (by (with_reducible repeat (first | apply Kd.R_alloc | apply Kd.R_drewN | apply Kd.R_drew)); exact HO233.out) hb)
            have n7_ := Aside0.mk (Kd.R_below (by (with_reducible repeat (first | apply Kd.R_alloc | apply Kd.R_drewN | apply Kd.R_drew)); exact HO236.out) hb)
            have n8_ := Aside0.mk (blk_below (g := gb179) (o := .cells #[.int .i64 a0_0, .int .i64 a0_1, .int .i64 a0_2, .int .i64 a0_3, .slice A0_4 l0_4.length c0_4, .slice A0_5 l0_5.length c0_5] 24 (0, 0)) (by (with_reducible repeat (first | refine blk_drewN ?_ _ | refine blk_drew ?_ | refine blk_alloc ?_ _)); exact BK179.out) hb)
            have n9_ := Aside0.mk (blk_below (g := gb202) (o := .cells #[.int .i64 t191, .int .i64 t192, .int .i64 t193, .int .i64 t194, .slice Ao23 t195.length co23, .slice Ao24 t198.length co24] 27 (0, 0)) (by (with_reducible repeat (first | refine blk_drewN ?_ _ | refine blk_drew ?_ | refine blk_alloc ?_ _)); exact BK202.out) hb)
            have n10_ := Aside0.mk (blk_below (g := gb213) (o := .cells #[.int .i64 t203, .int .i64 t204, .int .i64 t205, .int .i64 t206, .slice Ao31 t207.length co31, .slice Ao32 t210.length co32] 27 (0, 0)) (by (with_reducible repeat (first | refine blk_drewN ?_ _ | refine blk_drew ?_ | refine blk_alloc ?_ _)); exact BK213.out) hb)
            have n11_ := Aside0.mk (blk_below (g := gb225) (o := .cells #[.int .i64 t214, .int .i64 t215, .int .i64 t216, .int .i64 t217, .slice Ao39 t218.length co39, .slice Ao40 t221.length co40] 27 (0, 0)) (by (with_reducible repeat (first | refine blk_drewN ?_ _ | refine blk_drew ?_ | refine blk_alloc ?_ _)); exact BK225.out) hb)
            have n12_ := Aside0.mk (below_step (by repeat (first | (with_reducible first | exact HB.out | apply below_alloc | apply pw_below_drewN | apply below_drew1 | refine below_set ?_ GE179.out | refine below_set ?_ GE202.out | refine below_set ?_ GE213.out | refine below_set ?_ GE225.out) | exact HB.out)) hb)
            clear HO_203004
            clear HO_203005
            clear HO_214004
            clear HO_214005
            clear HO_226004
            clear HO_226005
            clear HO233
            clear HO236
            clear BK179
            clear BK202
            clear BK213
            clear BK225
            clear HB
            have HO_203004 := n0_
            have HO_203005 := n1_
            have HO_214004 := n2_
            have HO_214005 := n3_
            have HO_226004 := n4_
            have HO_226005 := n5_
            have HO233 := n6_
            have HO236 := n7_
            have BK179 := n8_
            have BK202 := n9_
            have BK213 := n10_
            have BK225 := n11_
            have HB := n12_
            clear n0_ n1_ n2_ n3_ n4_ n5_ n6_ n7_ n8_ n9_ n10_ n11_ n12_
            (try clear hb)
            (try clear hb2)
            (try clear hk)
            (try clear hi)
            refine hK.out _ _ ⟨(blk_cell BK213.out 0).trans rfl, (blk_cell BK213.out 1).trans rfl, (blk_cell BK213.out 2).trans rfl, (blk_cell BK213.out 3).trans rfl, (blk_cell BK213.out 4).trans rfl, (blk_cell BK213.out 5).trans rfl, (blk_cell BK179.out 0).trans rfl, (blk_cell BK179.out 1).trans rfl, (blk_cell BK179.out 2).trans rfl, (blk_cell BK179.out 3).trans rfl, (blk_cell BK179.out 4).trans rfl, (blk_cell BK179.out 5).trans rfl⟩ (fun hHeld => ?_)
            clear hK K
            refine norm_ (a' := ?_) ?_ ?_
            rotate_left
            · show Act.put _ (some 44) _ = _
              simp only [Act.put, List.setIfInBounds_toArray, List.set_cons_zero, List.set_cons_succ, i64_w, i32_w]
              rfl
            refine pure_ (i := 4) (N := some 45) (v := ?_) (a' := ?_) #[true, true, true, true, true] rfl rfl (by kernel_rfl) (fun _ _ _ h => h) (Or.inl ⟨by rfl, ?_⟩) ?_ ?_
            rotate_left
            · intro w'
              go_simp
              with_reducible rfl
            rotate_left
            · simp only [Act.put, List.setIfInBounds_toArray, List.set_cons_zero, List.set_cons_succ, i64_w, i32_w]
              rfl
            refine done_ (by kernel_rfl) ?_
            have hnb62 := NB213_179.out
            have hnc62 := NB179_213.out
            have hnb63 := NB213_202.out
            have hnc63 := NB202_213.out
            have hnb64 := NB213_225.out
            have hnc64 := NB225_213.out
            have hcz65_0 : w61.cell? ⟨gb213, 0, none⟩ = some (.int .i64 t203) := (blk_cell BK213.out 0).trans rfl
            have hcz65_1 : w61.cell? ⟨gb213, 1, none⟩ = some (.int .i64 t204) := (blk_cell BK213.out 1).trans rfl
            have hcz65_2 : w61.cell? ⟨gb213, 2, none⟩ = some (.int .i64 t205) := (blk_cell BK213.out 2).trans rfl
            have hcz65_3 : w61.cell? ⟨gb213, 3, none⟩ = some (.int .i64 t206) := (blk_cell BK213.out 3).trans rfl
            have hcz65_4 : w61.cell? ⟨gb213, 4, none⟩ = some (.slice Ao31 t207.length co31) := (blk_cell BK213.out 4).trans rfl
            have hcz65_5 : w61.cell? ⟨gb213, 5, none⟩ = some (.slice Ao32 t210.length co32) := (blk_cell BK213.out 5).trans rfl
            have hfz65_0 := blk_frozen BK213.out 0
            have hfz65_1 := blk_frozen BK213.out 1
            have hfz65_2 := blk_frozen BK213.out 2
            have hfz65_3 := blk_frozen BK213.out 3
            have hfz65_4 := blk_frozen BK213.out 4
            have hfz65_5 := blk_frozen BK213.out 5
            go_upto_region 14 with (first | ((with_reducible refine gate_callee (f := 28) rfl ?_); refine goesL_ (some 48) rfl rfl Try.func28 (by kernel_rfl) rfl #[.agg #[.int .i64 t203, .int .i64 t204, .int .i64 t205, .int .i64 t206, .slice Ao31 t207.length co31, .slice Ao32 t210.length co32], .int .i64 1] rfl (by (try simp only [List.map_toArray, List.map_cons, List.map_nil]); first | done | rfl | (simp only [List.length_drop, List.length_take]; rfl)) ?_; (with_reducible refine (laws_markImage.calls kj10 t203 t204 t205 t206 (fun k_ => some k_ = (.slice Ao31 t207.length co31 : Value).ownBlock) (.slice Ao31 t207.length co31) t207 (fun k_ => some k_ = (.slice Ao32 t210.length co32 : Value).ownBlock) (.slice Ao32 t210.length co32) t210 1 t238 t239 t240 w _ ?side1 ?side2 ?side3 ?side4 ?side5 A55.out).mono ?_); (case side1 => repeat (first | (with_reducible first | exact HB.out | apply below_alloc | apply pw_below_drewN | apply below_drew1 | refine below_set ?_ GE179.out | refine below_set ?_ GE202.out | refine below_set ?_ GE213.out | refine below_set ?_ GE225.out) | exact HB.out)); (case side2 => exact Kd.R_tight rfl HO_214004.out); (case side3 => exact fun k_ e_ => (HO_214004.out.1 k_ e_.symm).1.1.2.2.1); (case side4 => exact Kd.R_tight rfl HO_214005.out); (case side5 => exact fun k_ e_ => (HO_214005.out.1 k_ e_.symm).1.1.2.2.1); rintro e w66 ⟨rfl, hy0, hy1, hb, hkp⟩; refine ⟨_, rfl, ?_⟩; have n0_ := Aside0.mk (Kd.R_mono (ok' := fun k_ => some k_ ≠ (.slice Ao24 t198.length co24 : Value).ownBlock ∧ some k_ ≠ (.slice Ao31 t207.length co31 : Value).ownBlock ∧ some k_ ≠ (.slice Ao32 t210.length co32 : Value).ownBlock ∧ some k_ ≠ (.slice Ao39 t218.length co39 : Value).ownBlock ∧ some k_ ≠ (.slice Ao40 t221.length co40 : Value).ownBlock ∧ some k_ ≠ (.slice Ao59 t231.length co59 : Value).ownBlock ∧ some k_ ≠ (.slice Ao60 t234.length co60 : Value).ownBlock) (Kd.R_keptB (HO_203004.out) hkp (fun k_ hk_ hs_ => Or.elim hs_ (fun e_ => (hk_.1.1.2.1) e_) (fun e_ => (hk_.1.1.2.2.1) e_))) (fun k_ hk_ => ⟨hk_.1.1.1.1, hk_.1.1.1.2.1, hk_.1.1.1.2.2.1, hk_.1.1.1.2.2.2.1, hk_.1.1.1.2.2.2.2, hk_.1.1.2, hk_.1.2⟩)); have n1_ := Aside0.mk (Kd.R_mono (ok' := fun k_ => some k_ ≠ (.slice Ao23 t195.length co23 : Value).ownBlock ∧ some k_ ≠ (.slice Ao31 t207.length co31 : Value).ownBlock ∧ some k_ ≠ (.slice Ao32 t210.length co32 : Value).ownBlock ∧ some k_ ≠ (.slice Ao39 t218.length co39 : Value).ownBlock ∧ some k_ ≠ (.slice Ao40 t221.length co40 : Value).ownBlock ∧ some k_ ≠ (.slice Ao59 t231.length co59 : Value).ownBlock ∧ some k_ ≠ (.slice Ao60 t234.length co60 : Value).ownBlock) (Kd.R_keptB (HO_203005.out) hkp (fun k_ hk_ hs_ => Or.elim hs_ (fun e_ => (hk_.1.1.2.1) e_) (fun e_ => (hk_.1.1.2.2.1) e_))) (fun k_ hk_ => ⟨hk_.1.1.1.1, hk_.1.1.1.2.1, hk_.1.1.1.2.2.1, hk_.1.1.1.2.2.2.1, hk_.1.1.1.2.2.2.2, hk_.1.1.2, hk_.1.2⟩)); have n2_ := Aside0.mk (Kd.R_reok rfl hy0 (fun k_ e_ => HO_214004.out.1 k_ e_)); have n3_ := Aside0.mk (Kd.R_reok rfl hy1 (fun k_ e_ => HO_214005.out.1 k_ e_)); have n4_ := Aside0.mk (Kd.R_mono (ok' := fun k_ => some k_ ≠ (.slice Ao23 t195.length co23 : Value).ownBlock ∧ some k_ ≠ (.slice Ao24 t198.length co24 : Value).ownBlock ∧ some k_ ≠ (.slice Ao31 t207.length co31 : Value).ownBlock ∧ some k_ ≠ (.slice Ao32 t210.length co32 : Value).ownBlock ∧ some k_ ≠ (.slice Ao40 t221.length co40 : Value).ownBlock ∧ some k_ ≠ (.slice Ao59 t231.length co59 : Value).ownBlock ∧ some k_ ≠ (.slice Ao60 t234.length co60 : Value).ownBlock) (Kd.R_keptB (HO_226004.out) hkp (fun k_ hk_ hs_ => Or.elim hs_ (fun e_ => (hk_.1.1.2.2.1) e_) (fun e_ => (hk_.1.1.2.2.2.1) e_))) (fun k_ hk_ => ⟨hk_.1.1.1.1, hk_.1.1.1.2.1, hk_.1.1.1.2.2.1, hk_.1.1.1.2.2.2.1, hk_.1.1.1.2.2.2.2, hk_.1.1.2, hk_.1.2⟩)); have n5_ := Aside0.mk (Kd.R_mono (ok' := fun k_ => some k_ ≠ (.slice Ao23 t195.length co23 : Value).ownBlock ∧ some k_ ≠ (.slice Ao24 t198.length co24 : Value).ownBlock ∧ some k_ ≠ (.slice Ao31 t207.length co31 : Value).ownBlock ∧ some k_ ≠ (.slice Ao32 t210.length co32 : Value).ownBlock ∧ some k_ ≠ (.slice Ao39 t218.length co39 : Value).ownBlock ∧ some k_ ≠ (.slice Ao59 t231.length co59 : Value).ownBlock ∧ some k_ ≠ (.slice Ao60 t234.length co60 : Value).ownBlock) (Kd.R_keptB (HO_226005.out) hkp (fun k_ hk_ hs_ => Or.elim hs_ (fun e_ => (hk_.1.1.2.2.1) e_) (fun e_ => (hk_.1.1.2.2.2.1) e_))) (fun k_ hk_ => ⟨hk_.1.1.1.1, hk_.1.1.1.2.1, hk_.1.1.1.2.2.1, hk_.1.1.1.2.2.2.1, hk_.1.1.1.2.2.2.2, hk_.1.1.2, hk_.1.2⟩)); have n6_ := Aside0.mk (blk_kept (by (with_reducible repeat (first | refine blk_drewN ?_ _ | refine blk_drew ?_ | refine blk_alloc ?_ _)); exact BK179.out) hkp (fun hs_ => Or.elim hs_ (fun e_ => (fun e_ => (Kd.R_ne HO_214004.out BK179.out (by decide)) e_) e_) (fun e_ => (fun e_ => (Kd.R_ne HO_214005.out BK179.out (by decide)) e_) e_))); have n7_ := Aside0.mk (blk_kept (by (with_reducible repeat (first | refine blk_drewN ?_ _ | refine blk_drew ?_ | refine blk_alloc ?_ _)); exact BK202.out) hkp (fun hs_ => Or.elim hs_ (fun e_ => (fun e_ => (Kd.R_ne HO_214004.out BK202.out (by decide)) e_) e_) (fun e_ => (fun e_ => (Kd.R_ne HO_214005.out BK202.out (by decide)) e_) e_))); have n8_ := Aside0.mk (blk_kept (by (with_reducible repeat (first | refine blk_drewN ?_ _ | refine blk_drew ?_ | refine blk_alloc ?_ _)); exact BK213.out) hkp (fun hs_ => Or.elim hs_ (fun e_ => (fun e_ => (Kd.R_ne HO_214004.out BK213.out (by decide)) e_) e_) (fun e_ => (fun e_ => (Kd.R_ne HO_214005.out BK213.out (by decide)) e_) e_))); have n9_ := Aside0.mk (blk_kept (by (with_reducible repeat (first | refine blk_drewN ?_ _ | refine blk_drew ?_ | refine blk_alloc ?_ _)); exact BK225.out) hkp (fun hs_ => Or.elim hs_ (fun e_ => (fun e_ => (Kd.R_ne HO_214004.out BK225.out (by decide)) e_) e_) (fun e_ => (fun e_ => (Kd.R_ne HO_214005.out BK225.out (by decide)) e_) e_))); have n10_ := Aside0.mk (Kd.R_mono (ok' := fun k_ => some k_ ≠ (.slice Ao23 t195.length co23 : Value).ownBlock ∧ some k_ ≠ (.slice Ao24 t198.length co24 : Value).ownBlock ∧ some k_ ≠ (.slice Ao31 t207.length co31 : Value).ownBlock ∧ some k_ ≠ (.slice Ao32 t210.length co32 : Value).ownBlock ∧ some k_ ≠ (.slice Ao39 t218.length co39 : Value).ownBlock ∧ some k_ ≠ (.slice Ao40 t221.length co40 : Value).ownBlock ∧ some k_ ≠ (.slice Ao60 t234.length co60 : Value).ownBlock) (Kd.R_keptB (HO233.out) hkp (fun k_ hk_ hs_ => Or.elim hs_ (fun e_ => (hk_.1.1.1.2) e_) (fun e_ => (hk_.1.1.2) e_))) (fun k_ hk_ => ⟨hk_.1.1.1.1.1.1.2, hk_.1.1.1.1.1.2, hk_.1.1.1.1.2, hk_.1.1.1.2, hk_.1.1.2, hk_.1.2, hk_.1.1.1.1.1.1.1⟩)); have n11_ := Aside0.mk (Kd.R_mono (ok' := fun k_ => some k_ ≠ (.slice Ao23 t195.length co23 : Value).ownBlock ∧ some k_ ≠ (.slice Ao24 t198.length co24 : Value).ownBlock ∧ some k_ ≠ (.slice Ao31 t207.length co31 : Value).ownBlock ∧ some k_ ≠ (.slice Ao32 t210.length co32 : Value).ownBlock ∧ some k_ ≠ (.slice Ao39 t218.length co39 : Value).ownBlock ∧ some k_ ≠ (.slice Ao40 t221.length co40 : Value).ownBlock ∧ some k_ ≠ (.slice Ao59 t231.length co59 : Value).ownBlock) (Kd.R_keptB (HO236.out) hkp (fun k_ hk_ hs_ => Or.elim hs_ (fun e_ => (hk_.1.1.1.2) e_) (fun e_ => (hk_.1.1.2) e_))) (fun k_ hk_ => ⟨hk_.1.1.1.1.1.1.2, hk_.1.1.1.1.1.2, hk_.1.1.1.1.2, hk_.1.1.1.2, hk_.1.1.2, hk_.1.2, hk_.1.1.1.1.1.1.1⟩)); have n12_ := Aside0.mk (hb); clear HO_203004; clear HO_203005; clear HO_214004; clear HO_214005; clear HO_226004; clear HO_226005; clear BK179; clear BK202; clear BK213; clear BK225; clear HO233; clear HO236; clear HB; have HO_203004 := n0_; have HO_203005 := n1_; have HO_214004 := n2_; have HO_214005 := n3_; have HO_226004 := n4_; have HO_226005 := n5_; have BK179 := n6_; have BK202 := n7_; have BK213 := n8_; have BK225 := n9_; have HO233 := n10_; have HO236 := n11_; have HB := n12_; clear n0_ n1_ n2_ n3_ n4_ n5_ n6_ n7_ n8_ n9_ n10_ n11_ n12_; (try clear hb); (try clear hkp); (try clear hy0); (try clear hy1)))
            (try simp only [Act.put, List.setIfInBounds_toArray, List.set_cons_zero, List.set_cons_succ])
            go_cut [61] (fun v61 wc => ∃ (kq : Nat) (x61_55 : Bool), v61 = .bool x61_55 ∧ Aside0 (laws_FnExactImageRgb.j1 kq t201 x61_55 a0_0 a0_1 a0_2 a0_3 l0_4 l0_5 t191 t192 t193 t194 t195 t198 t214 t215 t216 t217 t218 t221 = some true) ∧ Aside0 (kq ≤ kj10) ∧ Aside0 (Kd.R (Kd.int .i64) 3 wc w.heap.size (fun k_ => some k_ ≠ ((.slice Ao24 t198.length co24) : Value).ownBlock ∧ some k_ ≠ ((.slice Ao31 t207.length co31) : Value).ownBlock ∧ some k_ ≠ ((.slice Ao32 t210.length co32) : Value).ownBlock ∧ some k_ ≠ ((.slice Ao39 t218.length co39) : Value).ownBlock ∧ some k_ ≠ ((.slice Ao40 t221.length co40) : Value).ownBlock) (.slice Ao23 t195.length co23) t195) ∧ Aside0 (Kd.R (Kd.int .i64) 3 wc w.heap.size (fun k_ => some k_ ≠ ((.slice Ao23 t195.length co23) : Value).ownBlock ∧ some k_ ≠ ((.slice Ao31 t207.length co31) : Value).ownBlock ∧ some k_ ≠ ((.slice Ao32 t210.length co32) : Value).ownBlock ∧ some k_ ≠ ((.slice Ao39 t218.length co39) : Value).ownBlock ∧ some k_ ≠ ((.slice Ao40 t221.length co40) : Value).ownBlock) (.slice Ao24 t198.length co24) t198) ∧ Aside0 (Kd.R (Kd.int .i64) 3 wc w.heap.size (fun k_ => some k_ ≠ ((.slice Ao23 t195.length co23) : Value).ownBlock ∧ some k_ ≠ ((.slice Ao24 t198.length co24) : Value).ownBlock ∧ some k_ ≠ ((.slice Ao32 t210.length co32) : Value).ownBlock ∧ some k_ ≠ ((.slice Ao39 t218.length co39) : Value).ownBlock ∧ some k_ ≠ ((.slice Ao40 t221.length co40) : Value).ownBlock) (.slice Ao31 t207.length co31) t239) ∧ Aside0 (Kd.R (Kd.int .i64) 3 wc w.heap.size (fun k_ => some k_ ≠ ((.slice Ao23 t195.length co23) : Value).ownBlock ∧ some k_ ≠ ((.slice Ao24 t198.length co24) : Value).ownBlock ∧ some k_ ≠ ((.slice Ao31 t207.length co31) : Value).ownBlock ∧ some k_ ≠ ((.slice Ao39 t218.length co39) : Value).ownBlock ∧ some k_ ≠ ((.slice Ao40 t221.length co40) : Value).ownBlock) (.slice Ao32 t210.length co32) t240) ∧ Aside0 (Kd.R (Kd.int .i64) 3 wc w.heap.size (fun k_ => some k_ ≠ ((.slice Ao23 t195.length co23) : Value).ownBlock ∧ some k_ ≠ ((.slice Ao24 t198.length co24) : Value).ownBlock ∧ some k_ ≠ ((.slice Ao31 t207.length co31) : Value).ownBlock ∧ some k_ ≠ ((.slice Ao32 t210.length co32) : Value).ownBlock ∧ some k_ ≠ ((.slice Ao40 t221.length co40) : Value).ownBlock) (.slice Ao39 t218.length co39) t218) ∧ Aside0 (Kd.R (Kd.int .i64) 3 wc w.heap.size (fun k_ => some k_ ≠ ((.slice Ao23 t195.length co23) : Value).ownBlock ∧ some k_ ≠ ((.slice Ao24 t198.length co24) : Value).ownBlock ∧ some k_ ≠ ((.slice Ao31 t207.length co31) : Value).ownBlock ∧ some k_ ≠ ((.slice Ao32 t210.length co32) : Value).ownBlock ∧ some k_ ≠ ((.slice Ao39 t218.length co39) : Value).ownBlock) (.slice Ao40 t221.length co40) t221) ∧ Aside0 (wc.heap[gb179]? = some (.cells #[.int .i64 a0_0, .int .i64 a0_1, .int .i64 a0_2, .int .i64 a0_3, (.slice A0_4 l0_4.length c0_4), (.slice A0_5 l0_5.length c0_5)] 24 (0, 0))) ∧ Aside0 (wc.heap[gb202]? = some (.cells #[.int .i64 t191, .int .i64 t192, .int .i64 t193, .int .i64 t194, (.slice Ao23 t195.length co23), (.slice Ao24 t198.length co24)] 27 (0, 0))) ∧ Aside0 (wc.heap[gb213]? = some (.cells #[.int .i64 t203, .int .i64 t204, .int .i64 t205, .int .i64 t206, (.slice Ao31 t207.length co31), (.slice Ao32 t210.length co32)] 27 (0, 0))) ∧ Aside0 (wc.heap[gb225]? = some (.cells #[.int .i64 t214, .int .i64 t215, .int .i64 t216, .int .i64 t217, (.slice Ao39 t218.length co39), (.slice Ao40 t221.length co40)] 27 (0, 0))) ∧ Aside0 (Below w.heap.size w wc))
            case first =>
              have H := HC56.out
              clear HC56
              by_cases c67 : t238 < 0
              · rw [if_pos c67] at H
                have c67b0 : decide (t238 < 0) = true := decide_eq_true c67
                clear c67
                (first | rw [c67b0] | (simp only [i64_w, i32_w]; rw [c67b0]) | skip)
                exact absurd H (by cases kj10 <;> simp [laws_FnExactImageRgb.j1])
              · rw [if_neg c67] at H
                have c67b0 : decide (t238 < 0) = false := decide_eq_false c67
                clear c67
                (first | rw [c67b0] | (simp only [i64_w, i32_w]; rw [c67b0]) | skip)
                replace H := Option.bind_eq_some_iff.mp H
                obtain ⟨t241, A680, H⟩ := H
                replace H : (if t241 = true then (laws_FnExactImageRgb.j1 kj10 t201 (t224 != t201) a0_0 a0_1 a0_2 a0_3 l0_4 l0_5 t191 t192 t193 t194 t195 t198 t214 t215 t216 t217 t218 t221) else (laws_FnExactImageRgb.j1 kj10 t201 true a0_0 a0_1 a0_2 a0_3 l0_4 l0_5 t191 t192 t193 t194 t195 t198 t214 t215 t216 t217 t218 t221)) = some true := H
                have A68 := Aside0.mk A680
                clear A680
                by_cases c69 : t241 = true
                · subst c69
                  have H1 : (laws_FnExactImageRgb.j1 kj10 t201 (t224 != t201) a0_0 a0_1 a0_2 a0_3 l0_4 l0_5 t191 t192 t193 t194 t195 t198 t214 t215 t216 t217 t218 t221) = some true := by first | (rw [if_pos rfl] at H; exact H) | rfl
                  clear H
                  have H := H1
                  clear H1
                  have H' := Aside0.mk H
                  clear H
                  have hnb70 := NB225_179.out
                  have hnc70 := NB179_225.out
                  have hnb71 := NB225_202.out
                  have hnc71 := NB202_225.out
                  have hnb72 := NB225_213.out
                  have hnc72 := NB213_225.out
                  have hcz73_0 : w66.cell? ⟨gb225, 0, none⟩ = some (.int .i64 t214) := (blk_cell BK225.out 0).trans rfl
                  have hcz73_1 : w66.cell? ⟨gb225, 1, none⟩ = some (.int .i64 t215) := (blk_cell BK225.out 1).trans rfl
                  have hcz73_2 : w66.cell? ⟨gb225, 2, none⟩ = some (.int .i64 t216) := (blk_cell BK225.out 2).trans rfl
                  have hcz73_3 : w66.cell? ⟨gb225, 3, none⟩ = some (.int .i64 t217) := (blk_cell BK225.out 3).trans rfl
                  have hcz73_4 : w66.cell? ⟨gb225, 4, none⟩ = some (.slice Ao39 t218.length co39) := (blk_cell BK225.out 4).trans rfl
                  have hcz73_5 : w66.cell? ⟨gb225, 5, none⟩ = some (.slice Ao40 t221.length co40) := (blk_cell BK225.out 5).trans rfl
                  have hfz73_0 := blk_frozen BK225.out 0
                  have hfz73_1 := blk_frozen BK225.out 1
                  have hfz73_2 := blk_frozen BK225.out 2
                  have hfz73_3 := blk_frozen BK225.out 3
                  have hfz73_4 := blk_frozen BK225.out 4
                  have hfz73_5 := blk_frozen BK225.out 5
                  have hnb74 := NB202_179.out
                  have hnc74 := NB179_202.out
                  have hnb75 := NB202_213.out
                  have hnc75 := NB213_202.out
                  have hcz76_0 : w66.cell? ⟨gb202, 0, none⟩ = some (.int .i64 t191) := (blk_cell BK202.out 0).trans rfl
                  have hcz76_1 : w66.cell? ⟨gb202, 1, none⟩ = some (.int .i64 t192) := (blk_cell BK202.out 1).trans rfl
                  have hcz76_2 : w66.cell? ⟨gb202, 2, none⟩ = some (.int .i64 t193) := (blk_cell BK202.out 2).trans rfl
                  have hcz76_3 : w66.cell? ⟨gb202, 3, none⟩ = some (.int .i64 t194) := (blk_cell BK202.out 3).trans rfl
                  have hcz76_4 : w66.cell? ⟨gb202, 4, none⟩ = some (.slice Ao23 t195.length co23) := (blk_cell BK202.out 4).trans rfl
                  have hcz76_5 : w66.cell? ⟨gb202, 5, none⟩ = some (.slice Ao24 t198.length co24) := (blk_cell BK202.out 5).trans rfl
                  have hfz76_0 := blk_frozen BK202.out 0
                  have hfz76_1 := blk_frozen BK202.out 1
                  have hfz76_2 := blk_frozen BK202.out 2
                  have hfz76_3 := blk_frozen BK202.out 3
                  have hfz76_4 := blk_frozen BK202.out 4
                  have hfz76_5 := blk_frozen BK202.out 5
                  go_wp2_with (first | (go_at_call 19; (with_reducible refine (laws_eqImage.calls kj10 t214 t215 t216 t217 _ _ t218 _ _ t221 t191 t192 t193 t194 _ _ t195 _ _ t198 true _ ?side1 ?side2 ?side3 ?side4 ?side5 ?side6 ?side7 ?side8 A68.out).mono ?_); (case side1 => repeat (first | exact (Kd.R_reads' HO_226004.out).2.2 | (with_reducible refine Kd.C_alloc ?_ _) | (with_reducible refine Kd.C_drewN ?_ _) | (with_reducible refine Kd.C_drew ?_))); (case side2 => exact (Kd.R_reads' HO_226004.out).2.1); (case side3 => repeat (first | exact (Kd.R_reads' HO_226005.out).2.2 | (with_reducible refine Kd.C_alloc ?_ _) | (with_reducible refine Kd.C_drewN ?_ _) | (with_reducible refine Kd.C_drew ?_))); (case side4 => exact (Kd.R_reads' HO_226005.out).2.1); (case side5 => repeat (first | exact (Kd.R_reads' HO_203004.out).2.2 | (with_reducible refine Kd.C_alloc ?_ _) | (with_reducible refine Kd.C_drewN ?_ _) | (with_reducible refine Kd.C_drew ?_))); (case side6 => exact (Kd.R_reads' HO_203004.out).2.1); (case side7 => repeat (first | exact (Kd.R_reads' HO_203005.out).2.2 | (with_reducible refine Kd.C_alloc ?_ _) | (with_reducible refine Kd.C_drewN ?_ _) | (with_reducible refine Kd.C_drew ?_))); (case side8 => exact (Kd.R_reads' HO_203005.out).2.1); rintro e w77 ⟨rfl, hb⟩; have n0_ := Aside0.mk (Kd.R_below (by (with_reducible repeat (first | apply Kd.R_alloc | apply Kd.R_drewN | apply Kd.R_drew)); exact HO_203004.out) hb); have n1_ := Aside0.mk (Kd.R_below (by (with_reducible repeat (first | apply Kd.R_alloc | apply Kd.R_drewN | apply Kd.R_drew)); exact HO_203005.out) hb); have n2_ := Aside0.mk (Kd.R_below (by (with_reducible repeat (first | apply Kd.R_alloc | apply Kd.R_drewN | apply Kd.R_drew)); exact HO_214004.out) hb); have n3_ := Aside0.mk (Kd.R_below (by (with_reducible repeat (first | apply Kd.R_alloc | apply Kd.R_drewN | apply Kd.R_drew)); exact HO_214005.out) hb); have n4_ := Aside0.mk (Kd.R_below (by (with_reducible repeat (first | apply Kd.R_alloc | apply Kd.R_drewN | apply Kd.R_drew)); exact HO_226004.out) hb); have n5_ := Aside0.mk (Kd.R_below (by (with_reducible repeat (first | apply Kd.R_alloc | apply Kd.R_drewN | apply Kd.R_drew)); exact HO_226005.out) hb); have n6_ := Aside0.mk (Kd.R_below (by (with_reducible repeat (first | apply Kd.R_alloc | apply Kd.R_drewN | apply Kd.R_drew)); exact HO233.out) hb); have n7_ := Aside0.mk (Kd.R_below (by (with_reducible repeat (first | apply Kd.R_alloc | apply Kd.R_drewN | apply Kd.R_drew)); exact HO236.out) hb); have n8_ := Aside0.mk (blk_below (g := gb179) (o := .cells #[.int .i64 a0_0, .int .i64 a0_1, .int .i64 a0_2, .int .i64 a0_3, .slice A0_4 l0_4.length c0_4, .slice A0_5 l0_5.length c0_5] 24 (0, 0)) (by (with_reducible repeat (first | refine blk_drewN ?_ _ | refine blk_drew ?_ | refine blk_alloc ?_ _)); exact BK179.out) hb); have n9_ := Aside0.mk (blk_below (g := gb202) (o := .cells #[.int .i64 t191, .int .i64 t192, .int .i64 t193, .int .i64 t194, .slice Ao23 t195.length co23, .slice Ao24 t198.length co24] 27 (0, 0)) (by (with_reducible repeat (first | refine blk_drewN ?_ _ | refine blk_drew ?_ | refine blk_alloc ?_ _)); exact BK202.out) hb); have n10_ := Aside0.mk (blk_below (g := gb213) (o := .cells #[.int .i64 t203, .int .i64 t204, .int .i64 t205, .int .i64 t206, .slice Ao31 t207.length co31, .slice Ao32 t210.length co32] 27 (0, 0)) (by (with_reducible repeat (first | refine blk_drewN ?_ _ | refine blk_drew ?_ | refine blk_alloc ?_ _)); exact BK213.out) hb); have n11_ := Aside0.mk (blk_below (g := gb225) (o := .cells #[.int .i64 t214, .int .i64 t215, .int .i64 t216, .int .i64 t217, .slice Ao39 t218.length co39, .slice Ao40 t221.length co40] 27 (0, 0)) (by (with_reducible repeat (first | refine blk_drewN ?_ _ | refine blk_drew ?_ | refine blk_alloc ?_ _)); exact BK225.out) hb); have n12_ := Aside0.mk (below_step (by repeat (first | (with_reducible first | exact HB.out | apply below_alloc | apply pw_below_drewN | apply below_drew1 | refine below_set ?_ GE179.out | refine below_set ?_ GE202.out | refine below_set ?_ GE213.out | refine below_set ?_ GE225.out) | exact HB.out)) hb); clear HO_203004; clear HO_203005; clear HO_214004; clear HO_214005; clear HO_226004; clear HO_226005; clear HO233; clear HO236; clear BK179; clear BK202; clear BK213; clear BK225; clear HB; have HO_203004 := n0_; have HO_203005 := n1_; have HO_214004 := n2_; have HO_214005 := n3_; have HO_226004 := n4_; have HO_226005 := n5_; have HO233 := n6_; have HO236 := n7_; have BK179 := n8_; have BK202 := n9_; have BK213 := n10_; have BK225 := n11_; have HB := n12_; clear n0_ n1_ n2_ n3_ n4_ n5_ n6_ n7_ n8_ n9_ n10_ n11_ n12_; (try clear hb); (try clear hb2); (try clear hk); (try clear hi)))
                  go_meet
                  case rel => exact ⟨_, ((t224 != t201)), (by first | rfl | (simp; done) | (simp [*]; done)), H', ⟨by have := HJ10.out; first | omega | exact Nat.le_refl _⟩, ⟨by (with_reducible repeat (first | apply Kd.R_alloc | apply Kd.R_drewN | apply Kd.R_drew)); exact Kd.R_mono HO_203004.out (fun _ hk => ⟨hk.1, ⟨hk.2.1, ⟨hk.2.2.1, ⟨hk.2.2.2.1, hk.2.2.2.2.1⟩⟩⟩⟩)⟩, ⟨by (with_reducible repeat (first | apply Kd.R_alloc | apply Kd.R_drewN | apply Kd.R_drew)); exact Kd.R_mono HO_203005.out (fun _ hk => ⟨hk.1, ⟨hk.2.1, ⟨hk.2.2.1, ⟨hk.2.2.2.1, hk.2.2.2.2.1⟩⟩⟩⟩)⟩, ⟨by (with_reducible repeat (first | apply Kd.R_alloc | apply Kd.R_drewN | apply Kd.R_drew)); exact Kd.R_mono HO_214004.out (fun _ hk => ⟨hk.1.1.1, ⟨hk.1.1.2.1, ⟨hk.1.1.2.2.1, ⟨hk.1.1.2.2.2.1, hk.1.1.2.2.2.2⟩⟩⟩⟩)⟩, ⟨by (with_reducible repeat (first | apply Kd.R_alloc | apply Kd.R_drewN | apply Kd.R_drew)); exact Kd.R_mono HO_214005.out (fun _ hk => ⟨hk.1.1.1, ⟨hk.1.1.2.1, ⟨hk.1.1.2.2.1, ⟨hk.1.1.2.2.2.1, hk.1.1.2.2.2.2⟩⟩⟩⟩)⟩, ⟨by (with_reducible repeat (first | apply Kd.R_alloc | apply Kd.R_drewN | apply Kd.R_drew)); exact Kd.R_mono HO_226004.out (fun _ hk => ⟨hk.1, ⟨hk.2.1, ⟨hk.2.2.1, ⟨hk.2.2.2.1, hk.2.2.2.2.1⟩⟩⟩⟩)⟩, ⟨by (with_reducible repeat (first | apply Kd.R_alloc | apply Kd.R_drewN | apply Kd.R_drew)); exact Kd.R_mono HO_226005.out (fun _ hk => ⟨hk.1, ⟨hk.2.1, ⟨hk.2.2.1, ⟨hk.2.2.2.1, hk.2.2.2.2.1⟩⟩⟩⟩)⟩, ⟨by (with_reducible repeat (first | refine blk_drewN ?_ _ | refine blk_drew ?_ | refine blk_alloc ?_ _)); exact BK179.out⟩, ⟨by (with_reducible repeat (first | refine blk_drewN ?_ _ | refine blk_drew ?_ | refine blk_alloc ?_ _)); exact BK202.out⟩, ⟨by (with_reducible repeat (first | refine blk_drewN ?_ _ | refine blk_drew ?_ | refine blk_alloc ?_ _)); exact BK213.out⟩, ⟨by (with_reducible repeat (first | refine blk_drewN ?_ _ | refine blk_drew ?_ | refine blk_alloc ?_ _)); exact BK225.out⟩, ⟨by repeat (first | (with_reducible first | exact HB.out | apply below_alloc | apply pw_below_drewN | apply below_drew1 | refine below_set ?_ GE179.out | refine below_set ?_ GE202.out | refine below_set ?_ GE213.out | refine below_set ?_ GE225.out) | exact HB.out)⟩⟩
                · replace c69 := Bool.eq_false_iff.mpr c69
                  subst c69
                  have H1 : (laws_FnExactImageRgb.j1 kj10 t201 true a0_0 a0_1 a0_2 a0_3 l0_4 l0_5 t191 t192 t193 t194 t195 t198 t214 t215 t216 t217 t218 t221) = some true := by first | (rw [if_neg (show ¬ (false = true) by decide)] at H; exact H) | rfl
                  clear H
                  have H := H1
                  clear H1
                  exact absurd H (by cases kj10 <;> simp [laws_FnExactImageRgb.j1])
            case rest =>
              clear HC56
              try clear c1
              try clear c2
              try clear p2
              try clear c3
              try clear c3b0
              try clear c4
              try clear c5
              try clear c6
              try clear c7
              try clear c10
              try clear c15
              try clear c17
              try clear c19
              try clear c21
              try clear c28
              try clear c29
              try clear c34
              try clear c35
              try clear c36
              try clear c37
              try clear c42
              try clear c43
              try clear c44
              try clear c45
              try clear c47
              try clear c48
              try clear c51
              try clear c54
              try clear c62
              try clear c63
              try clear c64
              try clear c67
              try clear c67b0
              try clear c69
              try clear c70
              try clear c71
              try clear c72
              try clear c74
              try clear c75
              try clear hcz13_0
              try clear hcz13_1
              try clear hcz13_2
              try clear hcz13_3
              try clear hcz13_4
              try clear hcz13_5
              try clear hcz15_0
              try clear hcz15_1
              try clear hcz15_2
              try clear hcz15_3
              try clear hcz15_4
              try clear hcz15_5
              try clear hcz22_0
              try clear hcz22_1
              try clear hcz22_2
              try clear hcz22_3
              try clear hcz22_4
              try clear hcz22_5
              try clear hcz25_0
              try clear hcz25_1
              try clear hcz25_2
              try clear hcz25_3
              try clear hcz25_4
              try clear hcz25_5
              try clear hcz30_0
              try clear hcz30_1
              try clear hcz30_2
              try clear hcz30_3
              try clear hcz30_4
              try clear hcz30_5
              try clear hcz38_0
              try clear hcz38_1
              try clear hcz38_2
              try clear hcz38_3
              try clear hcz38_4
              try clear hcz38_5
              try clear hcz46_0
              try clear hcz46_1
              try clear hcz46_2
              try clear hcz46_3
              try clear hcz46_4
              try clear hcz46_5
              try clear hcz49_0
              try clear hcz49_1
              try clear hcz49_2
              try clear hcz49_3
              try clear hcz49_4
              try clear hcz49_5
              try clear hcz5_0
              try clear hcz5_1
              try clear hcz5_2
              try clear hcz5_3
              try clear hcz5_4
              try clear hcz5_5
              try clear hcz65_0
              try clear hcz65_1
              try clear hcz65_2
              try clear hcz65_3
              try clear hcz65_4
              try clear hcz65_5
              try clear hcz73_0
              try clear hcz73_1
              try clear hcz73_2
              try clear hcz73_3
              try clear hcz73_4
              try clear hcz73_5
              try clear hcz76_0
              try clear hcz76_1
              try clear hcz76_2
              try clear hcz76_3
              try clear hcz76_4
              try clear hcz76_5
              try clear hfz13_0
              try clear hfz13_1
              try clear hfz13_2
              try clear hfz13_3
              try clear hfz13_4
              try clear hfz13_5
              try clear hfz15_0
              try clear hfz15_1
              try clear hfz15_2
              try clear hfz15_3
              try clear hfz15_4
              try clear hfz15_5
              try clear hfz22_0
              try clear hfz22_1
              try clear hfz22_2
              try clear hfz22_3
              try clear hfz22_4
              try clear hfz22_5
              try clear hfz25_0
              try clear hfz25_1
              try clear hfz25_2
              try clear hfz25_3
              try clear hfz25_4
              try clear hfz25_5
              try clear hfz30_0
              try clear hfz30_1
              try clear hfz30_2
              try clear hfz30_3
              try clear hfz30_4
              try clear hfz30_5
              try clear hfz38_0
              try clear hfz38_1
              try clear hfz38_2
              try clear hfz38_3
              try clear hfz38_4
              try clear hfz38_5
              try clear hfz46_0
              try clear hfz46_1
              try clear hfz46_2
              try clear hfz46_3
              try clear hfz46_4
              try clear hfz46_5
              try clear hfz49_0
              try clear hfz49_1
              try clear hfz49_2
              try clear hfz49_3
              try clear hfz49_4
              try clear hfz49_5
              try clear hfz5_0
              try clear hfz5_1
              try clear hfz5_2
              try clear hfz5_3
              try clear hfz5_4
              try clear hfz5_5
              try clear hfz65_0
              try clear hfz65_1
              try clear hfz65_2
              try clear hfz65_3
              try clear hfz65_4
              try clear hfz65_5
              try clear hfz73_0
              try clear hfz73_1
              try clear hfz73_2
              try clear hfz73_3
              try clear hfz73_4
              try clear hfz73_5
              try clear hfz76_0
              try clear hfz76_1
              try clear hfz76_2
              try clear hfz76_3
              try clear hfz76_4
              try clear hfz76_5
              try clear p2
              obtain ⟨kq, x61_55, rfl, HA, HJ55, HO_203004, HO_203005, HO_214004, HO_214005, HO_226004, HO_226005, BK179, BK202, BK213, BK225, HB⟩ := hcut
              have hl214004_55 := (Kd.R_reads' HO_214004.out).1
              rw [hl214004_55] at HO_214004
              (try simp only [hl214004_55])
              (try simp only [hl214004_55] at BK179)
              (try simp only [hl214004_55] at BK202)
              (try simp only [hl214004_55] at BK213)
              (try simp only [hl214004_55] at BK225)
              (try simp only [hl214004_55] at HO_203004)
              (try simp only [hl214004_55] at HO_203005)
              (try simp only [hl214004_55] at HO_214005)
              (try simp only [hl214004_55] at HO_226004)
              (try simp only [hl214004_55] at HO_226005)
              have hl214005_55 := (Kd.R_reads' HO_214005.out).1
              rw [hl214005_55] at HO_214005
              (try simp only [hl214005_55])
              (try simp only [hl214005_55] at BK179)
              (try simp only [hl214005_55] at BK202)
              (try simp only [hl214005_55] at BK213)
              (try simp only [hl214005_55] at BK225)
              (try simp only [hl214005_55] at HO_203004)
              (try simp only [hl214005_55] at HO_203005)
              (try simp only [hl214005_55] at HO_214004)
              (try simp only [hl214005_55] at HO_226004)
              (try simp only [hl214005_55] at HO_226005)
              cases kq with
              | zero => exact absurd HA.out (by simp [laws_FnExactImageRgb.j1])
              | succ kj55 =>
                have H := HA.out
                clear HA
                simp only [laws_FnExactImageRgb.j1] at H
                by_cases c78 : x61_55 = true
                · subst c78
                  have H1 : (some false) = some true := by first | (rw [if_pos rfl] at H; exact H) | rfl
                  clear H
                  have H := H1
                  clear H1
                  exact absurd H (by simp)
                · replace c78 := Bool.eq_false_iff.mpr c78
                  subst c78
                  have H1 : ((laws_markImage.f kj55 t214 t215 t216 t217 t218 t221 1).bind fun bt242 => ((laws_heldImage.f kj55 t214 t215 t216 t217 bt242.2.1 bt242.2.2 1).bind fun t245 => (if t245 < 0 then (some false) else (if t245 = bt242.1 then ((laws_toImage.f kj55 a0_0 a0_1 a0_2 a0_3 l0_4 l0_5).bind fun bt246 => ((impl_ImageRgb.f kj55 bt246.1 bt246.2.1 bt246.2.2.1 bt246.2.2.2.1 bt246.2.2.2.2.1 bt246.2.2.2.2.2).bind fun bt256 => ((laws_eqImage.f kj55 bt256.1 bt256.2.1 bt256.2.2.1 bt256.2.2.2.1 bt256.2.2.2.2.1 bt256.2.2.2.2.2.1 t191 t192 t193 t194 t195 t198).bind fun t268 => (if t268 = true then (laws_FnExactImageRgb.j2 kj55 bt242.1 (bt256.2.2.2.2.2.2 != t201) t214 t215 t216 t217 bt242.2.1 bt242.2.2) else (laws_FnExactImageRgb.j2 kj55 bt242.1 true t214 t215 t216 t217 bt242.2.1 bt242.2.2))))) else (some false))))) = some true := by first | (rw [if_neg (show ¬ (false = true) by decide)] at H; exact H) | rfl
                  clear H
                  have H := H1
                  clear H1
                  replace H := Option.bind_eq_some_iff.mp H
                  obtain ⟨⟨t242, t243, t244⟩, A790, H⟩ := H
                  replace H : ((laws_heldImage.f kj55 t214 t215 t216 t217 t243 t244 1).bind fun t245 => (if t245 < 0 then (some false) else (if t245 = t242 then ((laws_toImage.f kj55 a0_0 a0_1 a0_2 a0_3 l0_4 l0_5).bind fun bt246 => ((impl_ImageRgb.f kj55 bt246.1 bt246.2.1 bt246.2.2.1 bt246.2.2.2.1 bt246.2.2.2.2.1 bt246.2.2.2.2.2).bind fun bt256 => ((laws_eqImage.f kj55 bt256.1 bt256.2.1 bt256.2.2.1 bt256.2.2.2.1 bt256.2.2.2.2.1 bt256.2.2.2.2.2.1 t191 t192 t193 t194 t195 t198).bind fun t268 => (if t268 = true then (laws_FnExactImageRgb.j2 kj55 t242 (bt256.2.2.2.2.2.2 != t201) t214 t215 t216 t217 t243 t244) else (laws_FnExactImageRgb.j2 kj55 t242 true t214 t215 t216 t217 t243 t244))))) else (some false)))) = some true := H
                  have A79 := Aside0.mk A790
                  clear A790
                  replace H := Option.bind_eq_some_iff.mp H
                  obtain ⟨t245, A800, H⟩ := H
                  replace H : (if t245 < 0 then (some false) else (if t245 = t242 then ((laws_toImage.f kj55 a0_0 a0_1 a0_2 a0_3 l0_4 l0_5).bind fun bt246 => ((impl_ImageRgb.f kj55 bt246.1 bt246.2.1 bt246.2.2.1 bt246.2.2.2.1 bt246.2.2.2.2.1 bt246.2.2.2.2.2).bind fun bt256 => ((laws_eqImage.f kj55 bt256.1 bt256.2.1 bt256.2.2.1 bt256.2.2.2.1 bt256.2.2.2.2.1 bt256.2.2.2.2.2.1 t191 t192 t193 t194 t195 t198).bind fun t268 => (if t268 = true then (laws_FnExactImageRgb.j2 kj55 t242 (bt256.2.2.2.2.2.2 != t201) t214 t215 t216 t217 t243 t244) else (laws_FnExactImageRgb.j2 kj55 t242 true t214 t215 t216 t217 t243 t244))))) else (some false))) = some true := H
                  have A80 := Aside0.mk A800
                  clear A800
                  by_cases c81 : t245 < 0
                  · rw [if_pos c81] at H
                    have c81b0 : decide (t245 < 0) = true := decide_eq_true c81
                    clear c81
                    exact absurd H (by simp)
                  · rw [if_neg c81] at H
                    have c81b0 : decide (t245 < 0) = false := decide_eq_false c81
                    clear c81
                    by_cases c82 : t245 = t242
                    · rw [if_pos c82] at H
                      have c82b0 : (t245 == t242) = true := beq_iff_eq.mpr c82
                      have c82b1 : (t245 != t242) = false := bne_eq_false_iff_eq.mpr c82
                      clear c82
                      replace H := Option.bind_eq_some_iff.mp H
                      obtain ⟨⟨t246, t247, t248, t249, t250, t253⟩, A830, H⟩ := H
                      replace H : ((impl_ImageRgb.f kj55 t246 t247 t248 t249 t250 t253).bind fun bt256 => ((laws_eqImage.f kj55 bt256.1 bt256.2.1 bt256.2.2.1 bt256.2.2.2.1 bt256.2.2.2.2.1 bt256.2.2.2.2.2.1 t191 t192 t193 t194 t195 t198).bind fun t268 => (if t268 = true then (laws_FnExactImageRgb.j2 kj55 t242 (bt256.2.2.2.2.2.2 != t201) t214 t215 t216 t217 t243 t244) else (laws_FnExactImageRgb.j2 kj55 t242 true t214 t215 t216 t217 t243 t244)))) = some true := H
                      have A83 := Aside0.mk A830
                      clear A830
                      replace H := Option.bind_eq_some_iff.mp H
                      obtain ⟨⟨t256, t257, t258, t259, t260, t263, t266⟩, A840, H⟩ := H
                      replace H : ((laws_eqImage.f kj55 t256 t257 t258 t259 t260 t263 t191 t192 t193 t194 t195 t198).bind fun t268 => (if t268 = true then (laws_FnExactImageRgb.j2 kj55 t242 (t266 != t201) t214 t215 t216 t217 t243 t244) else (laws_FnExactImageRgb.j2 kj55 t242 true t214 t215 t216 t217 t243 t244))) = some true := H
                      have A84 := Aside0.mk A840
                      clear A840
                      have HC85 := Aside0.mk H
                      clear H
                      have hnb86 := NB225_179.out
                      have hnc86 := NB179_225.out
                      have hnb87 := NB225_202.out
                      have hnc87 := NB202_225.out
                      have hnb88 := NB225_213.out
                      have hnc88 := NB213_225.out
                      have hcz89_0 : wc.cell? ⟨gb225, 0, none⟩ = some (.int .i64 t214) := (blk_cell BK225.out 0).trans rfl
                      have hcz89_1 : wc.cell? ⟨gb225, 1, none⟩ = some (.int .i64 t215) := (blk_cell BK225.out 1).trans rfl
                      have hcz89_2 : wc.cell? ⟨gb225, 2, none⟩ = some (.int .i64 t216) := (blk_cell BK225.out 2).trans rfl
                      have hcz89_3 : wc.cell? ⟨gb225, 3, none⟩ = some (.int .i64 t217) := (blk_cell BK225.out 3).trans rfl
                      have hcz89_4 : wc.cell? ⟨gb225, 4, none⟩ = some (.slice Ao39 t218.length co39) := (blk_cell BK225.out 4).trans rfl
                      have hcz89_5 : wc.cell? ⟨gb225, 5, none⟩ = some (.slice Ao40 t221.length co40) := (blk_cell BK225.out 5).trans rfl
                      have hfz89_0 := blk_frozen BK225.out 0
                      have hfz89_1 := blk_frozen BK225.out 1
                      have hfz89_2 := blk_frozen BK225.out 2
                      have hfz89_3 := blk_frozen BK225.out 3
                      have hfz89_4 := blk_frozen BK225.out 4
                      have hfz89_5 := blk_frozen BK225.out 5
                      go_upto_region 25 with (first | ((with_reducible refine gate_callee (f := 28) rfl ?_); refine goesL_ (some 64) rfl rfl Try.func28 (by kernel_rfl) rfl #[.agg #[.int .i64 t214, .int .i64 t215, .int .i64 t216, .int .i64 t217, .slice Ao39 t218.length co39, .slice Ao40 t221.length co40], .int .i64 1] rfl (by (try simp only [List.map_toArray, List.map_cons, List.map_nil]); first | done | rfl | (simp only [List.length_drop, List.length_take]; rfl)) ?_; (with_reducible refine (laws_markImage.calls kj55 t214 t215 t216 t217 (fun k_ => some k_ = (.slice Ao39 t218.length co39 : Value).ownBlock) (.slice Ao39 t218.length co39) t218 (fun k_ => some k_ = (.slice Ao40 t221.length co40 : Value).ownBlock) (.slice Ao40 t221.length co40) t221 1 t242 t243 t244 w _ ?side1 ?side2 ?side3 ?side4 ?side5 A79.out).mono ?_); (case side1 => repeat (first | (with_reducible first | exact HB.out | apply below_alloc | apply pw_below_drewN | apply below_drew1 | refine below_set ?_ GE179.out | refine below_set ?_ GE202.out | refine below_set ?_ GE213.out | refine below_set ?_ GE225.out) | exact HB.out)); (case side2 => exact Kd.R_tight rfl HO_226004.out); (case side3 => exact fun k_ e_ => (HO_226004.out.1 k_ e_.symm).2.2.2.2); (case side4 => exact Kd.R_tight rfl HO_226005.out); (case side5 => exact fun k_ e_ => (HO_226005.out.1 k_ e_.symm).2.2.2.2); rintro e w90 ⟨rfl, hy0, hy1, hb, hkp⟩; refine ⟨_, rfl, ?_⟩; have n0_ := Aside0.mk (Kd.R_mono (ok' := fun k_ => some k_ ≠ (.slice Ao24 t198.length co24 : Value).ownBlock ∧ some k_ ≠ (.slice Ao31 t239.length co31 : Value).ownBlock ∧ some k_ ≠ (.slice Ao32 t240.length co32 : Value).ownBlock ∧ some k_ ≠ (.slice Ao39 t218.length co39 : Value).ownBlock ∧ some k_ ≠ (.slice Ao40 t221.length co40 : Value).ownBlock) (Kd.R_keptB (HO_203004.out) hkp (fun k_ hk_ hs_ => Or.elim hs_ (fun e_ => (hk_.2.2.2.1) e_) (fun e_ => (hk_.2.2.2.2) e_))) (fun k_ hk_ => ⟨hk_.1.1, hk_.1.2.1, hk_.1.2.2.1, hk_.1.2.2.2.1, hk_.1.2.2.2.2⟩)); have n1_ := Aside0.mk (Kd.R_mono (ok' := fun k_ => some k_ ≠ (.slice Ao23 t195.length co23 : Value).ownBlock ∧ some k_ ≠ (.slice Ao31 t239.length co31 : Value).ownBlock ∧ some k_ ≠ (.slice Ao32 t240.length co32 : Value).ownBlock ∧ some k_ ≠ (.slice Ao39 t218.length co39 : Value).ownBlock ∧ some k_ ≠ (.slice Ao40 t221.length co40 : Value).ownBlock) (Kd.R_keptB (HO_203005.out) hkp (fun k_ hk_ hs_ => Or.elim hs_ (fun e_ => (hk_.2.2.2.1) e_) (fun e_ => (hk_.2.2.2.2) e_))) (fun k_ hk_ => ⟨hk_.1.1, hk_.1.2.1, hk_.1.2.2.1, hk_.1.2.2.2.1, hk_.1.2.2.2.2⟩)); have n2_ := Aside0.mk (Kd.R_mono (ok' := fun k_ => some k_ ≠ (.slice Ao23 t195.length co23 : Value).ownBlock ∧ some k_ ≠ (.slice Ao24 t198.length co24 : Value).ownBlock ∧ some k_ ≠ (.slice Ao32 t240.length co32 : Value).ownBlock ∧ some k_ ≠ (.slice Ao39 t218.length co39 : Value).ownBlock ∧ some k_ ≠ (.slice Ao40 t221.length co40 : Value).ownBlock) (Kd.R_keptB (HO_214004.out) hkp (fun k_ hk_ hs_ => Or.elim hs_ (fun e_ => (hk_.2.2.2.1) e_) (fun e_ => (hk_.2.2.2.2) e_))) (fun k_ hk_ => ⟨hk_.1.1, hk_.1.2.1, hk_.1.2.2.1, hk_.1.2.2.2.1, hk_.1.2.2.2.2⟩)); have n3_ := Aside0.mk (Kd.R_mono (ok' := fun k_ => some k_ ≠ (.slice Ao23 t195.length co23 : Value).ownBlock ∧ some k_ ≠ (.slice Ao24 t198.length co24 : Value).ownBlock ∧ some k_ ≠ (.slice Ao31 t239.length co31 : Value).ownBlock ∧ some k_ ≠ (.slice Ao39 t218.length co39 : Value).ownBlock ∧ some k_ ≠ (.slice Ao40 t221.length co40 : Value).ownBlock) (Kd.R_keptB (HO_214005.out) hkp (fun k_ hk_ hs_ => Or.elim hs_ (fun e_ => (hk_.2.2.2.1) e_) (fun e_ => (hk_.2.2.2.2) e_))) (fun k_ hk_ => ⟨hk_.1.1, hk_.1.2.1, hk_.1.2.2.1, hk_.1.2.2.2.1, hk_.1.2.2.2.2⟩)); have n4_ := Aside0.mk (Kd.R_reok rfl hy0 (fun k_ e_ => HO_226004.out.1 k_ e_)); have n5_ := Aside0.mk (Kd.R_reok rfl hy1 (fun k_ e_ => HO_226005.out.1 k_ e_)); have n6_ := Aside0.mk (blk_kept (by (with_reducible repeat (first | refine blk_drewN ?_ _ | refine blk_drew ?_ | refine blk_alloc ?_ _)); exact BK179.out) hkp (fun hs_ => Or.elim hs_ (fun e_ => (fun e_ => (Kd.R_ne HO_226004.out BK179.out (by decide)) e_) e_) (fun e_ => (fun e_ => (Kd.R_ne HO_226005.out BK179.out (by decide)) e_) e_))); have n7_ := Aside0.mk (blk_kept (by (with_reducible repeat (first | refine blk_drewN ?_ _ | refine blk_drew ?_ | refine blk_alloc ?_ _)); exact BK202.out) hkp (fun hs_ => Or.elim hs_ (fun e_ => (fun e_ => (Kd.R_ne HO_226004.out BK202.out (by decide)) e_) e_) (fun e_ => (fun e_ => (Kd.R_ne HO_226005.out BK202.out (by decide)) e_) e_))); have n8_ := Aside0.mk (blk_kept (by (with_reducible repeat (first | refine blk_drewN ?_ _ | refine blk_drew ?_ | refine blk_alloc ?_ _)); exact BK213.out) hkp (fun hs_ => Or.elim hs_ (fun e_ => (fun e_ => (Kd.R_ne HO_226004.out BK213.out (by decide)) e_) e_) (fun e_ => (fun e_ => (Kd.R_ne HO_226005.out BK213.out (by decide)) e_) e_))); have n9_ := Aside0.mk (blk_kept (by (with_reducible repeat (first | refine blk_drewN ?_ _ | refine blk_drew ?_ | refine blk_alloc ?_ _)); exact BK225.out) hkp (fun hs_ => Or.elim hs_ (fun e_ => (fun e_ => (Kd.R_ne HO_226004.out BK225.out (by decide)) e_) e_) (fun e_ => (fun e_ => (Kd.R_ne HO_226005.out BK225.out (by decide)) e_) e_))); have n10_ := Aside0.mk (hb); clear HO_203004; clear HO_203005; clear HO_214004; clear HO_214005; clear HO_226004; clear HO_226005; clear BK179; clear BK202; clear BK213; clear BK225; clear HB; have HO_203004 := n0_; have HO_203005 := n1_; have HO_214004 := n2_; have HO_214005 := n3_; have HO_226004 := n4_; have HO_226005 := n5_; have BK179 := n6_; have BK202 := n7_; have BK213 := n8_; have BK225 := n9_; have HB := n10_; clear n0_ n1_ n2_ n3_ n4_ n5_ n6_ n7_ n8_ n9_ n10_; (try clear hb); (try clear hkp); (try clear hy0); (try clear hy1); have hcz91_0 : w90.cell? ⟨gb225, 0, none⟩ = some (.int .i64 t214) := (blk_cell BK225.out 0).trans rfl; have hcz91_1 : w90.cell? ⟨gb225, 1, none⟩ = some (.int .i64 t215) := (blk_cell BK225.out 1).trans rfl; have hcz91_2 : w90.cell? ⟨gb225, 2, none⟩ = some (.int .i64 t216) := (blk_cell BK225.out 2).trans rfl; have hcz91_3 : w90.cell? ⟨gb225, 3, none⟩ = some (.int .i64 t217) := (blk_cell BK225.out 3).trans rfl; have hcz91_4 : w90.cell? ⟨gb225, 4, none⟩ = some (.slice Ao39 t218.length co39) := (blk_cell BK225.out 4).trans rfl; have hcz91_5 : w90.cell? ⟨gb225, 5, none⟩ = some (.slice Ao40 t221.length co40) := (blk_cell BK225.out 5).trans rfl; have hfz91_0 := blk_frozen BK225.out 0; have hfz91_1 := blk_frozen BK225.out 1; have hfz91_2 := blk_frozen BK225.out 2; have hfz91_3 := blk_frozen BK225.out 3; have hfz91_4 := blk_frozen BK225.out 4; have hfz91_5 := blk_frozen BK225.out 5) | ((with_reducible refine gate_callee (f := 29) rfl ?_); refine goesL_ (some 67) rfl rfl Try.func29 (by kernel_rfl) rfl #[.agg #[.int .i64 t214, .int .i64 t215, .int .i64 t216, .int .i64 t217, .slice Ao39 t243.length co39, .slice Ao40 t244.length co40], .int .i64 1] rfl (by (try simp only [List.map_toArray, List.map_cons, List.map_nil]); first | done | (rw [show t243.length = t218.length from (Kd.R_reads' HO_226004.out).1.symm, show t244.length = t221.length from (Kd.R_reads' HO_226005.out).1.symm] <;> rfl) | rfl | (simp only [List.length_drop, List.length_take]; rfl)) ?_; (with_reducible refine (laws_heldImage.calls kj55 t214 t215 t216 t217 _ _ t243 _ _ t244 1 t245 _ ?side1 ?side2 ?side3 ?side4 A80.out).mono ?_); (case side1 => repeat (first | exact (Kd.R_reads' HO_226004.out).2.2 | (with_reducible refine Kd.C_alloc ?_ _) | (with_reducible refine Kd.C_drewN ?_ _) | (with_reducible refine Kd.C_drew ?_))); (case side2 => rw [show t243.length = t218.length from (Kd.R_reads' HO_226004.out).1.symm]; exact (Kd.R_reads' HO_226004.out).2.1); (case side3 => repeat (first | exact (Kd.R_reads' HO_226005.out).2.2 | (with_reducible refine Kd.C_alloc ?_ _) | (with_reducible refine Kd.C_drewN ?_ _) | (with_reducible refine Kd.C_drew ?_))); (case side4 => rw [show t244.length = t221.length from (Kd.R_reads' HO_226005.out).1.symm]; exact (Kd.R_reads' HO_226005.out).2.1); rintro e w92 ⟨rfl, hb⟩; refine ⟨_, rfl, ?_⟩; have n0_ := Aside0.mk (Kd.R_below (by (with_reducible repeat (first | apply Kd.R_alloc | apply Kd.R_drewN | apply Kd.R_drew)); exact HO_203004.out) hb); have n1_ := Aside0.mk (Kd.R_below (by (with_reducible repeat (first | apply Kd.R_alloc | apply Kd.R_drewN | apply Kd.R_drew)); exact HO_203005.out) hb); have n2_ := Aside0.mk (Kd.R_below (by (with_reducible repeat (first | apply Kd.R_alloc | apply Kd.R_drewN | apply Kd.R_drew)); exact HO_214004.out) hb); have n3_ := Aside0.mk (Kd.R_below (by (with_reducible repeat (first | apply Kd.R_alloc | apply Kd.R_drewN | apply Kd.R_drew)); exact HO_214005.out) hb); have n4_ := Aside0.mk (Kd.R_below (by (with_reducible repeat (first | apply Kd.R_alloc | apply Kd.R_drewN | apply Kd.R_drew)); exact HO_226004.out) hb); have n5_ := Aside0.mk (Kd.R_below (by (with_reducible repeat (first | apply Kd.R_alloc | apply Kd.R_drewN | apply Kd.R_drew)); exact HO_226005.out) hb); have n6_ := Aside0.mk (blk_below (g := gb179) (o := .cells #[.int .i64 a0_0, .int .i64 a0_1, .int .i64 a0_2, .int .i64 a0_3, .slice A0_4 l0_4.length c0_4, .slice A0_5 l0_5.length c0_5] 24 (0, 0)) (by (with_reducible repeat (first | refine blk_drewN ?_ _ | refine blk_drew ?_ | refine blk_alloc ?_ _)); exact BK179.out) hb); have n7_ := Aside0.mk (blk_below (g := gb202) (o := .cells #[.int .i64 t191, .int .i64 t192, .int .i64 t193, .int .i64 t194, .slice Ao23 t195.length co23, .slice Ao24 t198.length co24] 27 (0, 0)) (by (with_reducible repeat (first | refine blk_drewN ?_ _ | refine blk_drew ?_ | refine blk_alloc ?_ _)); exact BK202.out) hb); have n8_ := Aside0.mk (blk_below (g := gb213) (o := .cells #[.int .i64 t203, .int .i64 t204, .int .i64 t205, .int .i64 t206, .slice Ao31 t239.length co31, .slice Ao32 t240.length co32] 27 (0, 0)) (by (with_reducible repeat (first | refine blk_drewN ?_ _ | refine blk_drew ?_ | refine blk_alloc ?_ _)); exact BK213.out) hb); have n9_ := Aside0.mk (blk_below (g := gb225) (o := .cells #[.int .i64 t214, .int .i64 t215, .int .i64 t216, .int .i64 t217, .slice Ao39 t218.length co39, .slice Ao40 t221.length co40] 27 (0, 0)) (by (with_reducible repeat (first | refine blk_drewN ?_ _ | refine blk_drew ?_ | refine blk_alloc ?_ _)); exact BK225.out) hb); have n10_ := Aside0.mk (below_step (by repeat (first | (with_reducible first | exact HB.out | apply below_alloc | apply pw_below_drewN | apply below_drew1 | refine below_set ?_ GE179.out | refine below_set ?_ GE202.out | refine below_set ?_ GE213.out | refine below_set ?_ GE225.out) | exact HB.out)) hb); clear HO_203004; clear HO_203005; clear HO_214004; clear HO_214005; clear HO_226004; clear HO_226005; clear BK179; clear BK202; clear BK213; clear BK225; clear HB; have HO_203004 := n0_; have HO_203005 := n1_; have HO_214004 := n2_; have HO_214005 := n3_; have HO_226004 := n4_; have HO_226005 := n5_; have BK179 := n6_; have BK202 := n7_; have BK213 := n8_; have BK225 := n9_; have HB := n10_; clear n0_ n1_ n2_ n3_ n4_ n5_ n6_ n7_ n8_ n9_ n10_; (try clear hb); (try clear hb2); (try clear hk); (try clear hi); have hnb93 := NB179_202.out; have hnc93 := NB202_179.out; have hnb94 := NB179_213.out; have hnc94 := NB213_179.out; have hcz95_0 : w92.cell? ⟨gb179, 0, none⟩ = some (.int .i64 a0_0) := (blk_cell BK179.out 0).trans rfl; have hcz95_1 : w92.cell? ⟨gb179, 1, none⟩ = some (.int .i64 a0_1) := (blk_cell BK179.out 1).trans rfl; have hcz95_2 : w92.cell? ⟨gb179, 2, none⟩ = some (.int .i64 a0_2) := (blk_cell BK179.out 2).trans rfl; have hcz95_3 : w92.cell? ⟨gb179, 3, none⟩ = some (.int .i64 a0_3) := (blk_cell BK179.out 3).trans rfl; have hcz95_4 : w92.cell? ⟨gb179, 4, none⟩ = some (.slice A0_4 l0_4.length c0_4) := (blk_cell BK179.out 4).trans rfl; have hcz95_5 : w92.cell? ⟨gb179, 5, none⟩ = some (.slice A0_5 l0_5.length c0_5) := (blk_cell BK179.out 5).trans rfl; have hfz95_0 := blk_frozen BK179.out 0; have hfz95_1 := blk_frozen BK179.out 1; have hfz95_2 := blk_frozen BK179.out 2; have hfz95_3 := blk_frozen BK179.out 3; have hfz95_4 := blk_frozen BK179.out 4; have hfz95_5 := blk_frozen BK179.out 5) | ((with_reducible refine gate_callee (f := 17) rfl ?_); refine goesL_ (some 75) rfl rfl Try.func17 (by kernel_rfl) rfl #[.agg #[.int .i64 a0_0, .int .i64 a0_1, .int .i64 a0_2, .int .i64 a0_3, .slice A0_4 l0_4.length c0_4, .slice A0_5 l0_5.length c0_5]] rfl (by (try simp only [List.map_toArray, List.map_cons, List.map_nil]); first | done | rfl | (simp only [List.length_drop, List.length_take]; rfl)) ?_; (with_reducible refine (laws_toImage.calls kj55 a0_0 a0_1 a0_2 a0_3 _ _ l0_4 _ _ l0_5 t246 t247 t248 t249 t250 t253 _ ?side1 ?side2 ?side3 ?side4 A83.out).mono ?_); (case side1 => repeat (first | exact (Kd.C_below HR0_4.out HB.out) | (with_reducible refine Kd.C_alloc ?_ _) | (with_reducible refine Kd.C_drewN ?_ _) | (with_reducible refine Kd.C_drew ?_))); (case side2 => exact HC0_4.out); (case side3 => repeat (first | exact (Kd.C_below HR0_5.out HB.out) | (with_reducible refine Kd.C_alloc ?_ _) | (with_reducible refine Kd.C_drewN ?_ _) | (with_reducible refine Kd.C_drew ?_))); (case side4 => exact HC0_5.out); rintro e w96 ⟨v251, v254, rfl, ho0, ho1, hb⟩; refine ⟨_, rfl, ?_⟩; have n0_ := Aside0.mk (Kd.R_mono (Kd.R_told (Kd.R_told (Kd.R_old (by (with_reducible repeat (first | apply Kd.R_alloc | apply Kd.R_drewN | apply Kd.R_drew)); exact HO_203004.out) hb) (Kd.R_base ho0)) (Kd.R_base ho1)) (fun _ h_ => h_.1)); have n1_ := Aside0.mk (Kd.R_mono (Kd.R_told (Kd.R_told (Kd.R_old (by (with_reducible repeat (first | apply Kd.R_alloc | apply Kd.R_drewN | apply Kd.R_drew)); exact HO_203005.out) hb) (Kd.R_base ho0)) (Kd.R_base ho1)) (fun _ h_ => h_.1)); have n2_ := Aside0.mk (Kd.R_mono (Kd.R_told (Kd.R_told (Kd.R_old (by (with_reducible repeat (first | apply Kd.R_alloc | apply Kd.R_drewN | apply Kd.R_drew)); exact HO_214004.out) hb) (Kd.R_base ho0)) (Kd.R_base ho1)) (fun _ h_ => h_.1)); have n3_ := Aside0.mk (Kd.R_mono (Kd.R_told (Kd.R_told (Kd.R_old (by (with_reducible repeat (first | apply Kd.R_alloc | apply Kd.R_drewN | apply Kd.R_drew)); exact HO_214005.out) hb) (Kd.R_base ho0)) (Kd.R_base ho1)) (fun _ h_ => h_.1)); have n4_ := Aside0.mk (Kd.R_mono (Kd.R_told (Kd.R_told (Kd.R_old (by (with_reducible repeat (first | apply Kd.R_alloc | apply Kd.R_drewN | apply Kd.R_drew)); exact HO_226004.out) hb) (Kd.R_base ho0)) (Kd.R_base ho1)) (fun _ h_ => h_.1)); have n5_ := Aside0.mk (Kd.R_mono (Kd.R_told (Kd.R_told (Kd.R_old (by (with_reducible repeat (first | apply Kd.R_alloc | apply Kd.R_drewN | apply Kd.R_drew)); exact HO_226005.out) hb) (Kd.R_base ho0)) (Kd.R_base ho1)) (fun _ h_ => h_.1)); have n6_ := Aside0.mk (Kd.R_lower (Kd.R_new' (Kd.R_new' (Kd.R_new' (Kd.R_new' (Kd.R_new' (Kd.R_new' ho0 (Kd.R_lt (by (with_reducible repeat (first | apply Kd.R_alloc | apply Kd.R_drewN | apply Kd.R_drew)); exact HO_203004.out))) (Kd.R_lt (by (with_reducible repeat (first | apply Kd.R_alloc | apply Kd.R_drewN | apply Kd.R_drew)); exact HO_203005.out))) (Kd.R_lt (by (with_reducible repeat (first | apply Kd.R_alloc | apply Kd.R_drewN | apply Kd.R_drew)); exact HO_214004.out))) (Kd.R_lt (by (with_reducible repeat (first | apply Kd.R_alloc | apply Kd.R_drewN | apply Kd.R_drew)); exact HO_214005.out))) (Kd.R_lt (by (with_reducible repeat (first | apply Kd.R_alloc | apply Kd.R_drewN | apply Kd.R_drew)); exact HO_226004.out))) (Kd.R_lt (by (with_reducible repeat (first | apply Kd.R_alloc | apply Kd.R_drewN | apply Kd.R_drew)); exact HO_226005.out))) (below_size (by repeat (first | (with_reducible first | exact HB.out | apply below_alloc | apply pw_below_drewN | apply below_drew1 | refine below_set ?_ GE179.out | refine below_set ?_ GE202.out | refine below_set ?_ GE213.out | refine below_set ?_ GE225.out) | exact HB.out)))); have n7_ := Aside0.mk (Kd.R_lower (Kd.R_new' (Kd.R_new' (Kd.R_new' (Kd.R_new' (Kd.R_new' (Kd.R_new' ho1 (Kd.R_lt (by (with_reducible repeat (first | apply Kd.R_alloc | apply Kd.R_drewN | apply Kd.R_drew)); exact HO_203004.out))) (Kd.R_lt (by (with_reducible repeat (first | apply Kd.R_alloc | apply Kd.R_drewN | apply Kd.R_drew)); exact HO_203005.out))) (Kd.R_lt (by (with_reducible repeat (first | apply Kd.R_alloc | apply Kd.R_drewN | apply Kd.R_drew)); exact HO_214004.out))) (Kd.R_lt (by (with_reducible repeat (first | apply Kd.R_alloc | apply Kd.R_drewN | apply Kd.R_drew)); exact HO_214005.out))) (Kd.R_lt (by (with_reducible repeat (first | apply Kd.R_alloc | apply Kd.R_drewN | apply Kd.R_drew)); exact HO_226004.out))) (Kd.R_lt (by (with_reducible repeat (first | apply Kd.R_alloc | apply Kd.R_drewN | apply Kd.R_drew)); exact HO_226005.out))) (below_size (by repeat (first | (with_reducible first | exact HB.out | apply below_alloc | apply pw_below_drewN | apply below_drew1 | refine below_set ?_ GE179.out | refine below_set ?_ GE202.out | refine below_set ?_ GE213.out | refine below_set ?_ GE225.out) | exact HB.out)))); have n8_ := Aside0.mk (blk_below (g := gb179) (o := .cells #[.int .i64 a0_0, .int .i64 a0_1, .int .i64 a0_2, .int .i64 a0_3, .slice A0_4 l0_4.length c0_4, .slice A0_5 l0_5.length c0_5] 24 (0, 0)) (by (with_reducible repeat (first | refine blk_drewN ?_ _ | refine blk_drew ?_ | refine blk_alloc ?_ _)); exact BK179.out) hb); have n9_ := Aside0.mk (blk_below (g := gb202) (o := .cells #[.int .i64 t191, .int .i64 t192, .int .i64 t193, .int .i64 t194, .slice Ao23 t195.length co23, .slice Ao24 t198.length co24] 27 (0, 0)) (by (with_reducible repeat (first | refine blk_drewN ?_ _ | refine blk_drew ?_ | refine blk_alloc ?_ _)); exact BK202.out) hb); have n10_ := Aside0.mk (blk_below (g := gb213) (o := .cells #[.int .i64 t203, .int .i64 t204, .int .i64 t205, .int .i64 t206, .slice Ao31 t239.length co31, .slice Ao32 t240.length co32] 27 (0, 0)) (by (with_reducible repeat (first | refine blk_drewN ?_ _ | refine blk_drew ?_ | refine blk_alloc ?_ _)); exact BK213.out) hb); have n11_ := Aside0.mk (blk_below (g := gb225) (o := .cells #[.int .i64 t214, .int .i64 t215, .int .i64 t216, .int .i64 t217, .slice Ao39 t218.length co39, .slice Ao40 t221.length co40] 27 (0, 0)) (by (with_reducible repeat (first | refine blk_drewN ?_ _ | refine blk_drew ?_ | refine blk_alloc ?_ _)); exact BK225.out) hb); have n12_ := Aside0.mk (below_step (by repeat (first | (with_reducible first | exact HB.out | apply below_alloc | apply pw_below_drewN | apply below_drew1 | refine below_set ?_ GE179.out | refine below_set ?_ GE202.out | refine below_set ?_ GE213.out | refine below_set ?_ GE225.out) | exact HB.out)) hb); clear HO_203004; clear HO_203005; clear HO_214004; clear HO_214005; clear HO_226004; clear HO_226005; clear BK179; clear BK202; clear BK213; clear BK225; clear HB; have HO_203004 := n0_; have HO_203005 := n1_; have HO_214004 := n2_; have HO_214005 := n3_; have HO_226004 := n4_; have HO_226005 := n5_; have HO252 := n6_; have HO255 := n7_; have BK179 := n8_; have BK202 := n9_; have BK213 := n10_; have BK225 := n11_; have HB := n12_; clear n0_ n1_ n2_ n3_ n4_ n5_ n6_ n7_ n8_ n9_ n10_ n11_ n12_; (try clear hb); (try clear hb2); (try clear hk); (try clear hi); (try clear ho0); (try clear ho1); obtain ⟨Ao97, co97, eo97⟩ := Kd.R_slice HO252.out; subst eo97; obtain ⟨Ao98, co98, eo98⟩ := Kd.R_slice HO255.out; subst eo98) | ((with_reducible refine gate_callee (f := 35) rfl ?_); refine goesL_ (some 76) rfl rfl Try.func35 (by kernel_rfl) rfl #[.agg #[.int .i64 t246, .int .i64 t247, .int .i64 t248, .int .i64 t249, .slice Ao97 t250.length co97, .slice Ao98 t253.length co98]] rfl (by (try simp only [List.map_toArray, List.map_cons, List.map_nil]); first | done | rfl | (simp only [List.length_drop, List.length_take]; rfl)) ?_; (with_reducible refine (impl_ImageRgb.calls kj55 t246 t247 t248 t249 _ _ t250 _ _ t253 t256 t257 t258 t259 t260 t263 t266 _ ?side1 ?side2 ?side3 ?side4 A84.out).mono ?_); (case side1 => repeat (first | exact (Kd.R_reads' HO252.out).2.2 | (with_reducible refine Kd.C_alloc ?_ _) | (with_reducible refine Kd.C_drewN ?_ _) | (with_reducible refine Kd.C_drew ?_))); (case side2 => exact (Kd.R_reads' HO252.out).2.1); (case side3 => repeat (first | exact (Kd.R_reads' HO255.out).2.2 | (with_reducible refine Kd.C_alloc ?_ _) | (with_reducible refine Kd.C_drewN ?_ _) | (with_reducible refine Kd.C_drew ?_))); (case side4 => exact (Kd.R_reads' HO255.out).2.1); rintro e w99 ⟨v261, v264, rfl, ho0, ho1, hb⟩; refine ⟨_, rfl, ?_⟩; have n0_ := Aside0.mk (Kd.R_mono (Kd.R_told (Kd.R_told (Kd.R_old (by (with_reducible repeat (first | apply Kd.R_alloc | apply Kd.R_drewN | apply Kd.R_drew)); exact HO_203004.out) hb) (Kd.R_base ho0)) (Kd.R_base ho1)) (fun _ h_ => h_.1)); have n1_ := Aside0.mk (Kd.R_mono (Kd.R_told (Kd.R_told (Kd.R_old (by (with_reducible repeat (first | apply Kd.R_alloc | apply Kd.R_drewN | apply Kd.R_drew)); exact HO_203005.out) hb) (Kd.R_base ho0)) (Kd.R_base ho1)) (fun _ h_ => h_.1)); have n2_ := Aside0.mk (Kd.R_mono (Kd.R_told (Kd.R_told (Kd.R_old (by (with_reducible repeat (first | apply Kd.R_alloc | apply Kd.R_drewN | apply Kd.R_drew)); exact HO_214004.out) hb) (Kd.R_base ho0)) (Kd.R_base ho1)) (fun _ h_ => h_.1)); have n3_ := Aside0.mk (Kd.R_mono (Kd.R_told (Kd.R_told (Kd.R_old (by (with_reducible repeat (first | apply Kd.R_alloc | apply Kd.R_drewN | apply Kd.R_drew)); exact HO_214005.out) hb) (Kd.R_base ho0)) (Kd.R_base ho1)) (fun _ h_ => h_.1)); have n4_ := Aside0.mk (Kd.R_mono (Kd.R_told (Kd.R_told (Kd.R_old (by (with_reducible repeat (first | apply Kd.R_alloc | apply Kd.R_drewN | apply Kd.R_drew)); exact HO_226004.out) hb) (Kd.R_base ho0)) (Kd.R_base ho1)) (fun _ h_ => h_.1)); have n5_ := Aside0.mk (Kd.R_mono (Kd.R_told (Kd.R_told (Kd.R_old (by (with_reducible repeat (first | apply Kd.R_alloc | apply Kd.R_drewN | apply Kd.R_drew)); exact HO_226005.out) hb) (Kd.R_base ho0)) (Kd.R_base ho1)) (fun _ h_ => h_.1)); have n6_ := Aside0.mk (Kd.R_mono (Kd.R_told (Kd.R_told (Kd.R_old (by (with_reducible repeat (first | apply Kd.R_alloc | apply Kd.R_drewN | apply Kd.R_drew)); exact HO252.out) hb) (Kd.R_base ho0)) (Kd.R_base ho1)) (fun _ h_ => h_.1)); have n7_ := Aside0.mk (Kd.R_mono (Kd.R_told (Kd.R_told (Kd.R_old (by (with_reducible repeat (first | apply Kd.R_alloc | apply Kd.R_drewN | apply Kd.R_drew)); exact HO255.out) hb) (Kd.R_base ho0)) (Kd.R_base ho1)) (fun _ h_ => h_.1)); have n8_ := Aside0.mk (Kd.R_lower (Kd.R_new' (Kd.R_new' (Kd.R_new' (Kd.R_new' (Kd.R_new' (Kd.R_new' (Kd.R_new' (Kd.R_new' ho0 (Kd.R_lt (by (with_reducible repeat (first | apply Kd.R_alloc | apply Kd.R_drewN | apply Kd.R_drew)); exact HO_203004.out))) (Kd.R_lt (by (with_reducible repeat (first | apply Kd.R_alloc | apply Kd.R_drewN | apply Kd.R_drew)); exact HO_203005.out))) (Kd.R_lt (by (with_reducible repeat (first | apply Kd.R_alloc | apply Kd.R_drewN | apply Kd.R_drew)); exact HO_214004.out))) (Kd.R_lt (by (with_reducible repeat (first | apply Kd.R_alloc | apply Kd.R_drewN | apply Kd.R_drew)); exact HO_214005.out))) (Kd.R_lt (by (with_reducible repeat (first | apply Kd.R_alloc | apply Kd.R_drewN | apply Kd.R_drew)); exact HO_226004.out))) (Kd.R_lt (by (with_reducible repeat (first | apply Kd.R_alloc | apply Kd.R_drewN | apply Kd.R_drew)); exact HO_226005.out))) (Kd.R_lt (by (with_reducible repeat (first | apply Kd.R_alloc | apply Kd.R_drewN | apply Kd.R_drew)); exact HO252.out))) (Kd.R_lt (by (with_reducible repeat (first | apply Kd.R_alloc | apply Kd.R_drewN | apply Kd.R_drew)); exact HO255.out))) (below_size (by repeat (first | (with_reducible first | exact HB.out | apply below_alloc | apply pw_below_drewN | apply below_drew1 | refine below_set ?_ GE179.out | refine below_set ?_ GE202.out | refine below_set ?_ GE213.out | refine below_set ?_ GE225.out) | exact HB.out)))); have n9_ := Aside0.mk (Kd.R_lower (Kd.R_new' (Kd.R_new' (Kd.R_new' (Kd.R_new' (Kd.R_new' (Kd.R_new' (Kd.R_new' (Kd.R_new' ho1 (Kd.R_lt (by (with_reducible repeat (first | apply Kd.R_alloc | apply Kd.R_drewN | apply Kd.R_drew)); exact HO_203004.out))) (Kd.R_lt (by (with_reducible repeat (first | apply Kd.R_alloc | apply Kd.R_drewN | apply Kd.R_drew)); exact HO_203005.out))) (Kd.R_lt (by (with_reducible repeat (first | apply Kd.R_alloc | apply Kd.R_drewN | apply Kd.R_drew)); exact HO_214004.out))) (Kd.R_lt (by (with_reducible repeat (first | apply Kd.R_alloc | apply Kd.R_drewN | apply Kd.R_drew)); exact HO_214005.out))) (Kd.R_lt (by (with_reducible repeat (first | apply Kd.R_alloc | apply Kd.R_drewN | apply Kd.R_drew)); exact HO_226004.out))) (Kd.R_lt (by (with_reducible repeat (first | apply Kd.R_alloc | apply Kd.R_drewN | apply Kd.R_drew)); exact HO_226005.out))) (Kd.R_lt (by (with_reducible repeat (first | apply Kd.R_alloc | apply Kd.R_drewN | apply Kd.R_drew)); exact HO252.out))) (Kd.R_lt (by (with_reducible repeat (first | apply Kd.R_alloc | apply Kd.R_drewN | apply Kd.R_drew)); exact HO255.out))) (below_size (by repeat (first | (with_reducible first | exact HB.out | apply below_alloc | apply pw_below_drewN | apply below_drew1 | refine below_set ?_ GE179.out | refine below_set ?_ GE202.out | refine below_set ?_ GE213.out | refine below_set ?_ GE225.out) | exact HB.out)))); have n10_ := Aside0.mk (blk_below (g := gb179) (o := .cells #[.int .i64 a0_0, .int .i64 a0_1, .int .i64 a0_2, .int .i64 a0_3, .slice A0_4 l0_4.length c0_4, .slice A0_5 l0_5.length c0_5] 24 (0, 0)) (by (with_reducible repeat (first | refine blk_drewN ?_ _ | refine blk_drew ?_ | refine blk_alloc ?_ _)); exact BK179.out) hb); have n11_ := Aside0.mk (blk_below (g := gb202) (o := .cells #[.int .i64 t191, .int .i64 t192, .int .i64 t193, .int .i64 t194, .slice Ao23 t195.length co23, .slice Ao24 t198.length co24] 27 (0, 0)) (by (with_reducible repeat (first | refine blk_drewN ?_ _ | refine blk_drew ?_ | refine blk_alloc ?_ _)); exact BK202.out) hb); have n12_ := Aside0.mk (blk_below (g := gb213) (o := .cells #[.int .i64 t203, .int .i64 t204, .int .i64 t205, .int .i64 t206, .slice Ao31 t239.length co31, .slice Ao32 t240.length co32] 27 (0, 0)) (by (with_reducible repeat (first | refine blk_drewN ?_ _ | refine blk_drew ?_ | refine blk_alloc ?_ _)); exact BK213.out) hb); have n13_ := Aside0.mk (blk_below (g := gb225) (o := .cells #[.int .i64 t214, .int .i64 t215, .int .i64 t216, .int .i64 t217, .slice Ao39 t218.length co39, .slice Ao40 t221.length co40] 27 (0, 0)) (by (with_reducible repeat (first | refine blk_drewN ?_ _ | refine blk_drew ?_ | refine blk_alloc ?_ _)); exact BK225.out) hb); have n14_ := Aside0.mk (below_step (by repeat (first | (with_reducible first | exact HB.out | apply below_alloc | apply pw_below_drewN | apply below_drew1 | refine below_set ?_ GE179.out | refine below_set ?_ GE202.out | refine below_set ?_ GE213.out | refine below_set ?_ GE225.out) | exact HB.out)) hb); clear HO_203004; clear HO_203005; clear HO_214004; clear HO_214005; clear HO_226004; clear HO_226005; clear HO252; clear HO255; clear BK179; clear BK202; clear BK213; clear BK225; clear HB; have HO_203004 := n0_; have HO_203005 := n1_; have HO_214004 := n2_; have HO_214005 := n3_; have HO_226004 := n4_; have HO_226005 := n5_; have HO252 := n6_; have HO255 := n7_; have HO262 := n8_; have HO265 := n9_; have BK179 := n10_; have BK202 := n11_; have BK213 := n12_; have BK225 := n13_; have HB := n14_; clear n0_ n1_ n2_ n3_ n4_ n5_ n6_ n7_ n8_ n9_ n10_ n11_ n12_ n13_ n14_; (try clear hb); (try clear hb2); (try clear hk); (try clear hi); (try clear ho0); (try clear ho1)) | ((with_reducible refine gate_dst (N := 12) rfl ?_); refine box_event ?hg (N := 12) ?hd (cs := #[.int .i64 0, .int .i64 0, .int .i64 0, .int .i64 0, .slice none 0 0, .slice none 0 0]) (t := 27) ?hr ?_; (case hd => rfl); (case hg => rfl); (case hr => first | (go_simp; done) | (go_simp; rfl)); intro gb267 hg w100 hbox hb; have n0_ := Aside0.mk (Kd.R_below (by (with_reducible repeat (first | apply Kd.R_alloc | apply Kd.R_drewN | apply Kd.R_drew)); exact HO_203004.out) hb); have n1_ := Aside0.mk (Kd.R_below (by (with_reducible repeat (first | apply Kd.R_alloc | apply Kd.R_drewN | apply Kd.R_drew)); exact HO_203005.out) hb); have n2_ := Aside0.mk (Kd.R_below (by (with_reducible repeat (first | apply Kd.R_alloc | apply Kd.R_drewN | apply Kd.R_drew)); exact HO_214004.out) hb); have n3_ := Aside0.mk (Kd.R_below (by (with_reducible repeat (first | apply Kd.R_alloc | apply Kd.R_drewN | apply Kd.R_drew)); exact HO_214005.out) hb); have n4_ := Aside0.mk (Kd.R_below (by (with_reducible repeat (first | apply Kd.R_alloc | apply Kd.R_drewN | apply Kd.R_drew)); exact HO_226004.out) hb); have n5_ := Aside0.mk (Kd.R_below (by (with_reducible repeat (first | apply Kd.R_alloc | apply Kd.R_drewN | apply Kd.R_drew)); exact HO_226005.out) hb); have n6_ := Aside0.mk (Kd.R_below (by (with_reducible repeat (first | apply Kd.R_alloc | apply Kd.R_drewN | apply Kd.R_drew)); exact HO252.out) hb); have n7_ := Aside0.mk (Kd.R_below (by (with_reducible repeat (first | apply Kd.R_alloc | apply Kd.R_drewN | apply Kd.R_drew)); exact HO255.out) hb); have n8_ := Aside0.mk (Kd.R_below (by (with_reducible repeat (first | apply Kd.R_alloc | apply Kd.R_drewN | apply Kd.R_drew)); exact HO262.out) hb); have n9_ := Aside0.mk (Kd.R_below (by (with_reducible repeat (first | apply Kd.R_alloc | apply Kd.R_drewN | apply Kd.R_drew)); exact HO265.out) hb); have n10_ := Aside0.mk (blk_below (g := gb179) (o := .cells #[.int .i64 a0_0, .int .i64 a0_1, .int .i64 a0_2, .int .i64 a0_3, .slice A0_4 l0_4.length c0_4, .slice A0_5 l0_5.length c0_5] 24 (0, 0)) (by (with_reducible repeat (first | refine blk_drewN ?_ _ | refine blk_drew ?_ | refine blk_alloc ?_ _)); exact BK179.out) hb); have n11_ := Aside0.mk (blk_below (g := gb202) (o := .cells #[.int .i64 t191, .int .i64 t192, .int .i64 t193, .int .i64 t194, .slice Ao23 t195.length co23, .slice Ao24 t198.length co24] 27 (0, 0)) (by (with_reducible repeat (first | refine blk_drewN ?_ _ | refine blk_drew ?_ | refine blk_alloc ?_ _)); exact BK202.out) hb); have n12_ := Aside0.mk (blk_below (g := gb213) (o := .cells #[.int .i64 t203, .int .i64 t204, .int .i64 t205, .int .i64 t206, .slice Ao31 t239.length co31, .slice Ao32 t240.length co32] 27 (0, 0)) (by (with_reducible repeat (first | refine blk_drewN ?_ _ | refine blk_drew ?_ | refine blk_alloc ?_ _)); exact BK213.out) hb); have n13_ := Aside0.mk (blk_below (g := gb225) (o := .cells #[.int .i64 t214, .int .i64 t215, .int .i64 t216, .int .i64 t217, .slice Ao39 t218.length co39, .slice Ao40 t221.length co40] 27 (0, 0)) (by (with_reducible repeat (first | refine blk_drewN ?_ _ | refine blk_drew ?_ | refine blk_alloc ?_ _)); exact BK225.out) hb); have n14_ := Aside0.mk (below_step (by repeat (first | (with_reducible first | exact HB.out | apply below_alloc | apply pw_below_drewN | apply below_drew1 | refine below_set ?_ GE179.out | refine below_set ?_ GE202.out | refine below_set ?_ GE213.out | refine below_set ?_ GE225.out) | exact HB.out)) hb); have n15_ := Aside0.mk (hbox); have n16_ := Aside0.mk ((by rw [hg]; exact (below_size (by repeat (first | (with_reducible first | exact HB.out | apply below_alloc | apply pw_below_drewN | apply below_drew1 | refine below_set ?_ GE179.out | refine below_set ?_ GE202.out | refine below_set ?_ GE213.out | refine below_set ?_ GE225.out) | exact HB.out))) : w.heap.size ≤ gb267)); have n17_ := Aside0.mk ((by rw [hg]; exact (below_size (by repeat (first | (with_reducible first | exact HB.out | apply below_alloc | apply pw_below_drewN | apply below_drew1 | refine below_set ?_ GE179.out | refine below_set ?_ GE202.out | refine below_set ?_ GE213.out | refine below_set ?_ GE225.out) | exact HB.out))) : w.heap.size ≤ gb267)); have n18_ := Aside0.mk ((by rw [hg]; exact Nat.ne_of_lt (blk_lt (g := gb179) (o := .cells #[.int .i64 a0_0, .int .i64 a0_1, .int .i64 a0_2, .int .i64 a0_3, .slice A0_4 l0_4.length c0_4, .slice A0_5 l0_5.length c0_5] 24 (0, 0)) (by (with_reducible repeat (first | refine blk_drewN ?_ _ | refine blk_drew ?_ | refine blk_alloc ?_ _)); exact BK179.out)) : gb179 ≠ gb267)); have n19_ := Aside0.mk ((by rw [hg]; exact Nat.ne_of_gt (blk_lt (g := gb179) (o := .cells #[.int .i64 a0_0, .int .i64 a0_1, .int .i64 a0_2, .int .i64 a0_3, .slice A0_4 l0_4.length c0_4, .slice A0_5 l0_5.length c0_5] 24 (0, 0)) (by (with_reducible repeat (first | refine blk_drewN ?_ _ | refine blk_drew ?_ | refine blk_alloc ?_ _)); exact BK179.out)) : gb267 ≠ gb179)); have n20_ := Aside0.mk ((by rw [hg]; exact Nat.ne_of_lt (blk_lt (g := gb202) (o := .cells #[.int .i64 t191, .int .i64 t192, .int .i64 t193, .int .i64 t194, .slice Ao23 t195.length co23, .slice Ao24 t198.length co24] 27 (0, 0)) (by (with_reducible repeat (first | refine blk_drewN ?_ _ | refine blk_drew ?_ | refine blk_alloc ?_ _)); exact BK202.out)) : gb202 ≠ gb267)); have n21_ := Aside0.mk ((by rw [hg]; exact Nat.ne_of_gt (blk_lt (g := gb202) (o := .cells #[.int .i64 t191, .int .i64 t192, .int .i64 t193, .int .i64 t194, .slice Ao23 t195.length co23, .slice Ao24 t198.length co24] 27 (0, 0)) (by (with_reducible repeat (first | refine blk_drewN ?_ _ | refine blk_drew ?_ | refine blk_alloc ?_ _)); exact BK202.out)) : gb267 ≠ gb202)); have n22_ := Aside0.mk ((by rw [hg]; exact Nat.ne_of_lt (blk_lt (g := gb213) (o := .cells #[.int .i64 t203, .int .i64 t204, .int .i64 t205, .int .i64 t206, .slice Ao31 t239.length co31, .slice Ao32 t240.length co32] 27 (0, 0)) (by (with_reducible repeat (first | refine blk_drewN ?_ _ | refine blk_drew ?_ | refine blk_alloc ?_ _)); exact BK213.out)) : gb213 ≠ gb267)); have n23_ := Aside0.mk ((by rw [hg]; exact Nat.ne_of_gt (blk_lt (g := gb213) (o := .cells #[.int .i64 t203, .int .i64 t204, .int .i64 t205, .int .i64 t206, .slice Ao31 t239.length co31, .slice Ao32 t240.length co32] 27 (0, 0)) (by (with_reducible repeat (first | refine blk_drewN ?_ _ | refine blk_drew ?_ | refine blk_alloc ?_ _)); exact BK213.out)) : gb267 ≠ gb213)); have n24_ := Aside0.mk ((by rw [hg]; exact Nat.ne_of_lt (blk_lt (g := gb225) (o := .cells #[.int .i64 t214, .int .i64 t215, .int .i64 t216, .int .i64 t217, .slice Ao39 t218.length co39, .slice Ao40 t221.length co40] 27 (0, 0)) (by (with_reducible repeat (first | refine blk_drewN ?_ _ | refine blk_drew ?_ | refine blk_alloc ?_ _)); exact BK225.out)) : gb225 ≠ gb267)); have n25_ := Aside0.mk ((by rw [hg]; exact Nat.ne_of_gt (blk_lt (g := gb225) (o := .cells #[.int .i64 t214, .int .i64 t215, .int .i64 t216, .int .i64 t217, .slice Ao39 t218.length co39, .slice Ao40 t221.length co40] 27 (0, 0)) (by (with_reducible repeat (first | refine blk_drewN ?_ _ | refine blk_drew ?_ | refine blk_alloc ?_ _)); exact BK225.out)) : gb267 ≠ gb225)); clear HO_203004; clear HO_203005; clear HO_214004; clear HO_214005; clear HO_226004; clear HO_226005; clear HO252; clear HO255; clear HO262; clear HO265; clear BK179; clear BK202; clear BK213; clear BK225; clear HB; have HO_203004 := n0_; have HO_203005 := n1_; have HO_214004 := n2_; have HO_214005 := n3_; have HO_226004 := n4_; have HO_226005 := n5_; have HO252 := n6_; have HO255 := n7_; have HO262 := n8_; have HO265 := n9_; have BK179 := n10_; have BK202 := n11_; have BK213 := n12_; have BK225 := n13_; have HB := n14_; have BK267 := n15_; have GW267 := n16_; have GE267 := n17_; have NB179_267 := n18_; have NB267_179 := n19_; have NB202_267 := n20_; have NB267_202 := n21_; have NB213_267 := n22_; have NB267_213 := n23_; have NB225_267 := n24_; have NB267_225 := n25_; clear n0_ n1_ n2_ n3_ n4_ n5_ n6_ n7_ n8_ n9_ n10_ n11_ n12_ n13_ n14_ n15_ n16_ n17_ n18_ n19_ n20_ n21_ n22_ n23_ n24_ n25_; clear hb hbox hg; have hnb101 := NB267_179.out; have hnc101 := NB179_267.out; have hnb102 := NB267_202.out; have hnc102 := NB202_267.out; have hnb103 := NB267_213.out; have hnc103 := NB213_267.out; have hnb104 := NB267_225.out; have hnc104 := NB225_267.out; have hcz105_0 : w100.cell? ⟨gb267, 0, none⟩ = some (.int .i64 0) := (blk_cell BK267.out 0).trans rfl; have hcz105_1 : w100.cell? ⟨gb267, 1, none⟩ = some (.int .i64 0) := (blk_cell BK267.out 1).trans rfl; have hcz105_2 : w100.cell? ⟨gb267, 2, none⟩ = some (.int .i64 0) := (blk_cell BK267.out 2).trans rfl; have hcz105_3 : w100.cell? ⟨gb267, 3, none⟩ = some (.int .i64 0) := (blk_cell BK267.out 3).trans rfl; have hcz105_4 : w100.cell? ⟨gb267, 4, none⟩ = some (.slice none 0 0) := (blk_cell BK267.out 4).trans rfl; have hcz105_5 : w100.cell? ⟨gb267, 5, none⟩ = some (.slice none 0 0) := (blk_cell BK267.out 5).trans rfl; have hfz105_0 := blk_frozen BK267.out 0; have hfz105_1 := blk_frozen BK267.out 1; have hfz105_2 := blk_frozen BK267.out 2; have hfz105_3 := blk_frozen BK267.out 3; have hfz105_4 := blk_frozen BK267.out 4; have hfz105_5 := blk_frozen BK267.out 5; obtain ⟨Ao106, co106, eo106⟩ := Kd.R_slice HO262.out; subst eo106; obtain ⟨Ao107, co107, eo107⟩ := Kd.R_slice HO265.out; subst eo107))
                      (try simp only [Act.put, List.setIfInBounds_toArray, List.set_cons_zero, List.set_cons_succ])
                      go_cut [87] (fun v87 wc => ∃ (kq : Nat) (x87_84 : Bool), v87 = .bool x87_84 ∧ Aside0 (laws_FnExactImageRgb.j2 kq t242 x87_84 t214 t215 t216 t217 t243 t244 = some true) ∧ Aside0 (kq ≤ kj55) ∧ Aside0 (Kd.R (Kd.int .i64) 3 wc w.heap.size (fun k_ => some k_ ≠ ((.slice Ao24 t198.length co24) : Value).ownBlock ∧ some k_ ≠ ((.slice Ao31 t239.length co31) : Value).ownBlock ∧ some k_ ≠ ((.slice Ao32 t240.length co32) : Value).ownBlock ∧ some k_ ≠ ((.slice Ao39 t218.length co39) : Value).ownBlock ∧ some k_ ≠ ((.slice Ao40 t221.length co40) : Value).ownBlock ∧ some k_ ≠ ((.slice Ao106 t260.length co106) : Value).ownBlock ∧ some k_ ≠ ((.slice Ao107 t263.length co107) : Value).ownBlock) (.slice Ao23 t195.length co23) t195) ∧ Aside0 (Kd.R (Kd.int .i64) 3 wc w.heap.size (fun k_ => some k_ ≠ ((.slice Ao23 t195.length co23) : Value).ownBlock ∧ some k_ ≠ ((.slice Ao31 t239.length co31) : Value).ownBlock ∧ some k_ ≠ ((.slice Ao32 t240.length co32) : Value).ownBlock ∧ some k_ ≠ ((.slice Ao39 t218.length co39) : Value).ownBlock ∧ some k_ ≠ ((.slice Ao40 t221.length co40) : Value).ownBlock ∧ some k_ ≠ ((.slice Ao106 t260.length co106) : Value).ownBlock ∧ some k_ ≠ ((.slice Ao107 t263.length co107) : Value).ownBlock) (.slice Ao24 t198.length co24) t198) ∧ Aside0 (Kd.R (Kd.int .i64) 3 wc w.heap.size (fun k_ => some k_ ≠ ((.slice Ao23 t195.length co23) : Value).ownBlock ∧ some k_ ≠ ((.slice Ao24 t198.length co24) : Value).ownBlock ∧ some k_ ≠ ((.slice Ao32 t240.length co32) : Value).ownBlock ∧ some k_ ≠ ((.slice Ao39 t218.length co39) : Value).ownBlock ∧ some k_ ≠ ((.slice Ao40 t221.length co40) : Value).ownBlock ∧ some k_ ≠ ((.slice Ao106 t260.length co106) : Value).ownBlock ∧ some k_ ≠ ((.slice Ao107 t263.length co107) : Value).ownBlock) (.slice Ao31 t239.length co31) t239) ∧ Aside0 (Kd.R (Kd.int .i64) 3 wc w.heap.size (fun k_ => some k_ ≠ ((.slice Ao23 t195.length co23) : Value).ownBlock ∧ some k_ ≠ ((.slice Ao24 t198.length co24) : Value).ownBlock ∧ some k_ ≠ ((.slice Ao31 t239.length co31) : Value).ownBlock ∧ some k_ ≠ ((.slice Ao39 t218.length co39) : Value).ownBlock ∧ some k_ ≠ ((.slice Ao40 t221.length co40) : Value).ownBlock ∧ some k_ ≠ ((.slice Ao106 t260.length co106) : Value).ownBlock ∧ some k_ ≠ ((.slice Ao107 t263.length co107) : Value).ownBlock) (.slice Ao32 t240.length co32) t240) ∧ Aside0 (Kd.R (Kd.int .i64) 3 wc w.heap.size (fun k_ => some k_ ≠ ((.slice Ao23 t195.length co23) : Value).ownBlock ∧ some k_ ≠ ((.slice Ao24 t198.length co24) : Value).ownBlock ∧ some k_ ≠ ((.slice Ao31 t239.length co31) : Value).ownBlock ∧ some k_ ≠ ((.slice Ao32 t240.length co32) : Value).ownBlock ∧ some k_ ≠ ((.slice Ao40 t221.length co40) : Value).ownBlock ∧ some k_ ≠ ((.slice Ao106 t260.length co106) : Value).ownBlock ∧ some k_ ≠ ((.slice Ao107 t263.length co107) : Value).ownBlock) (.slice Ao39 t218.length co39) t243) ∧ Aside0 (Kd.R (Kd.int .i64) 3 wc w.heap.size (fun k_ => some k_ ≠ ((.slice Ao23 t195.length co23) : Value).ownBlock ∧ some k_ ≠ ((.slice Ao24 t198.length co24) : Value).ownBlock ∧ some k_ ≠ ((.slice Ao31 t239.length co31) : Value).ownBlock ∧ some k_ ≠ ((.slice Ao32 t240.length co32) : Value).ownBlock ∧ some k_ ≠ ((.slice Ao39 t218.length co39) : Value).ownBlock ∧ some k_ ≠ ((.slice Ao106 t260.length co106) : Value).ownBlock ∧ some k_ ≠ ((.slice Ao107 t263.length co107) : Value).ownBlock) (.slice Ao40 t221.length co40) t244) ∧ Aside0 (Kd.R (Kd.int .i64) 3 wc w.heap.size (fun k_ => some k_ ≠ ((.slice Ao23 t195.length co23) : Value).ownBlock ∧ some k_ ≠ ((.slice Ao24 t198.length co24) : Value).ownBlock ∧ some k_ ≠ ((.slice Ao31 t239.length co31) : Value).ownBlock ∧ some k_ ≠ ((.slice Ao32 t240.length co32) : Value).ownBlock ∧ some k_ ≠ ((.slice Ao39 t218.length co39) : Value).ownBlock ∧ some k_ ≠ ((.slice Ao40 t221.length co40) : Value).ownBlock ∧ some k_ ≠ ((.slice Ao107 t263.length co107) : Value).ownBlock) (.slice Ao106 t260.length co106) t260) ∧ Aside0 (Kd.R (Kd.int .i64) 3 wc w.heap.size (fun k_ => some k_ ≠ ((.slice Ao23 t195.length co23) : Value).ownBlock ∧ some k_ ≠ ((.slice Ao24 t198.length co24) : Value).ownBlock ∧ some k_ ≠ ((.slice Ao31 t239.length co31) : Value).ownBlock ∧ some k_ ≠ ((.slice Ao32 t240.length co32) : Value).ownBlock ∧ some k_ ≠ ((.slice Ao39 t218.length co39) : Value).ownBlock ∧ some k_ ≠ ((.slice Ao40 t221.length co40) : Value).ownBlock ∧ some k_ ≠ ((.slice Ao106 t260.length co106) : Value).ownBlock) (.slice Ao107 t263.length co107) t263) ∧ Aside0 (wc.heap[gb179]? = some (.cells #[.int .i64 a0_0, .int .i64 a0_1, .int .i64 a0_2, .int .i64 a0_3, (.slice A0_4 l0_4.length c0_4), (.slice A0_5 l0_5.length c0_5)] 24 (0, 0))) ∧ Aside0 (wc.heap[gb202]? = some (.cells #[.int .i64 t191, .int .i64 t192, .int .i64 t193, .int .i64 t194, (.slice Ao23 t195.length co23), (.slice Ao24 t198.length co24)] 27 (0, 0))) ∧ Aside0 (wc.heap[gb213]? = some (.cells #[.int .i64 t203, .int .i64 t204, .int .i64 t205, .int .i64 t206, (.slice Ao31 t239.length co31), (.slice Ao32 t240.length co32)] 27 (0, 0))) ∧ Aside0 (wc.heap[gb225]? = some (.cells #[.int .i64 t214, .int .i64 t215, .int .i64 t216, .int .i64 t217, (.slice Ao39 t218.length co39), (.slice Ao40 t221.length co40)] 27 (0, 0))) ∧ Aside0 (wc.heap[gb267]? = some (.cells #[.int .i64 t256, .int .i64 t257, .int .i64 t258, .int .i64 t259, (.slice Ao106 t260.length co106), (.slice Ao107 t263.length co107)] 27 (0, 0))) ∧ Aside0 (Below w.heap.size w wc))
                      case first =>
                        have H := HC85.out
                        clear HC85
                        replace H := Option.bind_eq_some_iff.mp H
                        obtain ⟨t268, A1080, H⟩ := H
                        replace H : (if t268 = true then (laws_FnExactImageRgb.j2 kj55 t242 (t266 != t201) t214 t215 t216 t217 t243 t244) else (laws_FnExactImageRgb.j2 kj55 t242 true t214 t215 t216 t217 t243 t244)) = some true := H
                        have A108 := Aside0.mk A1080
                        clear A1080
                        by_cases c109 : t268 = true
                        · subst c109
                          have H1 : (laws_FnExactImageRgb.j2 kj55 t242 (t266 != t201) t214 t215 t216 t217 t243 t244) = some true := by first | (rw [if_pos rfl] at H; exact H) | rfl
                          clear H
                          have H := H1
                          clear H1
                          have H' := Aside0.mk H
                          clear H
                          have hnb110 := NB267_179.out
                          have hnc110 := NB179_267.out
                          have hnb111 := NB267_202.out
                          have hnc111 := NB202_267.out
                          have hnb112 := NB267_213.out
                          have hnc112 := NB213_267.out
                          have hnb113 := NB267_225.out
                          have hnc113 := NB225_267.out
                          have hcz114_0 : w100.cell? ⟨gb267, 0, none⟩ = some (.int .i64 0) := (blk_cell BK267.out 0).trans rfl
                          have hcz114_1 : w100.cell? ⟨gb267, 1, none⟩ = some (.int .i64 0) := (blk_cell BK267.out 1).trans rfl
                          have hcz114_2 : w100.cell? ⟨gb267, 2, none⟩ = some (.int .i64 0) := (blk_cell BK267.out 2).trans rfl
                          have hcz114_3 : w100.cell? ⟨gb267, 3, none⟩ = some (.int .i64 0) := (blk_cell BK267.out 3).trans rfl
                          have hcz114_4 : w100.cell? ⟨gb267, 4, none⟩ = some (.slice none 0 0) := (blk_cell BK267.out 4).trans rfl
                          have hcz114_5 : w100.cell? ⟨gb267, 5, none⟩ = some (.slice none 0 0) := (blk_cell BK267.out 5).trans rfl
                          have hfz114_0 := blk_frozen BK267.out 0
                          have hfz114_1 := blk_frozen BK267.out 1
                          have hfz114_2 := blk_frozen BK267.out 2
                          have hfz114_3 := blk_frozen BK267.out 3
                          have hfz114_4 := blk_frozen BK267.out 4
                          have hfz114_5 := blk_frozen BK267.out 5
                          have hnb115 := NB202_179.out
                          have hnc115 := NB179_202.out
                          have hnb116 := NB202_213.out
                          have hnc116 := NB213_202.out
                          have hnb117 := NB202_225.out
                          have hnc117 := NB225_202.out
                          have hcz118_0 : w100.cell? ⟨gb202, 0, none⟩ = some (.int .i64 t191) := (blk_cell BK202.out 0).trans rfl
                          have hcz118_1 : w100.cell? ⟨gb202, 1, none⟩ = some (.int .i64 t192) := (blk_cell BK202.out 1).trans rfl
                          have hcz118_2 : w100.cell? ⟨gb202, 2, none⟩ = some (.int .i64 t193) := (blk_cell BK202.out 2).trans rfl
                          have hcz118_3 : w100.cell? ⟨gb202, 3, none⟩ = some (.int .i64 t194) := (blk_cell BK202.out 3).trans rfl
                          have hcz118_4 : w100.cell? ⟨gb202, 4, none⟩ = some (.slice Ao23 t195.length co23) := (blk_cell BK202.out 4).trans rfl
                          have hcz118_5 : w100.cell? ⟨gb202, 5, none⟩ = some (.slice Ao24 t198.length co24) := (blk_cell BK202.out 5).trans rfl
                          have hfz118_0 := blk_frozen BK202.out 0
                          have hfz118_1 := blk_frozen BK202.out 1
                          have hfz118_2 := blk_frozen BK202.out 2
                          have hfz118_3 := blk_frozen BK202.out 3
                          have hfz118_4 := blk_frozen BK202.out 4
                          have hfz118_5 := blk_frozen BK202.out 5
                          go_wp2_with (first | ((with_reducible refine gate_callee (f := 19) rfl ?_); refine goesL_ (some 81) rfl rfl Try.func19 (by kernel_rfl) rfl #[.agg #[.int .i64 t256, .int .i64 t257, .int .i64 t258, .int .i64 t259, .slice Ao106 t260.length co106, .slice Ao107 t263.length co107], .agg #[.int .i64 t191, .int .i64 t192, .int .i64 t193, .int .i64 t194, .slice Ao23 t195.length co23, .slice Ao24 t198.length co24]] rfl (by (try simp only [List.map_toArray, List.map_cons, List.map_nil]); first | done | rfl | (simp only [List.length_drop, List.length_take]; rfl)) ?_; (with_reducible refine (laws_eqImage.calls kj55 t256 t257 t258 t259 _ _ t260 _ _ t263 t191 t192 t193 t194 _ _ t195 _ _ t198 true _ ?side1 ?side2 ?side3 ?side4 ?side5 ?side6 ?side7 ?side8 A108.out).mono ?_); (case side1 => refine (Kd.R_reads' (e := 3) (base := w.heap.size) (ok := fun k_ => ((((((((some k_ ≠ (.slice Ao107 t263.length co107 : Value).ownBlock ∧ some k_ ≠ (.slice Ao23 t195.length co23 : Value).ownBlock) ∧ some k_ ≠ (.slice Ao24 t198.length co24 : Value).ownBlock) ∧ some k_ ≠ (.slice Ao31 t239.length co31 : Value).ownBlock) ∧ some k_ ≠ (.slice Ao32 t240.length co32 : Value).ownBlock) ∧ some k_ ≠ (.slice Ao39 t218.length co39 : Value).ownBlock) ∧ some k_ ≠ (.slice Ao40 t221.length co40 : Value).ownBlock) ∧ some k_ ≠ (.slice Ao97 t250.length co97 : Value).ownBlock) ∧ some k_ ≠ (.slice Ao98 t253.length co98 : Value).ownBlock)) (n := t260.length) (c := co106) ?_).2.2; exact (by (with_reducible repeat (first | apply Kd.R_alloc | apply Kd.R_drewN | apply Kd.R_drew)); exact (Kd.R_mono (Kd.R_far (p := ⟨gb267, 5, none⟩) (Kd.R_far (p := ⟨gb267, 4, none⟩) (Kd.R_far (p := ⟨gb267, 3, none⟩) (Kd.R_far (p := ⟨gb267, 2, none⟩) (Kd.R_far (p := ⟨gb267, 1, none⟩) (Kd.R_far (p := ⟨gb267, 0, none⟩) (Kd.R_types HO262.out BK267.out (by decide)) (fun _ hk => hk.2) (.int .i64 t256)) (fun _ hk => hk.2) (.int .i64 t257)) (fun _ hk => hk.2) (.int .i64 t258)) (fun _ hk => hk.2) (.int .i64 t259)) (fun _ hk => hk.2) (.slice Ao106 t260.length co106)) (fun _ hk => hk.2) (.slice Ao107 t263.length co107)) (fun _ h_ => h_.1)))); (case side2 => exact (Kd.R_reads' HO262.out).2.1); (case side3 => refine (Kd.R_reads' (e := 3) (base := w.heap.size) (ok := fun k_ => ((((((((some k_ ≠ (.slice Ao106 t260.length co106 : Value).ownBlock ∧ some k_ ≠ (.slice Ao23 t195.length co23 : Value).ownBlock) ∧ some k_ ≠ (.slice Ao24 t198.length co24 : Value).ownBlock) ∧ some k_ ≠ (.slice Ao31 t239.length co31 : Value).ownBlock) ∧ some k_ ≠ (.slice Ao32 t240.length co32 : Value).ownBlock) ∧ some k_ ≠ (.slice Ao39 t218.length co39 : Value).ownBlock) ∧ some k_ ≠ (.slice Ao40 t221.length co40 : Value).ownBlock) ∧ some k_ ≠ (.slice Ao97 t250.length co97 : Value).ownBlock) ∧ some k_ ≠ (.slice Ao98 t253.length co98 : Value).ownBlock)) (n := t263.length) (c := co107) ?_).2.2; exact (by (with_reducible repeat (first | apply Kd.R_alloc | apply Kd.R_drewN | apply Kd.R_drew)); exact (Kd.R_mono (Kd.R_far (p := ⟨gb267, 5, none⟩) (Kd.R_far (p := ⟨gb267, 4, none⟩) (Kd.R_far (p := ⟨gb267, 3, none⟩) (Kd.R_far (p := ⟨gb267, 2, none⟩) (Kd.R_far (p := ⟨gb267, 1, none⟩) (Kd.R_far (p := ⟨gb267, 0, none⟩) (Kd.R_types HO265.out BK267.out (by decide)) (fun _ hk => hk.2) (.int .i64 t256)) (fun _ hk => hk.2) (.int .i64 t257)) (fun _ hk => hk.2) (.int .i64 t258)) (fun _ hk => hk.2) (.int .i64 t259)) (fun _ hk => hk.2) (.slice Ao106 t260.length co106)) (fun _ hk => hk.2) (.slice Ao107 t263.length co107)) (fun _ h_ => h_.1)))); (case side4 => exact (Kd.R_reads' HO265.out).2.1); (case side5 => refine (Kd.R_reads' (e := 3) (base := w.heap.size) (ok := fun k_ => (((((some k_ ≠ (.slice Ao24 t198.length co24 : Value).ownBlock ∧ (some k_ ≠ (.slice Ao31 t239.length co31 : Value).ownBlock ∧ (some k_ ≠ (.slice Ao32 t240.length co32 : Value).ownBlock ∧ (some k_ ≠ (.slice Ao39 t218.length co39 : Value).ownBlock ∧ some k_ ≠ (.slice Ao40 t221.length co40 : Value).ownBlock)))) ∧ some k_ ≠ (.slice Ao97 t250.length co97 : Value).ownBlock) ∧ some k_ ≠ (.slice Ao98 t253.length co98 : Value).ownBlock) ∧ some k_ ≠ (.slice Ao106 t260.length co106 : Value).ownBlock) ∧ some k_ ≠ (.slice Ao107 t263.length co107 : Value).ownBlock)) (n := t195.length) (c := co23) ?_).2.2; exact (by (with_reducible repeat (first | apply Kd.R_alloc | apply Kd.R_drewN | apply Kd.R_drew)); exact (Kd.R_mono (Kd.R_far (p := ⟨gb267, 5, none⟩) (Kd.R_far (p := ⟨gb267, 4, none⟩) (Kd.R_far (p := ⟨gb267, 3, none⟩) (Kd.R_far (p := ⟨gb267, 2, none⟩) (Kd.R_far (p := ⟨gb267, 1, none⟩) (Kd.R_far (p := ⟨gb267, 0, none⟩) (Kd.R_types HO_203004.out BK267.out (by decide)) (fun _ hk => hk.2) (.int .i64 t256)) (fun _ hk => hk.2) (.int .i64 t257)) (fun _ hk => hk.2) (.int .i64 t258)) (fun _ hk => hk.2) (.int .i64 t259)) (fun _ hk => hk.2) (.slice Ao106 t260.length co106)) (fun _ hk => hk.2) (.slice Ao107 t263.length co107)) (fun _ h_ => h_.1)))); (case side6 => exact (Kd.R_reads' HO_203004.out).2.1); (case side7 => refine (Kd.R_reads' (e := 3) (base := w.heap.size) (ok := fun k_ => (((((some k_ ≠ (.slice Ao23 t195.length co23 : Value).ownBlock ∧ (some k_ ≠ (.slice Ao31 t239.length co31 : Value).ownBlock ∧ (some k_ ≠ (.slice Ao32 t240.length co32 : Value).ownBlock ∧ (some k_ ≠ (.slice Ao39 t218.length co39 : Value).ownBlock ∧ some k_ ≠ (.slice Ao40 t221.length co40 : Value).ownBlock)))) ∧ some k_ ≠ (.slice Ao97 t250.length co97 : Value).ownBlock) ∧ some k_ ≠ (.slice Ao98 t253.length co98 : Value).ownBlock) ∧ some k_ ≠ (.slice Ao106 t260.length co106 : Value).ownBlock) ∧ some k_ ≠ (.slice Ao107 t263.length co107 : Value).ownBlock)) (n := t198.length) (c := co24) ?_).2.2; exact (by (with_reducible repeat (first | apply Kd.R_alloc | apply Kd.R_drewN | apply Kd.R_drew)); exact (Kd.R_mono (Kd.R_far (p := ⟨gb267, 5, none⟩) (Kd.R_far (p := ⟨gb267, 4, none⟩) (Kd.R_far (p := ⟨gb267, 3, none⟩) (Kd.R_far (p := ⟨gb267, 2, none⟩) (Kd.R_far (p := ⟨gb267, 1, none⟩) (Kd.R_far (p := ⟨gb267, 0, none⟩) (Kd.R_types HO_203005.out BK267.out (by decide)) (fun _ hk => hk.2) (.int .i64 t256)) (fun _ hk => hk.2) (.int .i64 t257)) (fun _ hk => hk.2) (.int .i64 t258)) (fun _ hk => hk.2) (.int .i64 t259)) (fun _ hk => hk.2) (.slice Ao106 t260.length co106)) (fun _ hk => hk.2) (.slice Ao107 t263.length co107)) (fun _ h_ => h_.1)))); (case side8 => exact (Kd.R_reads' HO_203005.out).2.1); rintro e w119 ⟨rfl, hb⟩; refine ⟨_, rfl, ?_⟩; have n0_ := Aside0.mk (Kd.R_below (by (with_reducible repeat (first | apply Kd.R_alloc | apply Kd.R_drewN | apply Kd.R_drew)); exact (Kd.R_mono (Kd.R_far (p := ⟨gb267, 5, none⟩) (Kd.R_far (p := ⟨gb267, 4, none⟩) (Kd.R_far (p := ⟨gb267, 3, none⟩) (Kd.R_far (p := ⟨gb267, 2, none⟩) (Kd.R_far (p := ⟨gb267, 1, none⟩) (Kd.R_far (p := ⟨gb267, 0, none⟩) (Kd.R_types HO_203004.out BK267.out (by decide)) (fun _ hk => hk.2) (.int .i64 t256)) (fun _ hk => hk.2) (.int .i64 t257)) (fun _ hk => hk.2) (.int .i64 t258)) (fun _ hk => hk.2) (.int .i64 t259)) (fun _ hk => hk.2) (.slice Ao106 t260.length co106)) (fun _ hk => hk.2) (.slice Ao107 t263.length co107)) (fun _ h_ => h_.1))) hb); have n1_ := Aside0.mk (Kd.R_below (by (with_reducible repeat (first | apply Kd.R_alloc | apply Kd.R_drewN | apply Kd.R_drew)); exact (Kd.R_mono (Kd.R_far (p := ⟨gb267, 5, none⟩) (Kd.R_far (p := ⟨gb267, 4, none⟩) (Kd.R_far (p := ⟨gb267, 3, none⟩) (Kd.R_far (p := ⟨gb267, 2, none⟩) (Kd.R_far (p := ⟨gb267, 1, none⟩) (Kd.R_far (p := ⟨gb267, 0, none⟩) (Kd.R_types HO_203005.out BK267.out (by decide)) (fun _ hk => hk.2) (.int .i64 t256)) (fun _ hk => hk.2) (.int .i64 t257)) (fun _ hk => hk.2) (.int .i64 t258)) (fun _ hk => hk.2) (.int .i64 t259)) (fun _ hk => hk.2) (.slice Ao106 t260.length co106)) (fun _ hk => hk.2) (.slice Ao107 t263.length co107)) (fun _ h_ => h_.1))) hb); have n2_ := Aside0.mk (Kd.R_below (by (with_reducible repeat (first | apply Kd.R_alloc | apply Kd.R_drewN | apply Kd.R_drew)); exact (Kd.R_mono (Kd.R_far (p := ⟨gb267, 5, none⟩) (Kd.R_far (p := ⟨gb267, 4, none⟩) (Kd.R_far (p := ⟨gb267, 3, none⟩) (Kd.R_far (p := ⟨gb267, 2, none⟩) (Kd.R_far (p := ⟨gb267, 1, none⟩) (Kd.R_far (p := ⟨gb267, 0, none⟩) (Kd.R_types HO_214004.out BK267.out (by decide)) (fun _ hk => hk.2) (.int .i64 t256)) (fun _ hk => hk.2) (.int .i64 t257)) (fun _ hk => hk.2) (.int .i64 t258)) (fun _ hk => hk.2) (.int .i64 t259)) (fun _ hk => hk.2) (.slice Ao106 t260.length co106)) (fun _ hk => hk.2) (.slice Ao107 t263.length co107)) (fun _ h_ => h_.1))) hb); have n3_ := Aside0.mk (Kd.R_below (by (with_reducible repeat (first | apply Kd.R_alloc | apply Kd.R_drewN | apply Kd.R_drew)); exact (Kd.R_mono (Kd.R_far (p := ⟨gb267, 5, none⟩) (Kd.R_far (p := ⟨gb267, 4, none⟩) (Kd.R_far (p := ⟨gb267, 3, none⟩) (Kd.R_far (p := ⟨gb267, 2, none⟩) (Kd.R_far (p := ⟨gb267, 1, none⟩) (Kd.R_far (p := ⟨gb267, 0, none⟩) (Kd.R_types HO_214005.out BK267.out (by decide)) (fun _ hk => hk.2) (.int .i64 t256)) (fun _ hk => hk.2) (.int .i64 t257)) (fun _ hk => hk.2) (.int .i64 t258)) (fun _ hk => hk.2) (.int .i64 t259)) (fun _ hk => hk.2) (.slice Ao106 t260.length co106)) (fun _ hk => hk.2) (.slice Ao107 t263.length co107)) (fun _ h_ => h_.1))) hb); have n4_ := Aside0.mk (Kd.R_below (by (with_reducible repeat (first | apply Kd.R_alloc | apply Kd.R_drewN | apply Kd.R_drew)); exact (Kd.R_mono (Kd.R_far (p := ⟨gb267, 5, none⟩) (Kd.R_far (p := ⟨gb267, 4, none⟩) (Kd.R_far (p := ⟨gb267, 3, none⟩) (Kd.R_far (p := ⟨gb267, 2, none⟩) (Kd.R_far (p := ⟨gb267, 1, none⟩) (Kd.R_far (p := ⟨gb267, 0, none⟩) (Kd.R_types HO_226004.out BK267.out (by decide)) (fun _ hk => hk.2) (.int .i64 t256)) (fun _ hk => hk.2) (.int .i64 t257)) (fun _ hk => hk.2) (.int .i64 t258)) (fun _ hk => hk.2) (.int .i64 t259)) (fun _ hk => hk.2) (.slice Ao106 t260.length co106)) (fun _ hk => hk.2) (.slice Ao107 t263.length co107)) (fun _ h_ => h_.1))) hb); have n5_ := Aside0.mk (Kd.R_below (by (with_reducible repeat (first | apply Kd.R_alloc | apply Kd.R_drewN | apply Kd.R_drew)); exact (Kd.R_mono (Kd.R_far (p := ⟨gb267, 5, none⟩) (Kd.R_far (p := ⟨gb267, 4, none⟩) (Kd.R_far (p := ⟨gb267, 3, none⟩) (Kd.R_far (p := ⟨gb267, 2, none⟩) (Kd.R_far (p := ⟨gb267, 1, none⟩) (Kd.R_far (p := ⟨gb267, 0, none⟩) (Kd.R_types HO_226005.out BK267.out (by decide)) (fun _ hk => hk.2) (.int .i64 t256)) (fun _ hk => hk.2) (.int .i64 t257)) (fun _ hk => hk.2) (.int .i64 t258)) (fun _ hk => hk.2) (.int .i64 t259)) (fun _ hk => hk.2) (.slice Ao106 t260.length co106)) (fun _ hk => hk.2) (.slice Ao107 t263.length co107)) (fun _ h_ => h_.1))) hb); have n6_ := Aside0.mk (Kd.R_below (by (with_reducible repeat (first | apply Kd.R_alloc | apply Kd.R_drewN | apply Kd.R_drew)); exact (Kd.R_mono (Kd.R_far (p := ⟨gb267, 5, none⟩) (Kd.R_far (p := ⟨gb267, 4, none⟩) (Kd.R_far (p := ⟨gb267, 3, none⟩) (Kd.R_far (p := ⟨gb267, 2, none⟩) (Kd.R_far (p := ⟨gb267, 1, none⟩) (Kd.R_far (p := ⟨gb267, 0, none⟩) (Kd.R_types HO252.out BK267.out (by decide)) (fun _ hk => hk.2) (.int .i64 t256)) (fun _ hk => hk.2) (.int .i64 t257)) (fun _ hk => hk.2) (.int .i64 t258)) (fun _ hk => hk.2) (.int .i64 t259)) (fun _ hk => hk.2) (.slice Ao106 t260.length co106)) (fun _ hk => hk.2) (.slice Ao107 t263.length co107)) (fun _ h_ => h_.1))) hb); have n7_ := Aside0.mk (Kd.R_below (by (with_reducible repeat (first | apply Kd.R_alloc | apply Kd.R_drewN | apply Kd.R_drew)); exact (Kd.R_mono (Kd.R_far (p := ⟨gb267, 5, none⟩) (Kd.R_far (p := ⟨gb267, 4, none⟩) (Kd.R_far (p := ⟨gb267, 3, none⟩) (Kd.R_far (p := ⟨gb267, 2, none⟩) (Kd.R_far (p := ⟨gb267, 1, none⟩) (Kd.R_far (p := ⟨gb267, 0, none⟩) (Kd.R_types HO255.out BK267.out (by decide)) (fun _ hk => hk.2) (.int .i64 t256)) (fun _ hk => hk.2) (.int .i64 t257)) (fun _ hk => hk.2) (.int .i64 t258)) (fun _ hk => hk.2) (.int .i64 t259)) (fun _ hk => hk.2) (.slice Ao106 t260.length co106)) (fun _ hk => hk.2) (.slice Ao107 t263.length co107)) (fun _ h_ => h_.1))) hb); have n8_ := Aside0.mk (Kd.R_below (by (with_reducible repeat (first | apply Kd.R_alloc | apply Kd.R_drewN | apply Kd.R_drew)); exact (Kd.R_mono (Kd.R_far (p := ⟨gb267, 5, none⟩) (Kd.R_far (p := ⟨gb267, 4, none⟩) (Kd.R_far (p := ⟨gb267, 3, none⟩) (Kd.R_far (p := ⟨gb267, 2, none⟩) (Kd.R_far (p := ⟨gb267, 1, none⟩) (Kd.R_far (p := ⟨gb267, 0, none⟩) (Kd.R_types HO262.out BK267.out (by decide)) (fun _ hk => hk.2) (.int .i64 t256)) (fun _ hk => hk.2) (.int .i64 t257)) (fun _ hk => hk.2) (.int .i64 t258)) (fun _ hk => hk.2) (.int .i64 t259)) (fun _ hk => hk.2) (.slice Ao106 t260.length co106)) (fun _ hk => hk.2) (.slice Ao107 t263.length co107)) (fun _ h_ => h_.1))) hb); have n9_ := Aside0.mk (Kd.R_below (by (with_reducible repeat (first | apply Kd.R_alloc | apply Kd.R_drewN | apply Kd.R_drew)); exact (Kd.R_mono (Kd.R_far (p := ⟨gb267, 5, none⟩) (Kd.R_far (p := ⟨gb267, 4, none⟩) (Kd.R_far (p := ⟨gb267, 3, none⟩) (Kd.R_far (p := ⟨gb267, 2, none⟩) (Kd.R_far (p := ⟨gb267, 1, none⟩) (Kd.R_far (p := ⟨gb267, 0, none⟩) (Kd.R_types HO265.out BK267.out (by decide)) (fun _ hk => hk.2) (.int .i64 t256)) (fun _ hk => hk.2) (.int .i64 t257)) (fun _ hk => hk.2) (.int .i64 t258)) (fun _ hk => hk.2) (.int .i64 t259)) (fun _ hk => hk.2) (.slice Ao106 t260.length co106)) (fun _ hk => hk.2) (.slice Ao107 t263.length co107)) (fun _ h_ => h_.1))) hb); have n10_ := Aside0.mk (blk_below (g := gb179) (o := .cells #[.int .i64 a0_0, .int .i64 a0_1, .int .i64 a0_2, .int .i64 a0_3, .slice A0_4 l0_4.length c0_4, .slice A0_5 l0_5.length c0_5] 24 (0, 0)) (by (with_reducible repeat (first | refine blk_drewN ?_ _ | refine blk_drew ?_ | refine blk_alloc ?_ _)); refine blk_far ?_ NB179_267.out _; (with_reducible repeat (first | refine blk_drewN ?_ _ | refine blk_drew ?_ | refine blk_alloc ?_ _)); refine blk_far ?_ NB179_267.out _; (with_reducible repeat (first | refine blk_drewN ?_ _ | refine blk_drew ?_ | refine blk_alloc ?_ _)); refine blk_far ?_ NB179_267.out _; (with_reducible repeat (first | refine blk_drewN ?_ _ | refine blk_drew ?_ | refine blk_alloc ?_ _)); refine blk_far ?_ NB179_267.out _; (with_reducible repeat (first | refine blk_drewN ?_ _ | refine blk_drew ?_ | refine blk_alloc ?_ _)); refine blk_far ?_ NB179_267.out _; (with_reducible repeat (first | refine blk_drewN ?_ _ | refine blk_drew ?_ | refine blk_alloc ?_ _)); refine blk_far ?_ NB179_267.out _; (with_reducible repeat (first | refine blk_drewN ?_ _ | refine blk_drew ?_ | refine blk_alloc ?_ _)); exact BK179.out) hb); have n11_ := Aside0.mk (blk_below (g := gb202) (o := .cells #[.int .i64 t191, .int .i64 t192, .int .i64 t193, .int .i64 t194, .slice Ao23 t195.length co23, .slice Ao24 t198.length co24] 27 (0, 0)) (by (with_reducible repeat (first | refine blk_drewN ?_ _ | refine blk_drew ?_ | refine blk_alloc ?_ _)); refine blk_far ?_ NB202_267.out _; (with_reducible repeat (first | refine blk_drewN ?_ _ | refine blk_drew ?_ | refine blk_alloc ?_ _)); refine blk_far ?_ NB202_267.out _; (with_reducible repeat (first | refine blk_drewN ?_ _ | refine blk_drew ?_ | refine blk_alloc ?_ _)); refine blk_far ?_ NB202_267.out _; (with_reducible repeat (first | refine blk_drewN ?_ _ | refine blk_drew ?_ | refine blk_alloc ?_ _)); refine blk_far ?_ NB202_267.out _; (with_reducible repeat (first | refine blk_drewN ?_ _ | refine blk_drew ?_ | refine blk_alloc ?_ _)); refine blk_far ?_ NB202_267.out _; (with_reducible repeat (first | refine blk_drewN ?_ _ | refine blk_drew ?_ | refine blk_alloc ?_ _)); refine blk_far ?_ NB202_267.out _; (with_reducible repeat (first | refine blk_drewN ?_ _ | refine blk_drew ?_ | refine blk_alloc ?_ _)); exact BK202.out) hb); have n12_ := Aside0.mk (blk_below (g := gb213) (o := .cells #[.int .i64 t203, .int .i64 t204, .int .i64 t205, .int .i64 t206, .slice Ao31 t239.length co31, .slice Ao32 t240.length co32] 27 (0, 0)) (by (with_reducible repeat (first | refine blk_drewN ?_ _ | refine blk_drew ?_ | refine blk_alloc ?_ _)); refine blk_far ?_ NB213_267.out _; (with_reducible repeat (first | refine blk_drewN ?_ _ | refine blk_drew ?_ | refine blk_alloc ?_ _)); refine blk_far ?_ NB213_267.out _; (with_reducible repeat (first | refine blk_drewN ?_ _ | refine blk_drew ?_ | refine blk_alloc ?_ _)); refine blk_far ?_ NB213_267.out _; (with_reducible repeat (first | refine blk_drewN ?_ _ | refine blk_drew ?_ | refine blk_alloc ?_ _)); refine blk_far ?_ NB213_267.out _; (with_reducible repeat (first | refine blk_drewN ?_ _ | refine blk_drew ?_ | refine blk_alloc ?_ _)); refine blk_far ?_ NB213_267.out _; (with_reducible repeat (first | refine blk_drewN ?_ _ | refine blk_drew ?_ | refine blk_alloc ?_ _)); refine blk_far ?_ NB213_267.out _; (with_reducible repeat (first | refine blk_drewN ?_ _ | refine blk_drew ?_ | refine blk_alloc ?_ _)); exact BK213.out) hb); have n13_ := Aside0.mk (blk_below (g := gb225) (o := .cells #[.int .i64 t214, .int .i64 t215, .int .i64 t216, .int .i64 t217, .slice Ao39 t218.length co39, .slice Ao40 t221.length co40] 27 (0, 0)) (by (with_reducible repeat (first | refine blk_drewN ?_ _ | refine blk_drew ?_ | refine blk_alloc ?_ _)); refine blk_far ?_ NB225_267.out _; (with_reducible repeat (first | refine blk_drewN ?_ _ | refine blk_drew ?_ | refine blk_alloc ?_ _)); refine blk_far ?_ NB225_267.out _; (with_reducible repeat (first | refine blk_drewN ?_ _ | refine blk_drew ?_ | refine blk_alloc ?_ _)); refine blk_far ?_ NB225_267.out _; (with_reducible repeat (first | refine blk_drewN ?_ _ | refine blk_drew ?_ | refine blk_alloc ?_ _)); refine blk_far ?_ NB225_267.out _; (with_reducible repeat (first | refine blk_drewN ?_ _ | refine blk_drew ?_ | refine blk_alloc ?_ _)); refine blk_far ?_ NB225_267.out _; (with_reducible repeat (first | refine blk_drewN ?_ _ | refine blk_drew ?_ | refine blk_alloc ?_ _)); refine blk_far ?_ NB225_267.out _; (with_reducible repeat (first | refine blk_drewN ?_ _ | refine blk_drew ?_ | refine blk_alloc ?_ _)); exact BK225.out) hb); have n14_ := Aside0.mk (blk_below (g := gb267) (o := .cells #[.int .i64 t256, .int .i64 t257, .int .i64 t258, .int .i64 t259, .slice Ao106 t260.length co106, .slice Ao107 t263.length co107] 27 (0, 0)) (by (with_reducible repeat (first | refine blk_drewN ?_ _ | refine blk_drew ?_ | refine blk_alloc ?_ _)); refine blk_put (cs := #[.int .i64 t256, .int .i64 t257, .int .i64 t258, .int .i64 t259, .slice Ao106 t260.length co106, .slice none 0 0]) ?_ 5 _ rfl; (with_reducible repeat (first | refine blk_drewN ?_ _ | refine blk_drew ?_ | refine blk_alloc ?_ _)); refine blk_put (cs := #[.int .i64 t256, .int .i64 t257, .int .i64 t258, .int .i64 t259, .slice none 0 0, .slice none 0 0]) ?_ 4 _ rfl; (with_reducible repeat (first | refine blk_drewN ?_ _ | refine blk_drew ?_ | refine blk_alloc ?_ _)); refine blk_put (cs := #[.int .i64 t256, .int .i64 t257, .int .i64 t258, .int .i64 0, .slice none 0 0, .slice none 0 0]) ?_ 3 _ rfl; (with_reducible repeat (first | refine blk_drewN ?_ _ | refine blk_drew ?_ | refine blk_alloc ?_ _)); refine blk_put (cs := #[.int .i64 t256, .int .i64 t257, .int .i64 0, .int .i64 0, .slice none 0 0, .slice none 0 0]) ?_ 2 _ rfl; (with_reducible repeat (first | refine blk_drewN ?_ _ | refine blk_drew ?_ | refine blk_alloc ?_ _)); refine blk_put (cs := #[.int .i64 t256, .int .i64 0, .int .i64 0, .int .i64 0, .slice none 0 0, .slice none 0 0]) ?_ 1 _ rfl; (with_reducible repeat (first | refine blk_drewN ?_ _ | refine blk_drew ?_ | refine blk_alloc ?_ _)); refine blk_put (cs := #[.int .i64 0, .int .i64 0, .int .i64 0, .int .i64 0, .slice none 0 0, .slice none 0 0]) ?_ 0 _ rfl; (with_reducible repeat (first | refine blk_drewN ?_ _ | refine blk_drew ?_ | refine blk_alloc ?_ _)); exact BK267.out) hb); have n15_ := Aside0.mk (below_step (by repeat (first | (with_reducible first | exact HB.out | apply below_alloc | apply pw_below_drewN | apply below_drew1 | refine below_set ?_ GE179.out | refine below_set ?_ GE202.out | refine below_set ?_ GE213.out | refine below_set ?_ GE225.out | refine below_set ?_ GE267.out) | exact HB.out)) hb); clear HO_203004; clear HO_203005; clear HO_214004; clear HO_214005; clear HO_226004; clear HO_226005; clear HO252; clear HO255; clear HO262; clear HO265; clear BK179; clear BK202; clear BK213; clear BK225; clear BK267; clear HB; have HO_203004 := n0_; have HO_203005 := n1_; have HO_214004 := n2_; have HO_214005 := n3_; have HO_226004 := n4_; have HO_226005 := n5_; have HO252 := n6_; have HO255 := n7_; have HO262 := n8_; have HO265 := n9_; have BK179 := n10_; have BK202 := n11_; have BK213 := n12_; have BK225 := n13_; have BK267 := n14_; have HB := n15_; clear n0_ n1_ n2_ n3_ n4_ n5_ n6_ n7_ n8_ n9_ n10_ n11_ n12_ n13_ n14_ n15_; (try clear hb); (try clear hb2); (try clear hk); (try clear hi)))
                          go_meet
                          case rel => exact ⟨_, ((t266 != t201)), (by first | rfl | (simp; done) | (simp [*]; done)), H', ⟨by have := HJ10.out; have := HJ55.out; first | omega | exact Nat.le_refl _⟩, ⟨by (try simp only [hl214004_55]); (try simp only [hl214005_55]); (with_reducible repeat (first | apply Kd.R_alloc | apply Kd.R_drewN | apply Kd.R_drew)); exact Kd.R_mono HO_203004.out (fun _ hk => ⟨hk.1.1.1.1.1, ⟨hk.1.1.1.1.2.1, ⟨hk.1.1.1.1.2.2.1, ⟨hk.1.1.1.1.2.2.2.1, ⟨hk.1.1.1.1.2.2.2.2, ⟨hk.1.2, hk.2⟩⟩⟩⟩⟩⟩)⟩, ⟨by (try simp only [hl214004_55]); (try simp only [hl214005_55]); (with_reducible repeat (first | apply Kd.R_alloc | apply Kd.R_drewN | apply Kd.R_drew)); exact Kd.R_mono HO_203005.out (fun _ hk => ⟨hk.1.1.1.1.1, ⟨hk.1.1.1.1.2.1, ⟨hk.1.1.1.1.2.2.1, ⟨hk.1.1.1.1.2.2.2.1, ⟨hk.1.1.1.1.2.2.2.2, ⟨hk.1.2, hk.2⟩⟩⟩⟩⟩⟩)⟩, ⟨by (try simp only [hl214004_55]); (try simp only [hl214005_55]); (with_reducible repeat (first | apply Kd.R_alloc | apply Kd.R_drewN | apply Kd.R_drew)); exact Kd.R_mono HO_214004.out (fun _ hk => ⟨hk.1.1.1.1.1, ⟨hk.1.1.1.1.2.1, ⟨hk.1.1.1.1.2.2.1, ⟨hk.1.1.1.1.2.2.2.1, ⟨hk.1.1.1.1.2.2.2.2, ⟨hk.1.2, hk.2⟩⟩⟩⟩⟩⟩)⟩, ⟨by (try simp only [hl214004_55]); (try simp only [hl214005_55]); (with_reducible repeat (first | apply Kd.R_alloc | apply Kd.R_drewN | apply Kd.R_drew)); exact Kd.R_mono HO_214005.out (fun _ hk => ⟨hk.1.1.1.1.1, ⟨hk.1.1.1.1.2.1, ⟨hk.1.1.1.1.2.2.1, ⟨hk.1.1.1.1.2.2.2.1, ⟨hk.1.1.1.1.2.2.2.2, ⟨hk.1.2, hk.2⟩⟩⟩⟩⟩⟩)⟩, ⟨by (try simp only [hl214004_55]); (try simp only [hl214005_55]); (with_reducible repeat (first | apply Kd.R_alloc | apply Kd.R_drewN | apply Kd.R_drew)); exact Kd.R_mono HO_226004.out (fun _ hk => ⟨hk.1.1.1.1.1, ⟨hk.1.1.1.1.2.1, ⟨hk.1.1.1.1.2.2.1, ⟨hk.1.1.1.1.2.2.2.1, ⟨hk.1.1.1.1.2.2.2.2, ⟨hk.1.2, hk.2⟩⟩⟩⟩⟩⟩)⟩, ⟨by (try simp only [hl214004_55]); (try simp only [hl214005_55]); (with_reducible repeat (first | apply Kd.R_alloc | apply Kd.R_drewN | apply Kd.R_drew)); exact Kd.R_mono HO_226005.out (fun _ hk => ⟨hk.1.1.1.1.1, ⟨hk.1.1.1.1.2.1, ⟨hk.1.1.1.1.2.2.1, ⟨hk.1.1.1.1.2.2.2.1, ⟨hk.1.1.1.1.2.2.2.2, ⟨hk.1.2, hk.2⟩⟩⟩⟩⟩⟩)⟩, ⟨by (try simp only [hl214004_55]); (try simp only [hl214005_55]); (with_reducible repeat (first | apply Kd.R_alloc | apply Kd.R_drewN | apply Kd.R_drew)); exact Kd.R_mono HO262.out (fun _ hk => ⟨hk.1.1.1.1.1.1.1.2, ⟨hk.1.1.1.1.1.1.2, ⟨hk.1.1.1.1.1.2, ⟨hk.1.1.1.1.2, ⟨hk.1.1.1.2, ⟨hk.1.1.2, hk.1.1.1.1.1.1.1.1⟩⟩⟩⟩⟩⟩)⟩, ⟨by (try simp only [hl214004_55]); (try simp only [hl214005_55]); (with_reducible repeat (first | apply Kd.R_alloc | apply Kd.R_drewN | apply Kd.R_drew)); exact Kd.R_mono HO265.out (fun _ hk => ⟨hk.1.1.1.1.1.1.1.2, ⟨hk.1.1.1.1.1.1.2, ⟨hk.1.1.1.1.1.2, ⟨hk.1.1.1.1.2, ⟨hk.1.1.1.2, ⟨hk.1.1.2, hk.1.1.1.1.1.1.1.1⟩⟩⟩⟩⟩⟩)⟩, ⟨by (try simp only [hl214004_55]); (try simp only [hl214005_55]); (with_reducible repeat (first | refine blk_drewN ?_ _ | refine blk_drew ?_ | refine blk_alloc ?_ _)); exact BK179.out⟩, ⟨by (try simp only [hl214004_55]); (try simp only [hl214005_55]); (with_reducible repeat (first | refine blk_drewN ?_ _ | refine blk_drew ?_ | refine blk_alloc ?_ _)); exact BK202.out⟩, ⟨by (try simp only [hl214004_55]); (try simp only [hl214005_55]); (with_reducible repeat (first | refine blk_drewN ?_ _ | refine blk_drew ?_ | refine blk_alloc ?_ _)); exact BK213.out⟩, ⟨by (try simp only [hl214004_55]); (try simp only [hl214005_55]); (with_reducible repeat (first | refine blk_drewN ?_ _ | refine blk_drew ?_ | refine blk_alloc ?_ _)); exact BK225.out⟩, ⟨by (try simp only [hl214004_55]); (try simp only [hl214005_55]); (with_reducible repeat (first | refine blk_drewN ?_ _ | refine blk_drew ?_ | refine blk_alloc ?_ _)); exact BK267.out⟩, ⟨by repeat (first | (with_reducible first | exact HB.out | apply below_alloc | apply pw_below_drewN | apply below_drew1 | refine below_set ?_ GE179.out | refine below_set ?_ GE202.out | refine below_set ?_ GE213.out | refine below_set ?_ GE225.out | refine below_set ?_ GE267.out) | exact HB.out)⟩⟩
                        · replace c109 := Bool.eq_false_iff.mpr c109
                          subst c109
                          have H1 : (laws_FnExactImageRgb.j2 kj55 t242 true t214 t215 t216 t217 t243 t244) = some true := by first | (rw [if_neg (show ¬ (false = true) by decide)] at H; exact H) | rfl
                          clear H
                          have H := H1
                          clear H1
                          exact absurd H (by cases kj55 <;> simp [laws_FnExactImageRgb.j2])
                      case rest =>
                        clear HC85
                        try clear c1
                        try clear c2
                        try clear p2
                        try clear c3
                        try clear c3b0
                        try clear c4
                        try clear c5
                        try clear c6
                        try clear c7
                        try clear c8
                        try clear c9
                        try clear c10
                        try clear c11
                        try clear c15
                        try clear c17
                        try clear c19
                        try clear c21
                        try clear c28
                        try clear c29
                        try clear c34
                        try clear c35
                        try clear c36
                        try clear c37
                        try clear c42
                        try clear c43
                        try clear c44
                        try clear c45
                        try clear c47
                        try clear c48
                        try clear c51
                        try clear c54
                        try clear c62
                        try clear c63
                        try clear c64
                        try clear c67
                        try clear c67b0
                        try clear c69
                        try clear c70
                        try clear c71
                        try clear c72
                        try clear c74
                        try clear c75
                        try clear c78
                        try clear c81
                        try clear c81b0
                        try clear c82
                        try clear c82b0
                        try clear c82b1
                        try clear c86
                        try clear c87
                        try clear c88
                        try clear c93
                        try clear c94
                        try clear c101
                        try clear c102
                        try clear c103
                        try clear c104
                        try clear c109
                        try clear c110
                        try clear c111
                        try clear c112
                        try clear c113
                        try clear c115
                        try clear c116
                        try clear c117
                        try clear hcz105_0
                        try clear hcz105_1
                        try clear hcz105_2
                        try clear hcz105_3
                        try clear hcz105_4
                        try clear hcz105_5
                        try clear hcz114_0
                        try clear hcz114_1
                        try clear hcz114_2
                        try clear hcz114_3
                        try clear hcz114_4
                        try clear hcz114_5
                        try clear hcz118_0
                        try clear hcz118_1
                        try clear hcz118_2
                        try clear hcz118_3
                        try clear hcz118_4
                        try clear hcz118_5
                        try clear hcz13_0
                        try clear hcz13_1
                        try clear hcz13_2
                        try clear hcz13_3
                        try clear hcz13_4
                        try clear hcz13_5
                        try clear hcz15_0
                        try clear hcz15_1
                        try clear hcz15_2
                        try clear hcz15_3
                        try clear hcz15_4
                        try clear hcz15_5
                        try clear hcz22_0
                        try clear hcz22_1
                        try clear hcz22_2
                        try clear hcz22_3
                        try clear hcz22_4
                        try clear hcz22_5
                        try clear hcz25_0
                        try clear hcz25_1
                        try clear hcz25_2
                        try clear hcz25_3
                        try clear hcz25_4
                        try clear hcz25_5
                        try clear hcz30_0
                        try clear hcz30_1
                        try clear hcz30_2
                        try clear hcz30_3
                        try clear hcz30_4
                        try clear hcz30_5
                        try clear hcz38_0
                        try clear hcz38_1
                        try clear hcz38_2
                        try clear hcz38_3
                        try clear hcz38_4
                        try clear hcz38_5
                        try clear hcz46_0
                        try clear hcz46_1
                        try clear hcz46_2
                        try clear hcz46_3
                        try clear hcz46_4
                        try clear hcz46_5
                        try clear hcz49_0
                        try clear hcz49_1
                        try clear hcz49_2
                        try clear hcz49_3
                        try clear hcz49_4
                        try clear hcz49_5
                        try clear hcz5_0
                        try clear hcz5_1
                        try clear hcz5_2
                        try clear hcz5_3
                        try clear hcz5_4
                        try clear hcz5_5
                        try clear hcz65_0
                        try clear hcz65_1
                        try clear hcz65_2
                        try clear hcz65_3
                        try clear hcz65_4
                        try clear hcz65_5
                        try clear hcz73_0
                        try clear hcz73_1
                        try clear hcz73_2
                        try clear hcz73_3
                        try clear hcz73_4
                        try clear hcz73_5
                        try clear hcz76_0
                        try clear hcz76_1
                        try clear hcz76_2
                        try clear hcz76_3
                        try clear hcz76_4
                        try clear hcz76_5
                        try clear hcz89_0
                        try clear hcz89_1
                        try clear hcz89_2
                        try clear hcz89_3
                        try clear hcz89_4
                        try clear hcz89_5
                        try clear hcz91_0
                        try clear hcz91_1
                        try clear hcz91_2
                        try clear hcz91_3
                        try clear hcz91_4
                        try clear hcz91_5
                        try clear hcz95_0
                        try clear hcz95_1
                        try clear hcz95_2
                        try clear hcz95_3
                        try clear hcz95_4
                        try clear hcz95_5
                        try clear hfz105_0
                        try clear hfz105_1
                        try clear hfz105_2
                        try clear hfz105_3
                        try clear hfz105_4
                        try clear hfz105_5
                        try clear hfz114_0
                        try clear hfz114_1
                        try clear hfz114_2
                        try clear hfz114_3
                        try clear hfz114_4
                        try clear hfz114_5
                        try clear hfz118_0
                        try clear hfz118_1
                        try clear hfz118_2
                        try clear hfz118_3
                        try clear hfz118_4
                        try clear hfz118_5
                        try clear hfz13_0
                        try clear hfz13_1
                        try clear hfz13_2
                        try clear hfz13_3
                        try clear hfz13_4
                        try clear hfz13_5
                        try clear hfz15_0
                        try clear hfz15_1
                        try clear hfz15_2
                        try clear hfz15_3
                        try clear hfz15_4
                        try clear hfz15_5
                        try clear hfz22_0
                        try clear hfz22_1
                        try clear hfz22_2
                        try clear hfz22_3
                        try clear hfz22_4
                        try clear hfz22_5
                        try clear hfz25_0
                        try clear hfz25_1
                        try clear hfz25_2
                        try clear hfz25_3
                        try clear hfz25_4
                        try clear hfz25_5
                        try clear hfz30_0
                        try clear hfz30_1
                        try clear hfz30_2
                        try clear hfz30_3
                        try clear hfz30_4
                        try clear hfz30_5
                        try clear hfz38_0
                        try clear hfz38_1
                        try clear hfz38_2
                        try clear hfz38_3
                        try clear hfz38_4
                        try clear hfz38_5
                        try clear hfz46_0
                        try clear hfz46_1
                        try clear hfz46_2
                        try clear hfz46_3
                        try clear hfz46_4
                        try clear hfz46_5
                        try clear hfz49_0
                        try clear hfz49_1
                        try clear hfz49_2
                        try clear hfz49_3
                        try clear hfz49_4
                        try clear hfz49_5
                        try clear hfz5_0
                        try clear hfz5_1
                        try clear hfz5_2
                        try clear hfz5_3
                        try clear hfz5_4
                        try clear hfz5_5
                        try clear hfz65_0
                        try clear hfz65_1
                        try clear hfz65_2
                        try clear hfz65_3
                        try clear hfz65_4
                        try clear hfz65_5
                        try clear hfz73_0
                        try clear hfz73_1
                        try clear hfz73_2
                        try clear hfz73_3
                        try clear hfz73_4
                        try clear hfz73_5
                        try clear hfz76_0
                        try clear hfz76_1
                        try clear hfz76_2
                        try clear hfz76_3
                        try clear hfz76_4
                        try clear hfz76_5
                        try clear hfz89_0
                        try clear hfz89_1
                        try clear hfz89_2
                        try clear hfz89_3
                        try clear hfz89_4
                        try clear hfz89_5
                        try clear hfz91_0
                        try clear hfz91_1
                        try clear hfz91_2
                        try clear hfz91_3
                        try clear hfz91_4
                        try clear hfz91_5
                        try clear hfz95_0
                        try clear hfz95_1
                        try clear hfz95_2
                        try clear hfz95_3
                        try clear hfz95_4
                        try clear hfz95_5
                        try clear p2
                        obtain ⟨kq, x87_84, rfl, HA, HJ84, HO_203004, HO_203005, HO_214004, HO_214005, HO_226004, HO_226005, HO_268004, HO_268005, BK179, BK202, BK213, BK225, BK267, HB⟩ := hcut
                        have hl226004_84 := (Kd.R_reads' HO_226004.out).1
                        rw [hl226004_84] at HO_226004
                        (try simp only [hl226004_84])
                        (try simp only [hl226004_84] at BK179)
                        (try simp only [hl226004_84] at BK202)
                        (try simp only [hl226004_84] at BK213)
                        (try simp only [hl226004_84] at BK225)
                        (try simp only [hl226004_84] at BK267)
                        (try simp only [hl226004_84] at HO_203004)
                        (try simp only [hl226004_84] at HO_203005)
                        (try simp only [hl226004_84] at HO_214004)
                        (try simp only [hl226004_84] at HO_214005)
                        (try simp only [hl226004_84] at HO_226005)
                        (try simp only [hl226004_84] at HO_268004)
                        (try simp only [hl226004_84] at HO_268005)
                        have hl226005_84 := (Kd.R_reads' HO_226005.out).1
                        rw [hl226005_84] at HO_226005
                        (try simp only [hl226005_84])
                        (try simp only [hl226005_84] at BK179)
                        (try simp only [hl226005_84] at BK202)
                        (try simp only [hl226005_84] at BK213)
                        (try simp only [hl226005_84] at BK225)
                        (try simp only [hl226005_84] at BK267)
                        (try simp only [hl226005_84] at HO_203004)
                        (try simp only [hl226005_84] at HO_203005)
                        (try simp only [hl226005_84] at HO_214004)
                        (try simp only [hl226005_84] at HO_214005)
                        (try simp only [hl226005_84] at HO_226004)
                        (try simp only [hl226005_84] at HO_268004)
                        (try simp only [hl226005_84] at HO_268005)
                        cases kq with
                        | zero => exact absurd HA.out (by simp [laws_FnExactImageRgb.j2])
                        | succ kj84 =>
                          have H := HA.out
                          clear HA
                          simp only [laws_FnExactImageRgb.j2] at H
                          by_cases c120 : x87_84 = true
                          · subst c120
                            have H1 : (some false) = some true := by first | (rw [if_pos rfl] at H; exact H) | rfl
                            clear H
                            have H := H1
                            clear H1
                            exact absurd H (by simp)
                          · replace c120 := Bool.eq_false_iff.mpr c120
                            subst c120
                            have H1 : ((laws_heldImage.f kj84 t214 t215 t216 t217 t243 t244 1).bind fun t269 => (if t269 < 0 then (some false) else (if t269 = t242 then (some true) else (some false)))) = some true := by first | (rw [if_neg (show ¬ (false = true) by decide)] at H; exact H) | rfl
                            clear H
                            have H := H1
                            clear H1
                            replace H := Option.bind_eq_some_iff.mp H
                            obtain ⟨t269, A1210, H⟩ := H
                            replace H : (if t269 < 0 then (some false) else (if t269 = t242 then (some true) else (some false))) = some true := H
                            have A121 := Aside0.mk A1210
                            clear A1210
                            by_cases c122 : t269 < 0
                            · rw [if_pos c122] at H
                              have c122b0 : decide (t269 < 0) = true := decide_eq_true c122
                              clear c122
                              exact absurd H (by simp)
                            · rw [if_neg c122] at H
                              have c122b0 : decide (t269 < 0) = false := decide_eq_false c122
                              clear c122
                              by_cases c123 : t269 = t242
                              · rw [if_pos c123] at H
                                have c123b0 : (t269 == t242) = true := beq_iff_eq.mpr c123
                                have c123b1 : (t269 != t242) = false := bne_eq_false_iff_eq.mpr c123
                                clear c123
                                clear H
                                have hnb124 := NB225_179.out
                                have hnc124 := NB179_225.out
                                have hnb125 := NB225_202.out
                                have hnc125 := NB202_225.out
                                have hnb126 := NB225_213.out
                                have hnc126 := NB213_225.out
                                have hnb127 := NB225_267.out
                                have hnc127 := NB267_225.out
                                have hcz128_0 : wc.cell? ⟨gb225, 0, none⟩ = some (.int .i64 t214) := (blk_cell BK225.out 0).trans rfl
                                have hcz128_1 : wc.cell? ⟨gb225, 1, none⟩ = some (.int .i64 t215) := (blk_cell BK225.out 1).trans rfl
                                have hcz128_2 : wc.cell? ⟨gb225, 2, none⟩ = some (.int .i64 t216) := (blk_cell BK225.out 2).trans rfl
                                have hcz128_3 : wc.cell? ⟨gb225, 3, none⟩ = some (.int .i64 t217) := (blk_cell BK225.out 3).trans rfl
                                have hcz128_4 : wc.cell? ⟨gb225, 4, none⟩ = some (.slice Ao39 t243.length co39) := (blk_cell BK225.out 4).trans rfl
                                have hcz128_5 : wc.cell? ⟨gb225, 5, none⟩ = some (.slice Ao40 t244.length co40) := (blk_cell BK225.out 5).trans rfl
                                have hfz128_0 := blk_frozen BK225.out 0
                                have hfz128_1 := blk_frozen BK225.out 1
                                have hfz128_2 := blk_frozen BK225.out 2
                                have hfz128_3 := blk_frozen BK225.out 3
                                have hfz128_4 := blk_frozen BK225.out 4
                                have hfz128_5 := blk_frozen BK225.out 5
                                go_wp2_with (first | ((with_reducible refine gate_callee (f := 29) rfl ?_); refine goesL_ (some 90) rfl rfl Try.func29 (by kernel_rfl) rfl #[.agg #[.int .i64 t214, .int .i64 t215, .int .i64 t216, .int .i64 t217, .slice Ao39 t243.length co39, .slice Ao40 t244.length co40], .int .i64 1] rfl (by (try simp only [List.map_toArray, List.map_cons, List.map_nil]); first | done | rfl | (simp only [List.length_drop, List.length_take]; rfl)) ?_; (with_reducible refine (laws_heldImage.calls kj84 t214 t215 t216 t217 _ _ t243 _ _ t244 1 t269 _ ?side1 ?side2 ?side3 ?side4 A121.out).mono ?_); (case side1 => repeat (first | exact (Kd.R_reads' HO_226004.out).2.2 | (with_reducible refine Kd.C_alloc ?_ _) | (with_reducible refine Kd.C_drewN ?_ _) | (with_reducible refine Kd.C_drew ?_))); (case side2 => exact (Kd.R_reads' HO_226004.out).2.1); (case side3 => repeat (first | exact (Kd.R_reads' HO_226005.out).2.2 | (with_reducible refine Kd.C_alloc ?_ _) | (with_reducible refine Kd.C_drewN ?_ _) | (with_reducible refine Kd.C_drew ?_))); (case side4 => exact (Kd.R_reads' HO_226005.out).2.1); rintro e w129 ⟨rfl, hb⟩; refine ⟨_, rfl, ?_⟩; have n0_ := Aside0.mk (Kd.R_below (by (with_reducible repeat (first | apply Kd.R_alloc | apply Kd.R_drewN | apply Kd.R_drew)); exact HO_203004.out) hb); have n1_ := Aside0.mk (Kd.R_below (by (with_reducible repeat (first | apply Kd.R_alloc | apply Kd.R_drewN | apply Kd.R_drew)); exact HO_203005.out) hb); have n2_ := Aside0.mk (Kd.R_below (by (with_reducible repeat (first | apply Kd.R_alloc | apply Kd.R_drewN | apply Kd.R_drew)); exact HO_214004.out) hb); have n3_ := Aside0.mk (Kd.R_below (by (with_reducible repeat (first | apply Kd.R_alloc | apply Kd.R_drewN | apply Kd.R_drew)); exact HO_214005.out) hb); have n4_ := Aside0.mk (Kd.R_below (by (with_reducible repeat (first | apply Kd.R_alloc | apply Kd.R_drewN | apply Kd.R_drew)); exact HO_226004.out) hb); have n5_ := Aside0.mk (Kd.R_below (by (with_reducible repeat (first | apply Kd.R_alloc | apply Kd.R_drewN | apply Kd.R_drew)); exact HO_226005.out) hb); have n6_ := Aside0.mk (Kd.R_below (by (with_reducible repeat (first | apply Kd.R_alloc | apply Kd.R_drewN | apply Kd.R_drew)); exact HO_268004.out) hb); have n7_ := Aside0.mk (Kd.R_below (by (with_reducible repeat (first | apply Kd.R_alloc | apply Kd.R_drewN | apply Kd.R_drew)); exact HO_268005.out) hb); have n8_ := Aside0.mk (blk_below (g := gb179) (o := .cells #[.int .i64 a0_0, .int .i64 a0_1, .int .i64 a0_2, .int .i64 a0_3, .slice A0_4 l0_4.length c0_4, .slice A0_5 l0_5.length c0_5] 24 (0, 0)) (by (with_reducible repeat (first | refine blk_drewN ?_ _ | refine blk_drew ?_ | refine blk_alloc ?_ _)); exact BK179.out) hb); have n9_ := Aside0.mk (blk_below (g := gb202) (o := .cells #[.int .i64 t191, .int .i64 t192, .int .i64 t193, .int .i64 t194, .slice Ao23 t195.length co23, .slice Ao24 t198.length co24] 27 (0, 0)) (by (with_reducible repeat (first | refine blk_drewN ?_ _ | refine blk_drew ?_ | refine blk_alloc ?_ _)); exact BK202.out) hb); have n10_ := Aside0.mk (blk_below (g := gb213) (o := .cells #[.int .i64 t203, .int .i64 t204, .int .i64 t205, .int .i64 t206, .slice Ao31 t239.length co31, .slice Ao32 t240.length co32] 27 (0, 0)) (by (with_reducible repeat (first | refine blk_drewN ?_ _ | refine blk_drew ?_ | refine blk_alloc ?_ _)); exact BK213.out) hb); have n11_ := Aside0.mk (blk_below (g := gb225) (o := .cells #[.int .i64 t214, .int .i64 t215, .int .i64 t216, .int .i64 t217, .slice Ao39 t243.length co39, .slice Ao40 t244.length co40] 27 (0, 0)) (by (with_reducible repeat (first | refine blk_drewN ?_ _ | refine blk_drew ?_ | refine blk_alloc ?_ _)); exact BK225.out) hb); have n12_ := Aside0.mk (blk_below (g := gb267) (o := .cells #[.int .i64 t256, .int .i64 t257, .int .i64 t258, .int .i64 t259, .slice Ao106 t260.length co106, .slice Ao107 t263.length co107] 27 (0, 0)) (by (with_reducible repeat (first | refine blk_drewN ?_ _ | refine blk_drew ?_ | refine blk_alloc ?_ _)); exact BK267.out) hb); have n13_ := Aside0.mk (below_step (by repeat (first | (with_reducible first | exact HB.out | apply below_alloc | apply pw_below_drewN | apply below_drew1 | refine below_set ?_ GE179.out | refine below_set ?_ GE202.out | refine below_set ?_ GE213.out | refine below_set ?_ GE225.out | refine below_set ?_ GE267.out) | exact HB.out)) hb); clear HO_203004; clear HO_203005; clear HO_214004; clear HO_214005; clear HO_226004; clear HO_226005; clear HO_268004; clear HO_268005; clear BK179; clear BK202; clear BK213; clear BK225; clear BK267; clear HB; have HO_203004 := n0_; have HO_203005 := n1_; have HO_214004 := n2_; have HO_214005 := n3_; have HO_226004 := n4_; have HO_226005 := n5_; have HO_268004 := n6_; have HO_268005 := n7_; have BK179 := n8_; have BK202 := n9_; have BK213 := n10_; have BK225 := n11_; have BK267 := n12_; have HB := n13_; clear n0_ n1_ n2_ n3_ n4_ n5_ n6_ n7_ n8_ n9_ n10_ n11_ n12_ n13_; (try clear hb); (try clear hb2); (try clear hk); (try clear hi)))
                                go_ret
                                exact ⟨by first | rfl | (simp [errW_none, errW_some] <;> rfl) | (simp [*, errW_none, errW_some] <;> rfl), by repeat (first | (with_reducible first | exact HB.out | apply below_alloc | apply pw_below_drewN | apply below_drew1 | refine below_set ?_ GE179.out | refine below_set ?_ GE202.out | refine below_set ?_ GE213.out | refine below_set ?_ GE225.out | refine below_set ?_ GE267.out) | exact HB.out)⟩
                              · rw [if_neg c123] at H
                                have c123b0 : (t269 == t242) = false := beq_eq_false_iff_ne.mpr c123
                                have c123b1 : (t269 != t242) = true := bne_iff_ne.mpr c123
                                exact absurd H (by simp)
                    · rw [if_neg c82] at H
                      have c82b0 : (t245 == t242) = false := beq_eq_false_iff_ne.mpr c82
                      have c82b1 : (t245 != t242) = true := bne_iff_ne.mpr c82
                      exact absurd H (by simp)
          · replace c54 := Bool.eq_false_iff.mpr c54
            subst c54
            have H1 : (some false) = some true := by first | (rw [if_neg (show ¬ (false = true) by decide)] at H; exact H) | rfl
            clear H
            have H := H1
            clear H1
            exact absurd H (by simp)

/-- THE ONE PURE STATEMENT of laws_FnExactImageRgb: yours. -/
def laws_FnExactImageRgb.Pure : Prop := ∀ (a0_0 : Int) (a0_1 : Int) (a0_2 : Int) (a0_3 : Int) (l0_4 : List Int) (l0_5 : List Int), (Lit.int .i64 a0_0).wf = true → (Lit.int .i64 a0_1).wf = true → (Lit.int .i64 a0_2).wf = true → (Lit.int .i64 a0_3).wf = true → l0_4.length ≤ maxLen → (∀ y ∈ l0_4, (Lit.int .i64 y).wf = true) → l0_5.length ≤ maxLen → (∀ y ∈ l0_5, (Lit.int .i64 y).wf = true) → ∃ k, laws_FnExactImageRgb.f k a0_0 a0_1 a0_2 a0_3 l0_4 l0_5 = some true
theorem laws_FnExactImageRgb.walk (P : laws_FnExactImageRgb.Pure) (a0_0 : Int) (a0_1 : Int) (a0_2 : Int) (a0_3 : Int) (A0_4 : Option Addr) (c0_4 : Nat) (l0_4 : List Int) (A0_5 : Option Addr) (c0_5 : Nat) (l0_5 : List Int) (w : World) (w0_0 : (Lit.int .i64 a0_0).wf = true) (w0_1 : (Lit.int .i64 a0_1).wf = true) (w0_2 : (Lit.int .i64 a0_2).wf = true) (w0_3 : (Lit.int .i64 a0_3).wf = true) (hr0_4 : Kd.C (Kd.int .i64) w A0_4 l0_4.length l0_4) (hc0_4 : l0_4.length ≤ c0_4) (hm0_4 : l0_4.length ≤ maxLen) (hw0_4 : ∀ y ∈ l0_4, (Lit.int .i64 y).wf = true) (hr0_5 : Kd.C (Kd.int .i64) w A0_5 l0_5.length l0_5) (hc0_5 : l0_5.length ≤ c0_5) (hm0_5 : l0_5.length ≤ maxLen) (hw0_5 : ∀ y ∈ l0_5, (Lit.int .i64 y).wf = true) :
    Calls Try.prog 10 #[.agg #[.int .i64 a0_0, .int .i64 a0_1, .int .i64 a0_2, .int .i64 a0_3, .slice A0_4 l0_4.length c0_4, .slice A0_5 l0_5.length c0_5]] w fun e w' => e = .returned (.bool true) ∧ Below w.heap.size w w' := by
  obtain ⟨k, h⟩ := P a0_0 a0_1 a0_2 a0_3 l0_4 l0_5 w0_0 w0_1 w0_2 w0_3 hm0_4 hw0_4 hm0_5 hw0_5
  refine (laws_FnExactImageRgb.calls k a0_0 a0_1 a0_2 a0_3 A0_4 c0_4 l0_4 A0_5 c0_5 l0_5 w hr0_4 hc0_4 hr0_5 hc0_5 h).mono ?_
  rintro e w' ⟨rfl, hd⟩
  exact ⟨rfl, hd⟩

end Go.Proofs.Ytkjfefiphdloiaa.PFnExactImageRgb
