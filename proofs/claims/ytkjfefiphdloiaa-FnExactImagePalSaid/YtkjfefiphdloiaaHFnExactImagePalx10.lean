/- What the functions that the law comes to compute, as plain functions, and that the machine's calls come to just that: written by a program for this claim, and turned where Lean did not take it. No condition. -/
import Derived.Test.YtkjfefiphdloiaaHFnExactImagePalx0
import Derived.Test.YtkjfefiphdloiaaHFnExactImagePalx1
import Derived.Test.YtkjfefiphdloiaaHFnExactImagePalx5
import Derived.Test.YtkjfefiphdloiaaHFnExactImagePalx9
namespace Go.Proofs.Ytkjfefiphdloiaa.PFnExactImagePal
open Go.RowKit Go.Proofs.YtkjfefiphdloiaaW.PrintWords Go.Proofs.YtkjfefiphdloiaaW.PrintLast Go.Proofs.YtkjfefiphdloiaaW.PrintMore
attribute [local go_sem] max2_int min2_int max_two min_two max_three min_three max_four min_four   -- for this text's walks alone
set_option linter.unusedVariables false
set_option linter.unusedSimpArgs false

/-! ### laws_FnExactImagePal: function 11 -/
mutual
def laws_FnExactImagePal.j0 : Nat → Bool → Bool → Bool → Int → Int → Int → Int → List Int → List Int → Int → Int → Int → Int → List Int → List Int → Int → Int → Int → Int → List Int → List Int → Int → Int → Int → Int → List Int → List Int → Option (Bool)
 | 0, _, _, _, _, _, _, _, _, _, _, _, _, _, _, _, _, _, _, _, _, _, _, _, _, _, _, _ => none
 | k + 1, x5, x8, x40, x236000, x236001, x236002, x236003, x236004, x236005, x259000, x259001, x259002, x259003, x259004, x259005, x270000, x270001, x270002, x270003, x270004, x270005, x282000, x282001, x282002, x282003, x282004, x282005 => if x40 = true then (some false) else ((laws_toImage.f k x236000 x236001 x236002 x236003 x236004 x236005).bind fun bt283 => ((laws_eqImage.f k x270000 x270001 x270002 x270003 x270004 x270005 bt283.1 bt283.2.1 bt283.2.2.1 bt283.2.2.2.1 bt283.2.2.2.2.1 bt283.2.2.2.2.2).bind fun t293 => (if t293 = true then ((laws_markImage.f k x270000 x270001 x270002 x270003 x270004 x270005 1).bind fun bt294 => (if bt294.1 < 0 then (laws_FnExactImagePal.j1 k x5 true x236000 x236001 x236002 x236003 x236004 x236005 x259000 x259001 x259002 x259003 x259004 x259005 x282000 x282001 x282002 x282003 x282004 x282005) else ((laws_eqImage.f k x282000 x282001 x282002 x282003 x282004 x282005 x259000 x259001 x259002 x259003 x259004 x259005).bind fun t297 => (if t297 = true then (laws_FnExactImagePal.j1 k x5 (x8 != x5) x236000 x236001 x236002 x236003 x236004 x236005 x259000 x259001 x259002 x259003 x259004 x259005 x282000 x282001 x282002 x282003 x282004 x282005) else (laws_FnExactImagePal.j1 k x5 true x236000 x236001 x236002 x236003 x236004 x236005 x259000 x259001 x259002 x259003 x259004 x259005 x282000 x282001 x282002 x282003 x282004 x282005))))) else (some false))))
def laws_FnExactImagePal.j1 : Nat → Bool → Bool → Int → Int → Int → Int → List Int → List Int → Int → Int → Int → Int → List Int → List Int → Int → Int → Int → Int → List Int → List Int → Option (Bool)
 | 0, _, _, _, _, _, _, _, _, _, _, _, _, _, _, _, _, _, _, _, _ => none
 | k + 1, x5, x61, x236000, x236001, x236002, x236003, x236004, x236005, x259000, x259001, x259002, x259003, x259004, x259005, x282000, x282001, x282002, x282003, x282004, x282005 => if x61 = true then (some false) else ((laws_markImage.f k x282000 x282001 x282002 x282003 x282004 x282005 1).bind fun bt298 => ((laws_heldImage.f k x282000 x282001 x282002 x282003 bt298.2.1 bt298.2.2 1).bind fun t301 => (if t301 < 0 then (some false) else (if t301 = bt298.1 then ((laws_toImage.f k x236000 x236001 x236002 x236003 x236004 x236005).bind fun bt302 => ((impl_ImagePal.f k bt302.1 bt302.2.1 bt302.2.2.1 bt302.2.2.2.1 bt302.2.2.2.2.1 bt302.2.2.2.2.2).bind fun bt312 => ((laws_eqImage.f k bt312.1 bt312.2.1 bt312.2.2.1 bt312.2.2.2.1 bt312.2.2.2.2.1 bt312.2.2.2.2.2.1 x259000 x259001 x259002 x259003 x259004 x259005).bind fun t324 => (if t324 = true then (laws_FnExactImagePal.j2 k bt298.1 (bt312.2.2.2.2.2.2 != x5) x282000 x282001 x282002 x282003 bt298.2.1 bt298.2.2) else (laws_FnExactImagePal.j2 k bt298.1 true x282000 x282001 x282002 x282003 bt298.2.1 bt298.2.2))))) else (some false)))))
def laws_FnExactImagePal.j2 : Nat → Int → Bool → Int → Int → Int → Int → List Int → List Int → Option (Bool)
 | 0, _, _, _, _, _, _, _, _ => none
 | k + 1, x10, x87, x282000, x282001, x282002, x282003, x282004, x282005 => if x87 = true then (some false) else ((laws_heldImage.f k x282000 x282001 x282002 x282003 x282004 x282005 1).bind fun t325 => (if t325 < 0 then (some false) else (if t325 = x10 then (some true) else (some false))))
end
def laws_FnExactImagePal.f (k : Nat) (a0_0 : Int) (a0_1 : Int) (a0_2 : Int) (a0_3 : Int) (l0_4 : List Int) (l0_5 : List Int) : Option (Bool) := (laws_szImage.f a0_0 a0_1 a0_2 a0_3 l0_4 l0_5 1048576).bind fun t236 => (if t236 < 0 then (some true) else ((laws_toImage.f k a0_0 a0_1 a0_2 a0_3 l0_4 l0_5).bind fun bt237 => ((spec_ImagePal.f k bt237.1 bt237.2.1 bt237.2.2.1 bt237.2.2.2.1 bt237.2.2.2.2.1 bt237.2.2.2.2.2).bind fun bt247 => ((laws_toImage.f k a0_0 a0_1 a0_2 a0_3 l0_4 l0_5).bind fun bt259 => ((impl_ImagePal.f k bt259.1 bt259.2.1 bt259.2.2.1 bt259.2.2.2.1 bt259.2.2.2.2.1 bt259.2.2.2.2.2).bind fun bt270 => ((laws_eqImage.f k bt270.1 bt270.2.1 bt270.2.2.1 bt270.2.2.2.1 bt270.2.2.2.2.1 bt270.2.2.2.2.2.1 bt247.1 bt247.2.1 bt247.2.2.1 bt247.2.2.2.1 bt247.2.2.2.2.1 bt247.2.2.2.2.2.1).bind fun t282 => (if t282 = true then (laws_FnExactImagePal.j0 k bt247.2.2.2.2.2.2 bt270.2.2.2.2.2.2 (bt270.2.2.2.2.2.2 != bt247.2.2.2.2.2.2) a0_0 a0_1 a0_2 a0_3 l0_4 l0_5 bt247.1 bt247.2.1 bt247.2.2.1 bt247.2.2.2.1 bt247.2.2.2.2.1 bt247.2.2.2.2.2.1 bt259.1 bt259.2.1 bt259.2.2.1 bt259.2.2.2.1 bt259.2.2.2.2.1 bt259.2.2.2.2.2 bt270.1 bt270.2.1 bt270.2.2.1 bt270.2.2.2.1 bt270.2.2.2.2.1 bt270.2.2.2.2.2.1) else (laws_FnExactImagePal.j0 k bt247.2.2.2.2.2.2 bt270.2.2.2.2.2.2 true a0_0 a0_1 a0_2 a0_3 l0_4 l0_5 bt247.1 bt247.2.1 bt247.2.2.1 bt247.2.2.2.1 bt247.2.2.2.2.1 bt247.2.2.2.2.2.1 bt259.1 bt259.2.1 bt259.2.2.1 bt259.2.2.2.1 bt259.2.2.2.2.1 bt259.2.2.2.2.2 bt270.1 bt270.2.1 bt270.2.2.1 bt270.2.2.2.1 bt270.2.2.2.2.1 bt270.2.2.2.2.2.1))))))))
theorem laws_FnExactImagePal.mono_l : ∀ k, (∀ y0 y1 y2 y3 y4 y5 y6 y7 y8 y9 y10 y11 y12 y13 y14 y15 y16 y17 y18 y19 y20 y21 y22 y23 y24 y25 y26, LeO (laws_FnExactImagePal.j0 k y0 y1 y2 y3 y4 y5 y6 y7 y8 y9 y10 y11 y12 y13 y14 y15 y16 y17 y18 y19 y20 y21 y22 y23 y24 y25 y26) (laws_FnExactImagePal.j0 (k + 1) y0 y1 y2 y3 y4 y5 y6 y7 y8 y9 y10 y11 y12 y13 y14 y15 y16 y17 y18 y19 y20 y21 y22 y23 y24 y25 y26)) ∧ (∀ y0 y1 y2 y3 y4 y5 y6 y7 y8 y9 y10 y11 y12 y13 y14 y15 y16 y17 y18 y19, LeO (laws_FnExactImagePal.j1 k y0 y1 y2 y3 y4 y5 y6 y7 y8 y9 y10 y11 y12 y13 y14 y15 y16 y17 y18 y19) (laws_FnExactImagePal.j1 (k + 1) y0 y1 y2 y3 y4 y5 y6 y7 y8 y9 y10 y11 y12 y13 y14 y15 y16 y17 y18 y19)) ∧ (∀ y0 y1 y2 y3 y4 y5 y6 y7, LeO (laws_FnExactImagePal.j2 k y0 y1 y2 y3 y4 y5 y6 y7) (laws_FnExactImagePal.j2 (k + 1) y0 y1 y2 y3 y4 y5 y6 y7))
 | 0 => ⟨fun _ _ _ _ _ _ _ _ _ _ _ _ _ _ _ _ _ _ _ _ _ _ _ _ _ _ _ r h => by simp [laws_FnExactImagePal.j0] at h, fun _ _ _ _ _ _ _ _ _ _ _ _ _ _ _ _ _ _ _ _ r h => by simp [laws_FnExactImagePal.j1] at h, fun _ _ _ _ _ _ _ _ r h => by simp [laws_FnExactImagePal.j2] at h⟩
 | k + 1 => by
  obtain ⟨ih0, ih1, ih2⟩ := laws_FnExactImagePal.mono_l k
  refine ⟨?_, ?_, ?_⟩
  ·intro y0 y1 y2 y3 y4 y5 y6 y7 y8 y9 y10 y11 y12 y13 y14 y15 y16 y17 y18 y19 y20 y21 y22 y23 y24 y25 y26
   unfold laws_FnExactImagePal.j0
   repeat' first
   | (with_reducible exact ih0 _ _ _ _ _ _ _ _ _ _ _ _ _ _ _ _ _ _ _ _ _ _ _ _ _ _ _)
   | (with_reducible exact ih1 _ _ _ _ _ _ _ _ _ _ _ _ _ _ _ _ _ _ _ _)
   | (with_reducible exact ih2 _ _ _ _ _ _ _ _)
   | (with_reducible exact impl_ImagePal.mono _ _ _ _ _ _ _)
   | (with_reducible exact laws_eqImage.mono _ _ _ _ _ _ _ _ _ _ _ _ _)
   | (with_reducible exact laws_heldImage.mono _ _ _ _ _ _ _ _)
   | (with_reducible exact laws_markImage.mono _ _ _ _ _ _ _ _)
   | (with_reducible exact laws_toImage.mono _ _ _ _ _ _ _)
   | (with_reducible exact spec_ImagePal.mono _ _ _ _ _ _ _)
   | (with_reducible exact LeO.refl _)
   | (with_reducible exact LeO.none _)
   | (with_reducible refine LeO.ite ?_ ?_)
   | (with_reducible refine LeO.bind ?_ (fun _ => ?_))
  ·intro y0 y1 y2 y3 y4 y5 y6 y7 y8 y9 y10 y11 y12 y13 y14 y15 y16 y17 y18 y19
   unfold laws_FnExactImagePal.j1
   repeat' first
   | (with_reducible exact ih0 _ _ _ _ _ _ _ _ _ _ _ _ _ _ _ _ _ _ _ _ _ _ _ _ _ _ _)
   | (with_reducible exact ih1 _ _ _ _ _ _ _ _ _ _ _ _ _ _ _ _ _ _ _ _)
   | (with_reducible exact ih2 _ _ _ _ _ _ _ _)
   | (with_reducible exact impl_ImagePal.mono _ _ _ _ _ _ _)
   | (with_reducible exact laws_eqImage.mono _ _ _ _ _ _ _ _ _ _ _ _ _)
   | (with_reducible exact laws_heldImage.mono _ _ _ _ _ _ _ _)
   | (with_reducible exact laws_markImage.mono _ _ _ _ _ _ _ _)
   | (with_reducible exact laws_toImage.mono _ _ _ _ _ _ _)
   | (with_reducible exact spec_ImagePal.mono _ _ _ _ _ _ _)
   | (with_reducible exact LeO.refl _)
   | (with_reducible exact LeO.none _)
   | (with_reducible refine LeO.ite ?_ ?_)
   | (with_reducible refine LeO.bind ?_ (fun _ => ?_))
  ·intro y0 y1 y2 y3 y4 y5 y6 y7
   unfold laws_FnExactImagePal.j2
   repeat' first
   | (with_reducible exact ih0 _ _ _ _ _ _ _ _ _ _ _ _ _ _ _ _ _ _ _ _ _ _ _ _ _ _ _)
   | (with_reducible exact ih1 _ _ _ _ _ _ _ _ _ _ _ _ _ _ _ _ _ _ _ _)
   | (with_reducible exact ih2 _ _ _ _ _ _ _ _)
   | (with_reducible exact impl_ImagePal.mono _ _ _ _ _ _ _)
   | (with_reducible exact laws_eqImage.mono _ _ _ _ _ _ _ _ _ _ _ _ _)
   | (with_reducible exact laws_heldImage.mono _ _ _ _ _ _ _ _)
   | (with_reducible exact laws_markImage.mono _ _ _ _ _ _ _ _)
   | (with_reducible exact laws_toImage.mono _ _ _ _ _ _ _)
   | (with_reducible exact spec_ImagePal.mono _ _ _ _ _ _ _)
   | (with_reducible exact LeO.refl _)
   | (with_reducible exact LeO.none _)
   | (with_reducible refine LeO.ite ?_ ?_)
   | (with_reducible refine LeO.bind ?_ (fun _ => ?_))
theorem laws_FnExactImagePal.mono : ∀ a0 a1 a2 a3 a4 a5 k, LeO (laws_FnExactImagePal.f k a0 a1 a2 a3 a4 a5) (laws_FnExactImagePal.f (k + 1) a0 a1 a2 a3 a4 a5) := by
 intro a0 a1 a2 a3 a4 a5 k
 obtain ⟨ih0, ih1, ih2⟩ := laws_FnExactImagePal.mono_l k
 unfold laws_FnExactImagePal.f
 repeat' first
   | (with_reducible exact ih0 _ _ _ _ _ _ _ _ _ _ _ _ _ _ _ _ _ _ _ _ _ _ _ _ _ _ _)
   | (with_reducible exact ih1 _ _ _ _ _ _ _ _ _ _ _ _ _ _ _ _ _ _ _ _)
   | (with_reducible exact ih2 _ _ _ _ _ _ _ _)
   | (with_reducible exact impl_ImagePal.mono _ _ _ _ _ _ _)
   | (with_reducible exact laws_eqImage.mono _ _ _ _ _ _ _ _ _ _ _ _ _)
   | (with_reducible exact laws_heldImage.mono _ _ _ _ _ _ _ _)
   | (with_reducible exact laws_markImage.mono _ _ _ _ _ _ _ _)
   | (with_reducible exact laws_toImage.mono _ _ _ _ _ _ _)
   | (with_reducible exact spec_ImagePal.mono _ _ _ _ _ _ _)
   | (with_reducible exact LeO.refl _)
   | (with_reducible exact LeO.none _)
   | (with_reducible refine LeO.ite ?_ ?_)
   | (with_reducible refine LeO.bind ?_ (fun _ => ?_))
set_option maxHeartbeats 8000000 in
set_option maxRecDepth 100000 in
theorem laws_FnExactImagePal.calls (k : Nat) (a0_0 : Int) (a0_1 : Int) (a0_2 : Int) (a0_3 : Int) (A0_4 : Option Addr) (c0_4 : Nat) (l0_4 : List Int) (A0_5 : Option Addr) (c0_5 : Nat) (l0_5 : List Int) (w : World) (hr0_4 : Kd.C (Kd.int .i64) w A0_4 l0_4.length l0_4) (hc0_4 : l0_4.length ≤ c0_4) (hr0_5 : Kd.C (Kd.int .i64) w A0_5 l0_5.length l0_5) (hc0_5 : l0_5.length ≤ c0_5) (h : laws_FnExactImagePal.f k a0_0 a0_1 a0_2 a0_3 l0_4 l0_5 = some true) :
  Calls Try.prog 11 #[.agg #[.int .i64 a0_0, .int .i64 a0_1, .int .i64 a0_2, .int .i64 a0_3, .slice A0_4 l0_4.length c0_4, .slice A0_5 l0_5.length c0_5]] w fun e w' => e = .returned (.bool true) ∧ Below w.heap.size w w' := by
 have hu24 := Try.underlying24
 have hu27 := Try.underlying27
 have HR0_4 := Aside0.mk hr0_4
 have HC0_4 := Aside0.mk hc0_4
 clear hr0_4 hc0_4
 have HR0_5 := Aside0.mk hr0_5
 have HC0_5 := Aside0.mk hc0_5
 clear hr0_5 hc0_5
 have HB := Aside0.mk (Below.refl w.heap.size w)
 have H : ((laws_szImage.f a0_0 a0_1 a0_2 a0_3 l0_4 l0_5 1048576).bind fun t236 => (if t236 < 0 then (some true) else ((laws_toImage.f k a0_0 a0_1 a0_2 a0_3 l0_4 l0_5).bind fun bt237 => ((spec_ImagePal.f k bt237.1 bt237.2.1 bt237.2.2.1 bt237.2.2.2.1 bt237.2.2.2.2.1 bt237.2.2.2.2.2).bind fun bt247 => ((laws_toImage.f k a0_0 a0_1 a0_2 a0_3 l0_4 l0_5).bind fun bt259 => ((impl_ImagePal.f k bt259.1 bt259.2.1 bt259.2.2.1 bt259.2.2.2.1 bt259.2.2.2.2.1 bt259.2.2.2.2.2).bind fun bt270 => ((laws_eqImage.f k bt270.1 bt270.2.1 bt270.2.2.1 bt270.2.2.2.1 bt270.2.2.2.2.1 bt270.2.2.2.2.2.1 bt247.1 bt247.2.1 bt247.2.2.1 bt247.2.2.2.1 bt247.2.2.2.2.1 bt247.2.2.2.2.2.1).bind fun t282 => (if t282 = true then (laws_FnExactImagePal.j0 k bt247.2.2.2.2.2.2 bt270.2.2.2.2.2.2 (bt270.2.2.2.2.2.2 != bt247.2.2.2.2.2.2) a0_0 a0_1 a0_2 a0_3 l0_4 l0_5 bt247.1 bt247.2.1 bt247.2.2.1 bt247.2.2.2.1 bt247.2.2.2.2.1 bt247.2.2.2.2.2.1 bt259.1 bt259.2.1 bt259.2.2.1 bt259.2.2.2.1 bt259.2.2.2.2.1 bt259.2.2.2.2.2 bt270.1 bt270.2.1 bt270.2.2.1 bt270.2.2.2.1 bt270.2.2.2.2.1 bt270.2.2.2.2.2.1) else (laws_FnExactImagePal.j0 k bt247.2.2.2.2.2.2 bt270.2.2.2.2.2.2 true a0_0 a0_1 a0_2 a0_3 l0_4 l0_5 bt247.1 bt247.2.1 bt247.2.2.1 bt247.2.2.2.1 bt247.2.2.2.2.1 bt247.2.2.2.2.2.1 bt259.1 bt259.2.1 bt259.2.2.1 bt259.2.2.2.1 bt259.2.2.2.2.1 bt259.2.2.2.2.2 bt270.1 bt270.2.1 bt270.2.2.1 bt270.2.2.2.1 bt270.2.2.2.2.1 bt270.2.2.2.2.2.1))))))))) = some true := h
 clear h
 replace H := Option.bind_eq_some_iff.mp H
 obtain ⟨t236, A20, H⟩ := H
 replace H : (if t236 < 0 then (some true) else ((laws_toImage.f k a0_0 a0_1 a0_2 a0_3 l0_4 l0_5).bind fun bt237 => ((spec_ImagePal.f k bt237.1 bt237.2.1 bt237.2.2.1 bt237.2.2.2.1 bt237.2.2.2.2.1 bt237.2.2.2.2.2).bind fun bt247 => ((laws_toImage.f k a0_0 a0_1 a0_2 a0_3 l0_4 l0_5).bind fun bt259 => ((impl_ImagePal.f k bt259.1 bt259.2.1 bt259.2.2.1 bt259.2.2.2.1 bt259.2.2.2.2.1 bt259.2.2.2.2.2).bind fun bt270 => ((laws_eqImage.f k bt270.1 bt270.2.1 bt270.2.2.1 bt270.2.2.2.1 bt270.2.2.2.2.1 bt270.2.2.2.2.2.1 bt247.1 bt247.2.1 bt247.2.2.1 bt247.2.2.2.1 bt247.2.2.2.2.1 bt247.2.2.2.2.2.1).bind fun t282 => (if t282 = true then (laws_FnExactImagePal.j0 k bt247.2.2.2.2.2.2 bt270.2.2.2.2.2.2 (bt270.2.2.2.2.2.2 != bt247.2.2.2.2.2.2) a0_0 a0_1 a0_2 a0_3 l0_4 l0_5 bt247.1 bt247.2.1 bt247.2.2.1 bt247.2.2.2.1 bt247.2.2.2.2.1 bt247.2.2.2.2.2.1 bt259.1 bt259.2.1 bt259.2.2.1 bt259.2.2.2.1 bt259.2.2.2.2.1 bt259.2.2.2.2.2 bt270.1 bt270.2.1 bt270.2.2.1 bt270.2.2.2.1 bt270.2.2.2.2.1 bt270.2.2.2.2.2.1) else (laws_FnExactImagePal.j0 k bt247.2.2.2.2.2.2 bt270.2.2.2.2.2.2 true a0_0 a0_1 a0_2 a0_3 l0_4 l0_5 bt247.1 bt247.2.1 bt247.2.2.1 bt247.2.2.2.1 bt247.2.2.2.2.1 bt247.2.2.2.2.2.1 bt259.1 bt259.2.1 bt259.2.2.1 bt259.2.2.2.1 bt259.2.2.2.2.1 bt259.2.2.2.2.2 bt270.1 bt270.2.1 bt270.2.2.1 bt270.2.2.2.1 bt270.2.2.2.2.1 bt270.2.2.2.2.2.1)))))))) = some true := H
 have A2 := Aside0.mk A20
 clear A20
 by_cases c3 : t236 < 0
 ·rw [if_pos c3] at H
  have c3b0 : decide (t236 < 0) = true := decide_eq_true c3
  clear c3
  clear H
  go_enter Try.func11, Try.ntmps11
  go_wp2_with (first | ((with_reducible refine gate_dst (N := 1) rfl ?_); refine box_event ?hg (N := 1) ?hd (cs := #[.int .i64 a0_0, .int .i64 a0_1, .int .i64 a0_2, .int .i64 a0_3, .slice A0_4 l0_4.length c0_4, .slice A0_5 l0_5.length c0_5]) (t := 24) ?hr ?_; (case hd => rfl); (case hg => rfl); (case hr => first | (go_simp; done) | (go_simp; rfl)); intro gb235 hg w4 hbox hb; have n0_ := Aside0.mk (below_step (by repeat (first | (with_reducible first | exact HB.out | apply below_alloc | apply pw_below_drewN | apply below_drew1) | exact HB.out)) hb); have n1_ := Aside0.mk (hbox); have n2_ := Aside0.mk ((by rw [hg]; exact (below_size (by repeat (first | (with_reducible first | exact HB.out | apply below_alloc | apply pw_below_drewN | apply below_drew1) | exact HB.out))) : w.heap.size ≤ gb235)); have n3_ := Aside0.mk ((by rw [hg]; exact (below_size (by repeat (first | (with_reducible first | exact HB.out | apply below_alloc | apply pw_below_drewN | apply below_drew1) | exact HB.out))) : w.heap.size ≤ gb235)); clear HB; have HB := n0_; have BK235 := n1_; have GW235 := n2_; have GE235 := n3_; clear n0_ n1_ n2_ n3_; clear hb hbox hg; obtain ⟨hcz5_0, hcz5_1, hcz5_2, hcz5_3, hcz5_4, hcz5_5⟩ := bc6 BK235.out; obtain ⟨hfz5_0, hfz5_1, hfz5_2, hfz5_3, hfz5_4, hfz5_5⟩ := bf6 BK235.out) | ((with_reducible refine gate_callee (f := 15) rfl ?_); refine goesL_ (some 16) rfl rfl Try.func15 (by kernel_rfl) rfl #[.agg #[.int .i64 a0_0, .int .i64 a0_1, .int .i64 a0_2, .int .i64 a0_3, .slice A0_4 l0_4.length c0_4, .slice A0_5 l0_5.length c0_5], .int .i64 1048576] rfl (by (try simp only [List.map_toArray, List.map_cons, List.map_nil]); first | done | rfl | (simp only [List.length_drop, List.length_take]; rfl)) ?_; (with_reducible refine (laws_szImage.calls a0_0 a0_1 a0_2 a0_3 _ _ l0_4 _ _ l0_5 1048576 t236 _ ?side1 ?side2 ?side3 ?side4 A2.out).mono ?_); (case side1 => repeat (first | exact (Kd.C_below HR0_4.out HB.out) | (with_reducible refine Kd.C_alloc ?_ _) | (with_reducible refine Kd.C_drewN ?_ _) | (with_reducible refine Kd.C_drew ?_))); (case side2 => exact HC0_4.out); (case side3 => repeat (first | exact (Kd.C_below HR0_5.out HB.out) | (with_reducible refine Kd.C_alloc ?_ _) | (with_reducible refine Kd.C_drewN ?_ _) | (with_reducible refine Kd.C_drew ?_))); (case side4 => exact HC0_5.out); rintro e w6 ⟨rfl, hb⟩; refine ⟨_, rfl, ?_⟩; have n0_ := Aside0.mk (blk_below (g := gb235) (by (with_reducible repeat (first | apply blk_drewN | apply blk_drew | apply blk_alloc)); exact BK235.out) hb); have n1_ := Aside0.mk (below_step (by repeat (first | (with_reducible first | exact HB.out | apply below_alloc | apply pw_below_drewN | apply below_drew1 | refine below_set ?_ GE235.out) | exact HB.out)) hb); clear BK235; clear HB; have BK235 := n0_; have HB := n1_; clear n0_ n1_; (try clear hb); (try clear hb2); (try clear hk); (try clear hi)))
  go_ret
  exact ⟨by first | rfl | (simp [errW_none, errW_some] <;> rfl) | (simp [*, errW_none, errW_some] <;> rfl), by repeat (first | (with_reducible first | exact HB.out | apply below_alloc | apply pw_below_drewN | apply below_drew1 | refine below_set ?_ GE235.out) | exact HB.out)⟩
 ·rw [if_neg c3] at H
  have c3b0 : decide (t236 < 0) = false := decide_eq_false c3
  clear c3
  replace H := Option.bind_eq_some_iff.mp H
  obtain ⟨⟨t237, t238, t239, t240, t241, t244⟩, A70, H⟩ := H
  replace H : ((spec_ImagePal.f k t237 t238 t239 t240 t241 t244).bind fun bt247 => ((laws_toImage.f k a0_0 a0_1 a0_2 a0_3 l0_4 l0_5).bind fun bt259 => ((impl_ImagePal.f k bt259.1 bt259.2.1 bt259.2.2.1 bt259.2.2.2.1 bt259.2.2.2.2.1 bt259.2.2.2.2.2).bind fun bt270 => ((laws_eqImage.f k bt270.1 bt270.2.1 bt270.2.2.1 bt270.2.2.2.1 bt270.2.2.2.2.1 bt270.2.2.2.2.2.1 bt247.1 bt247.2.1 bt247.2.2.1 bt247.2.2.2.1 bt247.2.2.2.2.1 bt247.2.2.2.2.2.1).bind fun t282 => (if t282 = true then (laws_FnExactImagePal.j0 k bt247.2.2.2.2.2.2 bt270.2.2.2.2.2.2 (bt270.2.2.2.2.2.2 != bt247.2.2.2.2.2.2) a0_0 a0_1 a0_2 a0_3 l0_4 l0_5 bt247.1 bt247.2.1 bt247.2.2.1 bt247.2.2.2.1 bt247.2.2.2.2.1 bt247.2.2.2.2.2.1 bt259.1 bt259.2.1 bt259.2.2.1 bt259.2.2.2.1 bt259.2.2.2.2.1 bt259.2.2.2.2.2 bt270.1 bt270.2.1 bt270.2.2.1 bt270.2.2.2.1 bt270.2.2.2.2.1 bt270.2.2.2.2.2.1) else (laws_FnExactImagePal.j0 k bt247.2.2.2.2.2.2 bt270.2.2.2.2.2.2 true a0_0 a0_1 a0_2 a0_3 l0_4 l0_5 bt247.1 bt247.2.1 bt247.2.2.1 bt247.2.2.2.1 bt247.2.2.2.2.1 bt247.2.2.2.2.2.1 bt259.1 bt259.2.1 bt259.2.2.1 bt259.2.2.2.1 bt259.2.2.2.2.1 bt259.2.2.2.2.2 bt270.1 bt270.2.1 bt270.2.2.1 bt270.2.2.2.1 bt270.2.2.2.2.1 bt270.2.2.2.2.2.1)))))) = some true := H
  have A7 := Aside0.mk A70
  clear A70
  replace H := Option.bind_eq_some_iff.mp H
  obtain ⟨⟨t247, t248, t249, t250, t251, t254, t257⟩, A80, H⟩ := H
  replace H : ((laws_toImage.f k a0_0 a0_1 a0_2 a0_3 l0_4 l0_5).bind fun bt259 => ((impl_ImagePal.f k bt259.1 bt259.2.1 bt259.2.2.1 bt259.2.2.2.1 bt259.2.2.2.2.1 bt259.2.2.2.2.2).bind fun bt270 => ((laws_eqImage.f k bt270.1 bt270.2.1 bt270.2.2.1 bt270.2.2.2.1 bt270.2.2.2.2.1 bt270.2.2.2.2.2.1 t247 t248 t249 t250 t251 t254).bind fun t282 => (if t282 = true then (laws_FnExactImagePal.j0 k t257 bt270.2.2.2.2.2.2 (bt270.2.2.2.2.2.2 != t257) a0_0 a0_1 a0_2 a0_3 l0_4 l0_5 t247 t248 t249 t250 t251 t254 bt259.1 bt259.2.1 bt259.2.2.1 bt259.2.2.2.1 bt259.2.2.2.2.1 bt259.2.2.2.2.2 bt270.1 bt270.2.1 bt270.2.2.1 bt270.2.2.2.1 bt270.2.2.2.2.1 bt270.2.2.2.2.2.1) else (laws_FnExactImagePal.j0 k t257 bt270.2.2.2.2.2.2 true a0_0 a0_1 a0_2 a0_3 l0_4 l0_5 t247 t248 t249 t250 t251 t254 bt259.1 bt259.2.1 bt259.2.2.1 bt259.2.2.2.1 bt259.2.2.2.2.1 bt259.2.2.2.2.2 bt270.1 bt270.2.1 bt270.2.2.1 bt270.2.2.2.1 bt270.2.2.2.2.1 bt270.2.2.2.2.2.1))))) = some true := H
  have A8 := Aside0.mk A80
  clear A80
  replace H := Option.bind_eq_some_iff.mp H
  obtain ⟨⟨t259, t260, t261, t262, t263, t266⟩, A90, H⟩ := H
  replace H : ((impl_ImagePal.f k t259 t260 t261 t262 t263 t266).bind fun bt270 => ((laws_eqImage.f k bt270.1 bt270.2.1 bt270.2.2.1 bt270.2.2.2.1 bt270.2.2.2.2.1 bt270.2.2.2.2.2.1 t247 t248 t249 t250 t251 t254).bind fun t282 => (if t282 = true then (laws_FnExactImagePal.j0 k t257 bt270.2.2.2.2.2.2 (bt270.2.2.2.2.2.2 != t257) a0_0 a0_1 a0_2 a0_3 l0_4 l0_5 t247 t248 t249 t250 t251 t254 t259 t260 t261 t262 t263 t266 bt270.1 bt270.2.1 bt270.2.2.1 bt270.2.2.2.1 bt270.2.2.2.2.1 bt270.2.2.2.2.2.1) else (laws_FnExactImagePal.j0 k t257 bt270.2.2.2.2.2.2 true a0_0 a0_1 a0_2 a0_3 l0_4 l0_5 t247 t248 t249 t250 t251 t254 t259 t260 t261 t262 t263 t266 bt270.1 bt270.2.1 bt270.2.2.1 bt270.2.2.2.1 bt270.2.2.2.2.1 bt270.2.2.2.2.2.1)))) = some true := H
  have A9 := Aside0.mk A90
  clear A90
  replace H := Option.bind_eq_some_iff.mp H
  obtain ⟨⟨t270, t271, t272, t273, t274, t277, t280⟩, A100, H⟩ := H
  replace H : ((laws_eqImage.f k t270 t271 t272 t273 t274 t277 t247 t248 t249 t250 t251 t254).bind fun t282 => (if t282 = true then (laws_FnExactImagePal.j0 k t257 t280 (t280 != t257) a0_0 a0_1 a0_2 a0_3 l0_4 l0_5 t247 t248 t249 t250 t251 t254 t259 t260 t261 t262 t263 t266 t270 t271 t272 t273 t274 t277) else (laws_FnExactImagePal.j0 k t257 t280 true a0_0 a0_1 a0_2 a0_3 l0_4 l0_5 t247 t248 t249 t250 t251 t254 t259 t260 t261 t262 t263 t266 t270 t271 t272 t273 t274 t277))) = some true := H
  have A10 := Aside0.mk A100
  clear A100
  have HC11 := Aside0.mk H
  clear H
  go_enter Try.func11, Try.ntmps11
  go_upto_region 8 with (first | ((with_reducible refine gate_dst (N := 1) rfl ?_); refine box_event ?hg (N := 1) ?hd (cs := #[.int .i64 a0_0, .int .i64 a0_1, .int .i64 a0_2, .int .i64 a0_3, .slice A0_4 l0_4.length c0_4, .slice A0_5 l0_5.length c0_5]) (t := 24) ?hr ?_; (case hd => rfl); (case hg => rfl); (case hr => first | (go_simp; done) | (go_simp; rfl)); intro gb235 hg w12 hbox hb; have n0_ := Aside0.mk (below_step (by repeat (first | (with_reducible first | exact HB.out | apply below_alloc | apply pw_below_drewN | apply below_drew1) | exact HB.out)) hb); have n1_ := Aside0.mk (hbox); have n2_ := Aside0.mk ((by rw [hg]; exact (below_size (by repeat (first | (with_reducible first | exact HB.out | apply below_alloc | apply pw_below_drewN | apply below_drew1) | exact HB.out))) : w.heap.size ≤ gb235)); have n3_ := Aside0.mk ((by rw [hg]; exact (below_size (by repeat (first | (with_reducible first | exact HB.out | apply below_alloc | apply pw_below_drewN | apply below_drew1) | exact HB.out))) : w.heap.size ≤ gb235)); clear HB; have HB := n0_; have BK235 := n1_; have GW235 := n2_; have GE235 := n3_; clear n0_ n1_ n2_ n3_; clear hb hbox hg; obtain ⟨hcz13_0, hcz13_1, hcz13_2, hcz13_3, hcz13_4, hcz13_5⟩ := bc6 BK235.out; obtain ⟨hfz13_0, hfz13_1, hfz13_2, hfz13_3, hfz13_4, hfz13_5⟩ := bf6 BK235.out) | ((with_reducible refine gate_callee (f := 15) rfl ?_); refine goesL_ (some 16) rfl rfl Try.func15 (by kernel_rfl) rfl #[.agg #[.int .i64 a0_0, .int .i64 a0_1, .int .i64 a0_2, .int .i64 a0_3, .slice A0_4 l0_4.length c0_4, .slice A0_5 l0_5.length c0_5], .int .i64 1048576] rfl (by (try simp only [List.map_toArray, List.map_cons, List.map_nil]); first | done | rfl | (simp only [List.length_drop, List.length_take]; rfl)) ?_; (with_reducible refine (laws_szImage.calls a0_0 a0_1 a0_2 a0_3 _ _ l0_4 _ _ l0_5 1048576 t236 _ ?side1 ?side2 ?side3 ?side4 A2.out).mono ?_); (case side1 => repeat (first | exact (Kd.C_below HR0_4.out HB.out) | (with_reducible refine Kd.C_alloc ?_ _) | (with_reducible refine Kd.C_drewN ?_ _) | (with_reducible refine Kd.C_drew ?_))); (case side2 => exact HC0_4.out); (case side3 => repeat (first | exact (Kd.C_below HR0_5.out HB.out) | (with_reducible refine Kd.C_alloc ?_ _) | (with_reducible refine Kd.C_drewN ?_ _) | (with_reducible refine Kd.C_drew ?_))); (case side4 => exact HC0_5.out); rintro e w14 ⟨rfl, hb⟩; refine ⟨_, rfl, ?_⟩; have n0_ := Aside0.mk (blk_below (g := gb235) (by (with_reducible repeat (first | apply blk_drewN | apply blk_drew | apply blk_alloc)); exact BK235.out) hb); have n1_ := Aside0.mk (below_step (by repeat (first | (with_reducible first | exact HB.out | apply below_alloc | apply pw_below_drewN | apply below_drew1 | refine below_set ?_ GE235.out) | exact HB.out)) hb); clear BK235; clear HB; have BK235 := n0_; have HB := n1_; clear n0_ n1_; (try clear hb); (try clear hb2); (try clear hk); (try clear hi); obtain ⟨hcz15_0, hcz15_1, hcz15_2, hcz15_3, hcz15_4, hcz15_5⟩ := bc6 BK235.out; obtain ⟨hfz15_0, hfz15_1, hfz15_2, hfz15_3, hfz15_4, hfz15_5⟩ := bf6 BK235.out) | ((with_reducible refine gate_callee (f := 17) rfl ?_); refine goesL_ (some 21) rfl rfl Try.func17 (by kernel_rfl) rfl #[.agg #[.int .i64 a0_0, .int .i64 a0_1, .int .i64 a0_2, .int .i64 a0_3, .slice A0_4 l0_4.length c0_4, .slice A0_5 l0_5.length c0_5]] rfl (by (try simp only [List.map_toArray, List.map_cons, List.map_nil]); first | done | rfl | (simp only [List.length_drop, List.length_take]; rfl)) ?_; (with_reducible refine (laws_toImage.calls k a0_0 a0_1 a0_2 a0_3 _ _ l0_4 _ _ l0_5 t237 t238 t239 t240 t241 t244 _ ?side1 ?side2 ?side3 ?side4 A7.out).mono ?_); (case side1 => repeat (first | exact (Kd.C_below HR0_4.out HB.out) | (with_reducible refine Kd.C_alloc ?_ _) | (with_reducible refine Kd.C_drewN ?_ _) | (with_reducible refine Kd.C_drew ?_))); (case side2 => exact HC0_4.out); (case side3 => repeat (first | exact (Kd.C_below HR0_5.out HB.out) | (with_reducible refine Kd.C_alloc ?_ _) | (with_reducible refine Kd.C_drewN ?_ _) | (with_reducible refine Kd.C_drew ?_))); (case side4 => exact HC0_5.out); rintro e w16 ⟨v242, v245, rfl, ho0, ho1, hb⟩; refine ⟨_, rfl, ?_⟩; have n0_ := Aside0.mk (Kd.R_lower ho0 (below_size (by repeat (first | (with_reducible first | exact HB.out | apply below_alloc | apply pw_below_drewN | apply below_drew1 | refine below_set ?_ GE235.out) | exact HB.out)))); have n1_ := Aside0.mk (Kd.R_lower ho1 (below_size (by repeat (first | (with_reducible first | exact HB.out | apply below_alloc | apply pw_below_drewN | apply below_drew1 | refine below_set ?_ GE235.out) | exact HB.out)))); have n2_ := Aside0.mk (blk_below (g := gb235) (by (with_reducible repeat (first | apply blk_drewN | apply blk_drew | apply blk_alloc)); exact BK235.out) hb); have n3_ := Aside0.mk (below_step (by repeat (first | (with_reducible first | exact HB.out | apply below_alloc | apply pw_below_drewN | apply below_drew1 | refine below_set ?_ GE235.out) | exact HB.out)) hb); clear BK235; clear HB; have HO243 := n0_; have HO246 := n1_; have BK235 := n2_; have HB := n3_; clear n0_ n1_ n2_ n3_; (try clear hb); (try clear hb2); (try clear hk); (try clear hi); (try clear ho0); (try clear ho1); obtain ⟨Ao17, co17, eo17⟩ := Kd.R_slice HO243.out; subst eo17; obtain ⟨Ao18, co18, eo18⟩ := Kd.R_slice HO246.out; subst eo18) | ((with_reducible refine gate_callee (f := 36) rfl ?_); refine goesL_ (some 22) rfl rfl Try.func36 (by kernel_rfl) rfl #[.agg #[.int .i64 t237, .int .i64 t238, .int .i64 t239, .int .i64 t240, .slice Ao17 t241.length co17, .slice Ao18 t244.length co18]] rfl (by (try simp only [List.map_toArray, List.map_cons, List.map_nil]); first | done | rfl | (simp only [List.length_drop, List.length_take]; rfl)) ?_; (with_reducible refine (spec_ImagePal.calls k t237 t238 t239 t240 _ _ t241 _ _ t244 t247 t248 t249 t250 t251 t254 t257 _ ?side1 ?side2 ?side3 ?side4 A8.out).mono ?_); (case side1 => repeat (first | exact (Kd.R_reads' HO243.out).2.2 | (with_reducible refine Kd.C_alloc ?_ _) | (with_reducible refine Kd.C_drewN ?_ _) | (with_reducible refine Kd.C_drew ?_))); (case side2 => exact (Kd.R_reads' HO243.out).2.1); (case side3 => repeat (first | exact (Kd.R_reads' HO246.out).2.2 | (with_reducible refine Kd.C_alloc ?_ _) | (with_reducible refine Kd.C_drewN ?_ _) | (with_reducible refine Kd.C_drew ?_))); (case side4 => exact (Kd.R_reads' HO246.out).2.1); rintro e w19 ⟨v252, v255, rfl, ho0, ho1, hb⟩; refine ⟨_, rfl, ?_⟩; have n0_ := Aside0.mk (Kd.R_mono (Kd.R_told (Kd.R_told (Kd.R_old (by (with_reducible repeat (first | apply Kd.R_alloc | apply Kd.R_drewN | apply Kd.R_drew)); exact HO243.out) hb) (Kd.R_base ho0)) (Kd.R_base ho1)) (fun _ h_ => h_.1)); have n1_ := Aside0.mk (Kd.R_mono (Kd.R_told (Kd.R_told (Kd.R_old (by (with_reducible repeat (first | apply Kd.R_alloc | apply Kd.R_drewN | apply Kd.R_drew)); exact HO246.out) hb) (Kd.R_base ho0)) (Kd.R_base ho1)) (fun _ h_ => h_.1)); have n2_ := Aside0.mk (Kd.R_lower (Kd.R_new' (Kd.R_new' ho0 (Kd.R_lt (by (with_reducible repeat (first | apply Kd.R_alloc | apply Kd.R_drewN | apply Kd.R_drew)); exact HO243.out))) (Kd.R_lt (by (with_reducible repeat (first | apply Kd.R_alloc | apply Kd.R_drewN | apply Kd.R_drew)); exact HO246.out))) (below_size (by repeat (first | (with_reducible first | exact HB.out | apply below_alloc | apply pw_below_drewN | apply below_drew1 | refine below_set ?_ GE235.out) | exact HB.out)))); have n3_ := Aside0.mk (Kd.R_lower (Kd.R_new' (Kd.R_new' ho1 (Kd.R_lt (by (with_reducible repeat (first | apply Kd.R_alloc | apply Kd.R_drewN | apply Kd.R_drew)); exact HO243.out))) (Kd.R_lt (by (with_reducible repeat (first | apply Kd.R_alloc | apply Kd.R_drewN | apply Kd.R_drew)); exact HO246.out))) (below_size (by repeat (first | (with_reducible first | exact HB.out | apply below_alloc | apply pw_below_drewN | apply below_drew1 | refine below_set ?_ GE235.out) | exact HB.out)))); have n4_ := Aside0.mk (blk_below (g := gb235) (by (with_reducible repeat (first | apply blk_drewN | apply blk_drew | apply blk_alloc)); exact BK235.out) hb); have n5_ := Aside0.mk (below_step (by repeat (first | (with_reducible first | exact HB.out | apply below_alloc | apply pw_below_drewN | apply below_drew1 | refine below_set ?_ GE235.out) | exact HB.out)) hb); clear HO243; clear HO246; clear BK235; clear HB; have HO243 := n0_; have HO246 := n1_; have HO253 := n2_; have HO256 := n3_; have BK235 := n4_; have HB := n5_; clear n0_ n1_ n2_ n3_ n4_ n5_; (try clear hb); (try clear hb2); (try clear hk); (try clear hi); (try clear ho0); (try clear ho1)) | ((with_reducible refine gate_dst (N := 4) rfl ?_); refine box_event ?hg (N := 4) ?hd (cs := #[.int .i64 0, .int .i64 0, .int .i64 0, .int .i64 0, .slice none 0 0, .slice none 0 0]) (t := 27) ?hr ?_; (case hd => rfl); (case hg => rfl); (case hr => first | (go_simp; done) | (go_simp; rfl)); intro gb258 hg w20 hbox hb; have n0_ := Aside0.mk (Kd.R_below (by (with_reducible repeat (first | apply Kd.R_alloc | apply Kd.R_drewN | apply Kd.R_drew)); exact HO243.out) hb); have n1_ := Aside0.mk (Kd.R_below (by (with_reducible repeat (first | apply Kd.R_alloc | apply Kd.R_drewN | apply Kd.R_drew)); exact HO246.out) hb); have n2_ := Aside0.mk (Kd.R_below (by (with_reducible repeat (first | apply Kd.R_alloc | apply Kd.R_drewN | apply Kd.R_drew)); exact HO253.out) hb); have n3_ := Aside0.mk (Kd.R_below (by (with_reducible repeat (first | apply Kd.R_alloc | apply Kd.R_drewN | apply Kd.R_drew)); exact HO256.out) hb); have n4_ := Aside0.mk (blk_below (g := gb235) (by (with_reducible repeat (first | apply blk_drewN | apply blk_drew | apply blk_alloc)); exact BK235.out) hb); have n5_ := Aside0.mk (below_step (by repeat (first | (with_reducible first | exact HB.out | apply below_alloc | apply pw_below_drewN | apply below_drew1 | refine below_set ?_ GE235.out) | exact HB.out)) hb); have n6_ := Aside0.mk (hbox); have n7_ := Aside0.mk ((by rw [hg]; exact (below_size (by repeat (first | (with_reducible first | exact HB.out | apply below_alloc | apply pw_below_drewN | apply below_drew1 | refine below_set ?_ GE235.out) | exact HB.out))) : w.heap.size ≤ gb258)); have n8_ := Aside0.mk ((by rw [hg]; exact (below_size (by repeat (first | (with_reducible first | exact HB.out | apply below_alloc | apply pw_below_drewN | apply below_drew1 | refine below_set ?_ GE235.out) | exact HB.out))) : w.heap.size ≤ gb258)); have n9_ := Aside0.mk ((by rw [hg]; exact Nat.ne_of_lt (blk_lt (g := gb235) (by (with_reducible repeat (first | apply blk_drewN | apply blk_drew | apply blk_alloc)); exact BK235.out)) : gb235 ≠ gb258)); have n10_ := Aside0.mk n9_.out.symm; clear HO243; clear HO246; clear HO253; clear HO256; clear BK235; clear HB; have HO243 := n0_; have HO246 := n1_; have HO253 := n2_; have HO256 := n3_; have BK235 := n4_; have HB := n5_; have BK258 := n6_; have GW258 := n7_; have GE258 := n8_; have NB235_258 := n9_; have NB258_235 := n10_; clear n0_ n1_ n2_ n3_ n4_ n5_ n6_ n7_ n8_ n9_ n10_; clear hb hbox hg; have hnb21 := NB258_235.out; have hnc21 := NB235_258.out; obtain ⟨hcz22_0, hcz22_1, hcz22_2, hcz22_3, hcz22_4, hcz22_5⟩ := bc6 BK258.out; obtain ⟨hfz22_0, hfz22_1, hfz22_2, hfz22_3, hfz22_4, hfz22_5⟩ := bf6 BK258.out; obtain ⟨Ao23, co23, eo23⟩ := Kd.R_slice HO253.out; subst eo23; obtain ⟨Ao24, co24, eo24⟩ := Kd.R_slice HO256.out; subst eo24; obtain ⟨hcz25_0, hcz25_1, hcz25_2, hcz25_3, hcz25_4, hcz25_5⟩ := bc6 BK235.out; obtain ⟨hfz25_0, hfz25_1, hfz25_2, hfz25_3, hfz25_4, hfz25_5⟩ := bf6 BK235.out) | ((with_reducible refine gate_callee (f := 17) rfl ?_); refine goesL_ (some 26) rfl rfl Try.func17 (by kernel_rfl) rfl #[.agg #[.int .i64 a0_0, .int .i64 a0_1, .int .i64 a0_2, .int .i64 a0_3, .slice A0_4 l0_4.length c0_4, .slice A0_5 l0_5.length c0_5]] rfl (by (try simp only [List.map_toArray, List.map_cons, List.map_nil]); first | done | rfl | (simp only [List.length_drop, List.length_take]; rfl)) ?_; (with_reducible refine (laws_toImage.calls k a0_0 a0_1 a0_2 a0_3 _ _ l0_4 _ _ l0_5 t259 t260 t261 t262 t263 t266 _ ?side1 ?side2 ?side3 ?side4 A9.out).mono ?_); (case side1 => exact Kd.C_below HR0_4.out (by repeat (first | (with_reducible first | exact HB.out | apply below_alloc | apply pw_below_drewN | apply below_drew1 | refine below_set ?_ GE235.out | refine below_set ?_ GE258.out) | exact HB.out))); (case side2 => exact HC0_4.out); (case side3 => exact Kd.C_below HR0_5.out (by repeat (first | (with_reducible first | exact HB.out | apply below_alloc | apply pw_below_drewN | apply below_drew1 | refine below_set ?_ GE235.out | refine below_set ?_ GE258.out) | exact HB.out))); (case side4 => exact HC0_5.out); rintro e w26 ⟨v264, v267, rfl, ho0, ho1, hb⟩; refine ⟨_, rfl, ?_⟩; have n0_ := Aside0.mk (Kd.R_mono (Kd.R_told (Kd.R_told (Kd.R_old (by (with_reducible repeat (first | apply Kd.R_alloc | apply Kd.R_drewN | apply Kd.R_drew)); exact (Kd.R_mono (Kd.R_far (Kd.R_far (Kd.R_far (Kd.R_far (Kd.R_far (Kd.R_far (Kd.R_types HO243.out BK258.out (by decide)) (fun _ hk => hk.2) (.int .i64 t247)) (fun _ hk => hk.2) (.int .i64 t248)) (fun _ hk => hk.2) (.int .i64 t249)) (fun _ hk => hk.2) (.int .i64 t250)) (fun _ hk => hk.2) (.slice Ao23 t251.length co23)) (fun _ hk => hk.2) (.slice Ao24 t254.length co24)) (fun _ h_ => h_.1))) hb) (Kd.R_base ho0)) (Kd.R_base ho1)) (fun _ h_ => h_.1)); have n1_ := Aside0.mk (Kd.R_mono (Kd.R_told (Kd.R_told (Kd.R_old (by (with_reducible repeat (first | apply Kd.R_alloc | apply Kd.R_drewN | apply Kd.R_drew)); exact (Kd.R_mono (Kd.R_far (Kd.R_far (Kd.R_far (Kd.R_far (Kd.R_far (Kd.R_far (Kd.R_types HO246.out BK258.out (by decide)) (fun _ hk => hk.2) (.int .i64 t247)) (fun _ hk => hk.2) (.int .i64 t248)) (fun _ hk => hk.2) (.int .i64 t249)) (fun _ hk => hk.2) (.int .i64 t250)) (fun _ hk => hk.2) (.slice Ao23 t251.length co23)) (fun _ hk => hk.2) (.slice Ao24 t254.length co24)) (fun _ h_ => h_.1))) hb) (Kd.R_base ho0)) (Kd.R_base ho1)) (fun _ h_ => h_.1)); have n2_ := Aside0.mk (Kd.R_mono (Kd.R_told (Kd.R_told (Kd.R_old (by (with_reducible repeat (first | apply Kd.R_alloc | apply Kd.R_drewN | apply Kd.R_drew)); exact (Kd.R_mono (Kd.R_far (Kd.R_far (Kd.R_far (Kd.R_far (Kd.R_far (Kd.R_far (Kd.R_types HO253.out BK258.out (by decide)) (fun _ hk => hk.2) (.int .i64 t247)) (fun _ hk => hk.2) (.int .i64 t248)) (fun _ hk => hk.2) (.int .i64 t249)) (fun _ hk => hk.2) (.int .i64 t250)) (fun _ hk => hk.2) (.slice Ao23 t251.length co23)) (fun _ hk => hk.2) (.slice Ao24 t254.length co24)) (fun _ h_ => h_.1))) hb) (Kd.R_base ho0)) (Kd.R_base ho1)) (fun _ h_ => h_.1)); have n3_ := Aside0.mk (Kd.R_mono (Kd.R_told (Kd.R_told (Kd.R_old (by (with_reducible repeat (first | apply Kd.R_alloc | apply Kd.R_drewN | apply Kd.R_drew)); exact (Kd.R_mono (Kd.R_far (Kd.R_far (Kd.R_far (Kd.R_far (Kd.R_far (Kd.R_far (Kd.R_types HO256.out BK258.out (by decide)) (fun _ hk => hk.2) (.int .i64 t247)) (fun _ hk => hk.2) (.int .i64 t248)) (fun _ hk => hk.2) (.int .i64 t249)) (fun _ hk => hk.2) (.int .i64 t250)) (fun _ hk => hk.2) (.slice Ao23 t251.length co23)) (fun _ hk => hk.2) (.slice Ao24 t254.length co24)) (fun _ h_ => h_.1))) hb) (Kd.R_base ho0)) (Kd.R_base ho1)) (fun _ h_ => h_.1)); have n4_ := Aside0.mk (Kd.R_lower (Kd.R_new' (Kd.R_new' (Kd.R_new' (Kd.R_new' ho0 (Kd.R_lt (by (with_reducible repeat (first | apply Kd.R_alloc | apply Kd.R_drewN | apply Kd.R_drew)); exact (Kd.R_mono (Kd.R_far (Kd.R_far (Kd.R_far (Kd.R_far (Kd.R_far (Kd.R_far (Kd.R_types HO243.out BK258.out (by decide)) (fun _ hk => hk.2) (.int .i64 t247)) (fun _ hk => hk.2) (.int .i64 t248)) (fun _ hk => hk.2) (.int .i64 t249)) (fun _ hk => hk.2) (.int .i64 t250)) (fun _ hk => hk.2) (.slice Ao23 t251.length co23)) (fun _ hk => hk.2) (.slice Ao24 t254.length co24)) (fun _ h_ => h_.1))))) (Kd.R_lt (by (with_reducible repeat (first | apply Kd.R_alloc | apply Kd.R_drewN | apply Kd.R_drew)); exact (Kd.R_mono (Kd.R_far (Kd.R_far (Kd.R_far (Kd.R_far (Kd.R_far (Kd.R_far (Kd.R_types HO246.out BK258.out (by decide)) (fun _ hk => hk.2) (.int .i64 t247)) (fun _ hk => hk.2) (.int .i64 t248)) (fun _ hk => hk.2) (.int .i64 t249)) (fun _ hk => hk.2) (.int .i64 t250)) (fun _ hk => hk.2) (.slice Ao23 t251.length co23)) (fun _ hk => hk.2) (.slice Ao24 t254.length co24)) (fun _ h_ => h_.1))))) (Kd.R_lt (by (with_reducible repeat (first | apply Kd.R_alloc | apply Kd.R_drewN | apply Kd.R_drew)); exact (Kd.R_mono (Kd.R_far (Kd.R_far (Kd.R_far (Kd.R_far (Kd.R_far (Kd.R_far (Kd.R_types HO253.out BK258.out (by decide)) (fun _ hk => hk.2) (.int .i64 t247)) (fun _ hk => hk.2) (.int .i64 t248)) (fun _ hk => hk.2) (.int .i64 t249)) (fun _ hk => hk.2) (.int .i64 t250)) (fun _ hk => hk.2) (.slice Ao23 t251.length co23)) (fun _ hk => hk.2) (.slice Ao24 t254.length co24)) (fun _ h_ => h_.1))))) (Kd.R_lt (by (with_reducible repeat (first | apply Kd.R_alloc | apply Kd.R_drewN | apply Kd.R_drew)); exact (Kd.R_mono (Kd.R_far (Kd.R_far (Kd.R_far (Kd.R_far (Kd.R_far (Kd.R_far (Kd.R_types HO256.out BK258.out (by decide)) (fun _ hk => hk.2) (.int .i64 t247)) (fun _ hk => hk.2) (.int .i64 t248)) (fun _ hk => hk.2) (.int .i64 t249)) (fun _ hk => hk.2) (.int .i64 t250)) (fun _ hk => hk.2) (.slice Ao23 t251.length co23)) (fun _ hk => hk.2) (.slice Ao24 t254.length co24)) (fun _ h_ => h_.1))))) (below_size (by repeat (first | (with_reducible first | exact HB.out | apply below_alloc | apply pw_below_drewN | apply below_drew1 | refine below_set ?_ GE235.out | refine below_set ?_ GE258.out) | exact HB.out)))); have n5_ := Aside0.mk (Kd.R_lower (Kd.R_new' (Kd.R_new' (Kd.R_new' (Kd.R_new' ho1 (Kd.R_lt (by (with_reducible repeat (first | apply Kd.R_alloc | apply Kd.R_drewN | apply Kd.R_drew)); exact (Kd.R_mono (Kd.R_far (Kd.R_far (Kd.R_far (Kd.R_far (Kd.R_far (Kd.R_far (Kd.R_types HO243.out BK258.out (by decide)) (fun _ hk => hk.2) (.int .i64 t247)) (fun _ hk => hk.2) (.int .i64 t248)) (fun _ hk => hk.2) (.int .i64 t249)) (fun _ hk => hk.2) (.int .i64 t250)) (fun _ hk => hk.2) (.slice Ao23 t251.length co23)) (fun _ hk => hk.2) (.slice Ao24 t254.length co24)) (fun _ h_ => h_.1))))) (Kd.R_lt (by (with_reducible repeat (first | apply Kd.R_alloc | apply Kd.R_drewN | apply Kd.R_drew)); exact (Kd.R_mono (Kd.R_far (Kd.R_far (Kd.R_far (Kd.R_far (Kd.R_far (Kd.R_far (Kd.R_types HO246.out BK258.out (by decide)) (fun _ hk => hk.2) (.int .i64 t247)) (fun _ hk => hk.2) (.int .i64 t248)) (fun _ hk => hk.2) (.int .i64 t249)) (fun _ hk => hk.2) (.int .i64 t250)) (fun _ hk => hk.2) (.slice Ao23 t251.length co23)) (fun _ hk => hk.2) (.slice Ao24 t254.length co24)) (fun _ h_ => h_.1))))) (Kd.R_lt (by (with_reducible repeat (first | apply Kd.R_alloc | apply Kd.R_drewN | apply Kd.R_drew)); exact (Kd.R_mono (Kd.R_far (Kd.R_far (Kd.R_far (Kd.R_far (Kd.R_far (Kd.R_far (Kd.R_types HO253.out BK258.out (by decide)) (fun _ hk => hk.2) (.int .i64 t247)) (fun _ hk => hk.2) (.int .i64 t248)) (fun _ hk => hk.2) (.int .i64 t249)) (fun _ hk => hk.2) (.int .i64 t250)) (fun _ hk => hk.2) (.slice Ao23 t251.length co23)) (fun _ hk => hk.2) (.slice Ao24 t254.length co24)) (fun _ h_ => h_.1))))) (Kd.R_lt (by (with_reducible repeat (first | apply Kd.R_alloc | apply Kd.R_drewN | apply Kd.R_drew)); exact (Kd.R_mono (Kd.R_far (Kd.R_far (Kd.R_far (Kd.R_far (Kd.R_far (Kd.R_far (Kd.R_types HO256.out BK258.out (by decide)) (fun _ hk => hk.2) (.int .i64 t247)) (fun _ hk => hk.2) (.int .i64 t248)) (fun _ hk => hk.2) (.int .i64 t249)) (fun _ hk => hk.2) (.int .i64 t250)) (fun _ hk => hk.2) (.slice Ao23 t251.length co23)) (fun _ hk => hk.2) (.slice Ao24 t254.length co24)) (fun _ h_ => h_.1))))) (below_size (by repeat (first | (with_reducible first | exact HB.out | apply below_alloc | apply pw_below_drewN | apply below_drew1 | refine below_set ?_ GE235.out | refine below_set ?_ GE258.out) | exact HB.out)))); have n6_ := Aside0.mk (blk_below (g := gb235) (o := .cells #[.int .i64 a0_0, .int .i64 a0_1, .int .i64 a0_2, .int .i64 a0_3, .slice A0_4 l0_4.length c0_4, .slice A0_5 l0_5.length c0_5] 24 (0, 0)) (by (with_reducible repeat (first | apply blk_drewN | apply blk_drew | apply blk_alloc)); refine blk_far ?_ NB235_258.out _; (with_reducible repeat (first | apply blk_drewN | apply blk_drew | apply blk_alloc)); refine blk_far ?_ NB235_258.out _; (with_reducible repeat (first | apply blk_drewN | apply blk_drew | apply blk_alloc)); refine blk_far ?_ NB235_258.out _; (with_reducible repeat (first | apply blk_drewN | apply blk_drew | apply blk_alloc)); refine blk_far ?_ NB235_258.out _; (with_reducible repeat (first | apply blk_drewN | apply blk_drew | apply blk_alloc)); refine blk_far ?_ NB235_258.out _; (with_reducible repeat (first | apply blk_drewN | apply blk_drew | apply blk_alloc)); refine blk_far ?_ NB235_258.out _; (with_reducible repeat (first | apply blk_drewN | apply blk_drew | apply blk_alloc)); exact BK235.out) hb); have n7_ := Aside0.mk (blk_below (g := gb258) (o := .cells #[.int .i64 t247, .int .i64 t248, .int .i64 t249, .int .i64 t250, .slice Ao23 t251.length co23, .slice Ao24 t254.length co24] 27 (0, 0)) (by (with_reducible repeat (first | apply blk_drewN | apply blk_drew | apply blk_alloc)); refine blk_put (cs := #[.int .i64 t247, .int .i64 t248, .int .i64 t249, .int .i64 t250, .slice Ao23 t251.length co23, .slice none 0 0]) ?_ 5 _ rfl; (with_reducible repeat (first | apply blk_drewN | apply blk_drew | apply blk_alloc)); refine blk_put (cs := #[.int .i64 t247, .int .i64 t248, .int .i64 t249, .int .i64 t250, .slice none 0 0, .slice none 0 0]) ?_ 4 _ rfl; (with_reducible repeat (first | apply blk_drewN | apply blk_drew | apply blk_alloc)); refine blk_put (cs := #[.int .i64 t247, .int .i64 t248, .int .i64 t249, .int .i64 0, .slice none 0 0, .slice none 0 0]) ?_ 3 _ rfl; (with_reducible repeat (first | apply blk_drewN | apply blk_drew | apply blk_alloc)); refine blk_put (cs := #[.int .i64 t247, .int .i64 t248, .int .i64 0, .int .i64 0, .slice none 0 0, .slice none 0 0]) ?_ 2 _ rfl; (with_reducible repeat (first | apply blk_drewN | apply blk_drew | apply blk_alloc)); refine blk_put (cs := #[.int .i64 t247, .int .i64 0, .int .i64 0, .int .i64 0, .slice none 0 0, .slice none 0 0]) ?_ 1 _ rfl; (with_reducible repeat (first | apply blk_drewN | apply blk_drew | apply blk_alloc)); refine blk_put (cs := #[.int .i64 0, .int .i64 0, .int .i64 0, .int .i64 0, .slice none 0 0, .slice none 0 0]) ?_ 0 _ rfl; (with_reducible repeat (first | apply blk_drewN | apply blk_drew | apply blk_alloc)); exact BK258.out) hb); have n8_ := Aside0.mk (below_step (by repeat (first | (with_reducible first | exact HB.out | apply below_alloc | apply pw_below_drewN | apply below_drew1 | refine below_set ?_ GE235.out | refine below_set ?_ GE258.out) | exact HB.out)) hb); clear HO243; clear HO246; clear HO253; clear HO256; clear BK235; clear BK258; clear HB; have HO243 := n0_; have HO246 := n1_; have HO253 := n2_; have HO256 := n3_; have HO265 := n4_; have HO268 := n5_; have BK235 := n6_; have BK258 := n7_; have HB := n8_; clear n0_ n1_ n2_ n3_ n4_ n5_ n6_ n7_ n8_; (try clear hb); (try clear hb2); (try clear hk); (try clear hi); (try clear ho0); (try clear ho1)) | ((with_reducible refine gate_dst (N := 6) rfl ?_); refine box_event ?hg (N := 6) ?hd (cs := #[.int .i64 0, .int .i64 0, .int .i64 0, .int .i64 0, .slice none 0 0, .slice none 0 0]) (t := 27) ?hr ?_; (case hd => rfl); (case hg => rfl); (case hr => first | (go_simp; done) | (go_simp; rfl)); intro gb269 hg w27 hbox hb; have n0_ := Aside0.mk (Kd.R_below (by (with_reducible repeat (first | apply Kd.R_alloc | apply Kd.R_drewN | apply Kd.R_drew)); exact HO243.out) hb); have n1_ := Aside0.mk (Kd.R_below (by (with_reducible repeat (first | apply Kd.R_alloc | apply Kd.R_drewN | apply Kd.R_drew)); exact HO246.out) hb); have n2_ := Aside0.mk (Kd.R_below (by (with_reducible repeat (first | apply Kd.R_alloc | apply Kd.R_drewN | apply Kd.R_drew)); exact HO253.out) hb); have n3_ := Aside0.mk (Kd.R_below (by (with_reducible repeat (first | apply Kd.R_alloc | apply Kd.R_drewN | apply Kd.R_drew)); exact HO256.out) hb); have n4_ := Aside0.mk (Kd.R_below (by (with_reducible repeat (first | apply Kd.R_alloc | apply Kd.R_drewN | apply Kd.R_drew)); exact HO265.out) hb); have n5_ := Aside0.mk (Kd.R_below (by (with_reducible repeat (first | apply Kd.R_alloc | apply Kd.R_drewN | apply Kd.R_drew)); exact HO268.out) hb); have n6_ := Aside0.mk (blk_below (g := gb235) (by (with_reducible repeat (first | apply blk_drewN | apply blk_drew | apply blk_alloc)); exact BK235.out) hb); have n7_ := Aside0.mk (blk_below (g := gb258) (by (with_reducible repeat (first | apply blk_drewN | apply blk_drew | apply blk_alloc)); exact BK258.out) hb); have n8_ := Aside0.mk (below_step (by repeat (first | (with_reducible first | exact HB.out | apply below_alloc | apply pw_below_drewN | apply below_drew1 | refine below_set ?_ GE235.out | refine below_set ?_ GE258.out) | exact HB.out)) hb); have n9_ := Aside0.mk (hbox); have n10_ := Aside0.mk ((by rw [hg]; exact (below_size (by repeat (first | (with_reducible first | exact HB.out | apply below_alloc | apply pw_below_drewN | apply below_drew1 | refine below_set ?_ GE235.out | refine below_set ?_ GE258.out) | exact HB.out))) : w.heap.size ≤ gb269)); have n11_ := Aside0.mk ((by rw [hg]; exact (below_size (by repeat (first | (with_reducible first | exact HB.out | apply below_alloc | apply pw_below_drewN | apply below_drew1 | refine below_set ?_ GE235.out | refine below_set ?_ GE258.out) | exact HB.out))) : w.heap.size ≤ gb269)); have n12_ := Aside0.mk ((by rw [hg]; exact Nat.ne_of_lt (blk_lt (g := gb235) (by (with_reducible repeat (first | apply blk_drewN | apply blk_drew | apply blk_alloc)); exact BK235.out)) : gb235 ≠ gb269)); have n13_ := Aside0.mk n12_.out.symm; have n14_ := Aside0.mk ((by rw [hg]; exact Nat.ne_of_lt (blk_lt (g := gb258) (by (with_reducible repeat (first | apply blk_drewN | apply blk_drew | apply blk_alloc)); exact BK258.out)) : gb258 ≠ gb269)); have n15_ := Aside0.mk n14_.out.symm; clear HO243; clear HO246; clear HO253; clear HO256; clear HO265; clear HO268; clear BK235; clear BK258; clear HB; have HO243 := n0_; have HO246 := n1_; have HO253 := n2_; have HO256 := n3_; have HO265 := n4_; have HO268 := n5_; have BK235 := n6_; have BK258 := n7_; have HB := n8_; have BK269 := n9_; have GW269 := n10_; have GE269 := n11_; have NB235_269 := n12_; have NB269_235 := n13_; have NB258_269 := n14_; have NB269_258 := n15_; clear n0_ n1_ n2_ n3_ n4_ n5_ n6_ n7_ n8_ n9_ n10_ n11_ n12_ n13_ n14_ n15_; clear hb hbox hg; have hnb28 := NB269_235.out; have hnc28 := NB235_269.out; have hnb29 := NB269_258.out; have hnc29 := NB258_269.out; obtain ⟨hcz30_0, hcz30_1, hcz30_2, hcz30_3, hcz30_4, hcz30_5⟩ := bc6 BK269.out; obtain ⟨hfz30_0, hfz30_1, hfz30_2, hfz30_3, hfz30_4, hfz30_5⟩ := bf6 BK269.out; obtain ⟨Ao31, co31, eo31⟩ := Kd.R_slice HO265.out; subst eo31; obtain ⟨Ao32, co32, eo32⟩ := Kd.R_slice HO268.out; subst eo32) | ((with_reducible refine gate_callee (f := 37) rfl ?_); refine goesL_ (some 29) rfl rfl Try.func37 (by kernel_rfl) rfl #[.agg #[.int .i64 t259, .int .i64 t260, .int .i64 t261, .int .i64 t262, .slice Ao31 t263.length co31, .slice Ao32 t266.length co32]] rfl (by (try simp only [List.map_toArray, List.map_cons, List.map_nil]); first | done | rfl | (simp only [List.length_drop, List.length_take]; rfl)) ?_; (with_reducible refine (impl_ImagePal.calls k t259 t260 t261 t262 _ _ t263 _ _ t266 t270 t271 t272 t273 t274 t277 t280 _ ?side1 ?side2 ?side3 ?side4 A10.out).mono ?_); (case side1 => refine (Kd.R_reads' (e := 3) (base := w.heap.size) (ok := fun k_ => ((((some k_ ≠ (.slice Ao32 t266.length co32 : Value).ownBlock ∧ some k_ ≠ (.slice Ao17 t241.length co17 : Value).ownBlock) ∧ some k_ ≠ (.slice Ao18 t244.length co18 : Value).ownBlock) ∧ some k_ ≠ (.slice Ao23 t251.length co23 : Value).ownBlock) ∧ some k_ ≠ (.slice Ao24 t254.length co24 : Value).ownBlock)) (n := t263.length) (c := co31) ?_).2.2; exact (by (with_reducible repeat (first | apply Kd.R_alloc | apply Kd.R_drewN | apply Kd.R_drew)); exact (Kd.R_mono (Kd.R_far (Kd.R_far (Kd.R_far (Kd.R_far (Kd.R_far (Kd.R_far (Kd.R_types HO265.out BK269.out (by decide)) (fun _ hk => hk.2) (.int .i64 t259)) (fun _ hk => hk.2) (.int .i64 t260)) (fun _ hk => hk.2) (.int .i64 t261)) (fun _ hk => hk.2) (.int .i64 t262)) (fun _ hk => hk.2) (.slice Ao31 t263.length co31)) (fun _ hk => hk.2) (.slice Ao32 t266.length co32)) (fun _ h_ => h_.1)))); (case side2 => exact (Kd.R_reads' HO265.out).2.1); (case side3 => refine (Kd.R_reads' (e := 3) (base := w.heap.size) (ok := fun k_ => ((((some k_ ≠ (.slice Ao31 t263.length co31 : Value).ownBlock ∧ some k_ ≠ (.slice Ao17 t241.length co17 : Value).ownBlock) ∧ some k_ ≠ (.slice Ao18 t244.length co18 : Value).ownBlock) ∧ some k_ ≠ (.slice Ao23 t251.length co23 : Value).ownBlock) ∧ some k_ ≠ (.slice Ao24 t254.length co24 : Value).ownBlock)) (n := t266.length) (c := co32) ?_).2.2; exact (by (with_reducible repeat (first | apply Kd.R_alloc | apply Kd.R_drewN | apply Kd.R_drew)); exact (Kd.R_mono (Kd.R_far (Kd.R_far (Kd.R_far (Kd.R_far (Kd.R_far (Kd.R_far (Kd.R_types HO268.out BK269.out (by decide)) (fun _ hk => hk.2) (.int .i64 t259)) (fun _ hk => hk.2) (.int .i64 t260)) (fun _ hk => hk.2) (.int .i64 t261)) (fun _ hk => hk.2) (.int .i64 t262)) (fun _ hk => hk.2) (.slice Ao31 t263.length co31)) (fun _ hk => hk.2) (.slice Ao32 t266.length co32)) (fun _ h_ => h_.1)))); (case side4 => exact (Kd.R_reads' HO268.out).2.1); rintro e w33 ⟨v275, v278, rfl, ho0, ho1, hb⟩; refine ⟨_, rfl, ?_⟩; have n0_ := Aside0.mk (Kd.R_mono (Kd.R_told (Kd.R_told (Kd.R_old (by (with_reducible repeat (first | apply Kd.R_alloc | apply Kd.R_drewN | apply Kd.R_drew)); exact (Kd.R_mono (Kd.R_far (Kd.R_far (Kd.R_far (Kd.R_far (Kd.R_far (Kd.R_far (Kd.R_types HO243.out BK269.out (by decide)) (fun _ hk => hk.2) (.int .i64 t259)) (fun _ hk => hk.2) (.int .i64 t260)) (fun _ hk => hk.2) (.int .i64 t261)) (fun _ hk => hk.2) (.int .i64 t262)) (fun _ hk => hk.2) (.slice Ao31 t263.length co31)) (fun _ hk => hk.2) (.slice Ao32 t266.length co32)) (fun _ h_ => h_.1))) hb) (Kd.R_base ho0)) (Kd.R_base ho1)) (fun _ h_ => h_.1)); have n1_ := Aside0.mk (Kd.R_mono (Kd.R_told (Kd.R_told (Kd.R_old (by (with_reducible repeat (first | apply Kd.R_alloc | apply Kd.R_drewN | apply Kd.R_drew)); exact (Kd.R_mono (Kd.R_far (Kd.R_far (Kd.R_far (Kd.R_far (Kd.R_far (Kd.R_far (Kd.R_types HO246.out BK269.out (by decide)) (fun _ hk => hk.2) (.int .i64 t259)) (fun _ hk => hk.2) (.int .i64 t260)) (fun _ hk => hk.2) (.int .i64 t261)) (fun _ hk => hk.2) (.int .i64 t262)) (fun _ hk => hk.2) (.slice Ao31 t263.length co31)) (fun _ hk => hk.2) (.slice Ao32 t266.length co32)) (fun _ h_ => h_.1))) hb) (Kd.R_base ho0)) (Kd.R_base ho1)) (fun _ h_ => h_.1)); have n2_ := Aside0.mk (Kd.R_mono (Kd.R_told (Kd.R_told (Kd.R_old (by (with_reducible repeat (first | apply Kd.R_alloc | apply Kd.R_drewN | apply Kd.R_drew)); exact (Kd.R_mono (Kd.R_far (Kd.R_far (Kd.R_far (Kd.R_far (Kd.R_far (Kd.R_far (Kd.R_types HO253.out BK269.out (by decide)) (fun _ hk => hk.2) (.int .i64 t259)) (fun _ hk => hk.2) (.int .i64 t260)) (fun _ hk => hk.2) (.int .i64 t261)) (fun _ hk => hk.2) (.int .i64 t262)) (fun _ hk => hk.2) (.slice Ao31 t263.length co31)) (fun _ hk => hk.2) (.slice Ao32 t266.length co32)) (fun _ h_ => h_.1))) hb) (Kd.R_base ho0)) (Kd.R_base ho1)) (fun _ h_ => h_.1)); have n3_ := Aside0.mk (Kd.R_mono (Kd.R_told (Kd.R_told (Kd.R_old (by (with_reducible repeat (first | apply Kd.R_alloc | apply Kd.R_drewN | apply Kd.R_drew)); exact (Kd.R_mono (Kd.R_far (Kd.R_far (Kd.R_far (Kd.R_far (Kd.R_far (Kd.R_far (Kd.R_types HO256.out BK269.out (by decide)) (fun _ hk => hk.2) (.int .i64 t259)) (fun _ hk => hk.2) (.int .i64 t260)) (fun _ hk => hk.2) (.int .i64 t261)) (fun _ hk => hk.2) (.int .i64 t262)) (fun _ hk => hk.2) (.slice Ao31 t263.length co31)) (fun _ hk => hk.2) (.slice Ao32 t266.length co32)) (fun _ h_ => h_.1))) hb) (Kd.R_base ho0)) (Kd.R_base ho1)) (fun _ h_ => h_.1)); have n4_ := Aside0.mk (Kd.R_mono (Kd.R_told (Kd.R_told (Kd.R_old (by (with_reducible repeat (first | apply Kd.R_alloc | apply Kd.R_drewN | apply Kd.R_drew)); exact (Kd.R_mono (Kd.R_far (Kd.R_far (Kd.R_far (Kd.R_far (Kd.R_far (Kd.R_far (Kd.R_types HO265.out BK269.out (by decide)) (fun _ hk => hk.2) (.int .i64 t259)) (fun _ hk => hk.2) (.int .i64 t260)) (fun _ hk => hk.2) (.int .i64 t261)) (fun _ hk => hk.2) (.int .i64 t262)) (fun _ hk => hk.2) (.slice Ao31 t263.length co31)) (fun _ hk => hk.2) (.slice Ao32 t266.length co32)) (fun _ h_ => h_.1))) hb) (Kd.R_base ho0)) (Kd.R_base ho1)) (fun _ h_ => h_.1)); have n5_ := Aside0.mk (Kd.R_mono (Kd.R_told (Kd.R_told (Kd.R_old (by (with_reducible repeat (first | apply Kd.R_alloc | apply Kd.R_drewN | apply Kd.R_drew)); exact (Kd.R_mono (Kd.R_far (Kd.R_far (Kd.R_far (Kd.R_far (Kd.R_far (Kd.R_far (Kd.R_types HO268.out BK269.out (by decide)) (fun _ hk => hk.2) (.int .i64 t259)) (fun _ hk => hk.2) (.int .i64 t260)) (fun _ hk => hk.2) (.int .i64 t261)) (fun _ hk => hk.2) (.int .i64 t262)) (fun _ hk => hk.2) (.slice Ao31 t263.length co31)) (fun _ hk => hk.2) (.slice Ao32 t266.length co32)) (fun _ h_ => h_.1))) hb) (Kd.R_base ho0)) (Kd.R_base ho1)) (fun _ h_ => h_.1)); have n6_ := Aside0.mk (Kd.R_lower (Kd.R_new' (Kd.R_new' (Kd.R_new' (Kd.R_new' (Kd.R_new' (Kd.R_new' ho0 (Kd.R_lt (by (with_reducible repeat (first | apply Kd.R_alloc | apply Kd.R_drewN | apply Kd.R_drew)); exact (Kd.R_mono (Kd.R_far (Kd.R_far (Kd.R_far (Kd.R_far (Kd.R_far (Kd.R_far (Kd.R_types HO243.out BK269.out (by decide)) (fun _ hk => hk.2) (.int .i64 t259)) (fun _ hk => hk.2) (.int .i64 t260)) (fun _ hk => hk.2) (.int .i64 t261)) (fun _ hk => hk.2) (.int .i64 t262)) (fun _ hk => hk.2) (.slice Ao31 t263.length co31)) (fun _ hk => hk.2) (.slice Ao32 t266.length co32)) (fun _ h_ => h_.1))))) (Kd.R_lt (by (with_reducible repeat (first | apply Kd.R_alloc | apply Kd.R_drewN | apply Kd.R_drew)); exact (Kd.R_mono (Kd.R_far (Kd.R_far (Kd.R_far (Kd.R_far (Kd.R_far (Kd.R_far (Kd.R_types HO246.out BK269.out (by decide)) (fun _ hk => hk.2) (.int .i64 t259)) (fun _ hk => hk.2) (.int .i64 t260)) (fun _ hk => hk.2) (.int .i64 t261)) (fun _ hk => hk.2) (.int .i64 t262)) (fun _ hk => hk.2) (.slice Ao31 t263.length co31)) (fun _ hk => hk.2) (.slice Ao32 t266.length co32)) (fun _ h_ => h_.1))))) (Kd.R_lt (by (with_reducible repeat (first | apply Kd.R_alloc | apply Kd.R_drewN | apply Kd.R_drew)); exact (Kd.R_mono (Kd.R_far (Kd.R_far (Kd.R_far (Kd.R_far (Kd.R_far (Kd.R_far (Kd.R_types HO253.out BK269.out (by decide)) (fun _ hk => hk.2) (.int .i64 t259)) (fun _ hk => hk.2) (.int .i64 t260)) (fun _ hk => hk.2) (.int .i64 t261)) (fun _ hk => hk.2) (.int .i64 t262)) (fun _ hk => hk.2) (.slice Ao31 t263.length co31)) (fun _ hk => hk.2) (.slice Ao32 t266.length co32)) (fun _ h_ => h_.1))))) (Kd.R_lt (by (with_reducible repeat (first | apply Kd.R_alloc | apply Kd.R_drewN | apply Kd.R_drew)); exact (Kd.R_mono (Kd.R_far (Kd.R_far (Kd.R_far (Kd.R_far (Kd.R_far (Kd.R_far (Kd.R_types HO256.out BK269.out (by decide)) (fun _ hk => hk.2) (.int .i64 t259)) (fun _ hk => hk.2) (.int .i64 t260)) (fun _ hk => hk.2) (.int .i64 t261)) (fun _ hk => hk.2) (.int .i64 t262)) (fun _ hk => hk.2) (.slice Ao31 t263.length co31)) (fun _ hk => hk.2) (.slice Ao32 t266.length co32)) (fun _ h_ => h_.1))))) (Kd.R_lt (by (with_reducible repeat (first | apply Kd.R_alloc | apply Kd.R_drewN | apply Kd.R_drew)); exact (Kd.R_mono (Kd.R_far (Kd.R_far (Kd.R_far (Kd.R_far (Kd.R_far (Kd.R_far (Kd.R_types HO265.out BK269.out (by decide)) (fun _ hk => hk.2) (.int .i64 t259)) (fun _ hk => hk.2) (.int .i64 t260)) (fun _ hk => hk.2) (.int .i64 t261)) (fun _ hk => hk.2) (.int .i64 t262)) (fun _ hk => hk.2) (.slice Ao31 t263.length co31)) (fun _ hk => hk.2) (.slice Ao32 t266.length co32)) (fun _ h_ => h_.1))))) (Kd.R_lt (by (with_reducible repeat (first | apply Kd.R_alloc | apply Kd.R_drewN | apply Kd.R_drew)); exact (Kd.R_mono (Kd.R_far (Kd.R_far (Kd.R_far (Kd.R_far (Kd.R_far (Kd.R_far (Kd.R_types HO268.out BK269.out (by decide)) (fun _ hk => hk.2) (.int .i64 t259)) (fun _ hk => hk.2) (.int .i64 t260)) (fun _ hk => hk.2) (.int .i64 t261)) (fun _ hk => hk.2) (.int .i64 t262)) (fun _ hk => hk.2) (.slice Ao31 t263.length co31)) (fun _ hk => hk.2) (.slice Ao32 t266.length co32)) (fun _ h_ => h_.1))))) (below_size (by repeat (first | (with_reducible first | exact HB.out | apply below_alloc | apply pw_below_drewN | apply below_drew1 | refine below_set ?_ GE235.out | refine below_set ?_ GE258.out | refine below_set ?_ GE269.out) | exact HB.out)))); have n7_ := Aside0.mk (Kd.R_lower (Kd.R_new' (Kd.R_new' (Kd.R_new' (Kd.R_new' (Kd.R_new' (Kd.R_new' ho1 (Kd.R_lt (by (with_reducible repeat (first | apply Kd.R_alloc | apply Kd.R_drewN | apply Kd.R_drew)); exact (Kd.R_mono (Kd.R_far (Kd.R_far (Kd.R_far (Kd.R_far (Kd.R_far (Kd.R_far (Kd.R_types HO243.out BK269.out (by decide)) (fun _ hk => hk.2) (.int .i64 t259)) (fun _ hk => hk.2) (.int .i64 t260)) (fun _ hk => hk.2) (.int .i64 t261)) (fun _ hk => hk.2) (.int .i64 t262)) (fun _ hk => hk.2) (.slice Ao31 t263.length co31)) (fun _ hk => hk.2) (.slice Ao32 t266.length co32)) (fun _ h_ => h_.1))))) (Kd.R_lt (by (with_reducible repeat (first | apply Kd.R_alloc | apply Kd.R_drewN | apply Kd.R_drew)); exact (Kd.R_mono (Kd.R_far (Kd.R_far (Kd.R_far (Kd.R_far (Kd.R_far (Kd.R_far (Kd.R_types HO246.out BK269.out (by decide)) (fun _ hk => hk.2) (.int .i64 t259)) (fun _ hk => hk.2) (.int .i64 t260)) (fun _ hk => hk.2) (.int .i64 t261)) (fun _ hk => hk.2) (.int .i64 t262)) (fun _ hk => hk.2) (.slice Ao31 t263.length co31)) (fun _ hk => hk.2) (.slice Ao32 t266.length co32)) (fun _ h_ => h_.1))))) (Kd.R_lt (by (with_reducible repeat (first | apply Kd.R_alloc | apply Kd.R_drewN | apply Kd.R_drew)); exact (Kd.R_mono (Kd.R_far (Kd.R_far (Kd.R_far (Kd.R_far (Kd.R_far (Kd.R_far (Kd.R_types HO253.out BK269.out (by decide)) (fun _ hk => hk.2) (.int .i64 t259)) (fun _ hk => hk.2) (.int .i64 t260)) (fun _ hk => hk.2) (.int .i64 t261)) (fun _ hk => hk.2) (.int .i64 t262)) (fun _ hk => hk.2) (.slice Ao31 t263.length co31)) (fun _ hk => hk.2) (.slice Ao32 t266.length co32)) (fun _ h_ => h_.1))))) (Kd.R_lt (by (with_reducible repeat (first | apply Kd.R_alloc | apply Kd.R_drewN | apply Kd.R_drew)); exact (Kd.R_mono (Kd.R_far (Kd.R_far (Kd.R_far (Kd.R_far (Kd.R_far (Kd.R_far (Kd.R_types HO256.out BK269.out (by decide)) (fun _ hk => hk.2) (.int .i64 t259)) (fun _ hk => hk.2) (.int .i64 t260)) (fun _ hk => hk.2) (.int .i64 t261)) (fun _ hk => hk.2) (.int .i64 t262)) (fun _ hk => hk.2) (.slice Ao31 t263.length co31)) (fun _ hk => hk.2) (.slice Ao32 t266.length co32)) (fun _ h_ => h_.1))))) (Kd.R_lt (by (with_reducible repeat (first | apply Kd.R_alloc | apply Kd.R_drewN | apply Kd.R_drew)); exact (Kd.R_mono (Kd.R_far (Kd.R_far (Kd.R_far (Kd.R_far (Kd.R_far (Kd.R_far (Kd.R_types HO265.out BK269.out (by decide)) (fun _ hk => hk.2) (.int .i64 t259)) (fun _ hk => hk.2) (.int .i64 t260)) (fun _ hk => hk.2) (.int .i64 t261)) (fun _ hk => hk.2) (.int .i64 t262)) (fun _ hk => hk.2) (.slice Ao31 t263.length co31)) (fun _ hk => hk.2) (.slice Ao32 t266.length co32)) (fun _ h_ => h_.1))))) (Kd.R_lt (by (with_reducible repeat (first | apply Kd.R_alloc | apply Kd.R_drewN | apply Kd.R_drew)); exact (Kd.R_mono (Kd.R_far (Kd.R_far (Kd.R_far (Kd.R_far (Kd.R_far (Kd.R_far (Kd.R_types HO268.out BK269.out (by decide)) (fun _ hk => hk.2) (.int .i64 t259)) (fun _ hk => hk.2) (.int .i64 t260)) (fun _ hk => hk.2) (.int .i64 t261)) (fun _ hk => hk.2) (.int .i64 t262)) (fun _ hk => hk.2) (.slice Ao31 t263.length co31)) (fun _ hk => hk.2) (.slice Ao32 t266.length co32)) (fun _ h_ => h_.1))))) (below_size (by repeat (first | (with_reducible first | exact HB.out | apply below_alloc | apply pw_below_drewN | apply below_drew1 | refine below_set ?_ GE235.out | refine below_set ?_ GE258.out | refine below_set ?_ GE269.out) | exact HB.out)))); have n8_ := Aside0.mk (blk_below (g := gb235) (o := .cells #[.int .i64 a0_0, .int .i64 a0_1, .int .i64 a0_2, .int .i64 a0_3, .slice A0_4 l0_4.length c0_4, .slice A0_5 l0_5.length c0_5] 24 (0, 0)) (by (with_reducible repeat (first | apply blk_drewN | apply blk_drew | apply blk_alloc)); refine blk_far ?_ NB235_269.out _; (with_reducible repeat (first | apply blk_drewN | apply blk_drew | apply blk_alloc)); refine blk_far ?_ NB235_269.out _; (with_reducible repeat (first | apply blk_drewN | apply blk_drew | apply blk_alloc)); refine blk_far ?_ NB235_269.out _; (with_reducible repeat (first | apply blk_drewN | apply blk_drew | apply blk_alloc)); refine blk_far ?_ NB235_269.out _; (with_reducible repeat (first | apply blk_drewN | apply blk_drew | apply blk_alloc)); refine blk_far ?_ NB235_269.out _; (with_reducible repeat (first | apply blk_drewN | apply blk_drew | apply blk_alloc)); refine blk_far ?_ NB235_269.out _; (with_reducible repeat (first | apply blk_drewN | apply blk_drew | apply blk_alloc)); exact BK235.out) hb); have n9_ := Aside0.mk (blk_below (g := gb258) (o := .cells #[.int .i64 t247, .int .i64 t248, .int .i64 t249, .int .i64 t250, .slice Ao23 t251.length co23, .slice Ao24 t254.length co24] 27 (0, 0)) (by (with_reducible repeat (first | apply blk_drewN | apply blk_drew | apply blk_alloc)); refine blk_far ?_ NB258_269.out _; (with_reducible repeat (first | apply blk_drewN | apply blk_drew | apply blk_alloc)); refine blk_far ?_ NB258_269.out _; (with_reducible repeat (first | apply blk_drewN | apply blk_drew | apply blk_alloc)); refine blk_far ?_ NB258_269.out _; (with_reducible repeat (first | apply blk_drewN | apply blk_drew | apply blk_alloc)); refine blk_far ?_ NB258_269.out _; (with_reducible repeat (first | apply blk_drewN | apply blk_drew | apply blk_alloc)); refine blk_far ?_ NB258_269.out _; (with_reducible repeat (first | apply blk_drewN | apply blk_drew | apply blk_alloc)); refine blk_far ?_ NB258_269.out _; (with_reducible repeat (first | apply blk_drewN | apply blk_drew | apply blk_alloc)); exact BK258.out) hb); have n10_ := Aside0.mk (blk_below (g := gb269) (o := .cells #[.int .i64 t259, .int .i64 t260, .int .i64 t261, .int .i64 t262, .slice Ao31 t263.length co31, .slice Ao32 t266.length co32] 27 (0, 0)) (by (with_reducible repeat (first | apply blk_drewN | apply blk_drew | apply blk_alloc)); refine blk_put (cs := #[.int .i64 t259, .int .i64 t260, .int .i64 t261, .int .i64 t262, .slice Ao31 t263.length co31, .slice none 0 0]) ?_ 5 _ rfl; (with_reducible repeat (first | apply blk_drewN | apply blk_drew | apply blk_alloc)); refine blk_put (cs := #[.int .i64 t259, .int .i64 t260, .int .i64 t261, .int .i64 t262, .slice none 0 0, .slice none 0 0]) ?_ 4 _ rfl; (with_reducible repeat (first | apply blk_drewN | apply blk_drew | apply blk_alloc)); refine blk_put (cs := #[.int .i64 t259, .int .i64 t260, .int .i64 t261, .int .i64 0, .slice none 0 0, .slice none 0 0]) ?_ 3 _ rfl; (with_reducible repeat (first | apply blk_drewN | apply blk_drew | apply blk_alloc)); refine blk_put (cs := #[.int .i64 t259, .int .i64 t260, .int .i64 0, .int .i64 0, .slice none 0 0, .slice none 0 0]) ?_ 2 _ rfl; (with_reducible repeat (first | apply blk_drewN | apply blk_drew | apply blk_alloc)); refine blk_put (cs := #[.int .i64 t259, .int .i64 0, .int .i64 0, .int .i64 0, .slice none 0 0, .slice none 0 0]) ?_ 1 _ rfl; (with_reducible repeat (first | apply blk_drewN | apply blk_drew | apply blk_alloc)); refine blk_put (cs := #[.int .i64 0, .int .i64 0, .int .i64 0, .int .i64 0, .slice none 0 0, .slice none 0 0]) ?_ 0 _ rfl; (with_reducible repeat (first | apply blk_drewN | apply blk_drew | apply blk_alloc)); exact BK269.out) hb); have n11_ := Aside0.mk (below_step (by repeat (first | (with_reducible first | exact HB.out | apply below_alloc | apply pw_below_drewN | apply below_drew1 | refine below_set ?_ GE235.out | refine below_set ?_ GE258.out | refine below_set ?_ GE269.out) | exact HB.out)) hb); clear HO243; clear HO246; clear HO253; clear HO256; clear HO265; clear HO268; clear BK235; clear BK258; clear BK269; clear HB; have HO243 := n0_; have HO246 := n1_; have HO253 := n2_; have HO256 := n3_; have HO265 := n4_; have HO268 := n5_; have HO276 := n6_; have HO279 := n7_; have BK235 := n8_; have BK258 := n9_; have BK269 := n10_; have HB := n11_; clear n0_ n1_ n2_ n3_ n4_ n5_ n6_ n7_ n8_ n9_ n10_ n11_; (try clear hb); (try clear hb2); (try clear hk); (try clear hi); (try clear ho0); (try clear ho1)) | ((with_reducible refine gate_dst (N := 7) rfl ?_); refine box_event ?hg (N := 7) ?hd (cs := #[.int .i64 0, .int .i64 0, .int .i64 0, .int .i64 0, .slice none 0 0, .slice none 0 0]) (t := 27) ?hr ?_; (case hd => rfl); (case hg => rfl); (case hr => first | (go_simp; done) | (go_simp; rfl)); intro gb281 hg w34 hbox hb; have n0_ := Aside0.mk (Kd.R_below (by (with_reducible repeat (first | apply Kd.R_alloc | apply Kd.R_drewN | apply Kd.R_drew)); exact HO243.out) hb); have n1_ := Aside0.mk (Kd.R_below (by (with_reducible repeat (first | apply Kd.R_alloc | apply Kd.R_drewN | apply Kd.R_drew)); exact HO246.out) hb); have n2_ := Aside0.mk (Kd.R_below (by (with_reducible repeat (first | apply Kd.R_alloc | apply Kd.R_drewN | apply Kd.R_drew)); exact HO253.out) hb); have n3_ := Aside0.mk (Kd.R_below (by (with_reducible repeat (first | apply Kd.R_alloc | apply Kd.R_drewN | apply Kd.R_drew)); exact HO256.out) hb); have n4_ := Aside0.mk (Kd.R_below (by (with_reducible repeat (first | apply Kd.R_alloc | apply Kd.R_drewN | apply Kd.R_drew)); exact HO265.out) hb); have n5_ := Aside0.mk (Kd.R_below (by (with_reducible repeat (first | apply Kd.R_alloc | apply Kd.R_drewN | apply Kd.R_drew)); exact HO268.out) hb); have n6_ := Aside0.mk (Kd.R_below (by (with_reducible repeat (first | apply Kd.R_alloc | apply Kd.R_drewN | apply Kd.R_drew)); exact HO276.out) hb); have n7_ := Aside0.mk (Kd.R_below (by (with_reducible repeat (first | apply Kd.R_alloc | apply Kd.R_drewN | apply Kd.R_drew)); exact HO279.out) hb); have n8_ := Aside0.mk (blk_below (g := gb235) (by (with_reducible repeat (first | apply blk_drewN | apply blk_drew | apply blk_alloc)); exact BK235.out) hb); have n9_ := Aside0.mk (blk_below (g := gb258) (by (with_reducible repeat (first | apply blk_drewN | apply blk_drew | apply blk_alloc)); exact BK258.out) hb); have n10_ := Aside0.mk (blk_below (g := gb269) (by (with_reducible repeat (first | apply blk_drewN | apply blk_drew | apply blk_alloc)); exact BK269.out) hb); have n11_ := Aside0.mk (below_step (by repeat (first | (with_reducible first | exact HB.out | apply below_alloc | apply pw_below_drewN | apply below_drew1 | refine below_set ?_ GE235.out | refine below_set ?_ GE258.out | refine below_set ?_ GE269.out) | exact HB.out)) hb); have n12_ := Aside0.mk (hbox); have n13_ := Aside0.mk ((by rw [hg]; exact (below_size (by repeat (first | (with_reducible first | exact HB.out | apply below_alloc | apply pw_below_drewN | apply below_drew1 | refine below_set ?_ GE235.out | refine below_set ?_ GE258.out | refine below_set ?_ GE269.out) | exact HB.out))) : w.heap.size ≤ gb281)); have n14_ := Aside0.mk ((by rw [hg]; exact (below_size (by repeat (first | (with_reducible first | exact HB.out | apply below_alloc | apply pw_below_drewN | apply below_drew1 | refine below_set ?_ GE235.out | refine below_set ?_ GE258.out | refine below_set ?_ GE269.out) | exact HB.out))) : w.heap.size ≤ gb281)); have n15_ := Aside0.mk ((by rw [hg]; exact Nat.ne_of_lt (blk_lt (g := gb235) (by (with_reducible repeat (first | apply blk_drewN | apply blk_drew | apply blk_alloc)); exact BK235.out)) : gb235 ≠ gb281)); have n16_ := Aside0.mk n15_.out.symm; have n17_ := Aside0.mk ((by rw [hg]; exact Nat.ne_of_lt (blk_lt (g := gb258) (by (with_reducible repeat (first | apply blk_drewN | apply blk_drew | apply blk_alloc)); exact BK258.out)) : gb258 ≠ gb281)); have n18_ := Aside0.mk n17_.out.symm; have n19_ := Aside0.mk ((by rw [hg]; exact Nat.ne_of_lt (blk_lt (g := gb269) (by (with_reducible repeat (first | apply blk_drewN | apply blk_drew | apply blk_alloc)); exact BK269.out)) : gb269 ≠ gb281)); have n20_ := Aside0.mk n19_.out.symm; clear HO243; clear HO246; clear HO253; clear HO256; clear HO265; clear HO268; clear HO276; clear HO279; clear BK235; clear BK258; clear BK269; clear HB; have HO243 := n0_; have HO246 := n1_; have HO253 := n2_; have HO256 := n3_; have HO265 := n4_; have HO268 := n5_; have HO276 := n6_; have HO279 := n7_; have BK235 := n8_; have BK258 := n9_; have BK269 := n10_; have HB := n11_; have BK281 := n12_; have GW281 := n13_; have GE281 := n14_; have NB235_281 := n15_; have NB281_235 := n16_; have NB258_281 := n17_; have NB281_258 := n18_; have NB269_281 := n19_; have NB281_269 := n20_; clear n0_ n1_ n2_ n3_ n4_ n5_ n6_ n7_ n8_ n9_ n10_ n11_ n12_ n13_ n14_ n15_ n16_ n17_ n18_ n19_ n20_; clear hb hbox hg; have hnb35 := NB281_235.out; have hnc35 := NB235_281.out; have hnb36 := NB281_258.out; have hnc36 := NB258_281.out; have hnb37 := NB281_269.out; have hnc37 := NB269_281.out; obtain ⟨hcz38_0, hcz38_1, hcz38_2, hcz38_3, hcz38_4, hcz38_5⟩ := bc6 BK281.out; obtain ⟨hfz38_0, hfz38_1, hfz38_2, hfz38_3, hfz38_4, hfz38_5⟩ := bf6 BK281.out; obtain ⟨Ao39, co39, eo39⟩ := Kd.R_slice HO276.out; subst eo39; obtain ⟨Ao40, co40, eo40⟩ := Kd.R_slice HO279.out; subst eo40))
  (try simp only [Act.put, sA_, s0_, s1_])
  go_cut [40] (fun v40 wc => ∃ (kq : Nat) (x40_10 : Bool), v40 = .bool x40_10 ∧ Aside0 (laws_FnExactImagePal.j0 kq t257 t280 x40_10 a0_0 a0_1 a0_2 a0_3 l0_4 l0_5 t247 t248 t249 t250 t251 t254 t259 t260 t261 t262 t263 t266 t270 t271 t272 t273 t274 t277 = some true) ∧ Aside0 (kq ≤ k) ∧ Aside0 (Kd.R (Kd.int .i64) 3 wc w.heap.size (fun k_ => some k_ ≠ ((.slice Ao24 t254.length co24) : Value).ownBlock ∧ some k_ ≠ ((.slice Ao31 t263.length co31) : Value).ownBlock ∧ some k_ ≠ ((.slice Ao32 t266.length co32) : Value).ownBlock ∧ some k_ ≠ ((.slice Ao39 t274.length co39) : Value).ownBlock ∧ some k_ ≠ ((.slice Ao40 t277.length co40) : Value).ownBlock) (.slice Ao23 t251.length co23) t251) ∧ Aside0 (Kd.R (Kd.int .i64) 3 wc w.heap.size (fun k_ => some k_ ≠ ((.slice Ao23 t251.length co23) : Value).ownBlock ∧ some k_ ≠ ((.slice Ao31 t263.length co31) : Value).ownBlock ∧ some k_ ≠ ((.slice Ao32 t266.length co32) : Value).ownBlock ∧ some k_ ≠ ((.slice Ao39 t274.length co39) : Value).ownBlock ∧ some k_ ≠ ((.slice Ao40 t277.length co40) : Value).ownBlock) (.slice Ao24 t254.length co24) t254) ∧ Aside0 (Kd.R (Kd.int .i64) 3 wc w.heap.size (fun k_ => some k_ ≠ ((.slice Ao23 t251.length co23) : Value).ownBlock ∧ some k_ ≠ ((.slice Ao24 t254.length co24) : Value).ownBlock ∧ some k_ ≠ ((.slice Ao32 t266.length co32) : Value).ownBlock ∧ some k_ ≠ ((.slice Ao39 t274.length co39) : Value).ownBlock ∧ some k_ ≠ ((.slice Ao40 t277.length co40) : Value).ownBlock) (.slice Ao31 t263.length co31) t263) ∧ Aside0 (Kd.R (Kd.int .i64) 3 wc w.heap.size (fun k_ => some k_ ≠ ((.slice Ao23 t251.length co23) : Value).ownBlock ∧ some k_ ≠ ((.slice Ao24 t254.length co24) : Value).ownBlock ∧ some k_ ≠ ((.slice Ao31 t263.length co31) : Value).ownBlock ∧ some k_ ≠ ((.slice Ao39 t274.length co39) : Value).ownBlock ∧ some k_ ≠ ((.slice Ao40 t277.length co40) : Value).ownBlock) (.slice Ao32 t266.length co32) t266) ∧ Aside0 (Kd.R (Kd.int .i64) 3 wc w.heap.size (fun k_ => some k_ ≠ ((.slice Ao23 t251.length co23) : Value).ownBlock ∧ some k_ ≠ ((.slice Ao24 t254.length co24) : Value).ownBlock ∧ some k_ ≠ ((.slice Ao31 t263.length co31) : Value).ownBlock ∧ some k_ ≠ ((.slice Ao32 t266.length co32) : Value).ownBlock ∧ some k_ ≠ ((.slice Ao40 t277.length co40) : Value).ownBlock) (.slice Ao39 t274.length co39) t274) ∧ Aside0 (Kd.R (Kd.int .i64) 3 wc w.heap.size (fun k_ => some k_ ≠ ((.slice Ao23 t251.length co23) : Value).ownBlock ∧ some k_ ≠ ((.slice Ao24 t254.length co24) : Value).ownBlock ∧ some k_ ≠ ((.slice Ao31 t263.length co31) : Value).ownBlock ∧ some k_ ≠ ((.slice Ao32 t266.length co32) : Value).ownBlock ∧ some k_ ≠ ((.slice Ao39 t274.length co39) : Value).ownBlock) (.slice Ao40 t277.length co40) t277) ∧ Aside0 (wc.heap[gb235]? = some (.cells #[.int .i64 a0_0, .int .i64 a0_1, .int .i64 a0_2, .int .i64 a0_3, (.slice A0_4 l0_4.length c0_4), (.slice A0_5 l0_5.length c0_5)] 24 (0, 0))) ∧ Aside0 (wc.heap[gb258]? = some (.cells #[.int .i64 t247, .int .i64 t248, .int .i64 t249, .int .i64 t250, (.slice Ao23 t251.length co23), (.slice Ao24 t254.length co24)] 27 (0, 0))) ∧ Aside0 (wc.heap[gb269]? = some (.cells #[.int .i64 t259, .int .i64 t260, .int .i64 t261, .int .i64 t262, (.slice Ao31 t263.length co31), (.slice Ao32 t266.length co32)] 27 (0, 0))) ∧ Aside0 (wc.heap[gb281]? = some (.cells #[.int .i64 t270, .int .i64 t271, .int .i64 t272, .int .i64 t273, (.slice Ao39 t274.length co39), (.slice Ao40 t277.length co40)] 27 (0, 0))) ∧ Aside0 (Below w.heap.size w wc))
  case first =>
   have H := HC11.out
   clear HC11
   replace H := Option.bind_eq_some_iff.mp H
   obtain ⟨t282, A410, H⟩ := H
   replace H : (if t282 = true then (laws_FnExactImagePal.j0 k t257 t280 (t280 != t257) a0_0 a0_1 a0_2 a0_3 l0_4 l0_5 t247 t248 t249 t250 t251 t254 t259 t260 t261 t262 t263 t266 t270 t271 t272 t273 t274 t277) else (laws_FnExactImagePal.j0 k t257 t280 true a0_0 a0_1 a0_2 a0_3 l0_4 l0_5 t247 t248 t249 t250 t251 t254 t259 t260 t261 t262 t263 t266 t270 t271 t272 t273 t274 t277)) = some true := H
   have A41 := Aside0.mk A410
   clear A410
   by_cases c42 : t282 = true
   ·subst c42
    have H1 : (laws_FnExactImagePal.j0 k t257 t280 (t280 != t257) a0_0 a0_1 a0_2 a0_3 l0_4 l0_5 t247 t248 t249 t250 t251 t254 t259 t260 t261 t262 t263 t266 t270 t271 t272 t273 t274 t277) = some true := by first | (rw [if_pos rfl] at H; exact H) | rfl
    clear H
    have H := H1
    clear H1
    have H' := Aside0.mk H
    clear H
    have hnb43 := NB281_235.out
    have hnc43 := NB235_281.out
    have hnb44 := NB281_258.out
    have hnc44 := NB258_281.out
    have hnb45 := NB281_269.out
    have hnc45 := NB269_281.out
    obtain ⟨hcz46_0, hcz46_1, hcz46_2, hcz46_3, hcz46_4, hcz46_5⟩ := bc6 BK281.out
    obtain ⟨hfz46_0, hfz46_1, hfz46_2, hfz46_3, hfz46_4, hfz46_5⟩ := bf6 BK281.out
    have hnb47 := NB258_235.out
    have hnc47 := NB235_258.out
    have hnb48 := NB258_269.out
    have hnc48 := NB269_258.out
    obtain ⟨hcz49_0, hcz49_1, hcz49_2, hcz49_3, hcz49_4, hcz49_5⟩ := bc6 BK258.out
    obtain ⟨hfz49_0, hfz49_1, hfz49_2, hfz49_3, hfz49_4, hfz49_5⟩ := bf6 BK258.out
    go_wp2_with (first | ((with_reducible refine gate_callee (f := 19) rfl ?_); refine goesL_ (some 34) rfl rfl Try.func19 (by kernel_rfl) rfl #[.agg #[.int .i64 t270, .int .i64 t271, .int .i64 t272, .int .i64 t273, .slice Ao39 t274.length co39, .slice Ao40 t277.length co40], .agg #[.int .i64 t247, .int .i64 t248, .int .i64 t249, .int .i64 t250, .slice Ao23 t251.length co23, .slice Ao24 t254.length co24]] rfl (by (try simp only [List.map_toArray, List.map_cons, List.map_nil]); first | done | rfl | (simp only [List.length_drop, List.length_take]; rfl)) ?_; (with_reducible refine (laws_eqImage.calls k t270 t271 t272 t273 _ _ t274 _ _ t277 t247 t248 t249 t250 _ _ t251 _ _ t254 true _ ?side1 ?side2 ?side3 ?side4 ?side5 ?side6 ?side7 ?side8 A41.out).mono ?_); (case side1 => refine (Kd.R_reads' (e := 3) (base := w.heap.size) (ok := fun k_ => ((((((some k_ ≠ (.slice Ao40 t277.length co40 : Value).ownBlock ∧ some k_ ≠ (.slice Ao17 t241.length co17 : Value).ownBlock) ∧ some k_ ≠ (.slice Ao18 t244.length co18 : Value).ownBlock) ∧ some k_ ≠ (.slice Ao23 t251.length co23 : Value).ownBlock) ∧ some k_ ≠ (.slice Ao24 t254.length co24 : Value).ownBlock) ∧ some k_ ≠ (.slice Ao31 t263.length co31 : Value).ownBlock) ∧ some k_ ≠ (.slice Ao32 t266.length co32 : Value).ownBlock)) (n := t274.length) (c := co39) ?_).2.2; exact (by (with_reducible repeat (first | apply Kd.R_alloc | apply Kd.R_drewN | apply Kd.R_drew)); exact (Kd.R_mono (Kd.R_far (Kd.R_far (Kd.R_far (Kd.R_far (Kd.R_far (Kd.R_far (Kd.R_types HO276.out BK281.out (by decide)) (fun _ hk => hk.2) (.int .i64 t270)) (fun _ hk => hk.2) (.int .i64 t271)) (fun _ hk => hk.2) (.int .i64 t272)) (fun _ hk => hk.2) (.int .i64 t273)) (fun _ hk => hk.2) (.slice Ao39 t274.length co39)) (fun _ hk => hk.2) (.slice Ao40 t277.length co40)) (fun _ h_ => h_.1)))); (case side2 => exact (Kd.R_reads' HO276.out).2.1); (case side3 => refine (Kd.R_reads' (e := 3) (base := w.heap.size) (ok := fun k_ => ((((((some k_ ≠ (.slice Ao39 t274.length co39 : Value).ownBlock ∧ some k_ ≠ (.slice Ao17 t241.length co17 : Value).ownBlock) ∧ some k_ ≠ (.slice Ao18 t244.length co18 : Value).ownBlock) ∧ some k_ ≠ (.slice Ao23 t251.length co23 : Value).ownBlock) ∧ some k_ ≠ (.slice Ao24 t254.length co24 : Value).ownBlock) ∧ some k_ ≠ (.slice Ao31 t263.length co31 : Value).ownBlock) ∧ some k_ ≠ (.slice Ao32 t266.length co32 : Value).ownBlock)) (n := t277.length) (c := co40) ?_).2.2; exact (by (with_reducible repeat (first | apply Kd.R_alloc | apply Kd.R_drewN | apply Kd.R_drew)); exact (Kd.R_mono (Kd.R_far (Kd.R_far (Kd.R_far (Kd.R_far (Kd.R_far (Kd.R_far (Kd.R_types HO279.out BK281.out (by decide)) (fun _ hk => hk.2) (.int .i64 t270)) (fun _ hk => hk.2) (.int .i64 t271)) (fun _ hk => hk.2) (.int .i64 t272)) (fun _ hk => hk.2) (.int .i64 t273)) (fun _ hk => hk.2) (.slice Ao39 t274.length co39)) (fun _ hk => hk.2) (.slice Ao40 t277.length co40)) (fun _ h_ => h_.1)))); (case side4 => exact (Kd.R_reads' HO279.out).2.1); (case side5 => refine (Kd.R_reads' (e := 3) (base := w.heap.size) (ok := fun k_ => ((((((some k_ ≠ (.slice Ao24 t254.length co24 : Value).ownBlock ∧ some k_ ≠ (.slice Ao17 t241.length co17 : Value).ownBlock) ∧ some k_ ≠ (.slice Ao18 t244.length co18 : Value).ownBlock) ∧ some k_ ≠ (.slice Ao31 t263.length co31 : Value).ownBlock) ∧ some k_ ≠ (.slice Ao32 t266.length co32 : Value).ownBlock) ∧ some k_ ≠ (.slice Ao39 t274.length co39 : Value).ownBlock) ∧ some k_ ≠ (.slice Ao40 t277.length co40 : Value).ownBlock)) (n := t251.length) (c := co23) ?_).2.2; exact (by (with_reducible repeat (first | apply Kd.R_alloc | apply Kd.R_drewN | apply Kd.R_drew)); exact (Kd.R_mono (Kd.R_far (Kd.R_far (Kd.R_far (Kd.R_far (Kd.R_far (Kd.R_far (Kd.R_types HO253.out BK281.out (by decide)) (fun _ hk => hk.2) (.int .i64 t270)) (fun _ hk => hk.2) (.int .i64 t271)) (fun _ hk => hk.2) (.int .i64 t272)) (fun _ hk => hk.2) (.int .i64 t273)) (fun _ hk => hk.2) (.slice Ao39 t274.length co39)) (fun _ hk => hk.2) (.slice Ao40 t277.length co40)) (fun _ h_ => h_.1)))); (case side6 => exact (Kd.R_reads' HO253.out).2.1); (case side7 => refine (Kd.R_reads' (e := 3) (base := w.heap.size) (ok := fun k_ => ((((((some k_ ≠ (.slice Ao23 t251.length co23 : Value).ownBlock ∧ some k_ ≠ (.slice Ao17 t241.length co17 : Value).ownBlock) ∧ some k_ ≠ (.slice Ao18 t244.length co18 : Value).ownBlock) ∧ some k_ ≠ (.slice Ao31 t263.length co31 : Value).ownBlock) ∧ some k_ ≠ (.slice Ao32 t266.length co32 : Value).ownBlock) ∧ some k_ ≠ (.slice Ao39 t274.length co39 : Value).ownBlock) ∧ some k_ ≠ (.slice Ao40 t277.length co40 : Value).ownBlock)) (n := t254.length) (c := co24) ?_).2.2; exact (by (with_reducible repeat (first | apply Kd.R_alloc | apply Kd.R_drewN | apply Kd.R_drew)); exact (Kd.R_mono (Kd.R_far (Kd.R_far (Kd.R_far (Kd.R_far (Kd.R_far (Kd.R_far (Kd.R_types HO256.out BK281.out (by decide)) (fun _ hk => hk.2) (.int .i64 t270)) (fun _ hk => hk.2) (.int .i64 t271)) (fun _ hk => hk.2) (.int .i64 t272)) (fun _ hk => hk.2) (.int .i64 t273)) (fun _ hk => hk.2) (.slice Ao39 t274.length co39)) (fun _ hk => hk.2) (.slice Ao40 t277.length co40)) (fun _ h_ => h_.1)))); (case side8 => exact (Kd.R_reads' HO256.out).2.1); rintro e w50 ⟨rfl, hb⟩; refine ⟨_, rfl, ?_⟩; have n0_ := Aside0.mk (Kd.R_below (by (with_reducible repeat (first | apply Kd.R_alloc | apply Kd.R_drewN | apply Kd.R_drew)); exact (Kd.R_mono (Kd.R_far (Kd.R_far (Kd.R_far (Kd.R_far (Kd.R_far (Kd.R_far (Kd.R_types HO243.out BK281.out (by decide)) (fun _ hk => hk.2) (.int .i64 t270)) (fun _ hk => hk.2) (.int .i64 t271)) (fun _ hk => hk.2) (.int .i64 t272)) (fun _ hk => hk.2) (.int .i64 t273)) (fun _ hk => hk.2) (.slice Ao39 t274.length co39)) (fun _ hk => hk.2) (.slice Ao40 t277.length co40)) (fun _ h_ => h_.1))) hb); have n1_ := Aside0.mk (Kd.R_below (by (with_reducible repeat (first | apply Kd.R_alloc | apply Kd.R_drewN | apply Kd.R_drew)); exact (Kd.R_mono (Kd.R_far (Kd.R_far (Kd.R_far (Kd.R_far (Kd.R_far (Kd.R_far (Kd.R_types HO246.out BK281.out (by decide)) (fun _ hk => hk.2) (.int .i64 t270)) (fun _ hk => hk.2) (.int .i64 t271)) (fun _ hk => hk.2) (.int .i64 t272)) (fun _ hk => hk.2) (.int .i64 t273)) (fun _ hk => hk.2) (.slice Ao39 t274.length co39)) (fun _ hk => hk.2) (.slice Ao40 t277.length co40)) (fun _ h_ => h_.1))) hb); have n2_ := Aside0.mk (Kd.R_below (by (with_reducible repeat (first | apply Kd.R_alloc | apply Kd.R_drewN | apply Kd.R_drew)); exact (Kd.R_mono (Kd.R_far (Kd.R_far (Kd.R_far (Kd.R_far (Kd.R_far (Kd.R_far (Kd.R_types HO253.out BK281.out (by decide)) (fun _ hk => hk.2) (.int .i64 t270)) (fun _ hk => hk.2) (.int .i64 t271)) (fun _ hk => hk.2) (.int .i64 t272)) (fun _ hk => hk.2) (.int .i64 t273)) (fun _ hk => hk.2) (.slice Ao39 t274.length co39)) (fun _ hk => hk.2) (.slice Ao40 t277.length co40)) (fun _ h_ => h_.1))) hb); have n3_ := Aside0.mk (Kd.R_below (by (with_reducible repeat (first | apply Kd.R_alloc | apply Kd.R_drewN | apply Kd.R_drew)); exact (Kd.R_mono (Kd.R_far (Kd.R_far (Kd.R_far (Kd.R_far (Kd.R_far (Kd.R_far (Kd.R_types HO256.out BK281.out (by decide)) (fun _ hk => hk.2) (.int .i64 t270)) (fun _ hk => hk.2) (.int .i64 t271)) (fun _ hk => hk.2) (.int .i64 t272)) (fun _ hk => hk.2) (.int .i64 t273)) (fun _ hk => hk.2) (.slice Ao39 t274.length co39)) (fun _ hk => hk.2) (.slice Ao40 t277.length co40)) (fun _ h_ => h_.1))) hb); have n4_ := Aside0.mk (Kd.R_below (by (with_reducible repeat (first | apply Kd.R_alloc | apply Kd.R_drewN | apply Kd.R_drew)); exact (Kd.R_mono (Kd.R_far (Kd.R_far (Kd.R_far (Kd.R_far (Kd.R_far (Kd.R_far (Kd.R_types HO265.out BK281.out (by decide)) (fun _ hk => hk.2) (.int .i64 t270)) (fun _ hk => hk.2) (.int .i64 t271)) (fun _ hk => hk.2) (.int .i64 t272)) (fun _ hk => hk.2) (.int .i64 t273)) (fun _ hk => hk.2) (.slice Ao39 t274.length co39)) (fun _ hk => hk.2) (.slice Ao40 t277.length co40)) (fun _ h_ => h_.1))) hb); have n5_ := Aside0.mk (Kd.R_below (by (with_reducible repeat (first | apply Kd.R_alloc | apply Kd.R_drewN | apply Kd.R_drew)); exact (Kd.R_mono (Kd.R_far (Kd.R_far (Kd.R_far (Kd.R_far (Kd.R_far (Kd.R_far (Kd.R_types HO268.out BK281.out (by decide)) (fun _ hk => hk.2) (.int .i64 t270)) (fun _ hk => hk.2) (.int .i64 t271)) (fun _ hk => hk.2) (.int .i64 t272)) (fun _ hk => hk.2) (.int .i64 t273)) (fun _ hk => hk.2) (.slice Ao39 t274.length co39)) (fun _ hk => hk.2) (.slice Ao40 t277.length co40)) (fun _ h_ => h_.1))) hb); have n6_ := Aside0.mk (Kd.R_below (by (with_reducible repeat (first | apply Kd.R_alloc | apply Kd.R_drewN | apply Kd.R_drew)); exact (Kd.R_mono (Kd.R_far (Kd.R_far (Kd.R_far (Kd.R_far (Kd.R_far (Kd.R_far (Kd.R_types HO276.out BK281.out (by decide)) (fun _ hk => hk.2) (.int .i64 t270)) (fun _ hk => hk.2) (.int .i64 t271)) (fun _ hk => hk.2) (.int .i64 t272)) (fun _ hk => hk.2) (.int .i64 t273)) (fun _ hk => hk.2) (.slice Ao39 t274.length co39)) (fun _ hk => hk.2) (.slice Ao40 t277.length co40)) (fun _ h_ => h_.1))) hb); have n7_ := Aside0.mk (Kd.R_below (by (with_reducible repeat (first | apply Kd.R_alloc | apply Kd.R_drewN | apply Kd.R_drew)); exact (Kd.R_mono (Kd.R_far (Kd.R_far (Kd.R_far (Kd.R_far (Kd.R_far (Kd.R_far (Kd.R_types HO279.out BK281.out (by decide)) (fun _ hk => hk.2) (.int .i64 t270)) (fun _ hk => hk.2) (.int .i64 t271)) (fun _ hk => hk.2) (.int .i64 t272)) (fun _ hk => hk.2) (.int .i64 t273)) (fun _ hk => hk.2) (.slice Ao39 t274.length co39)) (fun _ hk => hk.2) (.slice Ao40 t277.length co40)) (fun _ h_ => h_.1))) hb); have n8_ := Aside0.mk (blk_below (g := gb235) (o := .cells #[.int .i64 a0_0, .int .i64 a0_1, .int .i64 a0_2, .int .i64 a0_3, .slice A0_4 l0_4.length c0_4, .slice A0_5 l0_5.length c0_5] 24 (0, 0)) (by (with_reducible repeat (first | apply blk_drewN | apply blk_drew | apply blk_alloc)); refine blk_far ?_ NB235_281.out _; (with_reducible repeat (first | apply blk_drewN | apply blk_drew | apply blk_alloc)); refine blk_far ?_ NB235_281.out _; (with_reducible repeat (first | apply blk_drewN | apply blk_drew | apply blk_alloc)); refine blk_far ?_ NB235_281.out _; (with_reducible repeat (first | apply blk_drewN | apply blk_drew | apply blk_alloc)); refine blk_far ?_ NB235_281.out _; (with_reducible repeat (first | apply blk_drewN | apply blk_drew | apply blk_alloc)); refine blk_far ?_ NB235_281.out _; (with_reducible repeat (first | apply blk_drewN | apply blk_drew | apply blk_alloc)); refine blk_far ?_ NB235_281.out _; (with_reducible repeat (first | apply blk_drewN | apply blk_drew | apply blk_alloc)); exact BK235.out) hb); have n9_ := Aside0.mk (blk_below (g := gb258) (o := .cells #[.int .i64 t247, .int .i64 t248, .int .i64 t249, .int .i64 t250, .slice Ao23 t251.length co23, .slice Ao24 t254.length co24] 27 (0, 0)) (by (with_reducible repeat (first | apply blk_drewN | apply blk_drew | apply blk_alloc)); refine blk_far ?_ NB258_281.out _; (with_reducible repeat (first | apply blk_drewN | apply blk_drew | apply blk_alloc)); refine blk_far ?_ NB258_281.out _; (with_reducible repeat (first | apply blk_drewN | apply blk_drew | apply blk_alloc)); refine blk_far ?_ NB258_281.out _; (with_reducible repeat (first | apply blk_drewN | apply blk_drew | apply blk_alloc)); refine blk_far ?_ NB258_281.out _; (with_reducible repeat (first | apply blk_drewN | apply blk_drew | apply blk_alloc)); refine blk_far ?_ NB258_281.out _; (with_reducible repeat (first | apply blk_drewN | apply blk_drew | apply blk_alloc)); refine blk_far ?_ NB258_281.out _; (with_reducible repeat (first | apply blk_drewN | apply blk_drew | apply blk_alloc)); exact BK258.out) hb); have n10_ := Aside0.mk (blk_below (g := gb269) (o := .cells #[.int .i64 t259, .int .i64 t260, .int .i64 t261, .int .i64 t262, .slice Ao31 t263.length co31, .slice Ao32 t266.length co32] 27 (0, 0)) (by (with_reducible repeat (first | apply blk_drewN | apply blk_drew | apply blk_alloc)); refine blk_far ?_ NB269_281.out _; (with_reducible repeat (first | apply blk_drewN | apply blk_drew | apply blk_alloc)); refine blk_far ?_ NB269_281.out _; (with_reducible repeat (first | apply blk_drewN | apply blk_drew | apply blk_alloc)); refine blk_far ?_ NB269_281.out _; (with_reducible repeat (first | apply blk_drewN | apply blk_drew | apply blk_alloc)); refine blk_far ?_ NB269_281.out _; (with_reducible repeat (first | apply blk_drewN | apply blk_drew | apply blk_alloc)); refine blk_far ?_ NB269_281.out _; (with_reducible repeat (first | apply blk_drewN | apply blk_drew | apply blk_alloc)); refine blk_far ?_ NB269_281.out _; (with_reducible repeat (first | apply blk_drewN | apply blk_drew | apply blk_alloc)); exact BK269.out) hb); have n11_ := Aside0.mk (blk_below (g := gb281) (o := .cells #[.int .i64 t270, .int .i64 t271, .int .i64 t272, .int .i64 t273, .slice Ao39 t274.length co39, .slice Ao40 t277.length co40] 27 (0, 0)) (by (with_reducible repeat (first | apply blk_drewN | apply blk_drew | apply blk_alloc)); refine blk_put (cs := #[.int .i64 t270, .int .i64 t271, .int .i64 t272, .int .i64 t273, .slice Ao39 t274.length co39, .slice none 0 0]) ?_ 5 _ rfl; (with_reducible repeat (first | apply blk_drewN | apply blk_drew | apply blk_alloc)); refine blk_put (cs := #[.int .i64 t270, .int .i64 t271, .int .i64 t272, .int .i64 t273, .slice none 0 0, .slice none 0 0]) ?_ 4 _ rfl; (with_reducible repeat (first | apply blk_drewN | apply blk_drew | apply blk_alloc)); refine blk_put (cs := #[.int .i64 t270, .int .i64 t271, .int .i64 t272, .int .i64 0, .slice none 0 0, .slice none 0 0]) ?_ 3 _ rfl; (with_reducible repeat (first | apply blk_drewN | apply blk_drew | apply blk_alloc)); refine blk_put (cs := #[.int .i64 t270, .int .i64 t271, .int .i64 0, .int .i64 0, .slice none 0 0, .slice none 0 0]) ?_ 2 _ rfl; (with_reducible repeat (first | apply blk_drewN | apply blk_drew | apply blk_alloc)); refine blk_put (cs := #[.int .i64 t270, .int .i64 0, .int .i64 0, .int .i64 0, .slice none 0 0, .slice none 0 0]) ?_ 1 _ rfl; (with_reducible repeat (first | apply blk_drewN | apply blk_drew | apply blk_alloc)); refine blk_put (cs := #[.int .i64 0, .int .i64 0, .int .i64 0, .int .i64 0, .slice none 0 0, .slice none 0 0]) ?_ 0 _ rfl; (with_reducible repeat (first | apply blk_drewN | apply blk_drew | apply blk_alloc)); exact BK281.out) hb); have n12_ := Aside0.mk (below_step (by repeat (first | (with_reducible first | exact HB.out | apply below_alloc | apply pw_below_drewN | apply below_drew1 | refine below_set ?_ GE235.out | refine below_set ?_ GE258.out | refine below_set ?_ GE269.out | refine below_set ?_ GE281.out) | exact HB.out)) hb); clear HO243; clear HO246; clear HO253; clear HO256; clear HO265; clear HO268; clear HO276; clear HO279; clear BK235; clear BK258; clear BK269; clear BK281; clear HB; have HO243 := n0_; have HO246 := n1_; have HO253 := n2_; have HO256 := n3_; have HO265 := n4_; have HO268 := n5_; have HO276 := n6_; have HO279 := n7_; have BK235 := n8_; have BK258 := n9_; have BK269 := n10_; have BK281 := n11_; have HB := n12_; clear n0_ n1_ n2_ n3_ n4_ n5_ n6_ n7_ n8_ n9_ n10_ n11_ n12_; (try clear hb); (try clear hb2); (try clear hk); (try clear hi)))
    go_meet
    case rel => exact ⟨_, ((t280 != t257)), (by first | rfl | (simp; done) | (simp [*]; done)), H', ⟨by first | omega | exact Nat.le_refl _⟩, ⟨by (with_reducible repeat (first | apply Kd.R_alloc | apply Kd.R_drewN | apply Kd.R_drew)); exact Kd.R_mono HO253.out (fun _ hk => ⟨hk.1.1.1.1.1.1, ⟨hk.1.1.1.2, ⟨hk.1.1.2, ⟨hk.1.2, hk.2⟩⟩⟩⟩)⟩, ⟨by (with_reducible repeat (first | apply Kd.R_alloc | apply Kd.R_drewN | apply Kd.R_drew)); exact Kd.R_mono HO256.out (fun _ hk => ⟨hk.1.1.1.1.1.1, ⟨hk.1.1.1.2, ⟨hk.1.1.2, ⟨hk.1.2, hk.2⟩⟩⟩⟩)⟩, ⟨by (with_reducible repeat (first | apply Kd.R_alloc | apply Kd.R_drewN | apply Kd.R_drew)); exact Kd.R_mono HO265.out (fun _ hk => ⟨hk.1.1.1.2, ⟨hk.1.1.2, ⟨hk.1.1.1.1.1.1, ⟨hk.1.2, hk.2⟩⟩⟩⟩)⟩, ⟨by (with_reducible repeat (first | apply Kd.R_alloc | apply Kd.R_drewN | apply Kd.R_drew)); exact Kd.R_mono HO268.out (fun _ hk => ⟨hk.1.1.1.2, ⟨hk.1.1.2, ⟨hk.1.1.1.1.1.1, ⟨hk.1.2, hk.2⟩⟩⟩⟩)⟩, ⟨by (with_reducible repeat (first | apply Kd.R_alloc | apply Kd.R_drewN | apply Kd.R_drew)); exact Kd.R_mono HO276.out (fun _ hk => ⟨hk.1.1.1.2, ⟨hk.1.1.2, ⟨hk.1.2, ⟨hk.2, hk.1.1.1.1.1.1⟩⟩⟩⟩)⟩, ⟨by (with_reducible repeat (first | apply Kd.R_alloc | apply Kd.R_drewN | apply Kd.R_drew)); exact Kd.R_mono HO279.out (fun _ hk => ⟨hk.1.1.1.2, ⟨hk.1.1.2, ⟨hk.1.2, ⟨hk.2, hk.1.1.1.1.1.1⟩⟩⟩⟩)⟩, ⟨by (with_reducible repeat (first | apply blk_drewN | apply blk_drew | apply blk_alloc)); exact BK235.out⟩, ⟨by (with_reducible repeat (first | apply blk_drewN | apply blk_drew | apply blk_alloc)); exact BK258.out⟩, ⟨by (with_reducible repeat (first | apply blk_drewN | apply blk_drew | apply blk_alloc)); exact BK269.out⟩, ⟨by (with_reducible repeat (first | apply blk_drewN | apply blk_drew | apply blk_alloc)); exact BK281.out⟩, ⟨by repeat (first | (with_reducible first | exact HB.out | apply below_alloc | apply pw_below_drewN | apply below_drew1 | refine below_set ?_ GE235.out | refine below_set ?_ GE258.out | refine below_set ?_ GE269.out | refine below_set ?_ GE281.out) | exact HB.out)⟩⟩
   ·replace c42 := Bool.eq_false_iff.mpr c42
    subst c42
    have H1 : (laws_FnExactImagePal.j0 k t257 t280 true a0_0 a0_1 a0_2 a0_3 l0_4 l0_5 t247 t248 t249 t250 t251 t254 t259 t260 t261 t262 t263 t266 t270 t271 t272 t273 t274 t277) = some true := by first | (rw [if_neg (show ¬ (false = true) by decide)] at H; exact H) | rfl
    clear H
    have H := H1
    clear H1
    exact absurd H (by cases k <;> simp [laws_FnExactImagePal.j0])
  case rest =>
   clear HC11
   try clear c1
   try clear c2
   try clear p2
   try clear c3
   try clear c3b0
   try clear c4
   try clear c11
   try clear c15
   try clear c17
   try clear c19
   try clear c21
   try clear c28
   try clear c29
   try clear c35
   try clear c36
   try clear c37
   try clear c42
   try clear c43
   try clear c44
   try clear c45
   try clear c47
   try clear c48
   try clear hcz13_0
   try clear hcz13_1
   try clear hcz13_2
   try clear hcz13_3
   try clear hcz13_4
   try clear hcz13_5
   try clear hcz15_0
   try clear hcz15_1
   try clear hcz15_2
   try clear hcz15_3
   try clear hcz15_4
   try clear hcz15_5
   try clear hcz22_0
   try clear hcz22_1
   try clear hcz22_2
   try clear hcz22_3
   try clear hcz22_4
   try clear hcz22_5
   try clear hcz25_0
   try clear hcz25_1
   try clear hcz25_2
   try clear hcz25_3
   try clear hcz25_4
   try clear hcz25_5
   try clear hcz30_0
   try clear hcz30_1
   try clear hcz30_2
   try clear hcz30_3
   try clear hcz30_4
   try clear hcz30_5
   try clear hcz38_0
   try clear hcz38_1
   try clear hcz38_2
   try clear hcz38_3
   try clear hcz38_4
   try clear hcz38_5
   try clear hcz46_0
   try clear hcz46_1
   try clear hcz46_2
   try clear hcz46_3
   try clear hcz46_4
   try clear hcz46_5
   try clear hcz49_0
   try clear hcz49_1
   try clear hcz49_2
   try clear hcz49_3
   try clear hcz49_4
   try clear hcz49_5
   try clear hcz5_0
   try clear hcz5_1
   try clear hcz5_2
   try clear hcz5_3
   try clear hcz5_4
   try clear hcz5_5
   try clear hfz13_0
   try clear hfz13_1
   try clear hfz13_2
   try clear hfz13_3
   try clear hfz13_4
   try clear hfz13_5
   try clear hfz15_0
   try clear hfz15_1
   try clear hfz15_2
   try clear hfz15_3
   try clear hfz15_4
   try clear hfz15_5
   try clear hfz22_0
   try clear hfz22_1
   try clear hfz22_2
   try clear hfz22_3
   try clear hfz22_4
   try clear hfz22_5
   try clear hfz25_0
   try clear hfz25_1
   try clear hfz25_2
   try clear hfz25_3
   try clear hfz25_4
   try clear hfz25_5
   try clear hfz30_0
   try clear hfz30_1
   try clear hfz30_2
   try clear hfz30_3
   try clear hfz30_4
   try clear hfz30_5
   try clear hfz38_0
   try clear hfz38_1
   try clear hfz38_2
   try clear hfz38_3
   try clear hfz38_4
   try clear hfz38_5
   try clear hfz46_0
   try clear hfz46_1
   try clear hfz46_2
   try clear hfz46_3
   try clear hfz46_4
   try clear hfz46_5
   try clear hfz49_0
   try clear hfz49_1
   try clear hfz49_2
   try clear hfz49_3
   try clear hfz49_4
   try clear hfz49_5
   try clear hfz5_0
   try clear hfz5_1
   try clear hfz5_2
   try clear hfz5_3
   try clear hfz5_4
   try clear hfz5_5
   obtain ⟨kq, x40_10, rfl, HA, HJ10, HO_259004, HO_259005, HO_270004, HO_270005, HO_282004, HO_282005, BK235, BK258, BK269, BK281, HB⟩ := hcut
   cases kq with
   | zero => exact absurd HA.out (by simp [laws_FnExactImagePal.j0])
   | succ kj10 =>
    have H := HA.out
    clear HA
    simp only [laws_FnExactImagePal.j0] at H
    by_cases c51 : x40_10 = true
    ·subst c51
     have H1 : (some false) = some true := by first | (rw [if_pos rfl] at H; exact H) | rfl
     clear H
     have H := H1
     clear H1
     exact absurd H (by simp)
    ·replace c51 := Bool.eq_false_iff.mpr c51
     subst c51
     have H1 : ((laws_toImage.f kj10 a0_0 a0_1 a0_2 a0_3 l0_4 l0_5).bind fun bt283 => ((laws_eqImage.f kj10 t259 t260 t261 t262 t263 t266 bt283.1 bt283.2.1 bt283.2.2.1 bt283.2.2.2.1 bt283.2.2.2.2.1 bt283.2.2.2.2.2).bind fun t293 => (if t293 = true then ((laws_markImage.f kj10 t259 t260 t261 t262 t263 t266 1).bind fun bt294 => (if bt294.1 < 0 then (laws_FnExactImagePal.j1 kj10 t257 true a0_0 a0_1 a0_2 a0_3 l0_4 l0_5 t247 t248 t249 t250 t251 t254 t270 t271 t272 t273 t274 t277) else ((laws_eqImage.f kj10 t270 t271 t272 t273 t274 t277 t247 t248 t249 t250 t251 t254).bind fun t297 => (if t297 = true then (laws_FnExactImagePal.j1 kj10 t257 (t280 != t257) a0_0 a0_1 a0_2 a0_3 l0_4 l0_5 t247 t248 t249 t250 t251 t254 t270 t271 t272 t273 t274 t277) else (laws_FnExactImagePal.j1 kj10 t257 true a0_0 a0_1 a0_2 a0_3 l0_4 l0_5 t247 t248 t249 t250 t251 t254 t270 t271 t272 t273 t274 t277))))) else (some false)))) = some true := by first | (rw [if_neg (show ¬ (false = true) by decide)] at H; exact H) | rfl
     clear H
     have H := H1
     clear H1
     replace H := Option.bind_eq_some_iff.mp H
     obtain ⟨⟨t283, t284, t285, t286, t287, t290⟩, A520, H⟩ := H
     replace H : ((laws_eqImage.f kj10 t259 t260 t261 t262 t263 t266 t283 t284 t285 t286 t287 t290).bind fun t293 => (if t293 = true then ((laws_markImage.f kj10 t259 t260 t261 t262 t263 t266 1).bind fun bt294 => (if bt294.1 < 0 then (laws_FnExactImagePal.j1 kj10 t257 true a0_0 a0_1 a0_2 a0_3 l0_4 l0_5 t247 t248 t249 t250 t251 t254 t270 t271 t272 t273 t274 t277) else ((laws_eqImage.f kj10 t270 t271 t272 t273 t274 t277 t247 t248 t249 t250 t251 t254).bind fun t297 => (if t297 = true then (laws_FnExactImagePal.j1 kj10 t257 (t280 != t257) a0_0 a0_1 a0_2 a0_3 l0_4 l0_5 t247 t248 t249 t250 t251 t254 t270 t271 t272 t273 t274 t277) else (laws_FnExactImagePal.j1 kj10 t257 true a0_0 a0_1 a0_2 a0_3 l0_4 l0_5 t247 t248 t249 t250 t251 t254 t270 t271 t272 t273 t274 t277))))) else (some false))) = some true := H
     have A52 := Aside0.mk A520
     clear A520
     replace H := Option.bind_eq_some_iff.mp H
     obtain ⟨t293, A530, H⟩ := H
     replace H : (if t293 = true then ((laws_markImage.f kj10 t259 t260 t261 t262 t263 t266 1).bind fun bt294 => (if bt294.1 < 0 then (laws_FnExactImagePal.j1 kj10 t257 true a0_0 a0_1 a0_2 a0_3 l0_4 l0_5 t247 t248 t249 t250 t251 t254 t270 t271 t272 t273 t274 t277) else ((laws_eqImage.f kj10 t270 t271 t272 t273 t274 t277 t247 t248 t249 t250 t251 t254).bind fun t297 => (if t297 = true then (laws_FnExactImagePal.j1 kj10 t257 (t280 != t257) a0_0 a0_1 a0_2 a0_3 l0_4 l0_5 t247 t248 t249 t250 t251 t254 t270 t271 t272 t273 t274 t277) else (laws_FnExactImagePal.j1 kj10 t257 true a0_0 a0_1 a0_2 a0_3 l0_4 l0_5 t247 t248 t249 t250 t251 t254 t270 t271 t272 t273 t274 t277))))) else (some false)) = some true := H
     have A53 := Aside0.mk A530
     clear A530
     by_cases c54 : t293 = true
     ·subst c54
      have H1 : ((laws_markImage.f kj10 t259 t260 t261 t262 t263 t266 1).bind fun bt294 => (if bt294.1 < 0 then (laws_FnExactImagePal.j1 kj10 t257 true a0_0 a0_1 a0_2 a0_3 l0_4 l0_5 t247 t248 t249 t250 t251 t254 t270 t271 t272 t273 t274 t277) else ((laws_eqImage.f kj10 t270 t271 t272 t273 t274 t277 t247 t248 t249 t250 t251 t254).bind fun t297 => (if t297 = true then (laws_FnExactImagePal.j1 kj10 t257 (t280 != t257) a0_0 a0_1 a0_2 a0_3 l0_4 l0_5 t247 t248 t249 t250 t251 t254 t270 t271 t272 t273 t274 t277) else (laws_FnExactImagePal.j1 kj10 t257 true a0_0 a0_1 a0_2 a0_3 l0_4 l0_5 t247 t248 t249 t250 t251 t254 t270 t271 t272 t273 t274 t277))))) = some true := by first | (rw [if_pos rfl] at H; exact H) | rfl
      clear H
      have H := H1
      clear H1
      replace H := Option.bind_eq_some_iff.mp H
      obtain ⟨⟨t294, t295, t296⟩, A550, H⟩ := H
      replace H : (if t294 < 0 then (laws_FnExactImagePal.j1 kj10 t257 true a0_0 a0_1 a0_2 a0_3 l0_4 l0_5 t247 t248 t249 t250 t251 t254 t270 t271 t272 t273 t274 t277) else ((laws_eqImage.f kj10 t270 t271 t272 t273 t274 t277 t247 t248 t249 t250 t251 t254).bind fun t297 => (if t297 = true then (laws_FnExactImagePal.j1 kj10 t257 (t280 != t257) a0_0 a0_1 a0_2 a0_3 l0_4 l0_5 t247 t248 t249 t250 t251 t254 t270 t271 t272 t273 t274 t277) else (laws_FnExactImagePal.j1 kj10 t257 true a0_0 a0_1 a0_2 a0_3 l0_4 l0_5 t247 t248 t249 t250 t251 t254 t270 t271 t272 t273 t274 t277)))) = some true := H
      have A55 := Aside0.mk A550
      clear A550
      have HC56 := Aside0.mk H
      clear H
      try go_wp2
      have n0_ := Aside0.mk (Kd.R_drew HO_259004.out)
      have n1_ := Aside0.mk (Kd.R_drew HO_259005.out)
      have n2_ := Aside0.mk (Kd.R_drew HO_270004.out)
      have n3_ := Aside0.mk (Kd.R_drew HO_270005.out)
      have n4_ := Aside0.mk (Kd.R_drew HO_282004.out)
      have n5_ := Aside0.mk (Kd.R_drew HO_282005.out)
      have n6_ := Aside0.mk (blk_drew BK235.out)
      have n7_ := Aside0.mk (blk_drew BK258.out)
      have n8_ := Aside0.mk (blk_drew BK269.out)
      have n9_ := Aside0.mk (blk_drew BK281.out)
      have n10_ := Aside0.mk (below_drew1 HB.out)
      clear HO_259004
      clear HO_259005
      clear HO_270004
      clear HO_270005
      clear HO_282004
      clear HO_282005
      clear BK235
      clear BK258
      clear BK269
      clear BK281
      clear HB
      have HO_259004 := n0_
      have HO_259005 := n1_
      have HO_270004 := n2_
      have HO_270005 := n3_
      have HO_282004 := n4_
      have HO_282005 := n5_
      have BK235 := n6_
      have BK258 := n7_
      have BK269 := n8_
      have BK281 := n9_
      have HB := n10_
      clear n0_ n1_ n2_ n3_ n4_ n5_ n6_ n7_ n8_ n9_ n10_
      refine start_ (n := 5) (S := fun w' => w'.cell? ⟨gb269, 0, none⟩ = some (.int .i64 t259) ∧ w'.cell? ⟨gb269, 1, none⟩ = some (.int .i64 t260) ∧ w'.cell? ⟨gb269, 2, none⟩ = some (.int .i64 t261) ∧ w'.cell? ⟨gb269, 3, none⟩ = some (.int .i64 t262) ∧ w'.cell? ⟨gb269, 4, none⟩ = some (.slice Ao31 t263.length co31) ∧ w'.cell? ⟨gb269, 5, none⟩ = some (.slice Ao32 t266.length co32) ∧ w'.cell? ⟨gb235, 0, none⟩ = some (.int .i64 a0_0) ∧ w'.cell? ⟨gb235, 1, none⟩ = some (.int .i64 a0_1) ∧ w'.cell? ⟨gb235, 2, none⟩ = some (.int .i64 a0_2) ∧ w'.cell? ⟨gb235, 3, none⟩ = some (.int .i64 a0_3) ∧ w'.cell? ⟨gb235, 4, none⟩ = some (.slice A0_4 l0_4.length c0_4) ∧ w'.cell? ⟨gb235, 5, none⟩ = some (.slice A0_5 l0_5.length c0_5)) (ds := []) #[false, false, false, false, false] (by kernel_rfl) rfl rfl (bc12 BK269.out BK235.out) (fun hHeld => ?_)
      generalize wc.drew = w57 at HO_259004 HO_259005 HO_270004 HO_270005 HO_282004 HO_282005 BK235 BK258 BK269 BK281 HB hHeld ⊢
      refine take_ (i := 0) (N := some 41) (v := ?_) (a' := ?_) #[true, false, false, false, false] rfl rfl (by kernel_rfl) (fun _ _ _ h => h) (Or.inl ⟨by rfl, ?_⟩) hHeld ?_ ?_
      rotate_left
      ·rintro w' ⟨s0, s1, s2, s3, s4, s5, s6, s7, s8, s9, s10, s11⟩
       go_simp
       with_reducible rfl
      rotate_left
      ·simp only [Act.put, sA_, s0_, s1_, i64_w, i32_w]
       rfl
      refine take_ (i := 1) (N := some 42) (v := ?_) (a' := ?_) #[true, true, false, false, false] rfl rfl (by kernel_rfl) (fun _ _ _ h => h) (Or.inl ⟨by rfl, ?_⟩) hHeld ?_ ?_
      rotate_left
      ·rintro w' ⟨s0, s1, s2, s3, s4, s5, s6, s7, s8, s9, s10, s11⟩
       go_simp
       with_reducible rfl
      rotate_left
      ·simp only [Act.put, sA_, s0_, s1_, i64_w, i32_w]
       rfl
      refine one_ (i := 2) (N := some 43) #[true, true, true, false, false] rfl rfl (by kernel_rfl) (by decide) (fun K hK => ?_)
      refine goes_ Try.func17 (by kernel_rfl) rfl #[.agg #[.int .i64 a0_0, .int .i64 a0_1, .int .i64 a0_2, .int .i64 a0_3, .slice A0_4 l0_4.length c0_4, .slice A0_5 l0_5.length c0_5]] (by rfl) rfl rfl (by (try simp only [List.map_toArray, List.map_cons, List.map_nil]); first | done | rfl | (simp only [List.length_drop, List.length_take]; rfl)) ?_
      with_reducible refine (laws_toImage.calls kj10 a0_0 a0_1 a0_2 a0_3 _ _ l0_4 _ _ l0_5 t283 t284 t285 t286 t287 t290 _ ?side1 ?side2 ?side3 ?side4 A52.out).mono ?_
      (case side1 => repeat (first | exact (Kd.C_below HR0_4.out HB.out) | (with_reducible refine Kd.C_alloc ?_ _) | (with_reducible refine Kd.C_drewN ?_ _) | (with_reducible refine Kd.C_drew ?_)))
      (case side2 => exact HC0_4.out)
      (case side3 => repeat (first | exact (Kd.C_below HR0_5.out HB.out) | (with_reducible refine Kd.C_alloc ?_ _) | (with_reducible refine Kd.C_drewN ?_ _) | (with_reducible refine Kd.C_drew ?_)))
      (case side4 => exact HC0_5.out)
      rintro e w58 ⟨v288, v291, rfl, ho0, ho1, hb⟩
      refine ⟨_, rfl, ?_⟩
      have n0_ := Aside0.mk (Kd.R_mono (Kd.R_told (Kd.R_told (Kd.R_old (by (with_reducible repeat (first | apply Kd.R_alloc | apply Kd.R_drewN | apply Kd.R_drew)); exact HO_259004.out) hb) (Kd.R_base ho0)) (Kd.R_base ho1)) (fun _ h_ => h_.1))
      have n1_ := Aside0.mk (Kd.R_mono (Kd.R_told (Kd.R_told (Kd.R_old (by (with_reducible repeat (first | apply Kd.R_alloc | apply Kd.R_drewN | apply Kd.R_drew)); exact HO_259005.out) hb) (Kd.R_base ho0)) (Kd.R_base ho1)) (fun _ h_ => h_.1))
      have n2_ := Aside0.mk (Kd.R_mono (Kd.R_told (Kd.R_told (Kd.R_old (by (with_reducible repeat (first | apply Kd.R_alloc | apply Kd.R_drewN | apply Kd.R_drew)); exact HO_270004.out) hb) (Kd.R_base ho0)) (Kd.R_base ho1)) (fun _ h_ => h_.1))
      have n3_ := Aside0.mk (Kd.R_mono (Kd.R_told (Kd.R_told (Kd.R_old (by (with_reducible repeat (first | apply Kd.R_alloc | apply Kd.R_drewN | apply Kd.R_drew)); exact HO_270005.out) hb) (Kd.R_base ho0)) (Kd.R_base ho1)) (fun _ h_ => h_.1))
      have n4_ := Aside0.mk (Kd.R_mono (Kd.R_told (Kd.R_told (Kd.R_old (by (with_reducible repeat (first | apply Kd.R_alloc | apply Kd.R_drewN | apply Kd.R_drew)); exact HO_282004.out) hb) (Kd.R_base ho0)) (Kd.R_base ho1)) (fun _ h_ => h_.1))
      have n5_ := Aside0.mk (Kd.R_mono (Kd.R_told (Kd.R_told (Kd.R_old (by (with_reducible repeat (first | apply Kd.R_alloc | apply Kd.R_drewN | apply Kd.R_drew)); exact HO_282005.out) hb) (Kd.R_base ho0)) (Kd.R_base ho1)) (fun _ h_ => h_.1))
      have n6_ := Aside0.mk (Kd.R_lower (Kd.R_new' (Kd.R_new' (Kd.R_new' (Kd.R_new' (Kd.R_new' (Kd.R_new' ho0 (Kd.R_lt (by (with_reducible repeat (first | apply Kd.R_alloc | apply Kd.R_drewN | apply Kd.R_drew)); exact HO_259004.out))) (Kd.R_lt (by (with_reducible repeat (first | apply Kd.R_alloc | apply Kd.R_drewN | apply Kd.R_drew)); exact HO_259005.out))) (Kd.R_lt (by (with_reducible repeat (first | apply Kd.R_alloc | apply Kd.R_drewN | apply Kd.R_drew)); exact HO_270004.out))) (Kd.R_lt (by (with_reducible repeat (first | apply Kd.R_alloc | apply Kd.R_drewN | apply Kd.R_drew)); exact HO_270005.out))) (Kd.R_lt (by (with_reducible repeat (first | apply Kd.R_alloc | apply Kd.R_drewN | apply Kd.R_drew)); exact HO_282004.out))) (Kd.R_lt (by (with_reducible repeat (first | apply Kd.R_alloc | apply Kd.R_drewN | apply Kd.R_drew)); exact HO_282005.out))) (below_size (by repeat (first | (with_reducible first | exact HB.out | apply below_alloc | apply pw_below_drewN | apply below_drew1 | refine below_set ?_ GE235.out | refine below_set ?_ GE258.out | refine below_set ?_ GE269.out | refine below_set ?_ GE281.out) | exact HB.out))))
      have n7_ := Aside0.mk (Kd.R_lower (Kd.R_new' (Kd.R_new' (Kd.R_new' (Kd.R_new' (Kd.R_new' (Kd.R_new' ho1 (Kd.R_lt (by (with_reducible repeat (first | apply Kd.R_alloc | apply Kd.R_drewN | apply Kd.R_drew)); exact HO_259004.out))) (Kd.R_lt (by (with_reducible repeat (first | apply Kd.R_alloc | apply Kd.R_drewN | apply Kd.R_drew)); exact HO_259005.out))) (Kd.R_lt (by (with_reducible repeat (first | apply Kd.R_alloc | apply Kd.R_drewN | apply Kd.R_drew)); exact HO_270004.out))) (Kd.R_lt (by (with_reducible repeat (first | apply Kd.R_alloc | apply Kd.R_drewN | apply Kd.R_drew)); exact HO_270005.out))) (Kd.R_lt (by (with_reducible repeat (first | apply Kd.R_alloc | apply Kd.R_drewN | apply Kd.R_drew)); exact HO_282004.out))) (Kd.R_lt (by (with_reducible repeat (first | apply Kd.R_alloc | apply Kd.R_drewN | apply Kd.R_drew)); exact HO_282005.out))) (below_size (by repeat (first | (with_reducible first | exact HB.out | apply below_alloc | apply pw_below_drewN | apply below_drew1 | refine below_set ?_ GE235.out | refine below_set ?_ GE258.out | refine below_set ?_ GE269.out | refine below_set ?_ GE281.out) | exact HB.out))))
      have n8_ := Aside0.mk (blk_below (g := gb235) (by (with_reducible repeat (first | apply blk_drewN | apply blk_drew | apply blk_alloc)); exact BK235.out) hb)
      have n9_ := Aside0.mk (blk_below (g := gb258) (by (with_reducible repeat (first | apply blk_drewN | apply blk_drew | apply blk_alloc)); exact BK258.out) hb)
      have n10_ := Aside0.mk (blk_below (g := gb269) (by (with_reducible repeat (first | apply blk_drewN | apply blk_drew | apply blk_alloc)); exact BK269.out) hb)
      have n11_ := Aside0.mk (blk_below (g := gb281) (by (with_reducible repeat (first | apply blk_drewN | apply blk_drew | apply blk_alloc)); exact BK281.out) hb)
      have n12_ := Aside0.mk (below_step (by repeat (first | (with_reducible first | exact HB.out | apply below_alloc | apply pw_below_drewN | apply below_drew1 | refine below_set ?_ GE235.out | refine below_set ?_ GE258.out | refine below_set ?_ GE269.out | refine below_set ?_ GE281.out) | exact HB.out)) hb)
      clear HO_259004
      clear HO_259005
      clear HO_270004
      clear HO_270005
      clear HO_282004
      clear HO_282005
      clear BK235
      clear BK258
      clear BK269
      clear BK281
      clear HB
      have HO_259004 := n0_
      have HO_259005 := n1_
      have HO_270004 := n2_
      have HO_270005 := n3_
      have HO_282004 := n4_
      have HO_282005 := n5_
      have HO289 := n6_
      have HO292 := n7_
      have BK235 := n8_
      have BK258 := n9_
      have BK269 := n10_
      have BK281 := n11_
      have HB := n12_
      clear n0_ n1_ n2_ n3_ n4_ n5_ n6_ n7_ n8_ n9_ n10_ n11_ n12_
      (try clear hb)
      (try clear hb2)
      (try clear hk)
      (try clear hi)
      (try clear ho0)
      (try clear ho1)
      obtain ⟨Ao59, co59, eo59⟩ := Kd.R_slice HO289.out
      (first | subst eo59 | (injection eo59 with f1_ f2_ f3_; have f4_ := f1_.symm; have f5_ := f3_.symm; clear f1_ f2_ f3_; subst f4_; subst f5_))
      obtain ⟨Ao60, co60, eo60⟩ := Kd.R_slice HO292.out
      (first | subst eo60 | (injection eo60 with f1_ f2_ f3_; have f4_ := f1_.symm; have f5_ := f3_.symm; clear f1_ f2_ f3_; subst f4_; subst f5_))
      refine hK.out _ _ (bc12 BK269.out BK235.out) (fun hHeld => ?_)
      clear hK K
      refine norm_ (a' := ?_) ?_ ?_
      rotate_left
      ·show Act.put _ (some 43) _ = _
       simp only [Act.put, sA_, s0_, s1_, i64_w, i32_w]
       rfl
      refine one_ (i := 3) (N := some 44) #[true, true, true, true, false] rfl rfl (by kernel_rfl) (by decide) (fun K hK => ?_)
      refine goes_ Try.func19 (by kernel_rfl) rfl #[.agg #[.int .i64 t259, .int .i64 t260, .int .i64 t261, .int .i64 t262, .slice Ao31 t263.length co31, .slice Ao32 t266.length co32], .agg #[.int .i64 t283, .int .i64 t284, .int .i64 t285, .int .i64 t286, .slice Ao59 t287.length co59, .slice Ao60 t290.length co60]] (by rfl) rfl rfl (by (try simp only [List.map_toArray, List.map_cons, List.map_nil]); first | done | rfl | (simp only [List.length_drop, List.length_take]; rfl)) ?_
      with_reducible refine (laws_eqImage.calls kj10 t259 t260 t261 t262 _ _ t263 _ _ t266 t283 t284 t285 t286 _ _ t287 _ _ t290 true _ ?side1 ?side2 ?side3 ?side4 ?side5 ?side6 ?side7 ?side8 A53.out).mono ?_
      (case side1 => repeat (first | exact (Kd.R_reads' HO_270004.out).2.2 | (with_reducible refine Kd.C_alloc ?_ _) | (with_reducible refine Kd.C_drewN ?_ _) | (with_reducible refine Kd.C_drew ?_)))
      (case side2 => exact (Kd.R_reads' HO_270004.out).2.1)
      (case side3 => repeat (first | exact (Kd.R_reads' HO_270005.out).2.2 | (with_reducible refine Kd.C_alloc ?_ _) | (with_reducible refine Kd.C_drewN ?_ _) | (with_reducible refine Kd.C_drew ?_)))
      (case side4 => exact (Kd.R_reads' HO_270005.out).2.1)
      (case side5 => repeat (first | exact (Kd.R_reads' HO289.out).2.2 | (with_reducible refine Kd.C_alloc ?_ _) | (with_reducible refine Kd.C_drewN ?_ _) | (with_reducible refine Kd.C_drew ?_)))
      (case side6 => exact (Kd.R_reads' HO289.out).2.1)
      (case side7 => repeat (first | exact (Kd.R_reads' HO292.out).2.2 | (with_reducible refine Kd.C_alloc ?_ _) | (with_reducible refine Kd.C_drewN ?_ _) | (with_reducible refine Kd.C_drew ?_)))
      (case side8 => exact (Kd.R_reads' HO292.out).2.1)
      rintro e w61 ⟨rfl, hb⟩
      refine ⟨_, rfl, ?_⟩
      have n0_ := Aside0.mk (Kd.R_below (by (with_reducible repeat (first | apply Kd.R_alloc | apply Kd.R_drewN | apply Kd.R_drew)); exact HO_259004.out) hb)
      have n1_ := Aside0.mk (Kd.R_below (by (with_reducible repeat (first | apply Kd.R_alloc | apply Kd.R_drewN | apply Kd.R_drew)); exact HO_259005.out) hb)
      have n2_ := Aside0.mk (Kd.R_below (by (with_reducible repeat (first | apply Kd.R_alloc | apply Kd.R_drewN | apply Kd.R_drew)); exact HO_270004.out) hb)
      have n3_ := Aside0.mk (Kd.R_below (by (with_reducible repeat (first | apply Kd.R_alloc | apply Kd.R_drewN | apply Kd.R_drew)); exact HO_270005.out) hb)
      have n4_ := Aside0.mk (Kd.R_below (by (with_reducible repeat (first | apply Kd.R_alloc | apply Kd.R_drewN | apply Kd.R_drew)); exact HO_282004.out) hb)
      have n5_ := Aside0.mk (Kd.R_below (by (with_reducible repeat (first | apply Kd.R_alloc | apply Kd.R_drewN | apply Kd.R_drew)); exact HO_282005.out) hb)
      have n6_ := Aside0.mk (Kd.R_below (by (with_reducible repeat (first | apply Kd.R_alloc | apply Kd.R_drewN | apply Kd.R_drew)); exact HO289.out) hb)
      have n7_ := Aside0.mk (Kd.R_below (by (with_reducible repeat (first | apply Kd.R_alloc | apply Kd.R_drewN | apply Kd.R_drew)); exact HO292.out) hb)
      have n8_ := Aside0.mk (blk_below (g := gb235) (by (with_reducible repeat (first | apply blk_drewN | apply blk_drew | apply blk_alloc)); exact BK235.out) hb)
      have n9_ := Aside0.mk (blk_below (g := gb258) (by (with_reducible repeat (first | apply blk_drewN | apply blk_drew | apply blk_alloc)); exact BK258.out) hb)
      have n10_ := Aside0.mk (blk_below (g := gb269) (by (with_reducible repeat (first | apply blk_drewN | apply blk_drew | apply blk_alloc)); exact BK269.out) hb)
      have n11_ := Aside0.mk (blk_below (g := gb281) (by (with_reducible repeat (first | apply blk_drewN | apply blk_drew | apply blk_alloc)); exact BK281.out) hb)
      have n12_ := Aside0.mk (below_step (by repeat (first | (with_reducible first | exact HB.out | apply below_alloc | apply pw_below_drewN | apply below_drew1 | refine below_set ?_ GE235.out | refine below_set ?_ GE258.out | refine below_set ?_ GE269.out | refine below_set ?_ GE281.out) | exact HB.out)) hb)
      clear HO_259004
      clear HO_259005
      clear HO_270004
      clear HO_270005
      clear HO_282004
      clear HO_282005
      clear HO289
      clear HO292
      clear BK235
      clear BK258
      clear BK269
      clear BK281
      clear HB
      have HO_259004 := n0_
      have HO_259005 := n1_
      have HO_270004 := n2_
      have HO_270005 := n3_
      have HO_282004 := n4_
      have HO_282005 := n5_
      have HO289 := n6_
      have HO292 := n7_
      have BK235 := n8_
      have BK258 := n9_
      have BK269 := n10_
      have BK281 := n11_
      have HB := n12_
      clear n0_ n1_ n2_ n3_ n4_ n5_ n6_ n7_ n8_ n9_ n10_ n11_ n12_
      (try clear hb)
      (try clear hb2)
      (try clear hk)
      (try clear hi)
      refine hK.out _ _ (bc12 BK269.out BK235.out) (fun hHeld => ?_)
      clear hK K
      refine norm_ (a' := ?_) ?_ ?_
      rotate_left
      ·show Act.put _ (some 44) _ = _
       simp only [Act.put, sA_, s0_, s1_, i64_w, i32_w]
       rfl
      refine pure_ (i := 4) (N := some 45) (v := ?_) (a' := ?_) #[true, true, true, true, true] rfl rfl (by kernel_rfl) (fun _ _ _ h => h) (Or.inl ⟨by rfl, ?_⟩) ?_ ?_
      rotate_left
      ·intro w'
       go_simp
       with_reducible rfl
      rotate_left
      ·simp only [Act.put, sA_, s0_, s1_, i64_w, i32_w]
       rfl
      refine done_ (by kernel_rfl) ?_
      have hnb62 := NB269_235.out
      have hnc62 := NB235_269.out
      have hnb63 := NB269_258.out
      have hnc63 := NB258_269.out
      have hnb64 := NB269_281.out
      have hnc64 := NB281_269.out
      obtain ⟨hcz65_0, hcz65_1, hcz65_2, hcz65_3, hcz65_4, hcz65_5⟩ := bc6 BK269.out
      obtain ⟨hfz65_0, hfz65_1, hfz65_2, hfz65_3, hfz65_4, hfz65_5⟩ := bf6 BK269.out
      go_upto_region 14 with (first | ((with_reducible refine gate_callee (f := 28) rfl ?_); refine goesL_ (some 48) rfl rfl Try.func28 (by kernel_rfl) rfl #[.agg #[.int .i64 t259, .int .i64 t260, .int .i64 t261, .int .i64 t262, .slice Ao31 t263.length co31, .slice Ao32 t266.length co32], .int .i64 1] rfl (by (try simp only [List.map_toArray, List.map_cons, List.map_nil]); first | done | rfl | (simp only [List.length_drop, List.length_take]; rfl)) ?_; (with_reducible refine (laws_markImage.calls kj10 t259 t260 t261 t262 (fun k_ => some k_ = (.slice Ao31 t263.length co31 : Value).ownBlock) (.slice Ao31 t263.length co31) t263 (fun k_ => some k_ = (.slice Ao32 t266.length co32 : Value).ownBlock) (.slice Ao32 t266.length co32) t266 1 t294 t295 t296 w _ ?side1 ?side2 ?side3 ?side4 ?side5 A55.out).mono ?_); (case side1 => repeat (first | (with_reducible first | exact HB.out | apply below_alloc | apply pw_below_drewN | apply below_drew1 | refine below_set ?_ GE235.out | refine below_set ?_ GE258.out | refine below_set ?_ GE269.out | refine below_set ?_ GE281.out) | exact HB.out)); (case side2 => exact Kd.R_tight rfl HO_270004.out); (case side3 => exact fun k_ e_ => (HO_270004.out.1 k_ e_.symm).1.1.2.2.1); (case side4 => exact Kd.R_tight rfl HO_270005.out); (case side5 => exact fun k_ e_ => (HO_270005.out.1 k_ e_.symm).1.1.2.2.1); rintro e w66 ⟨rfl, hy0, hy1, hb, hkp⟩; refine ⟨_, rfl, ?_⟩; have n0_ := Aside0.mk (Kd.R_mono (ok' := fun k_ => some k_ ≠ (.slice Ao24 t254.length co24 : Value).ownBlock ∧ some k_ ≠ (.slice Ao31 t263.length co31 : Value).ownBlock ∧ some k_ ≠ (.slice Ao32 t266.length co32 : Value).ownBlock ∧ some k_ ≠ (.slice Ao39 t274.length co39 : Value).ownBlock ∧ some k_ ≠ (.slice Ao40 t277.length co40 : Value).ownBlock ∧ some k_ ≠ (.slice Ao59 t287.length co59 : Value).ownBlock ∧ some k_ ≠ (.slice Ao60 t290.length co60 : Value).ownBlock) (Kd.R_keptB (HO_259004.out) hkp (fun k_ hk_ hs_ => Or.elim hs_ (fun e_ => (hk_.1.1.2.1) e_) (fun e_ => (hk_.1.1.2.2.1) e_))) (fun k_ hk_ => ⟨hk_.1.1.1.1, hk_.1.1.1.2.1, hk_.1.1.1.2.2.1, hk_.1.1.1.2.2.2.1, hk_.1.1.1.2.2.2.2, hk_.1.1.2, hk_.1.2⟩)); have n1_ := Aside0.mk (Kd.R_mono (ok' := fun k_ => some k_ ≠ (.slice Ao23 t251.length co23 : Value).ownBlock ∧ some k_ ≠ (.slice Ao31 t263.length co31 : Value).ownBlock ∧ some k_ ≠ (.slice Ao32 t266.length co32 : Value).ownBlock ∧ some k_ ≠ (.slice Ao39 t274.length co39 : Value).ownBlock ∧ some k_ ≠ (.slice Ao40 t277.length co40 : Value).ownBlock ∧ some k_ ≠ (.slice Ao59 t287.length co59 : Value).ownBlock ∧ some k_ ≠ (.slice Ao60 t290.length co60 : Value).ownBlock) (Kd.R_keptB (HO_259005.out) hkp (fun k_ hk_ hs_ => Or.elim hs_ (fun e_ => (hk_.1.1.2.1) e_) (fun e_ => (hk_.1.1.2.2.1) e_))) (fun k_ hk_ => ⟨hk_.1.1.1.1, hk_.1.1.1.2.1, hk_.1.1.1.2.2.1, hk_.1.1.1.2.2.2.1, hk_.1.1.1.2.2.2.2, hk_.1.1.2, hk_.1.2⟩)); have n2_ := Aside0.mk (Kd.R_reok rfl hy0 (fun k_ e_ => HO_270004.out.1 k_ e_)); have n3_ := Aside0.mk (Kd.R_reok rfl hy1 (fun k_ e_ => HO_270005.out.1 k_ e_)); have n4_ := Aside0.mk (Kd.R_mono (ok' := fun k_ => some k_ ≠ (.slice Ao23 t251.length co23 : Value).ownBlock ∧ some k_ ≠ (.slice Ao24 t254.length co24 : Value).ownBlock ∧ some k_ ≠ (.slice Ao31 t263.length co31 : Value).ownBlock ∧ some k_ ≠ (.slice Ao32 t266.length co32 : Value).ownBlock ∧ some k_ ≠ (.slice Ao40 t277.length co40 : Value).ownBlock ∧ some k_ ≠ (.slice Ao59 t287.length co59 : Value).ownBlock ∧ some k_ ≠ (.slice Ao60 t290.length co60 : Value).ownBlock) (Kd.R_keptB (HO_282004.out) hkp (fun k_ hk_ hs_ => Or.elim hs_ (fun e_ => (hk_.1.1.2.2.1) e_) (fun e_ => (hk_.1.1.2.2.2.1) e_))) (fun k_ hk_ => ⟨hk_.1.1.1.1, hk_.1.1.1.2.1, hk_.1.1.1.2.2.1, hk_.1.1.1.2.2.2.1, hk_.1.1.1.2.2.2.2, hk_.1.1.2, hk_.1.2⟩)); have n5_ := Aside0.mk (Kd.R_mono (ok' := fun k_ => some k_ ≠ (.slice Ao23 t251.length co23 : Value).ownBlock ∧ some k_ ≠ (.slice Ao24 t254.length co24 : Value).ownBlock ∧ some k_ ≠ (.slice Ao31 t263.length co31 : Value).ownBlock ∧ some k_ ≠ (.slice Ao32 t266.length co32 : Value).ownBlock ∧ some k_ ≠ (.slice Ao39 t274.length co39 : Value).ownBlock ∧ some k_ ≠ (.slice Ao59 t287.length co59 : Value).ownBlock ∧ some k_ ≠ (.slice Ao60 t290.length co60 : Value).ownBlock) (Kd.R_keptB (HO_282005.out) hkp (fun k_ hk_ hs_ => Or.elim hs_ (fun e_ => (hk_.1.1.2.2.1) e_) (fun e_ => (hk_.1.1.2.2.2.1) e_))) (fun k_ hk_ => ⟨hk_.1.1.1.1, hk_.1.1.1.2.1, hk_.1.1.1.2.2.1, hk_.1.1.1.2.2.2.1, hk_.1.1.1.2.2.2.2, hk_.1.1.2, hk_.1.2⟩)); have n6_ := Aside0.mk (blk_kept (by (with_reducible repeat (first | apply blk_drewN | apply blk_drew | apply blk_alloc)); exact BK235.out) hkp (fun hs_ => Or.elim hs_ (fun e_ => (fun e_ => (Kd.R_ne HO_270004.out BK235.out (by decide)) e_) e_) (fun e_ => (fun e_ => (Kd.R_ne HO_270005.out BK235.out (by decide)) e_) e_))); have n7_ := Aside0.mk (blk_kept (by (with_reducible repeat (first | apply blk_drewN | apply blk_drew | apply blk_alloc)); exact BK258.out) hkp (fun hs_ => Or.elim hs_ (fun e_ => (fun e_ => (Kd.R_ne HO_270004.out BK258.out (by decide)) e_) e_) (fun e_ => (fun e_ => (Kd.R_ne HO_270005.out BK258.out (by decide)) e_) e_))); have n8_ := Aside0.mk (blk_kept (by (with_reducible repeat (first | apply blk_drewN | apply blk_drew | apply blk_alloc)); exact BK269.out) hkp (fun hs_ => Or.elim hs_ (fun e_ => (fun e_ => (Kd.R_ne HO_270004.out BK269.out (by decide)) e_) e_) (fun e_ => (fun e_ => (Kd.R_ne HO_270005.out BK269.out (by decide)) e_) e_))); have n9_ := Aside0.mk (blk_kept (by (with_reducible repeat (first | apply blk_drewN | apply blk_drew | apply blk_alloc)); exact BK281.out) hkp (fun hs_ => Or.elim hs_ (fun e_ => (fun e_ => (Kd.R_ne HO_270004.out BK281.out (by decide)) e_) e_) (fun e_ => (fun e_ => (Kd.R_ne HO_270005.out BK281.out (by decide)) e_) e_))); have n10_ := Aside0.mk (Kd.R_mono (ok' := fun k_ => some k_ ≠ (.slice Ao23 t251.length co23 : Value).ownBlock ∧ some k_ ≠ (.slice Ao24 t254.length co24 : Value).ownBlock ∧ some k_ ≠ (.slice Ao31 t263.length co31 : Value).ownBlock ∧ some k_ ≠ (.slice Ao32 t266.length co32 : Value).ownBlock ∧ some k_ ≠ (.slice Ao39 t274.length co39 : Value).ownBlock ∧ some k_ ≠ (.slice Ao40 t277.length co40 : Value).ownBlock ∧ some k_ ≠ (.slice Ao60 t290.length co60 : Value).ownBlock) (Kd.R_keptB (HO289.out) hkp (fun k_ hk_ hs_ => Or.elim hs_ (fun e_ => (hk_.1.1.1.2) e_) (fun e_ => (hk_.1.1.2) e_))) (fun k_ hk_ => ⟨hk_.1.1.1.1.1.1.2, hk_.1.1.1.1.1.2, hk_.1.1.1.1.2, hk_.1.1.1.2, hk_.1.1.2, hk_.1.2, hk_.1.1.1.1.1.1.1⟩)); have n11_ := Aside0.mk (Kd.R_mono (ok' := fun k_ => some k_ ≠ (.slice Ao23 t251.length co23 : Value).ownBlock ∧ some k_ ≠ (.slice Ao24 t254.length co24 : Value).ownBlock ∧ some k_ ≠ (.slice Ao31 t263.length co31 : Value).ownBlock ∧ some k_ ≠ (.slice Ao32 t266.length co32 : Value).ownBlock ∧ some k_ ≠ (.slice Ao39 t274.length co39 : Value).ownBlock ∧ some k_ ≠ (.slice Ao40 t277.length co40 : Value).ownBlock ∧ some k_ ≠ (.slice Ao59 t287.length co59 : Value).ownBlock) (Kd.R_keptB (HO292.out) hkp (fun k_ hk_ hs_ => Or.elim hs_ (fun e_ => (hk_.1.1.1.2) e_) (fun e_ => (hk_.1.1.2) e_))) (fun k_ hk_ => ⟨hk_.1.1.1.1.1.1.2, hk_.1.1.1.1.1.2, hk_.1.1.1.1.2, hk_.1.1.1.2, hk_.1.1.2, hk_.1.2, hk_.1.1.1.1.1.1.1⟩)); have n12_ := Aside0.mk (hb); clear HO_259004; clear HO_259005; clear HO_270004; clear HO_270005; clear HO_282004; clear HO_282005; clear BK235; clear BK258; clear BK269; clear BK281; clear HO289; clear HO292; clear HB; have HO_259004 := n0_; have HO_259005 := n1_; have HO_270004 := n2_; have HO_270005 := n3_; have HO_282004 := n4_; have HO_282005 := n5_; have BK235 := n6_; have BK258 := n7_; have BK269 := n8_; have BK281 := n9_; have HO289 := n10_; have HO292 := n11_; have HB := n12_; clear n0_ n1_ n2_ n3_ n4_ n5_ n6_ n7_ n8_ n9_ n10_ n11_ n12_; (try clear hb); (try clear hkp); (try clear hy0); (try clear hy1)))
      (try simp only [Act.put, sA_, s0_, s1_])
      go_cut [61] (fun v61 wc => ∃ (kq : Nat) (x61_55 : Bool), v61 = .bool x61_55 ∧ Aside0 (laws_FnExactImagePal.j1 kq t257 x61_55 a0_0 a0_1 a0_2 a0_3 l0_4 l0_5 t247 t248 t249 t250 t251 t254 t270 t271 t272 t273 t274 t277 = some true) ∧ Aside0 (kq ≤ kj10) ∧ Aside0 (Kd.R (Kd.int .i64) 3 wc w.heap.size (fun k_ => some k_ ≠ ((.slice Ao24 t254.length co24) : Value).ownBlock ∧ some k_ ≠ ((.slice Ao31 t263.length co31) : Value).ownBlock ∧ some k_ ≠ ((.slice Ao32 t266.length co32) : Value).ownBlock ∧ some k_ ≠ ((.slice Ao39 t274.length co39) : Value).ownBlock ∧ some k_ ≠ ((.slice Ao40 t277.length co40) : Value).ownBlock) (.slice Ao23 t251.length co23) t251) ∧ Aside0 (Kd.R (Kd.int .i64) 3 wc w.heap.size (fun k_ => some k_ ≠ ((.slice Ao23 t251.length co23) : Value).ownBlock ∧ some k_ ≠ ((.slice Ao31 t263.length co31) : Value).ownBlock ∧ some k_ ≠ ((.slice Ao32 t266.length co32) : Value).ownBlock ∧ some k_ ≠ ((.slice Ao39 t274.length co39) : Value).ownBlock ∧ some k_ ≠ ((.slice Ao40 t277.length co40) : Value).ownBlock) (.slice Ao24 t254.length co24) t254) ∧ Aside0 (Kd.R (Kd.int .i64) 3 wc w.heap.size (fun k_ => some k_ ≠ ((.slice Ao23 t251.length co23) : Value).ownBlock ∧ some k_ ≠ ((.slice Ao24 t254.length co24) : Value).ownBlock ∧ some k_ ≠ ((.slice Ao32 t266.length co32) : Value).ownBlock ∧ some k_ ≠ ((.slice Ao39 t274.length co39) : Value).ownBlock ∧ some k_ ≠ ((.slice Ao40 t277.length co40) : Value).ownBlock) (.slice Ao31 t263.length co31) t295) ∧ Aside0 (Kd.R (Kd.int .i64) 3 wc w.heap.size (fun k_ => some k_ ≠ ((.slice Ao23 t251.length co23) : Value).ownBlock ∧ some k_ ≠ ((.slice Ao24 t254.length co24) : Value).ownBlock ∧ some k_ ≠ ((.slice Ao31 t263.length co31) : Value).ownBlock ∧ some k_ ≠ ((.slice Ao39 t274.length co39) : Value).ownBlock ∧ some k_ ≠ ((.slice Ao40 t277.length co40) : Value).ownBlock) (.slice Ao32 t266.length co32) t296) ∧ Aside0 (Kd.R (Kd.int .i64) 3 wc w.heap.size (fun k_ => some k_ ≠ ((.slice Ao23 t251.length co23) : Value).ownBlock ∧ some k_ ≠ ((.slice Ao24 t254.length co24) : Value).ownBlock ∧ some k_ ≠ ((.slice Ao31 t263.length co31) : Value).ownBlock ∧ some k_ ≠ ((.slice Ao32 t266.length co32) : Value).ownBlock ∧ some k_ ≠ ((.slice Ao40 t277.length co40) : Value).ownBlock) (.slice Ao39 t274.length co39) t274) ∧ Aside0 (Kd.R (Kd.int .i64) 3 wc w.heap.size (fun k_ => some k_ ≠ ((.slice Ao23 t251.length co23) : Value).ownBlock ∧ some k_ ≠ ((.slice Ao24 t254.length co24) : Value).ownBlock ∧ some k_ ≠ ((.slice Ao31 t263.length co31) : Value).ownBlock ∧ some k_ ≠ ((.slice Ao32 t266.length co32) : Value).ownBlock ∧ some k_ ≠ ((.slice Ao39 t274.length co39) : Value).ownBlock) (.slice Ao40 t277.length co40) t277) ∧ Aside0 (wc.heap[gb235]? = some (.cells #[.int .i64 a0_0, .int .i64 a0_1, .int .i64 a0_2, .int .i64 a0_3, (.slice A0_4 l0_4.length c0_4), (.slice A0_5 l0_5.length c0_5)] 24 (0, 0))) ∧ Aside0 (wc.heap[gb258]? = some (.cells #[.int .i64 t247, .int .i64 t248, .int .i64 t249, .int .i64 t250, (.slice Ao23 t251.length co23), (.slice Ao24 t254.length co24)] 27 (0, 0))) ∧ Aside0 (wc.heap[gb269]? = some (.cells #[.int .i64 t259, .int .i64 t260, .int .i64 t261, .int .i64 t262, (.slice Ao31 t263.length co31), (.slice Ao32 t266.length co32)] 27 (0, 0))) ∧ Aside0 (wc.heap[gb281]? = some (.cells #[.int .i64 t270, .int .i64 t271, .int .i64 t272, .int .i64 t273, (.slice Ao39 t274.length co39), (.slice Ao40 t277.length co40)] 27 (0, 0))) ∧ Aside0 (Below w.heap.size w wc))
      case first =>
       have H := HC56.out
       clear HC56
       by_cases c67 : t294 < 0
       ·rw [if_pos c67] at H
        have c67b0 : decide (t294 < 0) = true := decide_eq_true c67
        clear c67
        (first | rw [c67b0] | (simp only [i64_w, i32_w]; rw [c67b0]) | skip)
        exact absurd H (by cases kj10 <;> simp [laws_FnExactImagePal.j1])
       ·rw [if_neg c67] at H
        have c67b0 : decide (t294 < 0) = false := decide_eq_false c67
        clear c67
        (first | rw [c67b0] | (simp only [i64_w, i32_w]; rw [c67b0]) | skip)
        replace H := Option.bind_eq_some_iff.mp H
        obtain ⟨t297, A680, H⟩ := H
        replace H : (if t297 = true then (laws_FnExactImagePal.j1 kj10 t257 (t280 != t257) a0_0 a0_1 a0_2 a0_3 l0_4 l0_5 t247 t248 t249 t250 t251 t254 t270 t271 t272 t273 t274 t277) else (laws_FnExactImagePal.j1 kj10 t257 true a0_0 a0_1 a0_2 a0_3 l0_4 l0_5 t247 t248 t249 t250 t251 t254 t270 t271 t272 t273 t274 t277)) = some true := H
        have A68 := Aside0.mk A680
        clear A680
        by_cases c69 : t297 = true
        ·subst c69
         have H1 : (laws_FnExactImagePal.j1 kj10 t257 (t280 != t257) a0_0 a0_1 a0_2 a0_3 l0_4 l0_5 t247 t248 t249 t250 t251 t254 t270 t271 t272 t273 t274 t277) = some true := by first | (rw [if_pos rfl] at H; exact H) | rfl
         clear H
         have H := H1
         clear H1
         have H' := Aside0.mk H
         clear H
         have hnb70 := NB281_235.out
         have hnc70 := NB235_281.out
         have hnb71 := NB281_258.out
         have hnc71 := NB258_281.out
         have hnb72 := NB281_269.out
         have hnc72 := NB269_281.out
         obtain ⟨hcz73_0, hcz73_1, hcz73_2, hcz73_3, hcz73_4, hcz73_5⟩ := bc6 BK281.out
         obtain ⟨hfz73_0, hfz73_1, hfz73_2, hfz73_3, hfz73_4, hfz73_5⟩ := bf6 BK281.out
         have hnb74 := NB258_235.out
         have hnc74 := NB235_258.out
         have hnb75 := NB258_269.out
         have hnc75 := NB269_258.out
         obtain ⟨hcz76_0, hcz76_1, hcz76_2, hcz76_3, hcz76_4, hcz76_5⟩ := bc6 BK258.out
         obtain ⟨hfz76_0, hfz76_1, hfz76_2, hfz76_3, hfz76_4, hfz76_5⟩ := bf6 BK258.out
         go_wp2_with (first | (go_at_call 19; (with_reducible refine (laws_eqImage.calls kj10 t270 t271 t272 t273 _ _ t274 _ _ t277 t247 t248 t249 t250 _ _ t251 _ _ t254 true _ ?side1 ?side2 ?side3 ?side4 ?side5 ?side6 ?side7 ?side8 A68.out).mono ?_); (case side1 => repeat (first | exact (Kd.R_reads' HO_282004.out).2.2 | (with_reducible refine Kd.C_alloc ?_ _) | (with_reducible refine Kd.C_drewN ?_ _) | (with_reducible refine Kd.C_drew ?_))); (case side2 => exact (Kd.R_reads' HO_282004.out).2.1); (case side3 => repeat (first | exact (Kd.R_reads' HO_282005.out).2.2 | (with_reducible refine Kd.C_alloc ?_ _) | (with_reducible refine Kd.C_drewN ?_ _) | (with_reducible refine Kd.C_drew ?_))); (case side4 => exact (Kd.R_reads' HO_282005.out).2.1); (case side5 => repeat (first | exact (Kd.R_reads' HO_259004.out).2.2 | (with_reducible refine Kd.C_alloc ?_ _) | (with_reducible refine Kd.C_drewN ?_ _) | (with_reducible refine Kd.C_drew ?_))); (case side6 => exact (Kd.R_reads' HO_259004.out).2.1); (case side7 => repeat (first | exact (Kd.R_reads' HO_259005.out).2.2 | (with_reducible refine Kd.C_alloc ?_ _) | (with_reducible refine Kd.C_drewN ?_ _) | (with_reducible refine Kd.C_drew ?_))); (case side8 => exact (Kd.R_reads' HO_259005.out).2.1); rintro e w77 ⟨rfl, hb⟩; have n0_ := Aside0.mk (Kd.R_below (by (with_reducible repeat (first | apply Kd.R_alloc | apply Kd.R_drewN | apply Kd.R_drew)); exact HO_259004.out) hb); have n1_ := Aside0.mk (Kd.R_below (by (with_reducible repeat (first | apply Kd.R_alloc | apply Kd.R_drewN | apply Kd.R_drew)); exact HO_259005.out) hb); have n2_ := Aside0.mk (Kd.R_below (by (with_reducible repeat (first | apply Kd.R_alloc | apply Kd.R_drewN | apply Kd.R_drew)); exact HO_270004.out) hb); have n3_ := Aside0.mk (Kd.R_below (by (with_reducible repeat (first | apply Kd.R_alloc | apply Kd.R_drewN | apply Kd.R_drew)); exact HO_270005.out) hb); have n4_ := Aside0.mk (Kd.R_below (by (with_reducible repeat (first | apply Kd.R_alloc | apply Kd.R_drewN | apply Kd.R_drew)); exact HO_282004.out) hb); have n5_ := Aside0.mk (Kd.R_below (by (with_reducible repeat (first | apply Kd.R_alloc | apply Kd.R_drewN | apply Kd.R_drew)); exact HO_282005.out) hb); have n6_ := Aside0.mk (Kd.R_below (by (with_reducible repeat (first | apply Kd.R_alloc | apply Kd.R_drewN | apply Kd.R_drew)); exact HO289.out) hb); have n7_ := Aside0.mk (Kd.R_below (by (with_reducible repeat (first | apply Kd.R_alloc | apply Kd.R_drewN | apply Kd.R_drew)); exact HO292.out) hb); have n8_ := Aside0.mk (blk_below (g := gb235) (by (with_reducible repeat (first | apply blk_drewN | apply blk_drew | apply blk_alloc)); exact BK235.out) hb); have n9_ := Aside0.mk (blk_below (g := gb258) (by (with_reducible repeat (first | apply blk_drewN | apply blk_drew | apply blk_alloc)); exact BK258.out) hb); have n10_ := Aside0.mk (blk_below (g := gb269) (by (with_reducible repeat (first | apply blk_drewN | apply blk_drew | apply blk_alloc)); exact BK269.out) hb); have n11_ := Aside0.mk (blk_below (g := gb281) (by (with_reducible repeat (first | apply blk_drewN | apply blk_drew | apply blk_alloc)); exact BK281.out) hb); have n12_ := Aside0.mk (below_step (by repeat (first | (with_reducible first | exact HB.out | apply below_alloc | apply pw_below_drewN | apply below_drew1 | refine below_set ?_ GE235.out | refine below_set ?_ GE258.out | refine below_set ?_ GE269.out | refine below_set ?_ GE281.out) | exact HB.out)) hb); clear HO_259004; clear HO_259005; clear HO_270004; clear HO_270005; clear HO_282004; clear HO_282005; clear HO289; clear HO292; clear BK235; clear BK258; clear BK269; clear BK281; clear HB; have HO_259004 := n0_; have HO_259005 := n1_; have HO_270004 := n2_; have HO_270005 := n3_; have HO_282004 := n4_; have HO_282005 := n5_; have HO289 := n6_; have HO292 := n7_; have BK235 := n8_; have BK258 := n9_; have BK269 := n10_; have BK281 := n11_; have HB := n12_; clear n0_ n1_ n2_ n3_ n4_ n5_ n6_ n7_ n8_ n9_ n10_ n11_ n12_; (try clear hb); (try clear hb2); (try clear hk); (try clear hi)))
         go_meet
         case rel => exact ⟨_, ((t280 != t257)), (by first | rfl | (simp; done) | (simp [*]; done)), H', ⟨by have := HJ10.out; first | omega | exact Nat.le_refl _⟩, ⟨by (with_reducible repeat (first | apply Kd.R_alloc | apply Kd.R_drewN | apply Kd.R_drew)); exact Kd.R_mono HO_259004.out (fun _ hk => ⟨hk.1, ⟨hk.2.1, ⟨hk.2.2.1, ⟨hk.2.2.2.1, hk.2.2.2.2.1⟩⟩⟩⟩)⟩, ⟨by (with_reducible repeat (first | apply Kd.R_alloc | apply Kd.R_drewN | apply Kd.R_drew)); exact Kd.R_mono HO_259005.out (fun _ hk => ⟨hk.1, ⟨hk.2.1, ⟨hk.2.2.1, ⟨hk.2.2.2.1, hk.2.2.2.2.1⟩⟩⟩⟩)⟩, ⟨by (with_reducible repeat (first | apply Kd.R_alloc | apply Kd.R_drewN | apply Kd.R_drew)); exact Kd.R_mono HO_270004.out (fun _ hk => ⟨hk.1.1.1, ⟨hk.1.1.2.1, ⟨hk.1.1.2.2.1, ⟨hk.1.1.2.2.2.1, hk.1.1.2.2.2.2⟩⟩⟩⟩)⟩, ⟨by (with_reducible repeat (first | apply Kd.R_alloc | apply Kd.R_drewN | apply Kd.R_drew)); exact Kd.R_mono HO_270005.out (fun _ hk => ⟨hk.1.1.1, ⟨hk.1.1.2.1, ⟨hk.1.1.2.2.1, ⟨hk.1.1.2.2.2.1, hk.1.1.2.2.2.2⟩⟩⟩⟩)⟩, ⟨by (with_reducible repeat (first | apply Kd.R_alloc | apply Kd.R_drewN | apply Kd.R_drew)); exact Kd.R_mono HO_282004.out (fun _ hk => ⟨hk.1, ⟨hk.2.1, ⟨hk.2.2.1, ⟨hk.2.2.2.1, hk.2.2.2.2.1⟩⟩⟩⟩)⟩, ⟨by (with_reducible repeat (first | apply Kd.R_alloc | apply Kd.R_drewN | apply Kd.R_drew)); exact Kd.R_mono HO_282005.out (fun _ hk => ⟨hk.1, ⟨hk.2.1, ⟨hk.2.2.1, ⟨hk.2.2.2.1, hk.2.2.2.2.1⟩⟩⟩⟩)⟩, ⟨by (with_reducible repeat (first | apply blk_drewN | apply blk_drew | apply blk_alloc)); exact BK235.out⟩, ⟨by (with_reducible repeat (first | apply blk_drewN | apply blk_drew | apply blk_alloc)); exact BK258.out⟩, ⟨by (with_reducible repeat (first | apply blk_drewN | apply blk_drew | apply blk_alloc)); exact BK269.out⟩, ⟨by (with_reducible repeat (first | apply blk_drewN | apply blk_drew | apply blk_alloc)); exact BK281.out⟩, ⟨by repeat (first | (with_reducible first | exact HB.out | apply below_alloc | apply pw_below_drewN | apply below_drew1 | refine below_set ?_ GE235.out | refine below_set ?_ GE258.out | refine below_set ?_ GE269.out | refine below_set ?_ GE281.out) | exact HB.out)⟩⟩
        ·replace c69 := Bool.eq_false_iff.mpr c69
         subst c69
         have H1 : (laws_FnExactImagePal.j1 kj10 t257 true a0_0 a0_1 a0_2 a0_3 l0_4 l0_5 t247 t248 t249 t250 t251 t254 t270 t271 t272 t273 t274 t277) = some true := by first | (rw [if_neg (show ¬ (false = true) by decide)] at H; exact H) | rfl
         clear H
         have H := H1
         clear H1
         exact absurd H (by cases kj10 <;> simp [laws_FnExactImagePal.j1])
      case rest =>
       clear HC56
       try clear c1
       try clear c2
       try clear p2
       try clear c3
       try clear c3b0
       try clear c4
       try clear c5
       try clear c6
       try clear c7
       try clear c11
       try clear c15
       try clear c17
       try clear c19
       try clear c21
       try clear c28
       try clear c29
       try clear c35
       try clear c36
       try clear c37
       try clear c42
       try clear c43
       try clear c44
       try clear c45
       try clear c47
       try clear c48
       try clear c51
       try clear c54
       try clear c62
       try clear c63
       try clear c64
       try clear c67
       try clear c67b0
       try clear c69
       try clear c70
       try clear c71
       try clear c72
       try clear c74
       try clear c75
       try clear hcz13_0
       try clear hcz13_1
       try clear hcz13_2
       try clear hcz13_3
       try clear hcz13_4
       try clear hcz13_5
       try clear hcz15_0
       try clear hcz15_1
       try clear hcz15_2
       try clear hcz15_3
       try clear hcz15_4
       try clear hcz15_5
       try clear hcz22_0
       try clear hcz22_1
       try clear hcz22_2
       try clear hcz22_3
       try clear hcz22_4
       try clear hcz22_5
       try clear hcz25_0
       try clear hcz25_1
       try clear hcz25_2
       try clear hcz25_3
       try clear hcz25_4
       try clear hcz25_5
       try clear hcz30_0
       try clear hcz30_1
       try clear hcz30_2
       try clear hcz30_3
       try clear hcz30_4
       try clear hcz30_5
       try clear hcz38_0
       try clear hcz38_1
       try clear hcz38_2
       try clear hcz38_3
       try clear hcz38_4
       try clear hcz38_5
       try clear hcz46_0
       try clear hcz46_1
       try clear hcz46_2
       try clear hcz46_3
       try clear hcz46_4
       try clear hcz46_5
       try clear hcz49_0
       try clear hcz49_1
       try clear hcz49_2
       try clear hcz49_3
       try clear hcz49_4
       try clear hcz49_5
       try clear hcz5_0
       try clear hcz5_1
       try clear hcz5_2
       try clear hcz5_3
       try clear hcz5_4
       try clear hcz5_5
       try clear hcz65_0
       try clear hcz65_1
       try clear hcz65_2
       try clear hcz65_3
       try clear hcz65_4
       try clear hcz65_5
       try clear hcz73_0
       try clear hcz73_1
       try clear hcz73_2
       try clear hcz73_3
       try clear hcz73_4
       try clear hcz73_5
       try clear hcz76_0
       try clear hcz76_1
       try clear hcz76_2
       try clear hcz76_3
       try clear hcz76_4
       try clear hcz76_5
       try clear hfz13_0
       try clear hfz13_1
       try clear hfz13_2
       try clear hfz13_3
       try clear hfz13_4
       try clear hfz13_5
       try clear hfz15_0
       try clear hfz15_1
       try clear hfz15_2
       try clear hfz15_3
       try clear hfz15_4
       try clear hfz15_5
       try clear hfz22_0
       try clear hfz22_1
       try clear hfz22_2
       try clear hfz22_3
       try clear hfz22_4
       try clear hfz22_5
       try clear hfz25_0
       try clear hfz25_1
       try clear hfz25_2
       try clear hfz25_3
       try clear hfz25_4
       try clear hfz25_5
       try clear hfz30_0
       try clear hfz30_1
       try clear hfz30_2
       try clear hfz30_3
       try clear hfz30_4
       try clear hfz30_5
       try clear hfz38_0
       try clear hfz38_1
       try clear hfz38_2
       try clear hfz38_3
       try clear hfz38_4
       try clear hfz38_5
       try clear hfz46_0
       try clear hfz46_1
       try clear hfz46_2
       try clear hfz46_3
       try clear hfz46_4
       try clear hfz46_5
       try clear hfz49_0
       try clear hfz49_1
       try clear hfz49_2
       try clear hfz49_3
       try clear hfz49_4
       try clear hfz49_5
       try clear hfz5_0
       try clear hfz5_1
       try clear hfz5_2
       try clear hfz5_3
       try clear hfz5_4
       try clear hfz5_5
       try clear hfz65_0
       try clear hfz65_1
       try clear hfz65_2
       try clear hfz65_3
       try clear hfz65_4
       try clear hfz65_5
       try clear hfz73_0
       try clear hfz73_1
       try clear hfz73_2
       try clear hfz73_3
       try clear hfz73_4
       try clear hfz73_5
       try clear hfz76_0
       try clear hfz76_1
       try clear hfz76_2
       try clear hfz76_3
       try clear hfz76_4
       try clear hfz76_5
       try clear p2
       obtain ⟨kq, x61_55, rfl, HA, HJ55, HO_259004, HO_259005, HO_270004, HO_270005, HO_282004, HO_282005, BK235, BK258, BK269, BK281, HB⟩ := hcut
       have hl270004_55 := (Kd.R_reads' HO_270004.out).1
       rw [hl270004_55] at HO_270004
       (try simp only [hl270004_55])
       (try simp only [hl270004_55] at BK235)
       (try simp only [hl270004_55] at BK258)
       (try simp only [hl270004_55] at BK269)
       (try simp only [hl270004_55] at BK281)
       (try simp only [hl270004_55] at HO_259004)
       (try simp only [hl270004_55] at HO_259005)
       (try simp only [hl270004_55] at HO_270005)
       (try simp only [hl270004_55] at HO_282004)
       (try simp only [hl270004_55] at HO_282005)
       have hl270005_55 := (Kd.R_reads' HO_270005.out).1
       rw [hl270005_55] at HO_270005
       (try simp only [hl270005_55])
       (try simp only [hl270005_55] at BK235)
       (try simp only [hl270005_55] at BK258)
       (try simp only [hl270005_55] at BK269)
       (try simp only [hl270005_55] at BK281)
       (try simp only [hl270005_55] at HO_259004)
       (try simp only [hl270005_55] at HO_259005)
       (try simp only [hl270005_55] at HO_270004)
       (try simp only [hl270005_55] at HO_282004)
       (try simp only [hl270005_55] at HO_282005)
       cases kq with
       | zero => exact absurd HA.out (by simp [laws_FnExactImagePal.j1])
       | succ kj55 =>
        have H := HA.out
        clear HA
        simp only [laws_FnExactImagePal.j1] at H
        by_cases c78 : x61_55 = true
        ·subst c78
         have H1 : (some false) = some true := by first | (rw [if_pos rfl] at H; exact H) | rfl
         clear H
         have H := H1
         clear H1
         exact absurd H (by simp)
        ·replace c78 := Bool.eq_false_iff.mpr c78
         subst c78
         have H1 : ((laws_markImage.f kj55 t270 t271 t272 t273 t274 t277 1).bind fun bt298 => ((laws_heldImage.f kj55 t270 t271 t272 t273 bt298.2.1 bt298.2.2 1).bind fun t301 => (if t301 < 0 then (some false) else (if t301 = bt298.1 then ((laws_toImage.f kj55 a0_0 a0_1 a0_2 a0_3 l0_4 l0_5).bind fun bt302 => ((impl_ImagePal.f kj55 bt302.1 bt302.2.1 bt302.2.2.1 bt302.2.2.2.1 bt302.2.2.2.2.1 bt302.2.2.2.2.2).bind fun bt312 => ((laws_eqImage.f kj55 bt312.1 bt312.2.1 bt312.2.2.1 bt312.2.2.2.1 bt312.2.2.2.2.1 bt312.2.2.2.2.2.1 t247 t248 t249 t250 t251 t254).bind fun t324 => (if t324 = true then (laws_FnExactImagePal.j2 kj55 bt298.1 (bt312.2.2.2.2.2.2 != t257) t270 t271 t272 t273 bt298.2.1 bt298.2.2) else (laws_FnExactImagePal.j2 kj55 bt298.1 true t270 t271 t272 t273 bt298.2.1 bt298.2.2))))) else (some false))))) = some true := by first | (rw [if_neg (show ¬ (false = true) by decide)] at H; exact H) | rfl
         clear H
         have H := H1
         clear H1
         replace H := Option.bind_eq_some_iff.mp H
         obtain ⟨⟨t298, t299, t300⟩, A790, H⟩ := H
         replace H : ((laws_heldImage.f kj55 t270 t271 t272 t273 t299 t300 1).bind fun t301 => (if t301 < 0 then (some false) else (if t301 = t298 then ((laws_toImage.f kj55 a0_0 a0_1 a0_2 a0_3 l0_4 l0_5).bind fun bt302 => ((impl_ImagePal.f kj55 bt302.1 bt302.2.1 bt302.2.2.1 bt302.2.2.2.1 bt302.2.2.2.2.1 bt302.2.2.2.2.2).bind fun bt312 => ((laws_eqImage.f kj55 bt312.1 bt312.2.1 bt312.2.2.1 bt312.2.2.2.1 bt312.2.2.2.2.1 bt312.2.2.2.2.2.1 t247 t248 t249 t250 t251 t254).bind fun t324 => (if t324 = true then (laws_FnExactImagePal.j2 kj55 t298 (bt312.2.2.2.2.2.2 != t257) t270 t271 t272 t273 t299 t300) else (laws_FnExactImagePal.j2 kj55 t298 true t270 t271 t272 t273 t299 t300))))) else (some false)))) = some true := H
         have A79 := Aside0.mk A790
         clear A790
         replace H := Option.bind_eq_some_iff.mp H
         obtain ⟨t301, A800, H⟩ := H
         replace H : (if t301 < 0 then (some false) else (if t301 = t298 then ((laws_toImage.f kj55 a0_0 a0_1 a0_2 a0_3 l0_4 l0_5).bind fun bt302 => ((impl_ImagePal.f kj55 bt302.1 bt302.2.1 bt302.2.2.1 bt302.2.2.2.1 bt302.2.2.2.2.1 bt302.2.2.2.2.2).bind fun bt312 => ((laws_eqImage.f kj55 bt312.1 bt312.2.1 bt312.2.2.1 bt312.2.2.2.1 bt312.2.2.2.2.1 bt312.2.2.2.2.2.1 t247 t248 t249 t250 t251 t254).bind fun t324 => (if t324 = true then (laws_FnExactImagePal.j2 kj55 t298 (bt312.2.2.2.2.2.2 != t257) t270 t271 t272 t273 t299 t300) else (laws_FnExactImagePal.j2 kj55 t298 true t270 t271 t272 t273 t299 t300))))) else (some false))) = some true := H
         have A80 := Aside0.mk A800
         clear A800
         by_cases c81 : t301 < 0
         ·rw [if_pos c81] at H
          have c81b0 : decide (t301 < 0) = true := decide_eq_true c81
          clear c81
          exact absurd H (by simp)
         ·rw [if_neg c81] at H
          have c81b0 : decide (t301 < 0) = false := decide_eq_false c81
          clear c81
          by_cases c82 : t301 = t298
          ·rw [if_pos c82] at H
           have c82b0 : (t301 == t298) = true := beq_iff_eq.mpr c82
           have c82b1 : (t301 != t298) = false := bne_eq_false_iff_eq.mpr c82
           clear c82
           replace H := Option.bind_eq_some_iff.mp H
           obtain ⟨⟨t302, t303, t304, t305, t306, t309⟩, A830, H⟩ := H
           replace H : ((impl_ImagePal.f kj55 t302 t303 t304 t305 t306 t309).bind fun bt312 => ((laws_eqImage.f kj55 bt312.1 bt312.2.1 bt312.2.2.1 bt312.2.2.2.1 bt312.2.2.2.2.1 bt312.2.2.2.2.2.1 t247 t248 t249 t250 t251 t254).bind fun t324 => (if t324 = true then (laws_FnExactImagePal.j2 kj55 t298 (bt312.2.2.2.2.2.2 != t257) t270 t271 t272 t273 t299 t300) else (laws_FnExactImagePal.j2 kj55 t298 true t270 t271 t272 t273 t299 t300)))) = some true := H
           have A83 := Aside0.mk A830
           clear A830
           replace H := Option.bind_eq_some_iff.mp H
           obtain ⟨⟨t312, t313, t314, t315, t316, t319, t322⟩, A840, H⟩ := H
           replace H : ((laws_eqImage.f kj55 t312 t313 t314 t315 t316 t319 t247 t248 t249 t250 t251 t254).bind fun t324 => (if t324 = true then (laws_FnExactImagePal.j2 kj55 t298 (t322 != t257) t270 t271 t272 t273 t299 t300) else (laws_FnExactImagePal.j2 kj55 t298 true t270 t271 t272 t273 t299 t300))) = some true := H
           have A84 := Aside0.mk A840
           clear A840
           have HC85 := Aside0.mk H
           clear H
           have hnb86 := NB281_235.out
           have hnc86 := NB235_281.out
           have hnb87 := NB281_258.out
           have hnc87 := NB258_281.out
           have hnb88 := NB281_269.out
           have hnc88 := NB269_281.out
           obtain ⟨hcz89_0, hcz89_1, hcz89_2, hcz89_3, hcz89_4, hcz89_5⟩ := bc6 BK281.out
           obtain ⟨hfz89_0, hfz89_1, hfz89_2, hfz89_3, hfz89_4, hfz89_5⟩ := bf6 BK281.out
           go_upto_region 25 with (first | ((with_reducible refine gate_callee (f := 28) rfl ?_); refine goesL_ (some 64) rfl rfl Try.func28 (by kernel_rfl) rfl #[.agg #[.int .i64 t270, .int .i64 t271, .int .i64 t272, .int .i64 t273, .slice Ao39 t274.length co39, .slice Ao40 t277.length co40], .int .i64 1] rfl (by (try simp only [List.map_toArray, List.map_cons, List.map_nil]); first | done | rfl | (simp only [List.length_drop, List.length_take]; rfl)) ?_; (with_reducible refine (laws_markImage.calls kj55 t270 t271 t272 t273 (fun k_ => some k_ = (.slice Ao39 t274.length co39 : Value).ownBlock) (.slice Ao39 t274.length co39) t274 (fun k_ => some k_ = (.slice Ao40 t277.length co40 : Value).ownBlock) (.slice Ao40 t277.length co40) t277 1 t298 t299 t300 w _ ?side1 ?side2 ?side3 ?side4 ?side5 A79.out).mono ?_); (case side1 => repeat (first | (with_reducible first | exact HB.out | apply below_alloc | apply pw_below_drewN | apply below_drew1 | refine below_set ?_ GE235.out | refine below_set ?_ GE258.out | refine below_set ?_ GE269.out | refine below_set ?_ GE281.out) | exact HB.out)); (case side2 => exact Kd.R_tight rfl HO_282004.out); (case side3 => exact fun k_ e_ => (HO_282004.out.1 k_ e_.symm).2.2.2.2); (case side4 => exact Kd.R_tight rfl HO_282005.out); (case side5 => exact fun k_ e_ => (HO_282005.out.1 k_ e_.symm).2.2.2.2); rintro e w90 ⟨rfl, hy0, hy1, hb, hkp⟩; refine ⟨_, rfl, ?_⟩; have n0_ := Aside0.mk (Kd.R_mono (ok' := fun k_ => some k_ ≠ (.slice Ao24 t254.length co24 : Value).ownBlock ∧ some k_ ≠ (.slice Ao31 t295.length co31 : Value).ownBlock ∧ some k_ ≠ (.slice Ao32 t296.length co32 : Value).ownBlock ∧ some k_ ≠ (.slice Ao39 t274.length co39 : Value).ownBlock ∧ some k_ ≠ (.slice Ao40 t277.length co40 : Value).ownBlock) (Kd.R_keptB (HO_259004.out) hkp (fun k_ hk_ hs_ => Or.elim hs_ (fun e_ => (hk_.2.2.2.1) e_) (fun e_ => (hk_.2.2.2.2) e_))) (fun k_ hk_ => ⟨hk_.1.1, hk_.1.2.1, hk_.1.2.2.1, hk_.1.2.2.2.1, hk_.1.2.2.2.2⟩)); have n1_ := Aside0.mk (Kd.R_mono (ok' := fun k_ => some k_ ≠ (.slice Ao23 t251.length co23 : Value).ownBlock ∧ some k_ ≠ (.slice Ao31 t295.length co31 : Value).ownBlock ∧ some k_ ≠ (.slice Ao32 t296.length co32 : Value).ownBlock ∧ some k_ ≠ (.slice Ao39 t274.length co39 : Value).ownBlock ∧ some k_ ≠ (.slice Ao40 t277.length co40 : Value).ownBlock) (Kd.R_keptB (HO_259005.out) hkp (fun k_ hk_ hs_ => Or.elim hs_ (fun e_ => (hk_.2.2.2.1) e_) (fun e_ => (hk_.2.2.2.2) e_))) (fun k_ hk_ => ⟨hk_.1.1, hk_.1.2.1, hk_.1.2.2.1, hk_.1.2.2.2.1, hk_.1.2.2.2.2⟩)); have n2_ := Aside0.mk (Kd.R_mono (ok' := fun k_ => some k_ ≠ (.slice Ao23 t251.length co23 : Value).ownBlock ∧ some k_ ≠ (.slice Ao24 t254.length co24 : Value).ownBlock ∧ some k_ ≠ (.slice Ao32 t296.length co32 : Value).ownBlock ∧ some k_ ≠ (.slice Ao39 t274.length co39 : Value).ownBlock ∧ some k_ ≠ (.slice Ao40 t277.length co40 : Value).ownBlock) (Kd.R_keptB (HO_270004.out) hkp (fun k_ hk_ hs_ => Or.elim hs_ (fun e_ => (hk_.2.2.2.1) e_) (fun e_ => (hk_.2.2.2.2) e_))) (fun k_ hk_ => ⟨hk_.1.1, hk_.1.2.1, hk_.1.2.2.1, hk_.1.2.2.2.1, hk_.1.2.2.2.2⟩)); have n3_ := Aside0.mk (Kd.R_mono (ok' := fun k_ => some k_ ≠ (.slice Ao23 t251.length co23 : Value).ownBlock ∧ some k_ ≠ (.slice Ao24 t254.length co24 : Value).ownBlock ∧ some k_ ≠ (.slice Ao31 t295.length co31 : Value).ownBlock ∧ some k_ ≠ (.slice Ao39 t274.length co39 : Value).ownBlock ∧ some k_ ≠ (.slice Ao40 t277.length co40 : Value).ownBlock) (Kd.R_keptB (HO_270005.out) hkp (fun k_ hk_ hs_ => Or.elim hs_ (fun e_ => (hk_.2.2.2.1) e_) (fun e_ => (hk_.2.2.2.2) e_))) (fun k_ hk_ => ⟨hk_.1.1, hk_.1.2.1, hk_.1.2.2.1, hk_.1.2.2.2.1, hk_.1.2.2.2.2⟩)); have n4_ := Aside0.mk (Kd.R_reok rfl hy0 (fun k_ e_ => HO_282004.out.1 k_ e_)); have n5_ := Aside0.mk (Kd.R_reok rfl hy1 (fun k_ e_ => HO_282005.out.1 k_ e_)); have n6_ := Aside0.mk (blk_kept (by (with_reducible repeat (first | apply blk_drewN | apply blk_drew | apply blk_alloc)); exact BK235.out) hkp (fun hs_ => Or.elim hs_ (fun e_ => (fun e_ => (Kd.R_ne HO_282004.out BK235.out (by decide)) e_) e_) (fun e_ => (fun e_ => (Kd.R_ne HO_282005.out BK235.out (by decide)) e_) e_))); have n7_ := Aside0.mk (blk_kept (by (with_reducible repeat (first | apply blk_drewN | apply blk_drew | apply blk_alloc)); exact BK258.out) hkp (fun hs_ => Or.elim hs_ (fun e_ => (fun e_ => (Kd.R_ne HO_282004.out BK258.out (by decide)) e_) e_) (fun e_ => (fun e_ => (Kd.R_ne HO_282005.out BK258.out (by decide)) e_) e_))); have n8_ := Aside0.mk (blk_kept (by (with_reducible repeat (first | apply blk_drewN | apply blk_drew | apply blk_alloc)); exact BK269.out) hkp (fun hs_ => Or.elim hs_ (fun e_ => (fun e_ => (Kd.R_ne HO_282004.out BK269.out (by decide)) e_) e_) (fun e_ => (fun e_ => (Kd.R_ne HO_282005.out BK269.out (by decide)) e_) e_))); have n9_ := Aside0.mk (blk_kept (by (with_reducible repeat (first | apply blk_drewN | apply blk_drew | apply blk_alloc)); exact BK281.out) hkp (fun hs_ => Or.elim hs_ (fun e_ => (fun e_ => (Kd.R_ne HO_282004.out BK281.out (by decide)) e_) e_) (fun e_ => (fun e_ => (Kd.R_ne HO_282005.out BK281.out (by decide)) e_) e_))); have n10_ := Aside0.mk (hb); clear HO_259004; clear HO_259005; clear HO_270004; clear HO_270005; clear HO_282004; clear HO_282005; clear BK235; clear BK258; clear BK269; clear BK281; clear HB; have HO_259004 := n0_; have HO_259005 := n1_; have HO_270004 := n2_; have HO_270005 := n3_; have HO_282004 := n4_; have HO_282005 := n5_; have BK235 := n6_; have BK258 := n7_; have BK269 := n8_; have BK281 := n9_; have HB := n10_; clear n0_ n1_ n2_ n3_ n4_ n5_ n6_ n7_ n8_ n9_ n10_; (try clear hb); (try clear hkp); (try clear hy0); (try clear hy1); obtain ⟨hcz91_0, hcz91_1, hcz91_2, hcz91_3, hcz91_4, hcz91_5⟩ := bc6 BK281.out; obtain ⟨hfz91_0, hfz91_1, hfz91_2, hfz91_3, hfz91_4, hfz91_5⟩ := bf6 BK281.out) | ((with_reducible refine gate_callee (f := 29) rfl ?_); refine goesL_ (some 67) rfl rfl Try.func29 (by kernel_rfl) rfl #[.agg #[.int .i64 t270, .int .i64 t271, .int .i64 t272, .int .i64 t273, .slice Ao39 t299.length co39, .slice Ao40 t300.length co40], .int .i64 1] rfl (by (try simp only [List.map_toArray, List.map_cons, List.map_nil]); first | done | (rw [show t299.length = t274.length from (Kd.R_reads' HO_282004.out).1.symm, show t300.length = t277.length from (Kd.R_reads' HO_282005.out).1.symm] <;> rfl) | rfl | (simp only [List.length_drop, List.length_take]; rfl)) ?_; (with_reducible refine (laws_heldImage.calls kj55 t270 t271 t272 t273 _ _ t299 _ _ t300 1 t301 _ ?side1 ?side2 ?side3 ?side4 A80.out).mono ?_); (case side1 => repeat (first | exact (Kd.R_reads' HO_282004.out).2.2 | (with_reducible refine Kd.C_alloc ?_ _) | (with_reducible refine Kd.C_drewN ?_ _) | (with_reducible refine Kd.C_drew ?_))); (case side2 => rw [show t299.length = t274.length from (Kd.R_reads' HO_282004.out).1.symm]; exact (Kd.R_reads' HO_282004.out).2.1); (case side3 => repeat (first | exact (Kd.R_reads' HO_282005.out).2.2 | (with_reducible refine Kd.C_alloc ?_ _) | (with_reducible refine Kd.C_drewN ?_ _) | (with_reducible refine Kd.C_drew ?_))); (case side4 => rw [show t300.length = t277.length from (Kd.R_reads' HO_282005.out).1.symm]; exact (Kd.R_reads' HO_282005.out).2.1); rintro e w92 ⟨rfl, hb⟩; refine ⟨_, rfl, ?_⟩; have n0_ := Aside0.mk (Kd.R_below (by (with_reducible repeat (first | apply Kd.R_alloc | apply Kd.R_drewN | apply Kd.R_drew)); exact HO_259004.out) hb); have n1_ := Aside0.mk (Kd.R_below (by (with_reducible repeat (first | apply Kd.R_alloc | apply Kd.R_drewN | apply Kd.R_drew)); exact HO_259005.out) hb); have n2_ := Aside0.mk (Kd.R_below (by (with_reducible repeat (first | apply Kd.R_alloc | apply Kd.R_drewN | apply Kd.R_drew)); exact HO_270004.out) hb); have n3_ := Aside0.mk (Kd.R_below (by (with_reducible repeat (first | apply Kd.R_alloc | apply Kd.R_drewN | apply Kd.R_drew)); exact HO_270005.out) hb); have n4_ := Aside0.mk (Kd.R_below (by (with_reducible repeat (first | apply Kd.R_alloc | apply Kd.R_drewN | apply Kd.R_drew)); exact HO_282004.out) hb); have n5_ := Aside0.mk (Kd.R_below (by (with_reducible repeat (first | apply Kd.R_alloc | apply Kd.R_drewN | apply Kd.R_drew)); exact HO_282005.out) hb); have n6_ := Aside0.mk (blk_below (g := gb235) (by (with_reducible repeat (first | apply blk_drewN | apply blk_drew | apply blk_alloc)); exact BK235.out) hb); have n7_ := Aside0.mk (blk_below (g := gb258) (by (with_reducible repeat (first | apply blk_drewN | apply blk_drew | apply blk_alloc)); exact BK258.out) hb); have n8_ := Aside0.mk (blk_below (g := gb269) (by (with_reducible repeat (first | apply blk_drewN | apply blk_drew | apply blk_alloc)); exact BK269.out) hb); have n9_ := Aside0.mk (blk_below (g := gb281) (by (with_reducible repeat (first | apply blk_drewN | apply blk_drew | apply blk_alloc)); exact BK281.out) hb); have n10_ := Aside0.mk (below_step (by repeat (first | (with_reducible first | exact HB.out | apply below_alloc | apply pw_below_drewN | apply below_drew1 | refine below_set ?_ GE235.out | refine below_set ?_ GE258.out | refine below_set ?_ GE269.out | refine below_set ?_ GE281.out) | exact HB.out)) hb); clear HO_259004; clear HO_259005; clear HO_270004; clear HO_270005; clear HO_282004; clear HO_282005; clear BK235; clear BK258; clear BK269; clear BK281; clear HB; have HO_259004 := n0_; have HO_259005 := n1_; have HO_270004 := n2_; have HO_270005 := n3_; have HO_282004 := n4_; have HO_282005 := n5_; have BK235 := n6_; have BK258 := n7_; have BK269 := n8_; have BK281 := n9_; have HB := n10_; clear n0_ n1_ n2_ n3_ n4_ n5_ n6_ n7_ n8_ n9_ n10_; (try clear hb); (try clear hb2); (try clear hk); (try clear hi); have hnb93 := NB235_258.out; have hnc93 := NB258_235.out; have hnb94 := NB235_269.out; have hnc94 := NB269_235.out; obtain ⟨hcz95_0, hcz95_1, hcz95_2, hcz95_3, hcz95_4, hcz95_5⟩ := bc6 BK235.out; obtain ⟨hfz95_0, hfz95_1, hfz95_2, hfz95_3, hfz95_4, hfz95_5⟩ := bf6 BK235.out) | ((with_reducible refine gate_callee (f := 17) rfl ?_); refine goesL_ (some 75) rfl rfl Try.func17 (by kernel_rfl) rfl #[.agg #[.int .i64 a0_0, .int .i64 a0_1, .int .i64 a0_2, .int .i64 a0_3, .slice A0_4 l0_4.length c0_4, .slice A0_5 l0_5.length c0_5]] rfl (by (try simp only [List.map_toArray, List.map_cons, List.map_nil]); first | done | rfl | (simp only [List.length_drop, List.length_take]; rfl)) ?_; (with_reducible refine (laws_toImage.calls kj55 a0_0 a0_1 a0_2 a0_3 _ _ l0_4 _ _ l0_5 t302 t303 t304 t305 t306 t309 _ ?side1 ?side2 ?side3 ?side4 A83.out).mono ?_); (case side1 => repeat (first | exact (Kd.C_below HR0_4.out HB.out) | (with_reducible refine Kd.C_alloc ?_ _) | (with_reducible refine Kd.C_drewN ?_ _) | (with_reducible refine Kd.C_drew ?_))); (case side2 => exact HC0_4.out); (case side3 => repeat (first | exact (Kd.C_below HR0_5.out HB.out) | (with_reducible refine Kd.C_alloc ?_ _) | (with_reducible refine Kd.C_drewN ?_ _) | (with_reducible refine Kd.C_drew ?_))); (case side4 => exact HC0_5.out); rintro e w96 ⟨v307, v310, rfl, ho0, ho1, hb⟩; refine ⟨_, rfl, ?_⟩; have n0_ := Aside0.mk (Kd.R_mono (Kd.R_told (Kd.R_told (Kd.R_old (by (with_reducible repeat (first | apply Kd.R_alloc | apply Kd.R_drewN | apply Kd.R_drew)); exact HO_259004.out) hb) (Kd.R_base ho0)) (Kd.R_base ho1)) (fun _ h_ => h_.1)); have n1_ := Aside0.mk (Kd.R_mono (Kd.R_told (Kd.R_told (Kd.R_old (by (with_reducible repeat (first | apply Kd.R_alloc | apply Kd.R_drewN | apply Kd.R_drew)); exact HO_259005.out) hb) (Kd.R_base ho0)) (Kd.R_base ho1)) (fun _ h_ => h_.1)); have n2_ := Aside0.mk (Kd.R_mono (Kd.R_told (Kd.R_told (Kd.R_old (by (with_reducible repeat (first | apply Kd.R_alloc | apply Kd.R_drewN | apply Kd.R_drew)); exact HO_270004.out) hb) (Kd.R_base ho0)) (Kd.R_base ho1)) (fun _ h_ => h_.1)); have n3_ := Aside0.mk (Kd.R_mono (Kd.R_told (Kd.R_told (Kd.R_old (by (with_reducible repeat (first | apply Kd.R_alloc | apply Kd.R_drewN | apply Kd.R_drew)); exact HO_270005.out) hb) (Kd.R_base ho0)) (Kd.R_base ho1)) (fun _ h_ => h_.1)); have n4_ := Aside0.mk (Kd.R_mono (Kd.R_told (Kd.R_told (Kd.R_old (by (with_reducible repeat (first | apply Kd.R_alloc | apply Kd.R_drewN | apply Kd.R_drew)); exact HO_282004.out) hb) (Kd.R_base ho0)) (Kd.R_base ho1)) (fun _ h_ => h_.1)); have n5_ := Aside0.mk (Kd.R_mono (Kd.R_told (Kd.R_told (Kd.R_old (by (with_reducible repeat (first | apply Kd.R_alloc | apply Kd.R_drewN | apply Kd.R_drew)); exact HO_282005.out) hb) (Kd.R_base ho0)) (Kd.R_base ho1)) (fun _ h_ => h_.1)); have n6_ := Aside0.mk (Kd.R_lower (Kd.R_new' (Kd.R_new' (Kd.R_new' (Kd.R_new' (Kd.R_new' (Kd.R_new' ho0 (Kd.R_lt (by (with_reducible repeat (first | apply Kd.R_alloc | apply Kd.R_drewN | apply Kd.R_drew)); exact HO_259004.out))) (Kd.R_lt (by (with_reducible repeat (first | apply Kd.R_alloc | apply Kd.R_drewN | apply Kd.R_drew)); exact HO_259005.out))) (Kd.R_lt (by (with_reducible repeat (first | apply Kd.R_alloc | apply Kd.R_drewN | apply Kd.R_drew)); exact HO_270004.out))) (Kd.R_lt (by (with_reducible repeat (first | apply Kd.R_alloc | apply Kd.R_drewN | apply Kd.R_drew)); exact HO_270005.out))) (Kd.R_lt (by (with_reducible repeat (first | apply Kd.R_alloc | apply Kd.R_drewN | apply Kd.R_drew)); exact HO_282004.out))) (Kd.R_lt (by (with_reducible repeat (first | apply Kd.R_alloc | apply Kd.R_drewN | apply Kd.R_drew)); exact HO_282005.out))) (below_size (by repeat (first | (with_reducible first | exact HB.out | apply below_alloc | apply pw_below_drewN | apply below_drew1 | refine below_set ?_ GE235.out | refine below_set ?_ GE258.out | refine below_set ?_ GE269.out | refine below_set ?_ GE281.out) | exact HB.out)))); have n7_ := Aside0.mk (Kd.R_lower (Kd.R_new' (Kd.R_new' (Kd.R_new' (Kd.R_new' (Kd.R_new' (Kd.R_new' ho1 (Kd.R_lt (by (with_reducible repeat (first | apply Kd.R_alloc | apply Kd.R_drewN | apply Kd.R_drew)); exact HO_259004.out))) (Kd.R_lt (by (with_reducible repeat (first | apply Kd.R_alloc | apply Kd.R_drewN | apply Kd.R_drew)); exact HO_259005.out))) (Kd.R_lt (by (with_reducible repeat (first | apply Kd.R_alloc | apply Kd.R_drewN | apply Kd.R_drew)); exact HO_270004.out))) (Kd.R_lt (by (with_reducible repeat (first | apply Kd.R_alloc | apply Kd.R_drewN | apply Kd.R_drew)); exact HO_270005.out))) (Kd.R_lt (by (with_reducible repeat (first | apply Kd.R_alloc | apply Kd.R_drewN | apply Kd.R_drew)); exact HO_282004.out))) (Kd.R_lt (by (with_reducible repeat (first | apply Kd.R_alloc | apply Kd.R_drewN | apply Kd.R_drew)); exact HO_282005.out))) (below_size (by repeat (first | (with_reducible first | exact HB.out | apply below_alloc | apply pw_below_drewN | apply below_drew1 | refine below_set ?_ GE235.out | refine below_set ?_ GE258.out | refine below_set ?_ GE269.out | refine below_set ?_ GE281.out) | exact HB.out)))); have n8_ := Aside0.mk (blk_below (g := gb235) (by (with_reducible repeat (first | apply blk_drewN | apply blk_drew | apply blk_alloc)); exact BK235.out) hb); have n9_ := Aside0.mk (blk_below (g := gb258) (by (with_reducible repeat (first | apply blk_drewN | apply blk_drew | apply blk_alloc)); exact BK258.out) hb); have n10_ := Aside0.mk (blk_below (g := gb269) (by (with_reducible repeat (first | apply blk_drewN | apply blk_drew | apply blk_alloc)); exact BK269.out) hb); have n11_ := Aside0.mk (blk_below (g := gb281) (by (with_reducible repeat (first | apply blk_drewN | apply blk_drew | apply blk_alloc)); exact BK281.out) hb); have n12_ := Aside0.mk (below_step (by repeat (first | (with_reducible first | exact HB.out | apply below_alloc | apply pw_below_drewN | apply below_drew1 | refine below_set ?_ GE235.out | refine below_set ?_ GE258.out | refine below_set ?_ GE269.out | refine below_set ?_ GE281.out) | exact HB.out)) hb); clear HO_259004; clear HO_259005; clear HO_270004; clear HO_270005; clear HO_282004; clear HO_282005; clear BK235; clear BK258; clear BK269; clear BK281; clear HB; have HO_259004 := n0_; have HO_259005 := n1_; have HO_270004 := n2_; have HO_270005 := n3_; have HO_282004 := n4_; have HO_282005 := n5_; have HO308 := n6_; have HO311 := n7_; have BK235 := n8_; have BK258 := n9_; have BK269 := n10_; have BK281 := n11_; have HB := n12_; clear n0_ n1_ n2_ n3_ n4_ n5_ n6_ n7_ n8_ n9_ n10_ n11_ n12_; (try clear hb); (try clear hb2); (try clear hk); (try clear hi); (try clear ho0); (try clear ho1); obtain ⟨Ao97, co97, eo97⟩ := Kd.R_slice HO308.out; subst eo97; obtain ⟨Ao98, co98, eo98⟩ := Kd.R_slice HO311.out; subst eo98) | ((with_reducible refine gate_callee (f := 37) rfl ?_); refine goesL_ (some 76) rfl rfl Try.func37 (by kernel_rfl) rfl #[.agg #[.int .i64 t302, .int .i64 t303, .int .i64 t304, .int .i64 t305, .slice Ao97 t306.length co97, .slice Ao98 t309.length co98]] rfl (by (try simp only [List.map_toArray, List.map_cons, List.map_nil]); first | done | rfl | (simp only [List.length_drop, List.length_take]; rfl)) ?_; (with_reducible refine (impl_ImagePal.calls kj55 t302 t303 t304 t305 _ _ t306 _ _ t309 t312 t313 t314 t315 t316 t319 t322 _ ?side1 ?side2 ?side3 ?side4 A84.out).mono ?_); (case side1 => repeat (first | exact (Kd.R_reads' HO308.out).2.2 | (with_reducible refine Kd.C_alloc ?_ _) | (with_reducible refine Kd.C_drewN ?_ _) | (with_reducible refine Kd.C_drew ?_))); (case side2 => exact (Kd.R_reads' HO308.out).2.1); (case side3 => repeat (first | exact (Kd.R_reads' HO311.out).2.2 | (with_reducible refine Kd.C_alloc ?_ _) | (with_reducible refine Kd.C_drewN ?_ _) | (with_reducible refine Kd.C_drew ?_))); (case side4 => exact (Kd.R_reads' HO311.out).2.1); rintro e w99 ⟨v317, v320, rfl, ho0, ho1, hb⟩; refine ⟨_, rfl, ?_⟩; have n0_ := Aside0.mk (Kd.R_mono (Kd.R_told (Kd.R_told (Kd.R_old (by (with_reducible repeat (first | apply Kd.R_alloc | apply Kd.R_drewN | apply Kd.R_drew)); exact HO_259004.out) hb) (Kd.R_base ho0)) (Kd.R_base ho1)) (fun _ h_ => h_.1)); have n1_ := Aside0.mk (Kd.R_mono (Kd.R_told (Kd.R_told (Kd.R_old (by (with_reducible repeat (first | apply Kd.R_alloc | apply Kd.R_drewN | apply Kd.R_drew)); exact HO_259005.out) hb) (Kd.R_base ho0)) (Kd.R_base ho1)) (fun _ h_ => h_.1)); have n2_ := Aside0.mk (Kd.R_mono (Kd.R_told (Kd.R_told (Kd.R_old (by (with_reducible repeat (first | apply Kd.R_alloc | apply Kd.R_drewN | apply Kd.R_drew)); exact HO_270004.out) hb) (Kd.R_base ho0)) (Kd.R_base ho1)) (fun _ h_ => h_.1)); have n3_ := Aside0.mk (Kd.R_mono (Kd.R_told (Kd.R_told (Kd.R_old (by (with_reducible repeat (first | apply Kd.R_alloc | apply Kd.R_drewN | apply Kd.R_drew)); exact HO_270005.out) hb) (Kd.R_base ho0)) (Kd.R_base ho1)) (fun _ h_ => h_.1)); have n4_ := Aside0.mk (Kd.R_mono (Kd.R_told (Kd.R_told (Kd.R_old (by (with_reducible repeat (first | apply Kd.R_alloc | apply Kd.R_drewN | apply Kd.R_drew)); exact HO_282004.out) hb) (Kd.R_base ho0)) (Kd.R_base ho1)) (fun _ h_ => h_.1)); have n5_ := Aside0.mk (Kd.R_mono (Kd.R_told (Kd.R_told (Kd.R_old (by (with_reducible repeat (first | apply Kd.R_alloc | apply Kd.R_drewN | apply Kd.R_drew)); exact HO_282005.out) hb) (Kd.R_base ho0)) (Kd.R_base ho1)) (fun _ h_ => h_.1)); have n6_ := Aside0.mk (Kd.R_mono (Kd.R_told (Kd.R_told (Kd.R_old (by (with_reducible repeat (first | apply Kd.R_alloc | apply Kd.R_drewN | apply Kd.R_drew)); exact HO308.out) hb) (Kd.R_base ho0)) (Kd.R_base ho1)) (fun _ h_ => h_.1)); have n7_ := Aside0.mk (Kd.R_mono (Kd.R_told (Kd.R_told (Kd.R_old (by (with_reducible repeat (first | apply Kd.R_alloc | apply Kd.R_drewN | apply Kd.R_drew)); exact HO311.out) hb) (Kd.R_base ho0)) (Kd.R_base ho1)) (fun _ h_ => h_.1)); have n8_ := Aside0.mk (Kd.R_lower (Kd.R_new' (Kd.R_new' (Kd.R_new' (Kd.R_new' (Kd.R_new' (Kd.R_new' (Kd.R_new' (Kd.R_new' ho0 (Kd.R_lt (by (with_reducible repeat (first | apply Kd.R_alloc | apply Kd.R_drewN | apply Kd.R_drew)); exact HO_259004.out))) (Kd.R_lt (by (with_reducible repeat (first | apply Kd.R_alloc | apply Kd.R_drewN | apply Kd.R_drew)); exact HO_259005.out))) (Kd.R_lt (by (with_reducible repeat (first | apply Kd.R_alloc | apply Kd.R_drewN | apply Kd.R_drew)); exact HO_270004.out))) (Kd.R_lt (by (with_reducible repeat (first | apply Kd.R_alloc | apply Kd.R_drewN | apply Kd.R_drew)); exact HO_270005.out))) (Kd.R_lt (by (with_reducible repeat (first | apply Kd.R_alloc | apply Kd.R_drewN | apply Kd.R_drew)); exact HO_282004.out))) (Kd.R_lt (by (with_reducible repeat (first | apply Kd.R_alloc | apply Kd.R_drewN | apply Kd.R_drew)); exact HO_282005.out))) (Kd.R_lt (by (with_reducible repeat (first | apply Kd.R_alloc | apply Kd.R_drewN | apply Kd.R_drew)); exact HO308.out))) (Kd.R_lt (by (with_reducible repeat (first | apply Kd.R_alloc | apply Kd.R_drewN | apply Kd.R_drew)); exact HO311.out))) (below_size (by repeat (first | (with_reducible first | exact HB.out | apply below_alloc | apply pw_below_drewN | apply below_drew1 | refine below_set ?_ GE235.out | refine below_set ?_ GE258.out | refine below_set ?_ GE269.out | refine below_set ?_ GE281.out) | exact HB.out)))); have n9_ := Aside0.mk (Kd.R_lower (Kd.R_new' (Kd.R_new' (Kd.R_new' (Kd.R_new' (Kd.R_new' (Kd.R_new' (Kd.R_new' (Kd.R_new' ho1 (Kd.R_lt (by (with_reducible repeat (first | apply Kd.R_alloc | apply Kd.R_drewN | apply Kd.R_drew)); exact HO_259004.out))) (Kd.R_lt (by (with_reducible repeat (first | apply Kd.R_alloc | apply Kd.R_drewN | apply Kd.R_drew)); exact HO_259005.out))) (Kd.R_lt (by (with_reducible repeat (first | apply Kd.R_alloc | apply Kd.R_drewN | apply Kd.R_drew)); exact HO_270004.out))) (Kd.R_lt (by (with_reducible repeat (first | apply Kd.R_alloc | apply Kd.R_drewN | apply Kd.R_drew)); exact HO_270005.out))) (Kd.R_lt (by (with_reducible repeat (first | apply Kd.R_alloc | apply Kd.R_drewN | apply Kd.R_drew)); exact HO_282004.out))) (Kd.R_lt (by (with_reducible repeat (first | apply Kd.R_alloc | apply Kd.R_drewN | apply Kd.R_drew)); exact HO_282005.out))) (Kd.R_lt (by (with_reducible repeat (first | apply Kd.R_alloc | apply Kd.R_drewN | apply Kd.R_drew)); exact HO308.out))) (Kd.R_lt (by (with_reducible repeat (first | apply Kd.R_alloc | apply Kd.R_drewN | apply Kd.R_drew)); exact HO311.out))) (below_size (by repeat (first | (with_reducible first | exact HB.out | apply below_alloc | apply pw_below_drewN | apply below_drew1 | refine below_set ?_ GE235.out | refine below_set ?_ GE258.out | refine below_set ?_ GE269.out | refine below_set ?_ GE281.out) | exact HB.out)))); have n10_ := Aside0.mk (blk_below (g := gb235) (by (with_reducible repeat (first | apply blk_drewN | apply blk_drew | apply blk_alloc)); exact BK235.out) hb); have n11_ := Aside0.mk (blk_below (g := gb258) (by (with_reducible repeat (first | apply blk_drewN | apply blk_drew | apply blk_alloc)); exact BK258.out) hb); have n12_ := Aside0.mk (blk_below (g := gb269) (by (with_reducible repeat (first | apply blk_drewN | apply blk_drew | apply blk_alloc)); exact BK269.out) hb); have n13_ := Aside0.mk (blk_below (g := gb281) (by (with_reducible repeat (first | apply blk_drewN | apply blk_drew | apply blk_alloc)); exact BK281.out) hb); have n14_ := Aside0.mk (below_step (by repeat (first | (with_reducible first | exact HB.out | apply below_alloc | apply pw_below_drewN | apply below_drew1 | refine below_set ?_ GE235.out | refine below_set ?_ GE258.out | refine below_set ?_ GE269.out | refine below_set ?_ GE281.out) | exact HB.out)) hb); clear HO_259004; clear HO_259005; clear HO_270004; clear HO_270005; clear HO_282004; clear HO_282005; clear HO308; clear HO311; clear BK235; clear BK258; clear BK269; clear BK281; clear HB; have HO_259004 := n0_; have HO_259005 := n1_; have HO_270004 := n2_; have HO_270005 := n3_; have HO_282004 := n4_; have HO_282005 := n5_; have HO308 := n6_; have HO311 := n7_; have HO318 := n8_; have HO321 := n9_; have BK235 := n10_; have BK258 := n11_; have BK269 := n12_; have BK281 := n13_; have HB := n14_; clear n0_ n1_ n2_ n3_ n4_ n5_ n6_ n7_ n8_ n9_ n10_ n11_ n12_ n13_ n14_; (try clear hb); (try clear hb2); (try clear hk); (try clear hi); (try clear ho0); (try clear ho1)) | ((with_reducible refine gate_dst (N := 12) rfl ?_); refine box_event ?hg (N := 12) ?hd (cs := #[.int .i64 0, .int .i64 0, .int .i64 0, .int .i64 0, .slice none 0 0, .slice none 0 0]) (t := 27) ?hr ?_; (case hd => rfl); (case hg => rfl); (case hr => first | (go_simp; done) | (go_simp; rfl)); intro gb323 hg w100 hbox hb; have n0_ := Aside0.mk (Kd.R_below (by (with_reducible repeat (first | apply Kd.R_alloc | apply Kd.R_drewN | apply Kd.R_drew)); exact HO_259004.out) hb); have n1_ := Aside0.mk (Kd.R_below (by (with_reducible repeat (first | apply Kd.R_alloc | apply Kd.R_drewN | apply Kd.R_drew)); exact HO_259005.out) hb); have n2_ := Aside0.mk (Kd.R_below (by (with_reducible repeat (first | apply Kd.R_alloc | apply Kd.R_drewN | apply Kd.R_drew)); exact HO_270004.out) hb); have n3_ := Aside0.mk (Kd.R_below (by (with_reducible repeat (first | apply Kd.R_alloc | apply Kd.R_drewN | apply Kd.R_drew)); exact HO_270005.out) hb); have n4_ := Aside0.mk (Kd.R_below (by (with_reducible repeat (first | apply Kd.R_alloc | apply Kd.R_drewN | apply Kd.R_drew)); exact HO_282004.out) hb); have n5_ := Aside0.mk (Kd.R_below (by (with_reducible repeat (first | apply Kd.R_alloc | apply Kd.R_drewN | apply Kd.R_drew)); exact HO_282005.out) hb); have n6_ := Aside0.mk (Kd.R_below (by (with_reducible repeat (first | apply Kd.R_alloc | apply Kd.R_drewN | apply Kd.R_drew)); exact HO308.out) hb); have n7_ := Aside0.mk (Kd.R_below (by (with_reducible repeat (first | apply Kd.R_alloc | apply Kd.R_drewN | apply Kd.R_drew)); exact HO311.out) hb); have n8_ := Aside0.mk (Kd.R_below (by (with_reducible repeat (first | apply Kd.R_alloc | apply Kd.R_drewN | apply Kd.R_drew)); exact HO318.out) hb); have n9_ := Aside0.mk (Kd.R_below (by (with_reducible repeat (first | apply Kd.R_alloc | apply Kd.R_drewN | apply Kd.R_drew)); exact HO321.out) hb); have n10_ := Aside0.mk (blk_below (g := gb235) (by (with_reducible repeat (first | apply blk_drewN | apply blk_drew | apply blk_alloc)); exact BK235.out) hb); have n11_ := Aside0.mk (blk_below (g := gb258) (by (with_reducible repeat (first | apply blk_drewN | apply blk_drew | apply blk_alloc)); exact BK258.out) hb); have n12_ := Aside0.mk (blk_below (g := gb269) (by (with_reducible repeat (first | apply blk_drewN | apply blk_drew | apply blk_alloc)); exact BK269.out) hb); have n13_ := Aside0.mk (blk_below (g := gb281) (by (with_reducible repeat (first | apply blk_drewN | apply blk_drew | apply blk_alloc)); exact BK281.out) hb); have n14_ := Aside0.mk (below_step (by repeat (first | (with_reducible first | exact HB.out | apply below_alloc | apply pw_below_drewN | apply below_drew1 | refine below_set ?_ GE235.out | refine below_set ?_ GE258.out | refine below_set ?_ GE269.out | refine below_set ?_ GE281.out) | exact HB.out)) hb); have n15_ := Aside0.mk (hbox); have n16_ := Aside0.mk ((by rw [hg]; exact (below_size (by repeat (first | (with_reducible first | exact HB.out | apply below_alloc | apply pw_below_drewN | apply below_drew1 | refine below_set ?_ GE235.out | refine below_set ?_ GE258.out | refine below_set ?_ GE269.out | refine below_set ?_ GE281.out) | exact HB.out))) : w.heap.size ≤ gb323)); have n17_ := Aside0.mk ((by rw [hg]; exact (below_size (by repeat (first | (with_reducible first | exact HB.out | apply below_alloc | apply pw_below_drewN | apply below_drew1 | refine below_set ?_ GE235.out | refine below_set ?_ GE258.out | refine below_set ?_ GE269.out | refine below_set ?_ GE281.out) | exact HB.out))) : w.heap.size ≤ gb323)); have n18_ := Aside0.mk ((by rw [hg]; exact Nat.ne_of_lt (blk_lt (g := gb235) (by (with_reducible repeat (first | apply blk_drewN | apply blk_drew | apply blk_alloc)); exact BK235.out)) : gb235 ≠ gb323)); have n19_ := Aside0.mk n18_.out.symm; have n20_ := Aside0.mk ((by rw [hg]; exact Nat.ne_of_lt (blk_lt (g := gb258) (by (with_reducible repeat (first | apply blk_drewN | apply blk_drew | apply blk_alloc)); exact BK258.out)) : gb258 ≠ gb323)); have n21_ := Aside0.mk n20_.out.symm; have n22_ := Aside0.mk ((by rw [hg]; exact Nat.ne_of_lt (blk_lt (g := gb269) (by (with_reducible repeat (first | apply blk_drewN | apply blk_drew | apply blk_alloc)); exact BK269.out)) : gb269 ≠ gb323)); have n23_ := Aside0.mk n22_.out.symm; have n24_ := Aside0.mk ((by rw [hg]; exact Nat.ne_of_lt (blk_lt (g := gb281) (by (with_reducible repeat (first | apply blk_drewN | apply blk_drew | apply blk_alloc)); exact BK281.out)) : gb281 ≠ gb323)); have n25_ := Aside0.mk n24_.out.symm; clear HO_259004; clear HO_259005; clear HO_270004; clear HO_270005; clear HO_282004; clear HO_282005; clear HO308; clear HO311; clear HO318; clear HO321; clear BK235; clear BK258; clear BK269; clear BK281; clear HB; have HO_259004 := n0_; have HO_259005 := n1_; have HO_270004 := n2_; have HO_270005 := n3_; have HO_282004 := n4_; have HO_282005 := n5_; have HO308 := n6_; have HO311 := n7_; have HO318 := n8_; have HO321 := n9_; have BK235 := n10_; have BK258 := n11_; have BK269 := n12_; have BK281 := n13_; have HB := n14_; have BK323 := n15_; have GW323 := n16_; have GE323 := n17_; have NB235_323 := n18_; have NB323_235 := n19_; have NB258_323 := n20_; have NB323_258 := n21_; have NB269_323 := n22_; have NB323_269 := n23_; have NB281_323 := n24_; have NB323_281 := n25_; clear n0_ n1_ n2_ n3_ n4_ n5_ n6_ n7_ n8_ n9_ n10_ n11_ n12_ n13_ n14_ n15_ n16_ n17_ n18_ n19_ n20_ n21_ n22_ n23_ n24_ n25_; clear hb hbox hg; have hnb101 := NB323_235.out; have hnc101 := NB235_323.out; have hnb102 := NB323_258.out; have hnc102 := NB258_323.out; have hnb103 := NB323_269.out; have hnc103 := NB269_323.out; have hnb104 := NB323_281.out; have hnc104 := NB281_323.out; obtain ⟨hcz105_0, hcz105_1, hcz105_2, hcz105_3, hcz105_4, hcz105_5⟩ := bc6 BK323.out; obtain ⟨hfz105_0, hfz105_1, hfz105_2, hfz105_3, hfz105_4, hfz105_5⟩ := bf6 BK323.out; obtain ⟨Ao106, co106, eo106⟩ := Kd.R_slice HO318.out; subst eo106; obtain ⟨Ao107, co107, eo107⟩ := Kd.R_slice HO321.out; subst eo107))
           (try simp only [Act.put, sA_, s0_, s1_])
           go_cut [87] (fun v87 wc => ∃ (kq : Nat) (x87_84 : Bool), v87 = .bool x87_84 ∧ Aside0 (laws_FnExactImagePal.j2 kq t298 x87_84 t270 t271 t272 t273 t299 t300 = some true) ∧ Aside0 (kq ≤ kj55) ∧ Aside0 (Kd.R (Kd.int .i64) 3 wc w.heap.size (fun k_ => some k_ ≠ ((.slice Ao24 t254.length co24) : Value).ownBlock ∧ some k_ ≠ ((.slice Ao31 t295.length co31) : Value).ownBlock ∧ some k_ ≠ ((.slice Ao32 t296.length co32) : Value).ownBlock ∧ some k_ ≠ ((.slice Ao39 t274.length co39) : Value).ownBlock ∧ some k_ ≠ ((.slice Ao40 t277.length co40) : Value).ownBlock ∧ some k_ ≠ ((.slice Ao106 t316.length co106) : Value).ownBlock ∧ some k_ ≠ ((.slice Ao107 t319.length co107) : Value).ownBlock) (.slice Ao23 t251.length co23) t251) ∧ Aside0 (Kd.R (Kd.int .i64) 3 wc w.heap.size (fun k_ => some k_ ≠ ((.slice Ao23 t251.length co23) : Value).ownBlock ∧ some k_ ≠ ((.slice Ao31 t295.length co31) : Value).ownBlock ∧ some k_ ≠ ((.slice Ao32 t296.length co32) : Value).ownBlock ∧ some k_ ≠ ((.slice Ao39 t274.length co39) : Value).ownBlock ∧ some k_ ≠ ((.slice Ao40 t277.length co40) : Value).ownBlock ∧ some k_ ≠ ((.slice Ao106 t316.length co106) : Value).ownBlock ∧ some k_ ≠ ((.slice Ao107 t319.length co107) : Value).ownBlock) (.slice Ao24 t254.length co24) t254) ∧ Aside0 (Kd.R (Kd.int .i64) 3 wc w.heap.size (fun k_ => some k_ ≠ ((.slice Ao23 t251.length co23) : Value).ownBlock ∧ some k_ ≠ ((.slice Ao24 t254.length co24) : Value).ownBlock ∧ some k_ ≠ ((.slice Ao32 t296.length co32) : Value).ownBlock ∧ some k_ ≠ ((.slice Ao39 t274.length co39) : Value).ownBlock ∧ some k_ ≠ ((.slice Ao40 t277.length co40) : Value).ownBlock ∧ some k_ ≠ ((.slice Ao106 t316.length co106) : Value).ownBlock ∧ some k_ ≠ ((.slice Ao107 t319.length co107) : Value).ownBlock) (.slice Ao31 t295.length co31) t295) ∧ Aside0 (Kd.R (Kd.int .i64) 3 wc w.heap.size (fun k_ => some k_ ≠ ((.slice Ao23 t251.length co23) : Value).ownBlock ∧ some k_ ≠ ((.slice Ao24 t254.length co24) : Value).ownBlock ∧ some k_ ≠ ((.slice Ao31 t295.length co31) : Value).ownBlock ∧ some k_ ≠ ((.slice Ao39 t274.length co39) : Value).ownBlock ∧ some k_ ≠ ((.slice Ao40 t277.length co40) : Value).ownBlock ∧ some k_ ≠ ((.slice Ao106 t316.length co106) : Value).ownBlock ∧ some k_ ≠ ((.slice Ao107 t319.length co107) : Value).ownBlock) (.slice Ao32 t296.length co32) t296) ∧ Aside0 (Kd.R (Kd.int .i64) 3 wc w.heap.size (fun k_ => some k_ ≠ ((.slice Ao23 t251.length co23) : Value).ownBlock ∧ some k_ ≠ ((.slice Ao24 t254.length co24) : Value).ownBlock ∧ some k_ ≠ ((.slice Ao31 t295.length co31) : Value).ownBlock ∧ some k_ ≠ ((.slice Ao32 t296.length co32) : Value).ownBlock ∧ some k_ ≠ ((.slice Ao40 t277.length co40) : Value).ownBlock ∧ some k_ ≠ ((.slice Ao106 t316.length co106) : Value).ownBlock ∧ some k_ ≠ ((.slice Ao107 t319.length co107) : Value).ownBlock) (.slice Ao39 t274.length co39) t299) ∧ Aside0 (Kd.R (Kd.int .i64) 3 wc w.heap.size (fun k_ => some k_ ≠ ((.slice Ao23 t251.length co23) : Value).ownBlock ∧ some k_ ≠ ((.slice Ao24 t254.length co24) : Value).ownBlock ∧ some k_ ≠ ((.slice Ao31 t295.length co31) : Value).ownBlock ∧ some k_ ≠ ((.slice Ao32 t296.length co32) : Value).ownBlock ∧ some k_ ≠ ((.slice Ao39 t274.length co39) : Value).ownBlock ∧ some k_ ≠ ((.slice Ao106 t316.length co106) : Value).ownBlock ∧ some k_ ≠ ((.slice Ao107 t319.length co107) : Value).ownBlock) (.slice Ao40 t277.length co40) t300) ∧ Aside0 (Kd.R (Kd.int .i64) 3 wc w.heap.size (fun k_ => some k_ ≠ ((.slice Ao23 t251.length co23) : Value).ownBlock ∧ some k_ ≠ ((.slice Ao24 t254.length co24) : Value).ownBlock ∧ some k_ ≠ ((.slice Ao31 t295.length co31) : Value).ownBlock ∧ some k_ ≠ ((.slice Ao32 t296.length co32) : Value).ownBlock ∧ some k_ ≠ ((.slice Ao39 t274.length co39) : Value).ownBlock ∧ some k_ ≠ ((.slice Ao40 t277.length co40) : Value).ownBlock ∧ some k_ ≠ ((.slice Ao107 t319.length co107) : Value).ownBlock) (.slice Ao106 t316.length co106) t316) ∧ Aside0 (Kd.R (Kd.int .i64) 3 wc w.heap.size (fun k_ => some k_ ≠ ((.slice Ao23 t251.length co23) : Value).ownBlock ∧ some k_ ≠ ((.slice Ao24 t254.length co24) : Value).ownBlock ∧ some k_ ≠ ((.slice Ao31 t295.length co31) : Value).ownBlock ∧ some k_ ≠ ((.slice Ao32 t296.length co32) : Value).ownBlock ∧ some k_ ≠ ((.slice Ao39 t274.length co39) : Value).ownBlock ∧ some k_ ≠ ((.slice Ao40 t277.length co40) : Value).ownBlock ∧ some k_ ≠ ((.slice Ao106 t316.length co106) : Value).ownBlock) (.slice Ao107 t319.length co107) t319) ∧ Aside0 (wc.heap[gb235]? = some (.cells #[.int .i64 a0_0, .int .i64 a0_1, .int .i64 a0_2, .int .i64 a0_3, (.slice A0_4 l0_4.length c0_4), (.slice A0_5 l0_5.length c0_5)] 24 (0, 0))) ∧ Aside0 (wc.heap[gb258]? = some (.cells #[.int .i64 t247, .int .i64 t248, .int .i64 t249, .int .i64 t250, (.slice Ao23 t251.length co23), (.slice Ao24 t254.length co24)] 27 (0, 0))) ∧ Aside0 (wc.heap[gb269]? = some (.cells #[.int .i64 t259, .int .i64 t260, .int .i64 t261, .int .i64 t262, (.slice Ao31 t295.length co31), (.slice Ao32 t296.length co32)] 27 (0, 0))) ∧ Aside0 (wc.heap[gb281]? = some (.cells #[.int .i64 t270, .int .i64 t271, .int .i64 t272, .int .i64 t273, (.slice Ao39 t274.length co39), (.slice Ao40 t277.length co40)] 27 (0, 0))) ∧ Aside0 (wc.heap[gb323]? = some (.cells #[.int .i64 t312, .int .i64 t313, .int .i64 t314, .int .i64 t315, (.slice Ao106 t316.length co106), (.slice Ao107 t319.length co107)] 27 (0, 0))) ∧ Aside0 (Below w.heap.size w wc))
           case first =>
            have H := HC85.out
            clear HC85
            replace H := Option.bind_eq_some_iff.mp H
            obtain ⟨t324, A1080, H⟩ := H
            replace H : (if t324 = true then (laws_FnExactImagePal.j2 kj55 t298 (t322 != t257) t270 t271 t272 t273 t299 t300) else (laws_FnExactImagePal.j2 kj55 t298 true t270 t271 t272 t273 t299 t300)) = some true := H
            have A108 := Aside0.mk A1080
            clear A1080
            by_cases c109 : t324 = true
            ·subst c109
             have H1 : (laws_FnExactImagePal.j2 kj55 t298 (t322 != t257) t270 t271 t272 t273 t299 t300) = some true := by first | (rw [if_pos rfl] at H; exact H) | rfl
             clear H
             have H := H1
             clear H1
             have H' := Aside0.mk H
             clear H
             have hnb110 := NB323_235.out
             have hnc110 := NB235_323.out
             have hnb111 := NB323_258.out
             have hnc111 := NB258_323.out
             have hnb112 := NB323_269.out
             have hnc112 := NB269_323.out
             have hnb113 := NB323_281.out
             have hnc113 := NB281_323.out
             obtain ⟨hcz114_0, hcz114_1, hcz114_2, hcz114_3, hcz114_4, hcz114_5⟩ := bc6 BK323.out
             obtain ⟨hfz114_0, hfz114_1, hfz114_2, hfz114_3, hfz114_4, hfz114_5⟩ := bf6 BK323.out
             have hnb115 := NB258_235.out
             have hnc115 := NB235_258.out
             have hnb116 := NB258_269.out
             have hnc116 := NB269_258.out
             have hnb117 := NB258_281.out
             have hnc117 := NB281_258.out
             obtain ⟨hcz118_0, hcz118_1, hcz118_2, hcz118_3, hcz118_4, hcz118_5⟩ := bc6 BK258.out
             obtain ⟨hfz118_0, hfz118_1, hfz118_2, hfz118_3, hfz118_4, hfz118_5⟩ := bf6 BK258.out
             go_wp2_with (first | ((with_reducible refine gate_callee (f := 19) rfl ?_); refine goesL_ (some 81) rfl rfl Try.func19 (by kernel_rfl) rfl #[.agg #[.int .i64 t312, .int .i64 t313, .int .i64 t314, .int .i64 t315, .slice Ao106 t316.length co106, .slice Ao107 t319.length co107], .agg #[.int .i64 t247, .int .i64 t248, .int .i64 t249, .int .i64 t250, .slice Ao23 t251.length co23, .slice Ao24 t254.length co24]] rfl (by (try simp only [List.map_toArray, List.map_cons, List.map_nil]); first | done | rfl | (simp only [List.length_drop, List.length_take]; rfl)) ?_; (with_reducible refine (laws_eqImage.calls kj55 t312 t313 t314 t315 _ _ t316 _ _ t319 t247 t248 t249 t250 _ _ t251 _ _ t254 true _ ?side1 ?side2 ?side3 ?side4 ?side5 ?side6 ?side7 ?side8 A108.out).mono ?_); (case side1 => refine (Kd.R_reads' (e := 3) (base := w.heap.size) (ok := fun k_ => ((((((((some k_ ≠ (.slice Ao107 t319.length co107 : Value).ownBlock ∧ some k_ ≠ (.slice Ao23 t251.length co23 : Value).ownBlock) ∧ some k_ ≠ (.slice Ao24 t254.length co24 : Value).ownBlock) ∧ some k_ ≠ (.slice Ao31 t295.length co31 : Value).ownBlock) ∧ some k_ ≠ (.slice Ao32 t296.length co32 : Value).ownBlock) ∧ some k_ ≠ (.slice Ao39 t274.length co39 : Value).ownBlock) ∧ some k_ ≠ (.slice Ao40 t277.length co40 : Value).ownBlock) ∧ some k_ ≠ (.slice Ao97 t306.length co97 : Value).ownBlock) ∧ some k_ ≠ (.slice Ao98 t309.length co98 : Value).ownBlock)) (n := t316.length) (c := co106) ?_).2.2; exact (by (with_reducible repeat (first | apply Kd.R_alloc | apply Kd.R_drewN | apply Kd.R_drew)); exact (Kd.R_mono (Kd.R_far (Kd.R_far (Kd.R_far (Kd.R_far (Kd.R_far (Kd.R_far (Kd.R_types HO318.out BK323.out (by decide)) (fun _ hk => hk.2) (.int .i64 t312)) (fun _ hk => hk.2) (.int .i64 t313)) (fun _ hk => hk.2) (.int .i64 t314)) (fun _ hk => hk.2) (.int .i64 t315)) (fun _ hk => hk.2) (.slice Ao106 t316.length co106)) (fun _ hk => hk.2) (.slice Ao107 t319.length co107)) (fun _ h_ => h_.1)))); (case side2 => exact (Kd.R_reads' HO318.out).2.1); (case side3 => refine (Kd.R_reads' (e := 3) (base := w.heap.size) (ok := fun k_ => ((((((((some k_ ≠ (.slice Ao106 t316.length co106 : Value).ownBlock ∧ some k_ ≠ (.slice Ao23 t251.length co23 : Value).ownBlock) ∧ some k_ ≠ (.slice Ao24 t254.length co24 : Value).ownBlock) ∧ some k_ ≠ (.slice Ao31 t295.length co31 : Value).ownBlock) ∧ some k_ ≠ (.slice Ao32 t296.length co32 : Value).ownBlock) ∧ some k_ ≠ (.slice Ao39 t274.length co39 : Value).ownBlock) ∧ some k_ ≠ (.slice Ao40 t277.length co40 : Value).ownBlock) ∧ some k_ ≠ (.slice Ao97 t306.length co97 : Value).ownBlock) ∧ some k_ ≠ (.slice Ao98 t309.length co98 : Value).ownBlock)) (n := t319.length) (c := co107) ?_).2.2; exact (by (with_reducible repeat (first | apply Kd.R_alloc | apply Kd.R_drewN | apply Kd.R_drew)); exact (Kd.R_mono (Kd.R_far (Kd.R_far (Kd.R_far (Kd.R_far (Kd.R_far (Kd.R_far (Kd.R_types HO321.out BK323.out (by decide)) (fun _ hk => hk.2) (.int .i64 t312)) (fun _ hk => hk.2) (.int .i64 t313)) (fun _ hk => hk.2) (.int .i64 t314)) (fun _ hk => hk.2) (.int .i64 t315)) (fun _ hk => hk.2) (.slice Ao106 t316.length co106)) (fun _ hk => hk.2) (.slice Ao107 t319.length co107)) (fun _ h_ => h_.1)))); (case side4 => exact (Kd.R_reads' HO321.out).2.1); (case side5 => refine (Kd.R_reads' (e := 3) (base := w.heap.size) (ok := fun k_ => (((((some k_ ≠ (.slice Ao24 t254.length co24 : Value).ownBlock ∧ (some k_ ≠ (.slice Ao31 t295.length co31 : Value).ownBlock ∧ (some k_ ≠ (.slice Ao32 t296.length co32 : Value).ownBlock ∧ (some k_ ≠ (.slice Ao39 t274.length co39 : Value).ownBlock ∧ some k_ ≠ (.slice Ao40 t277.length co40 : Value).ownBlock)))) ∧ some k_ ≠ (.slice Ao97 t306.length co97 : Value).ownBlock) ∧ some k_ ≠ (.slice Ao98 t309.length co98 : Value).ownBlock) ∧ some k_ ≠ (.slice Ao106 t316.length co106 : Value).ownBlock) ∧ some k_ ≠ (.slice Ao107 t319.length co107 : Value).ownBlock)) (n := t251.length) (c := co23) ?_).2.2; exact (by (with_reducible repeat (first | apply Kd.R_alloc | apply Kd.R_drewN | apply Kd.R_drew)); exact (Kd.R_mono (Kd.R_far (Kd.R_far (Kd.R_far (Kd.R_far (Kd.R_far (Kd.R_far (Kd.R_types HO_259004.out BK323.out (by decide)) (fun _ hk => hk.2) (.int .i64 t312)) (fun _ hk => hk.2) (.int .i64 t313)) (fun _ hk => hk.2) (.int .i64 t314)) (fun _ hk => hk.2) (.int .i64 t315)) (fun _ hk => hk.2) (.slice Ao106 t316.length co106)) (fun _ hk => hk.2) (.slice Ao107 t319.length co107)) (fun _ h_ => h_.1)))); (case side6 => exact (Kd.R_reads' HO_259004.out).2.1); (case side7 => refine (Kd.R_reads' (e := 3) (base := w.heap.size) (ok := fun k_ => (((((some k_ ≠ (.slice Ao23 t251.length co23 : Value).ownBlock ∧ (some k_ ≠ (.slice Ao31 t295.length co31 : Value).ownBlock ∧ (some k_ ≠ (.slice Ao32 t296.length co32 : Value).ownBlock ∧ (some k_ ≠ (.slice Ao39 t274.length co39 : Value).ownBlock ∧ some k_ ≠ (.slice Ao40 t277.length co40 : Value).ownBlock)))) ∧ some k_ ≠ (.slice Ao97 t306.length co97 : Value).ownBlock) ∧ some k_ ≠ (.slice Ao98 t309.length co98 : Value).ownBlock) ∧ some k_ ≠ (.slice Ao106 t316.length co106 : Value).ownBlock) ∧ some k_ ≠ (.slice Ao107 t319.length co107 : Value).ownBlock)) (n := t254.length) (c := co24) ?_).2.2; exact (by (with_reducible repeat (first | apply Kd.R_alloc | apply Kd.R_drewN | apply Kd.R_drew)); exact (Kd.R_mono (Kd.R_far (Kd.R_far (Kd.R_far (Kd.R_far (Kd.R_far (Kd.R_far (Kd.R_types HO_259005.out BK323.out (by decide)) (fun _ hk => hk.2) (.int .i64 t312)) (fun _ hk => hk.2) (.int .i64 t313)) (fun _ hk => hk.2) (.int .i64 t314)) (fun _ hk => hk.2) (.int .i64 t315)) (fun _ hk => hk.2) (.slice Ao106 t316.length co106)) (fun _ hk => hk.2) (.slice Ao107 t319.length co107)) (fun _ h_ => h_.1)))); (case side8 => exact (Kd.R_reads' HO_259005.out).2.1); rintro e w119 ⟨rfl, hb⟩; refine ⟨_, rfl, ?_⟩; have n0_ := Aside0.mk (Kd.R_below (by (with_reducible repeat (first | apply Kd.R_alloc | apply Kd.R_drewN | apply Kd.R_drew)); exact (Kd.R_mono (Kd.R_far (Kd.R_far (Kd.R_far (Kd.R_far (Kd.R_far (Kd.R_far (Kd.R_types HO_259004.out BK323.out (by decide)) (fun _ hk => hk.2) (.int .i64 t312)) (fun _ hk => hk.2) (.int .i64 t313)) (fun _ hk => hk.2) (.int .i64 t314)) (fun _ hk => hk.2) (.int .i64 t315)) (fun _ hk => hk.2) (.slice Ao106 t316.length co106)) (fun _ hk => hk.2) (.slice Ao107 t319.length co107)) (fun _ h_ => h_.1))) hb); have n1_ := Aside0.mk (Kd.R_below (by (with_reducible repeat (first | apply Kd.R_alloc | apply Kd.R_drewN | apply Kd.R_drew)); exact (Kd.R_mono (Kd.R_far (Kd.R_far (Kd.R_far (Kd.R_far (Kd.R_far (Kd.R_far (Kd.R_types HO_259005.out BK323.out (by decide)) (fun _ hk => hk.2) (.int .i64 t312)) (fun _ hk => hk.2) (.int .i64 t313)) (fun _ hk => hk.2) (.int .i64 t314)) (fun _ hk => hk.2) (.int .i64 t315)) (fun _ hk => hk.2) (.slice Ao106 t316.length co106)) (fun _ hk => hk.2) (.slice Ao107 t319.length co107)) (fun _ h_ => h_.1))) hb); have n2_ := Aside0.mk (Kd.R_below (by (with_reducible repeat (first | apply Kd.R_alloc | apply Kd.R_drewN | apply Kd.R_drew)); exact (Kd.R_mono (Kd.R_far (Kd.R_far (Kd.R_far (Kd.R_far (Kd.R_far (Kd.R_far (Kd.R_types HO_270004.out BK323.out (by decide)) (fun _ hk => hk.2) (.int .i64 t312)) (fun _ hk => hk.2) (.int .i64 t313)) (fun _ hk => hk.2) (.int .i64 t314)) (fun _ hk => hk.2) (.int .i64 t315)) (fun _ hk => hk.2) (.slice Ao106 t316.length co106)) (fun _ hk => hk.2) (.slice Ao107 t319.length co107)) (fun _ h_ => h_.1))) hb); have n3_ := Aside0.mk (Kd.R_below (by (with_reducible repeat (first | apply Kd.R_alloc | apply Kd.R_drewN | apply Kd.R_drew)); exact (Kd.R_mono (Kd.R_far (Kd.R_far (Kd.R_far (Kd.R_far (Kd.R_far (Kd.R_far (Kd.R_types HO_270005.out BK323.out (by decide)) (fun _ hk => hk.2) (.int .i64 t312)) (fun _ hk => hk.2) (.int .i64 t313)) (fun _ hk => hk.2) (.int .i64 t314)) (fun _ hk => hk.2) (.int .i64 t315)) (fun _ hk => hk.2) (.slice Ao106 t316.length co106)) (fun _ hk => hk.2) (.slice Ao107 t319.length co107)) (fun _ h_ => h_.1))) hb); have n4_ := Aside0.mk (Kd.R_below (by (with_reducible repeat (first | apply Kd.R_alloc | apply Kd.R_drewN | apply Kd.R_drew)); exact (Kd.R_mono (Kd.R_far (Kd.R_far (Kd.R_far (Kd.R_far (Kd.R_far (Kd.R_far (Kd.R_types HO_282004.out BK323.out (by decide)) (fun _ hk => hk.2) (.int .i64 t312)) (fun _ hk => hk.2) (.int .i64 t313)) (fun _ hk => hk.2) (.int .i64 t314)) (fun _ hk => hk.2) (.int .i64 t315)) (fun _ hk => hk.2) (.slice Ao106 t316.length co106)) (fun _ hk => hk.2) (.slice Ao107 t319.length co107)) (fun _ h_ => h_.1))) hb); have n5_ := Aside0.mk (Kd.R_below (by (with_reducible repeat (first | apply Kd.R_alloc | apply Kd.R_drewN | apply Kd.R_drew)); exact (Kd.R_mono (Kd.R_far (Kd.R_far (Kd.R_far (Kd.R_far (Kd.R_far (Kd.R_far (Kd.R_types HO_282005.out BK323.out (by decide)) (fun _ hk => hk.2) (.int .i64 t312)) (fun _ hk => hk.2) (.int .i64 t313)) (fun _ hk => hk.2) (.int .i64 t314)) (fun _ hk => hk.2) (.int .i64 t315)) (fun _ hk => hk.2) (.slice Ao106 t316.length co106)) (fun _ hk => hk.2) (.slice Ao107 t319.length co107)) (fun _ h_ => h_.1))) hb); have n6_ := Aside0.mk (Kd.R_below (by (with_reducible repeat (first | apply Kd.R_alloc | apply Kd.R_drewN | apply Kd.R_drew)); exact (Kd.R_mono (Kd.R_far (Kd.R_far (Kd.R_far (Kd.R_far (Kd.R_far (Kd.R_far (Kd.R_types HO308.out BK323.out (by decide)) (fun _ hk => hk.2) (.int .i64 t312)) (fun _ hk => hk.2) (.int .i64 t313)) (fun _ hk => hk.2) (.int .i64 t314)) (fun _ hk => hk.2) (.int .i64 t315)) (fun _ hk => hk.2) (.slice Ao106 t316.length co106)) (fun _ hk => hk.2) (.slice Ao107 t319.length co107)) (fun _ h_ => h_.1))) hb); have n7_ := Aside0.mk (Kd.R_below (by (with_reducible repeat (first | apply Kd.R_alloc | apply Kd.R_drewN | apply Kd.R_drew)); exact (Kd.R_mono (Kd.R_far (Kd.R_far (Kd.R_far (Kd.R_far (Kd.R_far (Kd.R_far (Kd.R_types HO311.out BK323.out (by decide)) (fun _ hk => hk.2) (.int .i64 t312)) (fun _ hk => hk.2) (.int .i64 t313)) (fun _ hk => hk.2) (.int .i64 t314)) (fun _ hk => hk.2) (.int .i64 t315)) (fun _ hk => hk.2) (.slice Ao106 t316.length co106)) (fun _ hk => hk.2) (.slice Ao107 t319.length co107)) (fun _ h_ => h_.1))) hb); have n8_ := Aside0.mk (Kd.R_below (by (with_reducible repeat (first | apply Kd.R_alloc | apply Kd.R_drewN | apply Kd.R_drew)); exact (Kd.R_mono (Kd.R_far (Kd.R_far (Kd.R_far (Kd.R_far (Kd.R_far (Kd.R_far (Kd.R_types HO318.out BK323.out (by decide)) (fun _ hk => hk.2) (.int .i64 t312)) (fun _ hk => hk.2) (.int .i64 t313)) (fun _ hk => hk.2) (.int .i64 t314)) (fun _ hk => hk.2) (.int .i64 t315)) (fun _ hk => hk.2) (.slice Ao106 t316.length co106)) (fun _ hk => hk.2) (.slice Ao107 t319.length co107)) (fun _ h_ => h_.1))) hb); have n9_ := Aside0.mk (Kd.R_below (by (with_reducible repeat (first | apply Kd.R_alloc | apply Kd.R_drewN | apply Kd.R_drew)); exact (Kd.R_mono (Kd.R_far (Kd.R_far (Kd.R_far (Kd.R_far (Kd.R_far (Kd.R_far (Kd.R_types HO321.out BK323.out (by decide)) (fun _ hk => hk.2) (.int .i64 t312)) (fun _ hk => hk.2) (.int .i64 t313)) (fun _ hk => hk.2) (.int .i64 t314)) (fun _ hk => hk.2) (.int .i64 t315)) (fun _ hk => hk.2) (.slice Ao106 t316.length co106)) (fun _ hk => hk.2) (.slice Ao107 t319.length co107)) (fun _ h_ => h_.1))) hb); have n10_ := Aside0.mk (blk_below (g := gb235) (o := .cells #[.int .i64 a0_0, .int .i64 a0_1, .int .i64 a0_2, .int .i64 a0_3, .slice A0_4 l0_4.length c0_4, .slice A0_5 l0_5.length c0_5] 24 (0, 0)) (by (with_reducible repeat (first | apply blk_drewN | apply blk_drew | apply blk_alloc)); refine blk_far ?_ NB235_323.out _; (with_reducible repeat (first | apply blk_drewN | apply blk_drew | apply blk_alloc)); refine blk_far ?_ NB235_323.out _; (with_reducible repeat (first | apply blk_drewN | apply blk_drew | apply blk_alloc)); refine blk_far ?_ NB235_323.out _; (with_reducible repeat (first | apply blk_drewN | apply blk_drew | apply blk_alloc)); refine blk_far ?_ NB235_323.out _; (with_reducible repeat (first | apply blk_drewN | apply blk_drew | apply blk_alloc)); refine blk_far ?_ NB235_323.out _; (with_reducible repeat (first | apply blk_drewN | apply blk_drew | apply blk_alloc)); refine blk_far ?_ NB235_323.out _; (with_reducible repeat (first | apply blk_drewN | apply blk_drew | apply blk_alloc)); exact BK235.out) hb); have n11_ := Aside0.mk (blk_below (g := gb258) (o := .cells #[.int .i64 t247, .int .i64 t248, .int .i64 t249, .int .i64 t250, .slice Ao23 t251.length co23, .slice Ao24 t254.length co24] 27 (0, 0)) (by (with_reducible repeat (first | apply blk_drewN | apply blk_drew | apply blk_alloc)); refine blk_far ?_ NB258_323.out _; (with_reducible repeat (first | apply blk_drewN | apply blk_drew | apply blk_alloc)); refine blk_far ?_ NB258_323.out _; (with_reducible repeat (first | apply blk_drewN | apply blk_drew | apply blk_alloc)); refine blk_far ?_ NB258_323.out _; (with_reducible repeat (first | apply blk_drewN | apply blk_drew | apply blk_alloc)); refine blk_far ?_ NB258_323.out _; (with_reducible repeat (first | apply blk_drewN | apply blk_drew | apply blk_alloc)); refine blk_far ?_ NB258_323.out _; (with_reducible repeat (first | apply blk_drewN | apply blk_drew | apply blk_alloc)); refine blk_far ?_ NB258_323.out _; (with_reducible repeat (first | apply blk_drewN | apply blk_drew | apply blk_alloc)); exact BK258.out) hb); have n12_ := Aside0.mk (blk_below (g := gb269) (o := .cells #[.int .i64 t259, .int .i64 t260, .int .i64 t261, .int .i64 t262, .slice Ao31 t295.length co31, .slice Ao32 t296.length co32] 27 (0, 0)) (by (with_reducible repeat (first | apply blk_drewN | apply blk_drew | apply blk_alloc)); refine blk_far ?_ NB269_323.out _; (with_reducible repeat (first | apply blk_drewN | apply blk_drew | apply blk_alloc)); refine blk_far ?_ NB269_323.out _; (with_reducible repeat (first | apply blk_drewN | apply blk_drew | apply blk_alloc)); refine blk_far ?_ NB269_323.out _; (with_reducible repeat (first | apply blk_drewN | apply blk_drew | apply blk_alloc)); refine blk_far ?_ NB269_323.out _; (with_reducible repeat (first | apply blk_drewN | apply blk_drew | apply blk_alloc)); refine blk_far ?_ NB269_323.out _; (with_reducible repeat (first | apply blk_drewN | apply blk_drew | apply blk_alloc)); refine blk_far ?_ NB269_323.out _; (with_reducible repeat (first | apply blk_drewN | apply blk_drew | apply blk_alloc)); exact BK269.out) hb); have n13_ := Aside0.mk (blk_below (g := gb281) (o := .cells #[.int .i64 t270, .int .i64 t271, .int .i64 t272, .int .i64 t273, .slice Ao39 t274.length co39, .slice Ao40 t277.length co40] 27 (0, 0)) (by (with_reducible repeat (first | apply blk_drewN | apply blk_drew | apply blk_alloc)); refine blk_far ?_ NB281_323.out _; (with_reducible repeat (first | apply blk_drewN | apply blk_drew | apply blk_alloc)); refine blk_far ?_ NB281_323.out _; (with_reducible repeat (first | apply blk_drewN | apply blk_drew | apply blk_alloc)); refine blk_far ?_ NB281_323.out _; (with_reducible repeat (first | apply blk_drewN | apply blk_drew | apply blk_alloc)); refine blk_far ?_ NB281_323.out _; (with_reducible repeat (first | apply blk_drewN | apply blk_drew | apply blk_alloc)); refine blk_far ?_ NB281_323.out _; (with_reducible repeat (first | apply blk_drewN | apply blk_drew | apply blk_alloc)); refine blk_far ?_ NB281_323.out _; (with_reducible repeat (first | apply blk_drewN | apply blk_drew | apply blk_alloc)); exact BK281.out) hb); have n14_ := Aside0.mk (blk_below (g := gb323) (o := .cells #[.int .i64 t312, .int .i64 t313, .int .i64 t314, .int .i64 t315, .slice Ao106 t316.length co106, .slice Ao107 t319.length co107] 27 (0, 0)) (by (with_reducible repeat (first | apply blk_drewN | apply blk_drew | apply blk_alloc)); refine blk_put (cs := #[.int .i64 t312, .int .i64 t313, .int .i64 t314, .int .i64 t315, .slice Ao106 t316.length co106, .slice none 0 0]) ?_ 5 _ rfl; (with_reducible repeat (first | apply blk_drewN | apply blk_drew | apply blk_alloc)); refine blk_put (cs := #[.int .i64 t312, .int .i64 t313, .int .i64 t314, .int .i64 t315, .slice none 0 0, .slice none 0 0]) ?_ 4 _ rfl; (with_reducible repeat (first | apply blk_drewN | apply blk_drew | apply blk_alloc)); refine blk_put (cs := #[.int .i64 t312, .int .i64 t313, .int .i64 t314, .int .i64 0, .slice none 0 0, .slice none 0 0]) ?_ 3 _ rfl; (with_reducible repeat (first | apply blk_drewN | apply blk_drew | apply blk_alloc)); refine blk_put (cs := #[.int .i64 t312, .int .i64 t313, .int .i64 0, .int .i64 0, .slice none 0 0, .slice none 0 0]) ?_ 2 _ rfl; (with_reducible repeat (first | apply blk_drewN | apply blk_drew | apply blk_alloc)); refine blk_put (cs := #[.int .i64 t312, .int .i64 0, .int .i64 0, .int .i64 0, .slice none 0 0, .slice none 0 0]) ?_ 1 _ rfl; (with_reducible repeat (first | apply blk_drewN | apply blk_drew | apply blk_alloc)); refine blk_put (cs := #[.int .i64 0, .int .i64 0, .int .i64 0, .int .i64 0, .slice none 0 0, .slice none 0 0]) ?_ 0 _ rfl; (with_reducible repeat (first | apply blk_drewN | apply blk_drew | apply blk_alloc)); exact BK323.out) hb); have n15_ := Aside0.mk (below_step (by repeat (first | (with_reducible first | exact HB.out | apply below_alloc | apply pw_below_drewN | apply below_drew1 | refine below_set ?_ GE235.out | refine below_set ?_ GE258.out | refine below_set ?_ GE269.out | refine below_set ?_ GE281.out | refine below_set ?_ GE323.out) | exact HB.out)) hb); clear HO_259004; clear HO_259005; clear HO_270004; clear HO_270005; clear HO_282004; clear HO_282005; clear HO308; clear HO311; clear HO318; clear HO321; clear BK235; clear BK258; clear BK269; clear BK281; clear BK323; clear HB; have HO_259004 := n0_; have HO_259005 := n1_; have HO_270004 := n2_; have HO_270005 := n3_; have HO_282004 := n4_; have HO_282005 := n5_; have HO308 := n6_; have HO311 := n7_; have HO318 := n8_; have HO321 := n9_; have BK235 := n10_; have BK258 := n11_; have BK269 := n12_; have BK281 := n13_; have BK323 := n14_; have HB := n15_; clear n0_ n1_ n2_ n3_ n4_ n5_ n6_ n7_ n8_ n9_ n10_ n11_ n12_ n13_ n14_ n15_; (try clear hb); (try clear hb2); (try clear hk); (try clear hi)))
             go_meet
             case rel => exact ⟨_, ((t322 != t257)), (by first | rfl | (simp; done) | (simp [*]; done)), H', ⟨by have := HJ10.out; have := HJ55.out; first | omega | exact Nat.le_refl _⟩, ⟨by (try simp only [hl270004_55]); (try simp only [hl270005_55]); (with_reducible repeat (first | apply Kd.R_alloc | apply Kd.R_drewN | apply Kd.R_drew)); exact Kd.R_mono HO_259004.out (fun _ hk => ⟨hk.1.1.1.1.1, ⟨hk.1.1.1.1.2.1, ⟨hk.1.1.1.1.2.2.1, ⟨hk.1.1.1.1.2.2.2.1, ⟨hk.1.1.1.1.2.2.2.2, ⟨hk.1.2, hk.2⟩⟩⟩⟩⟩⟩)⟩, ⟨by (try simp only [hl270004_55]); (try simp only [hl270005_55]); (with_reducible repeat (first | apply Kd.R_alloc | apply Kd.R_drewN | apply Kd.R_drew)); exact Kd.R_mono HO_259005.out (fun _ hk => ⟨hk.1.1.1.1.1, ⟨hk.1.1.1.1.2.1, ⟨hk.1.1.1.1.2.2.1, ⟨hk.1.1.1.1.2.2.2.1, ⟨hk.1.1.1.1.2.2.2.2, ⟨hk.1.2, hk.2⟩⟩⟩⟩⟩⟩)⟩, ⟨by (try simp only [hl270004_55]); (try simp only [hl270005_55]); (with_reducible repeat (first | apply Kd.R_alloc | apply Kd.R_drewN | apply Kd.R_drew)); exact Kd.R_mono HO_270004.out (fun _ hk => ⟨hk.1.1.1.1.1, ⟨hk.1.1.1.1.2.1, ⟨hk.1.1.1.1.2.2.1, ⟨hk.1.1.1.1.2.2.2.1, ⟨hk.1.1.1.1.2.2.2.2, ⟨hk.1.2, hk.2⟩⟩⟩⟩⟩⟩)⟩, ⟨by (try simp only [hl270004_55]); (try simp only [hl270005_55]); (with_reducible repeat (first | apply Kd.R_alloc | apply Kd.R_drewN | apply Kd.R_drew)); exact Kd.R_mono HO_270005.out (fun _ hk => ⟨hk.1.1.1.1.1, ⟨hk.1.1.1.1.2.1, ⟨hk.1.1.1.1.2.2.1, ⟨hk.1.1.1.1.2.2.2.1, ⟨hk.1.1.1.1.2.2.2.2, ⟨hk.1.2, hk.2⟩⟩⟩⟩⟩⟩)⟩, ⟨by (try simp only [hl270004_55]); (try simp only [hl270005_55]); (with_reducible repeat (first | apply Kd.R_alloc | apply Kd.R_drewN | apply Kd.R_drew)); exact Kd.R_mono HO_282004.out (fun _ hk => ⟨hk.1.1.1.1.1, ⟨hk.1.1.1.1.2.1, ⟨hk.1.1.1.1.2.2.1, ⟨hk.1.1.1.1.2.2.2.1, ⟨hk.1.1.1.1.2.2.2.2, ⟨hk.1.2, hk.2⟩⟩⟩⟩⟩⟩)⟩, ⟨by (try simp only [hl270004_55]); (try simp only [hl270005_55]); (with_reducible repeat (first | apply Kd.R_alloc | apply Kd.R_drewN | apply Kd.R_drew)); exact Kd.R_mono HO_282005.out (fun _ hk => ⟨hk.1.1.1.1.1, ⟨hk.1.1.1.1.2.1, ⟨hk.1.1.1.1.2.2.1, ⟨hk.1.1.1.1.2.2.2.1, ⟨hk.1.1.1.1.2.2.2.2, ⟨hk.1.2, hk.2⟩⟩⟩⟩⟩⟩)⟩, ⟨by (try simp only [hl270004_55]); (try simp only [hl270005_55]); (with_reducible repeat (first | apply Kd.R_alloc | apply Kd.R_drewN | apply Kd.R_drew)); exact Kd.R_mono HO318.out (fun _ hk => ⟨hk.1.1.1.1.1.1.1.2, ⟨hk.1.1.1.1.1.1.2, ⟨hk.1.1.1.1.1.2, ⟨hk.1.1.1.1.2, ⟨hk.1.1.1.2, ⟨hk.1.1.2, hk.1.1.1.1.1.1.1.1⟩⟩⟩⟩⟩⟩)⟩, ⟨by (try simp only [hl270004_55]); (try simp only [hl270005_55]); (with_reducible repeat (first | apply Kd.R_alloc | apply Kd.R_drewN | apply Kd.R_drew)); exact Kd.R_mono HO321.out (fun _ hk => ⟨hk.1.1.1.1.1.1.1.2, ⟨hk.1.1.1.1.1.1.2, ⟨hk.1.1.1.1.1.2, ⟨hk.1.1.1.1.2, ⟨hk.1.1.1.2, ⟨hk.1.1.2, hk.1.1.1.1.1.1.1.1⟩⟩⟩⟩⟩⟩)⟩, ⟨by (try simp only [hl270004_55]); (try simp only [hl270005_55]); (with_reducible repeat (first | apply blk_drewN | apply blk_drew | apply blk_alloc)); exact BK235.out⟩, ⟨by (try simp only [hl270004_55]); (try simp only [hl270005_55]); (with_reducible repeat (first | apply blk_drewN | apply blk_drew | apply blk_alloc)); exact BK258.out⟩, ⟨by (try simp only [hl270004_55]); (try simp only [hl270005_55]); (with_reducible repeat (first | apply blk_drewN | apply blk_drew | apply blk_alloc)); exact BK269.out⟩, ⟨by (try simp only [hl270004_55]); (try simp only [hl270005_55]); (with_reducible repeat (first | apply blk_drewN | apply blk_drew | apply blk_alloc)); exact BK281.out⟩, ⟨by (try simp only [hl270004_55]); (try simp only [hl270005_55]); (with_reducible repeat (first | apply blk_drewN | apply blk_drew | apply blk_alloc)); exact BK323.out⟩, ⟨by repeat (first | (with_reducible first | exact HB.out | apply below_alloc | apply pw_below_drewN | apply below_drew1 | refine below_set ?_ GE235.out | refine below_set ?_ GE258.out | refine below_set ?_ GE269.out | refine below_set ?_ GE281.out | refine below_set ?_ GE323.out) | exact HB.out)⟩⟩
            ·replace c109 := Bool.eq_false_iff.mpr c109
             subst c109
             have H1 : (laws_FnExactImagePal.j2 kj55 t298 true t270 t271 t272 t273 t299 t300) = some true := by first | (rw [if_neg (show ¬ (false = true) by decide)] at H; exact H) | rfl
             clear H
             have H := H1
             clear H1
             exact absurd H (by cases kj55 <;> simp [laws_FnExactImagePal.j2])
           case rest =>
            clear HC85
            try clear c1
            try clear c2
            try clear p2
            try clear c3
            try clear c3b0
            try clear c4
            try clear c5
            try clear c6
            try clear c7
            try clear c8
            try clear c9
            try clear c10
            try clear c11
            try clear c15
            try clear c17
            try clear c19
            try clear c21
            try clear c28
            try clear c29
            try clear c35
            try clear c36
            try clear c37
            try clear c42
            try clear c43
            try clear c44
            try clear c45
            try clear c47
            try clear c48
            try clear c51
            try clear c54
            try clear c62
            try clear c63
            try clear c64
            try clear c67
            try clear c67b0
            try clear c69
            try clear c70
            try clear c71
            try clear c72
            try clear c74
            try clear c75
            try clear c78
            try clear c81
            try clear c81b0
            try clear c82
            try clear c82b0
            try clear c82b1
            try clear c86
            try clear c87
            try clear c88
            try clear c93
            try clear c94
            try clear c101
            try clear c102
            try clear c103
            try clear c104
            try clear c109
            try clear c110
            try clear c111
            try clear c112
            try clear c113
            try clear c115
            try clear c116
            try clear c117
            try clear hcz105_0
            try clear hcz105_1
            try clear hcz105_2
            try clear hcz105_3
            try clear hcz105_4
            try clear hcz105_5
            try clear hcz114_0
            try clear hcz114_1
            try clear hcz114_2
            try clear hcz114_3
            try clear hcz114_4
            try clear hcz114_5
            try clear hcz118_0
            try clear hcz118_1
            try clear hcz118_2
            try clear hcz118_3
            try clear hcz118_4
            try clear hcz118_5
            try clear hcz13_0
            try clear hcz13_1
            try clear hcz13_2
            try clear hcz13_3
            try clear hcz13_4
            try clear hcz13_5
            try clear hcz15_0
            try clear hcz15_1
            try clear hcz15_2
            try clear hcz15_3
            try clear hcz15_4
            try clear hcz15_5
            try clear hcz22_0
            try clear hcz22_1
            try clear hcz22_2
            try clear hcz22_3
            try clear hcz22_4
            try clear hcz22_5
            try clear hcz25_0
            try clear hcz25_1
            try clear hcz25_2
            try clear hcz25_3
            try clear hcz25_4
            try clear hcz25_5
            try clear hcz30_0
            try clear hcz30_1
            try clear hcz30_2
            try clear hcz30_3
            try clear hcz30_4
            try clear hcz30_5
            try clear hcz38_0
            try clear hcz38_1
            try clear hcz38_2
            try clear hcz38_3
            try clear hcz38_4
            try clear hcz38_5
            try clear hcz46_0
            try clear hcz46_1
            try clear hcz46_2
            try clear hcz46_3
            try clear hcz46_4
            try clear hcz46_5
            try clear hcz49_0
            try clear hcz49_1
            try clear hcz49_2
            try clear hcz49_3
            try clear hcz49_4
            try clear hcz49_5
            try clear hcz5_0
            try clear hcz5_1
            try clear hcz5_2
            try clear hcz5_3
            try clear hcz5_4
            try clear hcz5_5
            try clear hcz65_0
            try clear hcz65_1
            try clear hcz65_2
            try clear hcz65_3
            try clear hcz65_4
            try clear hcz65_5
            try clear hcz73_0
            try clear hcz73_1
            try clear hcz73_2
            try clear hcz73_3
            try clear hcz73_4
            try clear hcz73_5
            try clear hcz76_0
            try clear hcz76_1
            try clear hcz76_2
            try clear hcz76_3
            try clear hcz76_4
            try clear hcz76_5
            try clear hcz89_0
            try clear hcz89_1
            try clear hcz89_2
            try clear hcz89_3
            try clear hcz89_4
            try clear hcz89_5
            try clear hcz91_0
            try clear hcz91_1
            try clear hcz91_2
            try clear hcz91_3
            try clear hcz91_4
            try clear hcz91_5
            try clear hcz95_0
            try clear hcz95_1
            try clear hcz95_2
            try clear hcz95_3
            try clear hcz95_4
            try clear hcz95_5
            try clear hfz105_0
            try clear hfz105_1
            try clear hfz105_2
            try clear hfz105_3
            try clear hfz105_4
            try clear hfz105_5
            try clear hfz114_0
            try clear hfz114_1
            try clear hfz114_2
            try clear hfz114_3
            try clear hfz114_4
            try clear hfz114_5
            try clear hfz118_0
            try clear hfz118_1
            try clear hfz118_2
            try clear hfz118_3
            try clear hfz118_4
            try clear hfz118_5
            try clear hfz13_0
            try clear hfz13_1
            try clear hfz13_2
            try clear hfz13_3
            try clear hfz13_4
            try clear hfz13_5
            try clear hfz15_0
            try clear hfz15_1
            try clear hfz15_2
            try clear hfz15_3
            try clear hfz15_4
            try clear hfz15_5
            try clear hfz22_0
            try clear hfz22_1
            try clear hfz22_2
            try clear hfz22_3
            try clear hfz22_4
            try clear hfz22_5
            try clear hfz25_0
            try clear hfz25_1
            try clear hfz25_2
            try clear hfz25_3
            try clear hfz25_4
            try clear hfz25_5
            try clear hfz30_0
            try clear hfz30_1
            try clear hfz30_2
            try clear hfz30_3
            try clear hfz30_4
            try clear hfz30_5
            try clear hfz38_0
            try clear hfz38_1
            try clear hfz38_2
            try clear hfz38_3
            try clear hfz38_4
            try clear hfz38_5
            try clear hfz46_0
            try clear hfz46_1
            try clear hfz46_2
            try clear hfz46_3
            try clear hfz46_4
            try clear hfz46_5
            try clear hfz49_0
            try clear hfz49_1
            try clear hfz49_2
            try clear hfz49_3
            try clear hfz49_4
            try clear hfz49_5
            try clear hfz5_0
            try clear hfz5_1
            try clear hfz5_2
            try clear hfz5_3
            try clear hfz5_4
            try clear hfz5_5
            try clear hfz65_0
            try clear hfz65_1
            try clear hfz65_2
            try clear hfz65_3
            try clear hfz65_4
            try clear hfz65_5
            try clear hfz73_0
            try clear hfz73_1
            try clear hfz73_2
            try clear hfz73_3
            try clear hfz73_4
            try clear hfz73_5
            try clear hfz76_0
            try clear hfz76_1
            try clear hfz76_2
            try clear hfz76_3
            try clear hfz76_4
            try clear hfz76_5
            try clear hfz89_0
            try clear hfz89_1
            try clear hfz89_2
            try clear hfz89_3
            try clear hfz89_4
            try clear hfz89_5
            try clear hfz91_0
            try clear hfz91_1
            try clear hfz91_2
            try clear hfz91_3
            try clear hfz91_4
            try clear hfz91_5
            try clear hfz95_0
            try clear hfz95_1
            try clear hfz95_2
            try clear hfz95_3
            try clear hfz95_4
            try clear hfz95_5
            try clear p2
            obtain ⟨kq, x87_84, rfl, HA, HJ84, HO_259004, HO_259005, HO_270004, HO_270005, HO_282004, HO_282005, HO_324004, HO_324005, BK235, BK258, BK269, BK281, BK323, HB⟩ := hcut
            have hl282004_84 := (Kd.R_reads' HO_282004.out).1
            rw [hl282004_84] at HO_282004
            (try simp only [hl282004_84])
            (try simp only [hl282004_84] at BK235)
            (try simp only [hl282004_84] at BK258)
            (try simp only [hl282004_84] at BK269)
            (try simp only [hl282004_84] at BK281)
            (try simp only [hl282004_84] at BK323)
            (try simp only [hl282004_84] at HO_259004)
            (try simp only [hl282004_84] at HO_259005)
            (try simp only [hl282004_84] at HO_270004)
            (try simp only [hl282004_84] at HO_270005)
            (try simp only [hl282004_84] at HO_282005)
            (try simp only [hl282004_84] at HO_324004)
            (try simp only [hl282004_84] at HO_324005)
            have hl282005_84 := (Kd.R_reads' HO_282005.out).1
            rw [hl282005_84] at HO_282005
            (try simp only [hl282005_84])
            (try simp only [hl282005_84] at BK235)
            (try simp only [hl282005_84] at BK258)
            (try simp only [hl282005_84] at BK269)
            (try simp only [hl282005_84] at BK281)
            (try simp only [hl282005_84] at BK323)
            (try simp only [hl282005_84] at HO_259004)
            (try simp only [hl282005_84] at HO_259005)
            (try simp only [hl282005_84] at HO_270004)
            (try simp only [hl282005_84] at HO_270005)
            (try simp only [hl282005_84] at HO_282004)
            (try simp only [hl282005_84] at HO_324004)
            (try simp only [hl282005_84] at HO_324005)
            cases kq with
            | zero => exact absurd HA.out (by simp [laws_FnExactImagePal.j2])
            | succ kj84 =>
             have H := HA.out
             clear HA
             simp only [laws_FnExactImagePal.j2] at H
             by_cases c120 : x87_84 = true
             ·subst c120
              have H1 : (some false) = some true := by first | (rw [if_pos rfl] at H; exact H) | rfl
              clear H
              have H := H1
              clear H1
              exact absurd H (by simp)
             ·replace c120 := Bool.eq_false_iff.mpr c120
              subst c120
              have H1 : ((laws_heldImage.f kj84 t270 t271 t272 t273 t299 t300 1).bind fun t325 => (if t325 < 0 then (some false) else (if t325 = t298 then (some true) else (some false)))) = some true := by first | (rw [if_neg (show ¬ (false = true) by decide)] at H; exact H) | rfl
              clear H
              have H := H1
              clear H1
              replace H := Option.bind_eq_some_iff.mp H
              obtain ⟨t325, A1210, H⟩ := H
              replace H : (if t325 < 0 then (some false) else (if t325 = t298 then (some true) else (some false))) = some true := H
              have A121 := Aside0.mk A1210
              clear A1210
              by_cases c122 : t325 < 0
              ·rw [if_pos c122] at H
               have c122b0 : decide (t325 < 0) = true := decide_eq_true c122
               clear c122
               exact absurd H (by simp)
              ·rw [if_neg c122] at H
               have c122b0 : decide (t325 < 0) = false := decide_eq_false c122
               clear c122
               by_cases c123 : t325 = t298
               ·rw [if_pos c123] at H
                have c123b0 : (t325 == t298) = true := beq_iff_eq.mpr c123
                have c123b1 : (t325 != t298) = false := bne_eq_false_iff_eq.mpr c123
                clear c123
                clear H
                have hnb124 := NB281_235.out
                have hnc124 := NB235_281.out
                have hnb125 := NB281_258.out
                have hnc125 := NB258_281.out
                have hnb126 := NB281_269.out
                have hnc126 := NB269_281.out
                have hnb127 := NB281_323.out
                have hnc127 := NB323_281.out
                obtain ⟨hcz128_0, hcz128_1, hcz128_2, hcz128_3, hcz128_4, hcz128_5⟩ := bc6 BK281.out
                obtain ⟨hfz128_0, hfz128_1, hfz128_2, hfz128_3, hfz128_4, hfz128_5⟩ := bf6 BK281.out
                go_wp2_with (first | ((with_reducible refine gate_callee (f := 29) rfl ?_); refine goesL_ (some 90) rfl rfl Try.func29 (by kernel_rfl) rfl #[.agg #[.int .i64 t270, .int .i64 t271, .int .i64 t272, .int .i64 t273, .slice Ao39 t299.length co39, .slice Ao40 t300.length co40], .int .i64 1] rfl (by (try simp only [List.map_toArray, List.map_cons, List.map_nil]); first | done | rfl | (simp only [List.length_drop, List.length_take]; rfl)) ?_; (with_reducible refine (laws_heldImage.calls kj84 t270 t271 t272 t273 _ _ t299 _ _ t300 1 t325 _ ?side1 ?side2 ?side3 ?side4 A121.out).mono ?_); (case side1 => repeat (first | exact (Kd.R_reads' HO_282004.out).2.2 | (with_reducible refine Kd.C_alloc ?_ _) | (with_reducible refine Kd.C_drewN ?_ _) | (with_reducible refine Kd.C_drew ?_))); (case side2 => exact (Kd.R_reads' HO_282004.out).2.1); (case side3 => repeat (first | exact (Kd.R_reads' HO_282005.out).2.2 | (with_reducible refine Kd.C_alloc ?_ _) | (with_reducible refine Kd.C_drewN ?_ _) | (with_reducible refine Kd.C_drew ?_))); (case side4 => exact (Kd.R_reads' HO_282005.out).2.1); rintro e w129 ⟨rfl, hb⟩; refine ⟨_, rfl, ?_⟩; have n0_ := Aside0.mk (Kd.R_below (by (with_reducible repeat (first | apply Kd.R_alloc | apply Kd.R_drewN | apply Kd.R_drew)); exact HO_259004.out) hb); have n1_ := Aside0.mk (Kd.R_below (by (with_reducible repeat (first | apply Kd.R_alloc | apply Kd.R_drewN | apply Kd.R_drew)); exact HO_259005.out) hb); have n2_ := Aside0.mk (Kd.R_below (by (with_reducible repeat (first | apply Kd.R_alloc | apply Kd.R_drewN | apply Kd.R_drew)); exact HO_270004.out) hb); have n3_ := Aside0.mk (Kd.R_below (by (with_reducible repeat (first | apply Kd.R_alloc | apply Kd.R_drewN | apply Kd.R_drew)); exact HO_270005.out) hb); have n4_ := Aside0.mk (Kd.R_below (by (with_reducible repeat (first | apply Kd.R_alloc | apply Kd.R_drewN | apply Kd.R_drew)); exact HO_282004.out) hb); have n5_ := Aside0.mk (Kd.R_below (by (with_reducible repeat (first | apply Kd.R_alloc | apply Kd.R_drewN | apply Kd.R_drew)); exact HO_282005.out) hb); have n6_ := Aside0.mk (Kd.R_below (by (with_reducible repeat (first | apply Kd.R_alloc | apply Kd.R_drewN | apply Kd.R_drew)); exact HO_324004.out) hb); have n7_ := Aside0.mk (Kd.R_below (by (with_reducible repeat (first | apply Kd.R_alloc | apply Kd.R_drewN | apply Kd.R_drew)); exact HO_324005.out) hb); have n8_ := Aside0.mk (blk_below (g := gb235) (by (with_reducible repeat (first | apply blk_drewN | apply blk_drew | apply blk_alloc)); exact BK235.out) hb); have n9_ := Aside0.mk (blk_below (g := gb258) (by (with_reducible repeat (first | apply blk_drewN | apply blk_drew | apply blk_alloc)); exact BK258.out) hb); have n10_ := Aside0.mk (blk_below (g := gb269) (by (with_reducible repeat (first | apply blk_drewN | apply blk_drew | apply blk_alloc)); exact BK269.out) hb); have n11_ := Aside0.mk (blk_below (g := gb281) (by (with_reducible repeat (first | apply blk_drewN | apply blk_drew | apply blk_alloc)); exact BK281.out) hb); have n12_ := Aside0.mk (blk_below (g := gb323) (by (with_reducible repeat (first | apply blk_drewN | apply blk_drew | apply blk_alloc)); exact BK323.out) hb); have n13_ := Aside0.mk (below_step (by repeat (first | (with_reducible first | exact HB.out | apply below_alloc | apply pw_below_drewN | apply below_drew1 | refine below_set ?_ GE235.out | refine below_set ?_ GE258.out | refine below_set ?_ GE269.out | refine below_set ?_ GE281.out | refine below_set ?_ GE323.out) | exact HB.out)) hb); clear HO_259004; clear HO_259005; clear HO_270004; clear HO_270005; clear HO_282004; clear HO_282005; clear HO_324004; clear HO_324005; clear BK235; clear BK258; clear BK269; clear BK281; clear BK323; clear HB; have HO_259004 := n0_; have HO_259005 := n1_; have HO_270004 := n2_; have HO_270005 := n3_; have HO_282004 := n4_; have HO_282005 := n5_; have HO_324004 := n6_; have HO_324005 := n7_; have BK235 := n8_; have BK258 := n9_; have BK269 := n10_; have BK281 := n11_; have BK323 := n12_; have HB := n13_; clear n0_ n1_ n2_ n3_ n4_ n5_ n6_ n7_ n8_ n9_ n10_ n11_ n12_ n13_; (try clear hb); (try clear hb2); (try clear hk); (try clear hi)))
                go_ret
                exact ⟨by first | rfl | (simp [errW_none, errW_some] <;> rfl) | (simp [*, errW_none, errW_some] <;> rfl), by repeat (first | (with_reducible first | exact HB.out | apply below_alloc | apply pw_below_drewN | apply below_drew1 | refine below_set ?_ GE235.out | refine below_set ?_ GE258.out | refine below_set ?_ GE269.out | refine below_set ?_ GE281.out | refine below_set ?_ GE323.out) | exact HB.out)⟩
               ·rw [if_neg c123] at H
                have c123b0 : (t325 == t298) = false := beq_eq_false_iff_ne.mpr c123
                have c123b1 : (t325 != t298) = true := bne_iff_ne.mpr c123
                exact absurd H (by simp)
          ·rw [if_neg c82] at H
           have c82b0 : (t301 == t298) = false := beq_eq_false_iff_ne.mpr c82
           have c82b1 : (t301 != t298) = true := bne_iff_ne.mpr c82
           exact absurd H (by simp)
     ·replace c54 := Bool.eq_false_iff.mpr c54
      subst c54
      have H1 : (some false) = some true := by first | (rw [if_neg (show ¬ (false = true) by decide)] at H; exact H) | rfl
      clear H
      have H := H1
      clear H1
      exact absurd H (by simp)

/-- THE ONE PURE STATEMENT of laws_FnExactImagePal: yours. -/
def laws_FnExactImagePal.Pure : Prop := ∀ (a0_0 : Int) (a0_1 : Int) (a0_2 : Int) (a0_3 : Int) (l0_4 : List Int) (l0_5 : List Int), (Lit.int .i64 a0_0).wf = true → (Lit.int .i64 a0_1).wf = true → (Lit.int .i64 a0_2).wf = true → (Lit.int .i64 a0_3).wf = true → l0_4.length ≤ maxLen → (∀ y ∈ l0_4, (Lit.int .i64 y).wf = true) → l0_5.length ≤ maxLen → (∀ y ∈ l0_5, (Lit.int .i64 y).wf = true) → ∃ k, laws_FnExactImagePal.f k a0_0 a0_1 a0_2 a0_3 l0_4 l0_5 = some true
theorem laws_FnExactImagePal.walk (P : laws_FnExactImagePal.Pure) (a0_0 : Int) (a0_1 : Int) (a0_2 : Int) (a0_3 : Int) (A0_4 : Option Addr) (c0_4 : Nat) (l0_4 : List Int) (A0_5 : Option Addr) (c0_5 : Nat) (l0_5 : List Int) (w : World) (w0_0 : (Lit.int .i64 a0_0).wf = true) (w0_1 : (Lit.int .i64 a0_1).wf = true) (w0_2 : (Lit.int .i64 a0_2).wf = true) (w0_3 : (Lit.int .i64 a0_3).wf = true) (hr0_4 : Kd.C (Kd.int .i64) w A0_4 l0_4.length l0_4) (hc0_4 : l0_4.length ≤ c0_4) (hm0_4 : l0_4.length ≤ maxLen) (hw0_4 : ∀ y ∈ l0_4, (Lit.int .i64 y).wf = true) (hr0_5 : Kd.C (Kd.int .i64) w A0_5 l0_5.length l0_5) (hc0_5 : l0_5.length ≤ c0_5) (hm0_5 : l0_5.length ≤ maxLen) (hw0_5 : ∀ y ∈ l0_5, (Lit.int .i64 y).wf = true) :
  Calls Try.prog 11 #[.agg #[.int .i64 a0_0, .int .i64 a0_1, .int .i64 a0_2, .int .i64 a0_3, .slice A0_4 l0_4.length c0_4, .slice A0_5 l0_5.length c0_5]] w fun e w' => e = .returned (.bool true) ∧ Below w.heap.size w w' := by
 obtain ⟨k, h⟩ := P a0_0 a0_1 a0_2 a0_3 l0_4 l0_5 w0_0 w0_1 w0_2 w0_3 hm0_4 hw0_4 hm0_5 hw0_5
 refine (laws_FnExactImagePal.calls k a0_0 a0_1 a0_2 a0_3 A0_4 c0_4 l0_4 A0_5 c0_5 l0_5 w hr0_4 hc0_4 hr0_5 hc0_5 h).mono ?_
 rintro e w' ⟨rfl, hd⟩
 exact ⟨rfl, hd⟩

end Go.Proofs.Ytkjfefiphdloiaa.PFnExactImagePal
