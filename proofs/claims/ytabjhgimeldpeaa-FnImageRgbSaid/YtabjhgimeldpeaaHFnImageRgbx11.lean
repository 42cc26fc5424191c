/- What the functions that the law comes to compute, as plain functions, and that the machine's calls come to just that: written by a program for this claim, and turned where Lean did not take it. No condition. -/
import Derived.Test.YtabjhgimeldpeaaHFnImageRgbx0
import Derived.Test.YtabjhgimeldpeaaHFnImageRgbx2
import Derived.Test.YtabjhgimeldpeaaHFnImageRgbx3
import Derived.Test.YtabjhgimeldpeaaHFnImageRgbx7
import Derived.Test.YtabjhgimeldpeaaHFnImageRgbx8
import Derived.Test.YtabjhgimeldpeaaHFnImageRgbx9
import Derived.Test.YtabjhgimeldpeaaHFnImageRgbx10
namespace Go.Proofs.Ytabjhgimeldpeaa.PFnImageRgb
open Go.RowKit Go.Proofs.YtabjhgimeldpeaaW.PrintWords Go.Proofs.YtabjhgimeldpeaaW.PrintLast Go.Proofs.YtabjhgimeldpeaaW.PrintMore
attribute [local go_sem] max2_int min2_int max_two min_two max_three min_three max_four min_four   -- for this text's walks alone
set_option linter.unusedVariables false
set_option linter.unusedSimpArgs false

/-! ### laws_FnImageRgb: function 4 -/
mutual
def laws_FnImageRgb.j0 : Nat → Bool → Bool → Int → Int → Int → Int → List Int → List Int → Int → Int → Int → Int → List Int → List Int → Option (Bool)
 | 0, _, _, _, _, _, _, _, _, _, _, _, _, _, _ => none
 | k + 1, x5, x44, x354000, x354001, x354002, x354003, x354004, x354005, x366000, x366001, x366002, x366003, x366004, x366005 => if x44 = true then (some false) else ((spec_ImageOk.f k x354000 x354001 x354002 x354003 x354004 x354005).bind fun t381 => (laws_FnImageRgb.l0 k x5 t381 0 x354000 x354001 x354002 x354003 x354004 x354005 x366000 x366001 x366002 x366003 x366004 x366005))
def laws_FnImageRgb.j2 : Nat → Bool → Bool → Int → Int → Int → Int → List Int → List Int → Int → Int → Int → Int → List Int → List Int → Option (Bool)
 | 0, _, _, _, _, _, _, _, _, _, _, _, _, _, _ => none
 | k + 1, x5, x8, x354000, x354001, x354002, x354003, x354004, x354005, x366000, x366001, x366002, x366003, x366004, x366005 => if x5 = true then ((impl_ImageRgb.f k x366000 x366001 x366002 x366003 x366004 x366005).bind fun bt384 => (if x8 = true then ((impl_ImageOk.f k x366000 x366001 x366002 x366003 x366004 x366005).bind fun t396 => (if t396 = true then ((impl_ImageLike.f k x366000 x366001 x366002 x366003 x366004 x366005 x354000 x354001 x354002 x354003 x354004 x354005).bind fun t397 => (if t397 = true then (if bt384.2.2.2.2.2.2 = true then ((laws_wiImage.f k x366000 x366001 x366002 x366003 x366004 x366005 bt384.1 bt384.2.1 bt384.2.2.1 bt384.2.2.2.1 bt384.2.2.2.2.1 bt384.2.2.2.2.2.1).bind fun t398 => (some t398)) else (some false)) else (some false))) else (some false))) else (some false))) else (if x8 = true then (some false) else (some (x366000 == 0)))
def laws_FnImageRgb.l0 : Nat → Bool → Bool → Int → Int → Int → Int → Int → List Int → List Int → Int → Int → Int → Int → List Int → List Int → Option (Bool)
 | 0, _, _, _, _, _, _, _, _, _, _, _, _, _, _, _ => none
 | k + 1, x5, x8, x9, x354000, x354001, x354002, x354003, x354004, x354005, x366000, x366001, x366002, x366003, x366004, x366005 => if x9 < (x354005.length : Int) then (if x8 = true then (if x354002 = 0 then (none) else ((impl_ImageColor.f k x354000 x354001 x354002 x354003 x354004 x354005 (Int.tmod x9 x354002) (wrap64 (Int.tdiv x9 x354002))).bind fun bt382 => (laws_FnImageRgb.l0 k x5 ((Int.tmod bt382.1 256) == 255) (wrap64 (x9 + 1)) x354000 x354001 x354002 x354003 x354004 x354005 x366000 x366001 x366002 x366003 x366004 x366005))) else (laws_FnImageRgb.j2 k x5 x8 x354000 x354001 x354002 x354003 x354004 x354005 x366000 x366001 x366002 x366003 x366004 x366005)) else (laws_FnImageRgb.j2 k x5 x8 x354000 x354001 x354002 x354003 x354004 x354005 x366000 x366001 x366002 x366003 x366004 x366005)
end
def laws_FnImageRgb.f (k : Nat) (l0 : List Int) : Option (Bool) := if (l0.length : Int) > 1048576 then (some true) else ((spec_DrawImageRgb.f k l0).bind fun bt343 => ((impl_ImageRgb.f k bt343.1 bt343.2.1 bt343.2.2.1 bt343.2.2.2.1 bt343.2.2.2.2.1 bt343.2.2.2.2.2).bind fun bt354 => ((spec_ImageRgb.f k bt343.1 bt343.2.1 bt343.2.2.1 bt343.2.2.2.1 bt343.2.2.2.2.1 bt343.2.2.2.2.2).bind fun bt366 => ((laws_wiImage.f k bt354.1 bt354.2.1 bt354.2.2.1 bt354.2.2.2.1 bt354.2.2.2.2.1 bt354.2.2.2.2.2.1 bt366.1 bt366.2.1 bt366.2.2.1 bt366.2.2.2.1 bt366.2.2.2.2.1 bt366.2.2.2.2.2.1).bind fun t378 => (if t378 = true then (if (bt354.2.2.2.2.2.2 != bt366.2.2.2.2.2.2) = true then (laws_FnImageRgb.j0 k bt354.2.2.2.2.2.2 true bt343.1 bt343.2.1 bt343.2.2.1 bt343.2.2.2.1 bt343.2.2.2.2.1 bt343.2.2.2.2.2 bt354.1 bt354.2.1 bt354.2.2.1 bt354.2.2.2.1 bt354.2.2.2.2.1 bt354.2.2.2.2.2.1) else ((impl_ImageOk.f k bt343.1 bt343.2.1 bt343.2.2.1 bt343.2.2.2.1 bt343.2.2.2.2.1 bt343.2.2.2.2.2).bind fun t379 => ((spec_ImageOk.f k bt343.1 bt343.2.1 bt343.2.2.1 bt343.2.2.2.1 bt343.2.2.2.2.1 bt343.2.2.2.2.2).bind fun t380 => (laws_FnImageRgb.j0 k bt354.2.2.2.2.2.2 (t379 != t380) bt343.1 bt343.2.1 bt343.2.2.1 bt343.2.2.2.1 bt343.2.2.2.2.1 bt343.2.2.2.2.2 bt354.1 bt354.2.1 bt354.2.2.1 bt354.2.2.2.1 bt354.2.2.2.2.1 bt354.2.2.2.2.2.1)))) else (laws_FnImageRgb.j0 k bt354.2.2.2.2.2.2 true bt343.1 bt343.2.1 bt343.2.2.1 bt343.2.2.2.1 bt343.2.2.2.2.1 bt343.2.2.2.2.2 bt354.1 bt354.2.1 bt354.2.2.1 bt354.2.2.2.1 bt354.2.2.2.2.1 bt354.2.2.2.2.2.1))))))
theorem laws_FnImageRgb.mono_l : ∀ k, (∀ y0 y1 y2 y3 y4 y5 y6 y7 y8 y9 y10 y11 y12 y13, LeO (laws_FnImageRgb.j0 k y0 y1 y2 y3 y4 y5 y6 y7 y8 y9 y10 y11 y12 y13) (laws_FnImageRgb.j0 (k + 1) y0 y1 y2 y3 y4 y5 y6 y7 y8 y9 y10 y11 y12 y13)) ∧ (∀ y0 y1 y2 y3 y4 y5 y6 y7 y8 y9 y10 y11 y12 y13, LeO (laws_FnImageRgb.j2 k y0 y1 y2 y3 y4 y5 y6 y7 y8 y9 y10 y11 y12 y13) (laws_FnImageRgb.j2 (k + 1) y0 y1 y2 y3 y4 y5 y6 y7 y8 y9 y10 y11 y12 y13)) ∧ (∀ y0 y1 y2 y3 y4 y5 y6 y7 y8 y9 y10 y11 y12 y13 y14, LeO (laws_FnImageRgb.l0 k y0 y1 y2 y3 y4 y5 y6 y7 y8 y9 y10 y11 y12 y13 y14) (laws_FnImageRgb.l0 (k + 1) y0 y1 y2 y3 y4 y5 y6 y7 y8 y9 y10 y11 y12 y13 y14))
 | 0 => ⟨fun _ _ _ _ _ _ _ _ _ _ _ _ _ _ r h => by simp [laws_FnImageRgb.j0] at h, fun _ _ _ _ _ _ _ _ _ _ _ _ _ _ r h => by simp [laws_FnImageRgb.j2] at h, fun _ _ _ _ _ _ _ _ _ _ _ _ _ _ _ r h => by simp [laws_FnImageRgb.l0] at h⟩
 | k + 1 => by
  obtain ⟨ih0, ih1, ih2⟩ := laws_FnImageRgb.mono_l k
  refine ⟨?_, ?_, ?_⟩
  ·intro y0 y1 y2 y3 y4 y5 y6 y7 y8 y9 y10 y11 y12 y13
   unfold laws_FnImageRgb.j0
   repeat' first
   | (with_reducible exact ih0 _ _ _ _ _ _ _ _ _ _ _ _ _ _)
   | (with_reducible exact ih1 _ _ _ _ _ _ _ _ _ _ _ _ _ _)
   | (with_reducible exact ih2 _ _ _ _ _ _ _ _ _ _ _ _ _ _ _)
   | (with_reducible exact impl_ImageColor.mono _ _ _ _ _ _ _ _ _)
   | (with_reducible exact impl_ImageLike.mono _ _ _ _ _ _ _ _ _ _ _ _ _)
   | (with_reducible exact impl_ImageOk.mono _ _ _ _ _ _ _)
   | (with_reducible exact impl_ImageRgb.mono _ _ _ _ _ _ _)
   | (with_reducible exact laws_wiImage.mono _ _ _ _ _ _ _ _ _ _ _ _ _)
   | (with_reducible exact spec_DrawImageRgb.mono _ _)
   | (with_reducible exact spec_ImageOk.mono _ _ _ _ _ _ _)
   | (with_reducible exact spec_ImageRgb.mono _ _ _ _ _ _ _)
   | (with_reducible exact LeO.refl _)
   | (with_reducible exact LeO.none _)
   | (with_reducible refine LeO.ite ?_ ?_)
   | (with_reducible refine LeO.bind ?_ (fun _ => ?_))
  ·intro y0 y1 y2 y3 y4 y5 y6 y7 y8 y9 y10 y11 y12 y13
   unfold laws_FnImageRgb.j2
   repeat' first
   | (with_reducible exact ih0 _ _ _ _ _ _ _ _ _ _ _ _ _ _)
   | (with_reducible exact ih1 _ _ _ _ _ _ _ _ _ _ _ _ _ _)
   | (with_reducible exact ih2 _ _ _ _ _ _ _ _ _ _ _ _ _ _ _)
   | (with_reducible exact impl_ImageColor.mono _ _ _ _ _ _ _ _ _)
   | (with_reducible exact impl_ImageLike.mono _ _ _ _ _ _ _ _ _ _ _ _ _)
   | (with_reducible exact impl_ImageOk.mono _ _ _ _ _ _ _)
   | (with_reducible exact impl_ImageRgb.mono _ _ _ _ _ _ _)
   | (with_reducible exact laws_wiImage.mono _ _ _ _ _ _ _ _ _ _ _ _ _)
   | (with_reducible exact spec_DrawImageRgb.mono _ _)
   | (with_reducible exact spec_ImageOk.mono _ _ _ _ _ _ _)
   | (with_reducible exact spec_ImageRgb.mono _ _ _ _ _ _ _)
   | (with_reducible exact LeO.refl _)
   | (with_reducible exact LeO.none _)
   | (with_reducible refine LeO.ite ?_ ?_)
   | (with_reducible refine LeO.bind ?_ (fun _ => ?_))
  ·intro y0 y1 y2 y3 y4 y5 y6 y7 y8 y9 y10 y11 y12 y13 y14
   unfold laws_FnImageRgb.l0
   repeat' first
   | (with_reducible exact ih0 _ _ _ _ _ _ _ _ _ _ _ _ _ _)
   | (with_reducible exact ih1 _ _ _ _ _ _ _ _ _ _ _ _ _ _)
   | (with_reducible exact ih2 _ _ _ _ _ _ _ _ _ _ _ _ _ _ _)
   | (with_reducible exact impl_ImageColor.mono _ _ _ _ _ _ _ _ _)
   | (with_reducible exact impl_ImageLike.mono _ _ _ _ _ _ _ _ _ _ _ _ _)
   | (with_reducible exact impl_ImageOk.mono _ _ _ _ _ _ _)
   | (with_reducible exact impl_ImageRgb.mono _ _ _ _ _ _ _)
   | (with_reducible exact laws_wiImage.mono _ _ _ _ _ _ _ _ _ _ _ _ _)
   | (with_reducible exact spec_DrawImageRgb.mono _ _)
   | (with_reducible exact spec_ImageOk.mono _ _ _ _ _ _ _)
   | (with_reducible exact spec_ImageRgb.mono _ _ _ _ _ _ _)
   | (with_reducible exact LeO.refl _)
   | (with_reducible exact LeO.none _)
   | (with_reducible refine LeO.ite ?_ ?_)
   | (with_reducible refine LeO.bind ?_ (fun _ => ?_))
theorem laws_FnImageRgb.mono : ∀ a0 k, LeO (laws_FnImageRgb.f k a0) (laws_FnImageRgb.f (k + 1) a0) := by
 intro a0 k
 obtain ⟨ih0, ih1, ih2⟩ := laws_FnImageRgb.mono_l k
 unfold laws_FnImageRgb.f
 repeat' first
   | (with_reducible exact ih0 _ _ _ _ _ _ _ _ _ _ _ _ _ _)
   | (with_reducible exact ih1 _ _ _ _ _ _ _ _ _ _ _ _ _ _)
   | (with_reducible exact ih2 _ _ _ _ _ _ _ _ _ _ _ _ _ _ _)
   | (with_reducible exact impl_ImageColor.mono _ _ _ _ _ _ _ _ _)
   | (with_reducible exact impl_ImageLike.mono _ _ _ _ _ _ _ _ _ _ _ _ _)
   | (with_reducible exact impl_ImageOk.mono _ _ _ _ _ _ _)
   | (with_reducible exact impl_ImageRgb.mono _ _ _ _ _ _ _)
   | (with_reducible exact laws_wiImage.mono _ _ _ _ _ _ _ _ _ _ _ _ _)
   | (with_reducible exact spec_DrawImageRgb.mono _ _)
   | (with_reducible exact spec_ImageOk.mono _ _ _ _ _ _ _)
   | (with_reducible exact spec_ImageRgb.mono _ _ _ _ _ _ _)
   | (with_reducible exact LeO.refl _)
   | (with_reducible exact LeO.none _)
   | (with_reducible refine LeO.ite ?_ ?_)
   | (with_reducible refine LeO.bind ?_ (fun _ => ?_))
def laws_FnImageRgb.T6 : Bool × List (List Nat × List Nat) := (true, [([], []), ([], []), ([0, 1], [0, 1]), ([2], [2]), ([3, 2], [3]), ([4], [4]), ([4], [4]), ([5, 6, 4], [4, 5, 6]), ([4, 7], [4, 7]), ([8, 4], [8]), ([9], [9]), ([10, 9, 9], [9, 10]), ([9], [9]), ([12, 11, 9], [9, 12]), ([11, 13, 9], [9, 11, 13]), ([9, 14], [9, 14])])
def laws_FnImageRgb.B6 : List Nat := [0, 0, 3, 7, 15, 31, 31, 127, 255, 511, 1023, 2047, 1023, 8191, 16383, 32767]
theorem laws_FnImageRgb.tab6 : rtab .any (opsOf Try.f4 6) = laws_FnImageRgb.T6 := by kernel_rfl
theorem laws_FnImageRgb.bits6 : waitsOk laws_FnImageRgb.T6.2 laws_FnImageRgb.B6 = true := by kernel_rfl
def laws_FnImageRgb.T12 : Bool × List (List Nat × List Nat) := (true, [([], []), ([], []), ([], []), ([2], [2]), ([1, 3], [1, 3]), ([], []), ([], []), ([6], [6]), ([5, 7], [5, 7]), ([0, 4, 8], [0, 4, 8]), ([9], [9]), ([10], [10]), ([10], [10]), ([11, 9, 0, 1, 2, 3, 4, 5, 6, 7, 8, 9, 10, 11], [11]), ([12, 13, 0, 1, 2, 3, 4, 5, 6, 7, 8, 9, 10, 11, 12, 13], [12])])
def laws_FnImageRgb.B12 : List Nat := [0, 0, 0, 4, 14, 0, 0, 64, 224, 511, 1023, 2047, 2047, 4095, 16383]
theorem laws_FnImageRgb.tab12 : rtab .any (opsOf Try.f4 12) = laws_FnImageRgb.T12 := by kernel_rfl
theorem laws_FnImageRgb.bits12 : waitsOk laws_FnImageRgb.T12.2 laws_FnImageRgb.B12 = true := by kernel_rfl
set_option maxHeartbeats 8000000 in
set_option maxRecDepth 100000 in
theorem laws_FnImageRgb.calls (k : Nat) (A0 : Option Addr) (c0 : Nat) (l0 : List Int) (w : World) (hr0 : Kd.C (Kd.int .u8) w A0 l0.length l0) (hc0 : l0.length ≤ c0) (h : laws_FnImageRgb.f k l0 = some true) :
  Calls Try.prog 4 #[.slice A0 l0.length c0] w fun e w' => e = .returned (.bool true) ∧ Below w.heap.size w w' := by
 have hu25 := Try.underlying25
 have HR0 := aM_ hr0
 have HC0 := aM_ hc0
 clear hr0 hc0
 have HB := aM_ (Below.refl w.heap.size w)
 have H : (if (l0.length : Int) > 1048576 then (some true) else ((spec_DrawImageRgb.f k l0).bind fun bt343 => ((impl_ImageRgb.f k bt343.1 bt343.2.1 bt343.2.2.1 bt343.2.2.2.1 bt343.2.2.2.2.1 bt343.2.2.2.2.2).bind fun bt354 => ((spec_ImageRgb.f k bt343.1 bt343.2.1 bt343.2.2.1 bt343.2.2.2.1 bt343.2.2.2.2.1 bt343.2.2.2.2.2).bind fun bt366 => ((laws_wiImage.f k bt354.1 bt354.2.1 bt354.2.2.1 bt354.2.2.2.1 bt354.2.2.2.2.1 bt354.2.2.2.2.2.1 bt366.1 bt366.2.1 bt366.2.2.1 bt366.2.2.2.1 bt366.2.2.2.2.1 bt366.2.2.2.2.2.1).bind fun t378 => (if t378 = true then (if (bt354.2.2.2.2.2.2 != bt366.2.2.2.2.2.2) = true then (laws_FnImageRgb.j0 k bt354.2.2.2.2.2.2 true bt343.1 bt343.2.1 bt343.2.2.1 bt343.2.2.2.1 bt343.2.2.2.2.1 bt343.2.2.2.2.2 bt354.1 bt354.2.1 bt354.2.2.1 bt354.2.2.2.1 bt354.2.2.2.2.1 bt354.2.2.2.2.2.1) else ((impl_ImageOk.f k bt343.1 bt343.2.1 bt343.2.2.1 bt343.2.2.2.1 bt343.2.2.2.2.1 bt343.2.2.2.2.2).bind fun t379 => ((spec_ImageOk.f k bt343.1 bt343.2.1 bt343.2.2.1 bt343.2.2.2.1 bt343.2.2.2.2.1 bt343.2.2.2.2.2).bind fun t380 => (laws_FnImageRgb.j0 k bt354.2.2.2.2.2.2 (t379 != t380) bt343.1 bt343.2.1 bt343.2.2.1 bt343.2.2.2.1 bt343.2.2.2.2.1 bt343.2.2.2.2.2 bt354.1 bt354.2.1 bt354.2.2.1 bt354.2.2.2.1 bt354.2.2.2.2.1 bt354.2.2.2.2.2.1)))) else (laws_FnImageRgb.j0 k bt354.2.2.2.2.2.2 true bt343.1 bt343.2.1 bt343.2.2.1 bt343.2.2.2.1 bt343.2.2.2.2.1 bt343.2.2.2.2.2 bt354.1 bt354.2.1 bt354.2.2.1 bt354.2.2.2.1 bt354.2.2.2.2.1 bt354.2.2.2.2.2.1))))))) = some true := h
 clear h
 by_cases c2 : (l0.length : Int) > 1048576
 ·rw [if_pos c2] at H
  have c2b0 : decide (1048576 < (l0.length : Int)) = true := decide_eq_true c2
  have c2b1 : decide (1048576 < l0.length) = true := decide_eq_true (by omega)
  clear c2
  clear H
  go_enter Try.func4, Try.ntmps4
  go_wp2
  go_ret
  exact ⟨by first | rfl | (simp [errW_none, errW_some] <;> rfl) | (simp [*, errW_none, errW_some] <;> rfl), by repeat (first | (with_reducible first | exact HB.out | apply wA_ | apply wN_ | apply wD_) | exact HB.out)⟩
 ·rw [if_neg c2] at H
  have c2b0 : decide (1048576 < (l0.length : Int)) = false := decide_eq_false c2
  have c2b1 : decide (1048576 < l0.length) = false := decide_eq_false (by omega)
  clear c2
  replace H := Option.bind_eq_some_iff.mp H
  obtain ⟨⟨t343, t344, t345, t346, t347, t350⟩, A30, H⟩ := H
  replace H : ((impl_ImageRgb.f k t343 t344 t345 t346 t347 t350).bind fun bt354 => ((spec_ImageRgb.f k t343 t344 t345 t346 t347 t350).bind fun bt366 => ((laws_wiImage.f k bt354.1 bt354.2.1 bt354.2.2.1 bt354.2.2.2.1 bt354.2.2.2.2.1 bt354.2.2.2.2.2.1 bt366.1 bt366.2.1 bt366.2.2.1 bt366.2.2.2.1 bt366.2.2.2.2.1 bt366.2.2.2.2.2.1).bind fun t378 => (if t378 = true then (if (bt354.2.2.2.2.2.2 != bt366.2.2.2.2.2.2) = true then (laws_FnImageRgb.j0 k bt354.2.2.2.2.2.2 true t343 t344 t345 t346 t347 t350 bt354.1 bt354.2.1 bt354.2.2.1 bt354.2.2.2.1 bt354.2.2.2.2.1 bt354.2.2.2.2.2.1) else ((impl_ImageOk.f k t343 t344 t345 t346 t347 t350).bind fun t379 => ((spec_ImageOk.f k t343 t344 t345 t346 t347 t350).bind fun t380 => (laws_FnImageRgb.j0 k bt354.2.2.2.2.2.2 (t379 != t380) t343 t344 t345 t346 t347 t350 bt354.1 bt354.2.1 bt354.2.2.1 bt354.2.2.2.1 bt354.2.2.2.2.1 bt354.2.2.2.2.2.1)))) else (laws_FnImageRgb.j0 k bt354.2.2.2.2.2.2 true t343 t344 t345 t346 t347 t350 bt354.1 bt354.2.1 bt354.2.2.1 bt354.2.2.2.1 bt354.2.2.2.2.1 bt354.2.2.2.2.2.1))))) = some true := H
  have A3 := aM_ A30
  clear A30
  replace H := Option.bind_eq_some_iff.mp H
  obtain ⟨⟨t354, t355, t356, t357, t358, t361, t364⟩, A40, H⟩ := H
  replace H : ((spec_ImageRgb.f k t343 t344 t345 t346 t347 t350).bind fun bt366 => ((laws_wiImage.f k t354 t355 t356 t357 t358 t361 bt366.1 bt366.2.1 bt366.2.2.1 bt366.2.2.2.1 bt366.2.2.2.2.1 bt366.2.2.2.2.2.1).bind fun t378 => (if t378 = true then (if (t364 != bt366.2.2.2.2.2.2) = true then (laws_FnImageRgb.j0 k t364 true t343 t344 t345 t346 t347 t350 t354 t355 t356 t357 t358 t361) else ((impl_ImageOk.f k t343 t344 t345 t346 t347 t350).bind fun t379 => ((spec_ImageOk.f k t343 t344 t345 t346 t347 t350).bind fun t380 => (laws_FnImageRgb.j0 k t364 (t379 != t380) t343 t344 t345 t346 t347 t350 t354 t355 t356 t357 t358 t361)))) else (laws_FnImageRgb.j0 k t364 true t343 t344 t345 t346 t347 t350 t354 t355 t356 t357 t358 t361)))) = some true := H
  have A4 := aM_ A40
  clear A40
  replace H := Option.bind_eq_some_iff.mp H
  obtain ⟨⟨t366, t367, t368, t369, t370, t373, t376⟩, A50, H⟩ := H
  replace H : ((laws_wiImage.f k t354 t355 t356 t357 t358 t361 t366 t367 t368 t369 t370 t373).bind fun t378 => (if t378 = true then (if (t364 != t376) = true then (laws_FnImageRgb.j0 k t364 true t343 t344 t345 t346 t347 t350 t354 t355 t356 t357 t358 t361) else ((impl_ImageOk.f k t343 t344 t345 t346 t347 t350).bind fun t379 => ((spec_ImageOk.f k t343 t344 t345 t346 t347 t350).bind fun t380 => (laws_FnImageRgb.j0 k t364 (t379 != t380) t343 t344 t345 t346 t347 t350 t354 t355 t356 t357 t358 t361)))) else (laws_FnImageRgb.j0 k t364 true t343 t344 t345 t346 t347 t350 t354 t355 t356 t357 t358 t361))) = some true := H
  have A5 := aM_ A50
  clear A50
  have HC6 := aM_ H
  clear H
  go_enter Try.func4, Try.ntmps4
  go_upto_region 6 with (first | ((with_reducible refine gate_callee (f := 20) rfl ?_); refine goesL_ (some 18) rfl rfl Try.func20 (by kernel_rfl) rfl #[.slice A0 l0.length c0] rfl (by (try simp only [List.map_toArray, List.map_cons, List.map_nil]); first | done | rfl | (simp only [List.length_drop, List.length_take]; rfl)) ?_; (with_reducible refine (spec_DrawImageRgb.calls k _ _ l0 t343 t344 t345 t346 t347 t350 _ ?side1 ?side2 A3.out).mono ?_); (case side1 => repeat (first | exact HR0.out | (with_reducible refine Kd.C_alloc ?_ _) | (with_reducible refine Kd.C_drewN ?_ _) | (with_reducible refine Kd.C_drew ?_))); (case side2 => exact HC0.out); rintro e w7 ⟨v348, v351, rfl, ho0, ho1, hb⟩; refine ⟨_, rfl, ?_⟩; have n0_ := aM_ (Kd.R_lower ho0 (below_size (by repeat (first | (with_reducible first | exact HB.out | apply wA_ | apply wN_ | apply wD_) | exact HB.out)))); have n1_ := aM_ (Kd.Q_lower ho1 (below_size (by repeat (first | (with_reducible first | exact HB.out | apply wA_ | apply wN_ | apply wD_) | exact HB.out)))); have n2_ := aM_ (below_step (by repeat (first | (with_reducible first | exact HB.out | apply wA_ | apply wN_ | apply wD_) | exact HB.out)) hb); clear HB; have HO349 := n0_; have HO352 := n1_; have HB := n2_; clear n0_ n1_ n2_; (try clear hb); (try clear hb2); (try clear hk); (try clear hi); (try clear ho0); (try clear ho1)) | ((with_reducible refine gate_dst (N := 3) rfl ?_); refine box_event ?hg (N := 3) ?hd (cs := #[.int .i64 0, .int .i64 0, .int .i64 0, .int .i64 0, .slice none 0 0, .slice none 0 0]) (t := 25) ?hr ?_; (case hd => rfl); (case hg => rfl); (case hr => first | (go_simp; done) | (go_simp; rfl)); intro gb353 hg w8 hbox hb; have n0_ := aM_ (Kd.R_below (by (with_reducible repeat (first | apply rA_ | apply rN_ | apply rD_)); exact HO349.out) hb); have n1_ := aM_ (Kd.Q_below (by (with_reducible repeat (first | apply Kd.Q_alloc | apply Kd.Q_drewN | apply Kd.Q_drew)); exact HO352.out) hb); have n2_ := aM_ (below_step (by repeat (first | (with_reducible first | exact HB.out | apply wA_ | apply wN_ | apply wD_) | exact HB.out)) hb); have n3_ := aM_ (hbox); have n4_ := aM_ ((by rw [hg]; exact (below_size (by repeat (first | (with_reducible first | exact HB.out | apply wA_ | apply wN_ | apply wD_) | exact HB.out))) : w.heap.size ≤ gb353)); have n5_ := aM_ ((by rw [hg]; exact (below_size (by repeat (first | (with_reducible first | exact HB.out | apply wA_ | apply wN_ | apply wD_) | exact HB.out))) : w.heap.size ≤ gb353)); clear HO349; clear HO352; clear HB; have HO349 := n0_; have HO352 := n1_; have HB := n2_; have BK353 := n3_; have GW353 := n4_; have GE353 := n5_; clear n0_ n1_ n2_ n3_ n4_ n5_; clear hb hbox hg; obtain ⟨hcz9_0, hcz9_1, hcz9_2, hcz9_3, hcz9_4, hcz9_5⟩ := bc6 BK353.out; obtain ⟨hfz9_0, hfz9_1, hfz9_2, hfz9_3, hfz9_4, hfz9_5⟩ := bf6 BK353.out; obtain ⟨Ao10, co10, eo10⟩ := Kd.R_slice HO349.out; subst eo10; obtain ⟨Ao11, co11, eo11, _⟩ := Kd.Q_slice HO352.out; subst eo11) | ((with_reducible refine gate_callee (f := 21) rfl ?_); refine goesL_ (some 21) rfl rfl Try.func21 (by kernel_rfl) rfl #[.agg #[.int .i64 t343, .int .i64 t344, .int .i64 t345, .int .i64 t346, .slice Ao10 t347.length co10, .slice Ao11 t350.length co11]] rfl (by (try simp only [List.map_toArray, List.map_cons, List.map_nil]); first | done | rfl | (simp only [List.length_drop, List.length_take]; rfl)) ?_; (with_reducible refine (impl_ImageRgb.calls k t343 t344 t345 t346 _ _ t347 _ _ t350 t354 t355 t356 t357 t358 t361 t364 _ ?side1 ?side2 ?side3 ?side4 A4.out).mono ?_); (case side1 => refine (Kd.R_reads' (e := 3) (base := w.heap.size) (ok := fun k_ => some k_ ≠ (.slice Ao11 t350.length co11 : Value).ownBlock) (n := t347.length) (c := co10) ?_).2.2; exact (by (with_reducible repeat (first | apply rA_ | apply rN_ | apply rD_)); exact (Kd.R_mono (Kd.R_far (Kd.R_far (Kd.R_far (Kd.R_far (Kd.R_far (Kd.R_far (Kd.R_types HO349.out BK353.out (by decide)) (fun _ hk => hk.2) (.int .i64 t343)) (fun _ hk => hk.2) (.int .i64 t344)) (fun _ hk => hk.2) (.int .i64 t345)) (fun _ hk => hk.2) (.int .i64 t346)) (fun _ hk => hk.2) (.slice Ao10 t347.length co10)) (fun _ hk => hk.2) (.slice Ao11 t350.length co11)) (fun _ h_ => h_.1)))); (case side2 => exact (Kd.R_reads' HO349.out).2.1); (case side3 => refine (Kd.Q_reads' (e := 3) (base := w.heap.size) (ok := fun k_ => some k_ ≠ (.slice Ao10 t347.length co10 : Value).ownBlock) (n := t350.length) (c := co11) ?_).2.2; exact (by (with_reducible repeat (first | apply Kd.Q_alloc | apply Kd.Q_drewN | apply Kd.Q_drew)); exact (Kd.Q_mono (Kd.Q_far (Kd.Q_far (Kd.Q_far (Kd.Q_far (Kd.Q_far (Kd.Q_far (Kd.Q_types HO352.out BK353.out (by decide)) (fun _ hk => hk.2) (.int .i64 t343)) (fun _ hk => hk.2) (.int .i64 t344)) (fun _ hk => hk.2) (.int .i64 t345)) (fun _ hk => hk.2) (.int .i64 t346)) (fun _ hk => hk.2) (.slice Ao10 t347.length co10)) (fun _ hk => hk.2) (.slice Ao11 t350.length co11)) (fun _ h_ => h_.1)))); (case side4 => exact (Kd.Q_reads' HO352.out).2.1); rintro e w12 ⟨v359, v362, rfl, ho0, ho1, hb⟩; refine ⟨_, rfl, ?_⟩; have n0_ := aM_ (Kd.R_mono (Kd.R_told (Kd.R_told (Kd.R_old (by (with_reducible repeat (first | apply rA_ | apply rN_ | apply rD_)); exact (Kd.R_mono (Kd.R_far (Kd.R_far (Kd.R_far (Kd.R_far (Kd.R_far (Kd.R_far (Kd.R_types HO349.out BK353.out (by decide)) (fun _ hk => hk.2) (.int .i64 t343)) (fun _ hk => hk.2) (.int .i64 t344)) (fun _ hk => hk.2) (.int .i64 t345)) (fun _ hk => hk.2) (.int .i64 t346)) (fun _ hk => hk.2) (.slice Ao10 t347.length co10)) (fun _ hk => hk.2) (.slice Ao11 t350.length co11)) (fun _ h_ => h_.1))) hb) (Kd.R_base ho0)) (Kd.R_base ho1)) (fun _ h_ => h_.1)); have n1_ := aM_ (Kd.Q_mono (Kd.Q_told (Kd.Q_told (Kd.Q_old (by (with_reducible repeat (first | apply Kd.Q_alloc | apply Kd.Q_drewN | apply Kd.Q_drew)); exact (Kd.Q_mono (Kd.Q_far (Kd.Q_far (Kd.Q_far (Kd.Q_far (Kd.Q_far (Kd.Q_far (Kd.Q_types HO352.out BK353.out (by decide)) (fun _ hk => hk.2) (.int .i64 t343)) (fun _ hk => hk.2) (.int .i64 t344)) (fun _ hk => hk.2) (.int .i64 t345)) (fun _ hk => hk.2) (.int .i64 t346)) (fun _ hk => hk.2) (.slice Ao10 t347.length co10)) (fun _ hk => hk.2) (.slice Ao11 t350.length co11)) (fun _ h_ => h_.1))) hb) (Kd.R_base ho0)) (Kd.R_base ho1)) (fun _ h_ => h_.1)); have n2_ := aM_ (Kd.R_lower (Kd.R_new' (Kd.R_new' ho0 (Kd.R_lt (by (with_reducible repeat (first | apply rA_ | apply rN_ | apply rD_)); exact (Kd.R_mono (Kd.R_far (Kd.R_far (Kd.R_far (Kd.R_far (Kd.R_far (Kd.R_far (Kd.R_types HO349.out BK353.out (by decide)) (fun _ hk => hk.2) (.int .i64 t343)) (fun _ hk => hk.2) (.int .i64 t344)) (fun _ hk => hk.2) (.int .i64 t345)) (fun _ hk => hk.2) (.int .i64 t346)) (fun _ hk => hk.2) (.slice Ao10 t347.length co10)) (fun _ hk => hk.2) (.slice Ao11 t350.length co11)) (fun _ h_ => h_.1))))) (Kd.Q_lt (by (with_reducible repeat (first | apply Kd.Q_alloc | apply Kd.Q_drewN | apply Kd.Q_drew)); exact (Kd.Q_mono (Kd.Q_far (Kd.Q_far (Kd.Q_far (Kd.Q_far (Kd.Q_far (Kd.Q_far (Kd.Q_types HO352.out BK353.out (by decide)) (fun _ hk => hk.2) (.int .i64 t343)) (fun _ hk => hk.2) (.int .i64 t344)) (fun _ hk => hk.2) (.int .i64 t345)) (fun _ hk => hk.2) (.int .i64 t346)) (fun _ hk => hk.2) (.slice Ao10 t347.length co10)) (fun _ hk => hk.2) (.slice Ao11 t350.length co11)) (fun _ h_ => h_.1))))) (below_size (by repeat (first | (with_reducible first | exact HB.out | apply wA_ | apply wN_ | apply wD_ | refine below_set ?_ GE353.out) | exact HB.out)))); have n3_ := aM_ (Kd.R_lower (Kd.R_new' (Kd.R_new' ho1 (Kd.R_lt (by (with_reducible repeat (first | apply rA_ | apply rN_ | apply rD_)); exact (Kd.R_mono (Kd.R_far (Kd.R_far (Kd.R_far (Kd.R_far (Kd.R_far (Kd.R_far (Kd.R_types HO349.out BK353.out (by decide)) (fun _ hk => hk.2) (.int .i64 t343)) (fun _ hk => hk.2) (.int .i64 t344)) (fun _ hk => hk.2) (.int .i64 t345)) (fun _ hk => hk.2) (.int .i64 t346)) (fun _ hk => hk.2) (.slice Ao10 t347.length co10)) (fun _ hk => hk.2) (.slice Ao11 t350.length co11)) (fun _ h_ => h_.1))))) (Kd.Q_lt (by (with_reducible repeat (first | apply Kd.Q_alloc | apply Kd.Q_drewN | apply Kd.Q_drew)); exact (Kd.Q_mono (Kd.Q_far (Kd.Q_far (Kd.Q_far (Kd.Q_far (Kd.Q_far (Kd.Q_far (Kd.Q_types HO352.out BK353.out (by decide)) (fun _ hk => hk.2) (.int .i64 t343)) (fun _ hk => hk.2) (.int .i64 t344)) (fun _ hk => hk.2) (.int .i64 t345)) (fun _ hk => hk.2) (.int .i64 t346)) (fun _ hk => hk.2) (.slice Ao10 t347.length co10)) (fun _ hk => hk.2) (.slice Ao11 t350.length co11)) (fun _ h_ => h_.1))))) (below_size (by repeat (first | (with_reducible first | exact HB.out | apply wA_ | apply wN_ | apply wD_ | refine below_set ?_ GE353.out) | exact HB.out)))); have n4_ := aM_ (blk_below (g := gb353) (o := .cells #[.int .i64 t343, .int .i64 t344, .int .i64 t345, .int .i64 t346, .slice Ao10 t347.length co10, .slice Ao11 t350.length co11] 25 (0, 0)) (by (with_reducible repeat (first | apply kN_ | apply kD_ | apply kA_)); refine blk_put (cs := #[.int .i64 t343, .int .i64 t344, .int .i64 t345, .int .i64 t346, .slice Ao10 t347.length co10, .slice none 0 0]) ?_ 5 _ rfl; (with_reducible repeat (first | apply kN_ | apply kD_ | apply kA_)); refine blk_put (cs := #[.int .i64 t343, .int .i64 t344, .int .i64 t345, .int .i64 t346, .slice none 0 0, .slice none 0 0]) ?_ 4 _ rfl; (with_reducible repeat (first | apply kN_ | apply kD_ | apply kA_)); refine blk_put (cs := #[.int .i64 t343, .int .i64 t344, .int .i64 t345, .int .i64 0, .slice none 0 0, .slice none 0 0]) ?_ 3 _ rfl; (with_reducible repeat (first | apply kN_ | apply kD_ | apply kA_)); refine blk_put (cs := #[.int .i64 t343, .int .i64 t344, .int .i64 0, .int .i64 0, .slice none 0 0, .slice none 0 0]) ?_ 2 _ rfl; (with_reducible repeat (first | apply kN_ | apply kD_ | apply kA_)); refine blk_put (cs := #[.int .i64 t343, .int .i64 0, .int .i64 0, .int .i64 0, .slice none 0 0, .slice none 0 0]) ?_ 1 _ rfl; (with_reducible repeat (first | apply kN_ | apply kD_ | apply kA_)); refine blk_put (cs := #[.int .i64 0, .int .i64 0, .int .i64 0, .int .i64 0, .slice none 0 0, .slice none 0 0]) ?_ 0 _ rfl; (with_reducible repeat (first | apply kN_ | apply kD_ | apply kA_)); exact BK353.out) hb); have n5_ := aM_ (below_step (by repeat (first | (with_reducible first | exact HB.out | apply wA_ | apply wN_ | apply wD_ | refine below_set ?_ GE353.out) | exact HB.out)) hb); clear HO349; clear HO352; clear BK353; clear HB; have HO349 := n0_; have HO352 := n1_; have HO360 := n2_; have HO363 := n3_; have BK353 := n4_; have HB := n5_; clear n0_ n1_ n2_ n3_ n4_ n5_; (try clear hb); (try clear hb2); (try clear hk); (try clear hi); (try clear ho0); (try clear ho1)) | ((with_reducible refine gate_dst (N := 4) rfl ?_); refine box_event ?hg (N := 4) ?hd (cs := #[.int .i64 0, .int .i64 0, .int .i64 0, .int .i64 0, .slice none 0 0, .slice none 0 0]) (t := 25) ?hr ?_; (case hd => rfl); (case hg => rfl); (case hr => first | (go_simp; done) | (go_simp; rfl)); intro gb365 hg w13 hbox hb; have n0_ := aM_ (Kd.R_below (by (with_reducible repeat (first | apply rA_ | apply rN_ | apply rD_)); exact HO349.out) hb); have n1_ := aM_ (Kd.Q_below (by (with_reducible repeat (first | apply Kd.Q_alloc | apply Kd.Q_drewN | apply Kd.Q_drew)); exact HO352.out) hb); have n2_ := aM_ (Kd.R_below (by (with_reducible repeat (first | apply rA_ | apply rN_ | apply rD_)); exact HO360.out) hb); have n3_ := aM_ (Kd.R_below (by (with_reducible repeat (first | apply rA_ | apply rN_ | apply rD_)); exact HO363.out) hb); have n4_ := aM_ (blk_below (g := gb353) (by (with_reducible repeat (first | apply kN_ | apply kD_ | apply kA_)); exact BK353.out) hb); have n5_ := aM_ (below_step (by repeat (first | (with_reducible first | exact HB.out | apply wA_ | apply wN_ | apply wD_ | refine below_set ?_ GE353.out) | exact HB.out)) hb); have n6_ := aM_ (hbox); have n7_ := aM_ ((by rw [hg]; exact (below_size (by repeat (first | (with_reducible first | exact HB.out | apply wA_ | apply wN_ | apply wD_ | refine below_set ?_ GE353.out) | exact HB.out))) : w.heap.size ≤ gb365)); have n8_ := aM_ ((by rw [hg]; exact (below_size (by repeat (first | (with_reducible first | exact HB.out | apply wA_ | apply wN_ | apply wD_ | refine below_set ?_ GE353.out) | exact HB.out))) : w.heap.size ≤ gb365)); have n9_ := aM_ ((by rw [hg]; exact Nat.ne_of_lt (blk_lt (g := gb353) (by (with_reducible repeat (first | apply kN_ | apply kD_ | apply kA_)); exact BK353.out)) : gb353 ≠ gb365)); have n10_ := aM_ n9_.out.symm; clear HO349; clear HO352; clear HO360; clear HO363; clear BK353; clear HB; have HO349 := n0_; have HO352 := n1_; have HO360 := n2_; have HO363 := n3_; have BK353 := n4_; have HB := n5_; have BK365 := n6_; have GW365 := n7_; have GE365 := n8_; have NB353_365 := n9_; have NB365_353 := n10_; clear n0_ n1_ n2_ n3_ n4_ n5_ n6_ n7_ n8_ n9_ n10_; clear hb hbox hg; have hnb14 := NB365_353.out; have hnc14 := NB353_365.out; obtain ⟨hcz15_0, hcz15_1, hcz15_2, hcz15_3, hcz15_4, hcz15_5⟩ := bc6 BK365.out; obtain ⟨hfz15_0, hfz15_1, hfz15_2, hfz15_3, hfz15_4, hfz15_5⟩ := bf6 BK365.out; obtain ⟨Ao16, co16, eo16⟩ := Kd.R_slice HO360.out; subst eo16; obtain ⟨Ao17, co17, eo17⟩ := Kd.R_slice HO363.out; subst eo17; obtain ⟨hcz18_0, hcz18_1, hcz18_2, hcz18_3, hcz18_4, hcz18_5⟩ := bc6 BK353.out; obtain ⟨hfz18_0, hfz18_1, hfz18_2, hfz18_3, hfz18_4, hfz18_5⟩ := bf6 BK353.out) | ((with_reducible refine gate_callee (f := 22) rfl ?_); refine goesL_ (some 26) rfl rfl Try.func22 (by kernel_rfl) rfl #[.agg #[.int .i64 t343, .int .i64 t344, .int .i64 t345, .int .i64 t346, .slice Ao10 t347.length co10, .slice Ao11 t350.length co11]] rfl (by (try simp only [List.map_toArray, List.map_cons, List.map_nil]); first | done | rfl | (simp only [List.length_drop, List.length_take]; rfl)) ?_; (with_reducible refine (spec_ImageRgb.calls k t343 t344 t345 t346 _ _ t347 _ _ t350 t366 t367 t368 t369 t370 t373 t376 _ ?side1 ?side2 ?side3 ?side4 A5.out).mono ?_); (case side1 => refine (Kd.R_reads' (e := 3) (base := w.heap.size) (ok := fun k_ => ((some k_ ≠ (.slice Ao11 t350.length co11 : Value).ownBlock ∧ some k_ ≠ (.slice Ao16 t358.length co16 : Value).ownBlock) ∧ some k_ ≠ (.slice Ao17 t361.length co17 : Value).ownBlock)) (n := t347.length) (c := co10) ?_).2.2; exact (by (with_reducible repeat (first | apply rA_ | apply rN_ | apply rD_)); exact (Kd.R_mono (Kd.R_far (Kd.R_far (Kd.R_far (Kd.R_far (Kd.R_far (Kd.R_far (Kd.R_types HO349.out BK365.out (by decide)) (fun _ hk => hk.2) (.int .i64 t354)) (fun _ hk => hk.2) (.int .i64 t355)) (fun _ hk => hk.2) (.int .i64 t356)) (fun _ hk => hk.2) (.int .i64 t357)) (fun _ hk => hk.2) (.slice Ao16 t358.length co16)) (fun _ hk => hk.2) (.slice Ao17 t361.length co17)) (fun _ h_ => h_.1)))); (case side2 => exact (Kd.R_reads' HO349.out).2.1); (case side3 => refine (Kd.Q_reads' (e := 3) (base := w.heap.size) (ok := fun k_ => ((some k_ ≠ (.slice Ao10 t347.length co10 : Value).ownBlock ∧ some k_ ≠ (.slice Ao16 t358.length co16 : Value).ownBlock) ∧ some k_ ≠ (.slice Ao17 t361.length co17 : Value).ownBlock)) (n := t350.length) (c := co11) ?_).2.2; exact (by (with_reducible repeat (first | apply Kd.Q_alloc | apply Kd.Q_drewN | apply Kd.Q_drew)); exact (Kd.Q_mono (Kd.Q_far (Kd.Q_far (Kd.Q_far (Kd.Q_far (Kd.Q_far (Kd.Q_far (Kd.Q_types HO352.out BK365.out (by decide)) (fun _ hk => hk.2) (.int .i64 t354)) (fun _ hk => hk.2) (.int .i64 t355)) (fun _ hk => hk.2) (.int .i64 t356)) (fun _ hk => hk.2) (.int .i64 t357)) (fun _ hk => hk.2) (.slice Ao16 t358.length co16)) (fun _ hk => hk.2) (.slice Ao17 t361.length co17)) (fun _ h_ => h_.1)))); (case side4 => exact (Kd.Q_reads' HO352.out).2.1); rintro e w19 ⟨v371, v374, rfl, ho0, ho1, hb⟩; refine ⟨_, rfl, ?_⟩; have n0_ := aM_ (Kd.R_mono (Kd.R_told (Kd.R_told (Kd.R_old (by (with_reducible repeat (first | apply rA_ | apply rN_ | apply rD_)); exact (Kd.R_mono (Kd.R_far (Kd.R_far (Kd.R_far (Kd.R_far (Kd.R_far (Kd.R_far (Kd.R_types HO349.out BK365.out (by decide)) (fun _ hk => hk.2) (.int .i64 t354)) (fun _ hk => hk.2) (.int .i64 t355)) (fun _ hk => hk.2) (.int .i64 t356)) (fun _ hk => hk.2) (.int .i64 t357)) (fun _ hk => hk.2) (.slice Ao16 t358.length co16)) (fun _ hk => hk.2) (.slice Ao17 t361.length co17)) (fun _ h_ => h_.1))) hb) (Kd.R_base ho0)) (Kd.R_base ho1)) (fun _ h_ => h_.1)); have n1_ := aM_ (Kd.Q_mono (Kd.Q_told (Kd.Q_told (Kd.Q_old (by (with_reducible repeat (first | apply Kd.Q_alloc | apply Kd.Q_drewN | apply Kd.Q_drew)); exact (Kd.Q_mono (Kd.Q_far (Kd.Q_far (Kd.Q_far (Kd.Q_far (Kd.Q_far (Kd.Q_far (Kd.Q_types HO352.out BK365.out (by decide)) (fun _ hk => hk.2) (.int .i64 t354)) (fun _ hk => hk.2) (.int .i64 t355)) (fun _ hk => hk.2) (.int .i64 t356)) (fun _ hk => hk.2) (.int .i64 t357)) (fun _ hk => hk.2) (.slice Ao16 t358.length co16)) (fun _ hk => hk.2) (.slice Ao17 t361.length co17)) (fun _ h_ => h_.1))) hb) (Kd.R_base ho0)) (Kd.R_base ho1)) (fun _ h_ => h_.1)); have n2_ := aM_ (Kd.R_mono (Kd.R_told (Kd.R_told (Kd.R_old (by (with_reducible repeat (first | apply rA_ | apply rN_ | apply rD_)); exact (Kd.R_mono (Kd.R_far (Kd.R_far (Kd.R_far (Kd.R_far (Kd.R_far (Kd.R_far (Kd.R_types HO360.out BK365.out (by decide)) (fun _ hk => hk.2) (.int .i64 t354)) (fun _ hk => hk.2) (.int .i64 t355)) (fun _ hk => hk.2) (.int .i64 t356)) (fun _ hk => hk.2) (.int .i64 t357)) (fun _ hk => hk.2) (.slice Ao16 t358.length co16)) (fun _ hk => hk.2) (.slice Ao17 t361.length co17)) (fun _ h_ => h_.1))) hb) (Kd.R_base ho0)) (Kd.R_base ho1)) (fun _ h_ => h_.1)); have n3_ := aM_ (Kd.R_mono (Kd.R_told (Kd.R_told (Kd.R_old (by (with_reducible repeat (first | apply rA_ | apply rN_ | apply rD_)); exact (Kd.R_mono (Kd.R_far (Kd.R_far (Kd.R_far (Kd.R_far (Kd.R_far (Kd.R_far (Kd.R_types HO363.out BK365.out (by decide)) (fun _ hk => hk.2) (.int .i64 t354)) (fun _ hk => hk.2) (.int .i64 t355)) (fun _ hk => hk.2) (.int .i64 t356)) (fun _ hk => hk.2) (.int .i64 t357)) (fun _ hk => hk.2) (.slice Ao16 t358.length co16)) (fun _ hk => hk.2) (.slice Ao17 t361.length co17)) (fun _ h_ => h_.1))) hb) (Kd.R_base ho0)) (Kd.R_base ho1)) (fun _ h_ => h_.1)); have n4_ := aM_ (Kd.R_lower (Kd.R_new' (Kd.R_new' (Kd.R_new' (Kd.R_new' ho0 (Kd.R_lt (by (with_reducible repeat (first | apply rA_ | apply rN_ | apply rD_)); exact (Kd.R_mono (Kd.R_far (Kd.R_far (Kd.R_far (Kd.R_far (Kd.R_far (Kd.R_far (Kd.R_types HO349.out BK365.out (by decide)) (fun _ hk => hk.2) (.int .i64 t354)) (fun _ hk => hk.2) (.int .i64 t355)) (fun _ hk => hk.2) (.int .i64 t356)) (fun _ hk => hk.2) (.int .i64 t357)) (fun _ hk => hk.2) (.slice Ao16 t358.length co16)) (fun _ hk => hk.2) (.slice Ao17 t361.length co17)) (fun _ h_ => h_.1))))) (Kd.Q_lt (by (with_reducible repeat (first | apply Kd.Q_alloc | apply Kd.Q_drewN | apply Kd.Q_drew)); exact (Kd.Q_mono (Kd.Q_far (Kd.Q_far (Kd.Q_far (Kd.Q_far (Kd.Q_far (Kd.Q_far (Kd.Q_types HO352.out BK365.out (by decide)) (fun _ hk => hk.2) (.int .i64 t354)) (fun _ hk => hk.2) (.int .i64 t355)) (fun _ hk => hk.2) (.int .i64 t356)) (fun _ hk => hk.2) (.int .i64 t357)) (fun _ hk => hk.2) (.slice Ao16 t358.length co16)) (fun _ hk => hk.2) (.slice Ao17 t361.length co17)) (fun _ h_ => h_.1))))) (Kd.R_lt (by (with_reducible repeat (first | apply rA_ | apply rN_ | apply rD_)); exact (Kd.R_mono (Kd.R_far (Kd.R_far (Kd.R_far (Kd.R_far (Kd.R_far (Kd.R_far (Kd.R_types HO360.out BK365.out (by decide)) (fun _ hk => hk.2) (.int .i64 t354)) (fun _ hk => hk.2) (.int .i64 t355)) (fun _ hk => hk.2) (.int .i64 t356)) (fun _ hk => hk.2) (.int .i64 t357)) (fun _ hk => hk.2) (.slice Ao16 t358.length co16)) (fun _ hk => hk.2) (.slice Ao17 t361.length co17)) (fun _ h_ => h_.1))))) (Kd.R_lt (by (with_reducible repeat (first | apply rA_ | apply rN_ | apply rD_)); exact (Kd.R_mono (Kd.R_far (Kd.R_far (Kd.R_far (Kd.R_far (Kd.R_far (Kd.R_far (Kd.R_types HO363.out BK365.out (by decide)) (fun _ hk => hk.2) (.int .i64 t354)) (fun _ hk => hk.2) (.int .i64 t355)) (fun _ hk => hk.2) (.int .i64 t356)) (fun _ hk => hk.2) (.int .i64 t357)) (fun _ hk => hk.2) (.slice Ao16 t358.length co16)) (fun _ hk => hk.2) (.slice Ao17 t361.length co17)) (fun _ h_ => h_.1))))) (below_size (by repeat (first | (with_reducible first | exact HB.out | apply wA_ | apply wN_ | apply wD_ | refine below_set ?_ GE353.out | refine below_set ?_ GE365.out) | exact HB.out)))); have n5_ := aM_ (Kd.R_lower (Kd.R_new' (Kd.R_new' (Kd.R_new' (Kd.R_new' ho1 (Kd.R_lt (by (with_reducible repeat (first | apply rA_ | apply rN_ | apply rD_)); exact (Kd.R_mono (Kd.R_far (Kd.R_far (Kd.R_far (Kd.R_far (Kd.R_far (Kd.R_far (Kd.R_types HO349.out BK365.out (by decide)) (fun _ hk => hk.2) (.int .i64 t354)) (fun _ hk => hk.2) (.int .i64 t355)) (fun _ hk => hk.2) (.int .i64 t356)) (fun _ hk => hk.2) (.int .i64 t357)) (fun _ hk => hk.2) (.slice Ao16 t358.length co16)) (fun _ hk => hk.2) (.slice Ao17 t361.length co17)) (fun _ h_ => h_.1))))) (Kd.Q_lt (by (with_reducible repeat (first | apply Kd.Q_alloc | apply Kd.Q_drewN | apply Kd.Q_drew)); exact (Kd.Q_mono (Kd.Q_far (Kd.Q_far (Kd.Q_far (Kd.Q_far (Kd.Q_far (Kd.Q_far (Kd.Q_types HO352.out BK365.out (by decide)) (fun _ hk => hk.2) (.int .i64 t354)) (fun _ hk => hk.2) (.int .i64 t355)) (fun _ hk => hk.2) (.int .i64 t356)) (fun _ hk => hk.2) (.int .i64 t357)) (fun _ hk => hk.2) (.slice Ao16 t358.length co16)) (fun _ hk => hk.2) (.slice Ao17 t361.length co17)) (fun _ h_ => h_.1))))) (Kd.R_lt (by (with_reducible repeat (first | apply rA_ | apply rN_ | apply rD_)); exact (Kd.R_mono (Kd.R_far (Kd.R_far (Kd.R_far (Kd.R_far (Kd.R_far (Kd.R_far (Kd.R_types HO360.out BK365.out (by decide)) (fun _ hk => hk.2) (.int .i64 t354)) (fun _ hk => hk.2) (.int .i64 t355)) (fun _ hk => hk.2) (.int .i64 t356)) (fun _ hk => hk.2) (.int .i64 t357)) (fun _ hk => hk.2) (.slice Ao16 t358.length co16)) (fun _ hk => hk.2) (.slice Ao17 t361.length co17)) (fun _ h_ => h_.1))))) (Kd.R_lt (by (with_reducible repeat (first | apply rA_ | apply rN_ | apply rD_)); exact (Kd.R_mono (Kd.R_far (Kd.R_far (Kd.R_far (Kd.R_far (Kd.R_far (Kd.R_far (Kd.R_types HO363.out BK365.out (by decide)) (fun _ hk => hk.2) (.int .i64 t354)) (fun _ hk => hk.2) (.int .i64 t355)) (fun _ hk => hk.2) (.int .i64 t356)) (fun _ hk => hk.2) (.int .i64 t357)) (fun _ hk => hk.2) (.slice Ao16 t358.length co16)) (fun _ hk => hk.2) (.slice Ao17 t361.length co17)) (fun _ h_ => h_.1))))) (below_size (by repeat (first | (with_reducible first | exact HB.out | apply wA_ | apply wN_ | apply wD_ | refine below_set ?_ GE353.out | refine below_set ?_ GE365.out) | exact HB.out)))); have n6_ := aM_ (blk_below (g := gb353) (o := .cells #[.int .i64 t343, .int .i64 t344, .int .i64 t345, .int .i64 t346, .slice Ao10 t347.length co10, .slice Ao11 t350.length co11] 25 (0, 0)) (by (with_reducible repeat (first | apply kN_ | apply kD_ | apply kA_)); refine blk_far ?_ NB353_365.out _; (with_reducible repeat (first | apply kN_ | apply kD_ | apply kA_)); refine blk_far ?_ NB353_365.out _; (with_reducible repeat (first | apply kN_ | apply kD_ | apply kA_)); refine blk_far ?_ NB353_365.out _; (with_reducible repeat (first | apply kN_ | apply kD_ | apply kA_)); refine blk_far ?_ NB353_365.out _; (with_reducible repeat (first | apply kN_ | apply kD_ | apply kA_)); refine blk_far ?_ NB353_365.out _; (with_reducible repeat (first | apply kN_ | apply kD_ | apply kA_)); refine blk_far ?_ NB353_365.out _; (with_reducible repeat (first | apply kN_ | apply kD_ | apply kA_)); exact BK353.out) hb); have n7_ := aM_ (blk_below (g := gb365) (o := .cells #[.int .i64 t354, .int .i64 t355, .int .i64 t356, .int .i64 t357, .slice Ao16 t358.length co16, .slice Ao17 t361.length co17] 25 (0, 0)) (by (with_reducible repeat (first | apply kN_ | apply kD_ | apply kA_)); refine blk_put (cs := #[.int .i64 t354, .int .i64 t355, .int .i64 t356, .int .i64 t357, .slice Ao16 t358.length co16, .slice none 0 0]) ?_ 5 _ rfl; (with_reducible repeat (first | apply kN_ | apply kD_ | apply kA_)); refine blk_put (cs := #[.int .i64 t354, .int .i64 t355, .int .i64 t356, .int .i64 t357, .slice none 0 0, .slice none 0 0]) ?_ 4 _ rfl; (with_reducible repeat (first | apply kN_ | apply kD_ | apply kA_)); refine blk_put (cs := #[.int .i64 t354, .int .i64 t355, .int .i64 t356, .int .i64 0, .slice none 0 0, .slice none 0 0]) ?_ 3 _ rfl; (with_reducible repeat (first | apply kN_ | apply kD_ | apply kA_)); refine blk_put (cs := #[.int .i64 t354, .int .i64 t355, .int .i64 0, .int .i64 0, .slice none 0 0, .slice none 0 0]) ?_ 2 _ rfl; (with_reducible repeat (first | apply kN_ | apply kD_ | apply kA_)); refine blk_put (cs := #[.int .i64 t354, .int .i64 0, .int .i64 0, .int .i64 0, .slice none 0 0, .slice none 0 0]) ?_ 1 _ rfl; (with_reducible repeat (first | apply kN_ | apply kD_ | apply kA_)); refine blk_put (cs := #[.int .i64 0, .int .i64 0, .int .i64 0, .int .i64 0, .slice none 0 0, .slice none 0 0]) ?_ 0 _ rfl; (with_reducible repeat (first | apply kN_ | apply kD_ | apply kA_)); exact BK365.out) hb); have n8_ := aM_ (below_step (by repeat (first | (with_reducible first | exact HB.out | apply wA_ | apply wN_ | apply wD_ | refine below_set ?_ GE353.out | refine below_set ?_ GE365.out) | exact HB.out)) hb); clear HO349; clear HO352; clear HO360; clear HO363; clear BK353; clear BK365; clear HB; have HO349 := n0_; have HO352 := n1_; have HO360 := n2_; have HO363 := n3_; have HO372 := n4_; have HO375 := n5_; have BK353 := n6_; have BK365 := n7_; have HB := n8_; clear n0_ n1_ n2_ n3_ n4_ n5_ n6_ n7_ n8_; (try clear hb); (try clear hb2); (try clear hk); (try clear hi); (try clear ho0); (try clear ho1)) | ((with_reducible refine gate_dst (N := 6) rfl ?_); refine box_event ?hg (N := 6) ?hd (cs := #[.int .i64 0, .int .i64 0, .int .i64 0, .int .i64 0, .slice none 0 0, .slice none 0 0]) (t := 25) ?hr ?_; (case hd => rfl); (case hg => rfl); (case hr => first | (go_simp; done) | (go_simp; rfl)); intro gb377 hg w20 hbox hb; have n0_ := aM_ (Kd.R_below (by (with_reducible repeat (first | apply rA_ | apply rN_ | apply rD_)); exact HO349.out) hb); have n1_ := aM_ (Kd.Q_below (by (with_reducible repeat (first | apply Kd.Q_alloc | apply Kd.Q_drewN | apply Kd.Q_drew)); exact HO352.out) hb); have n2_ := aM_ (Kd.R_below (by (with_reducible repeat (first | apply rA_ | apply rN_ | apply rD_)); exact HO360.out) hb); have n3_ := aM_ (Kd.R_below (by (with_reducible repeat (first | apply rA_ | apply rN_ | apply rD_)); exact HO363.out) hb); have n4_ := aM_ (Kd.R_below (by (with_reducible repeat (first | apply rA_ | apply rN_ | apply rD_)); exact HO372.out) hb); have n5_ := aM_ (Kd.R_below (by (with_reducible repeat (first | apply rA_ | apply rN_ | apply rD_)); exact HO375.out) hb); have n6_ := aM_ (blk_below (g := gb353) (by (with_reducible repeat (first | apply kN_ | apply kD_ | apply kA_)); exact BK353.out) hb); have n7_ := aM_ (blk_below (g := gb365) (by (with_reducible repeat (first | apply kN_ | apply kD_ | apply kA_)); exact BK365.out) hb); have n8_ := aM_ (below_step (by repeat (first | (with_reducible first | exact HB.out | apply wA_ | apply wN_ | apply wD_ | refine below_set ?_ GE353.out | refine below_set ?_ GE365.out) | exact HB.out)) hb); have n9_ := aM_ (hbox); have n10_ := aM_ ((by rw [hg]; exact (below_size (by repeat (first | (with_reducible first | exact HB.out | apply wA_ | apply wN_ | apply wD_ | refine below_set ?_ GE353.out | refine below_set ?_ GE365.out) | exact HB.out))) : w.heap.size ≤ gb377)); have n11_ := aM_ ((by rw [hg]; exact (below_size (by repeat (first | (with_reducible first | exact HB.out | apply wA_ | apply wN_ | apply wD_ | refine below_set ?_ GE353.out | refine below_set ?_ GE365.out) | exact HB.out))) : w.heap.size ≤ gb377)); have n12_ := aM_ ((by rw [hg]; exact Nat.ne_of_lt (blk_lt (g := gb353) (by (with_reducible repeat (first | apply kN_ | apply kD_ | apply kA_)); exact BK353.out)) : gb353 ≠ gb377)); have n13_ := aM_ n12_.out.symm; have n14_ := aM_ ((by rw [hg]; exact Nat.ne_of_lt (blk_lt (g := gb365) (by (with_reducible repeat (first | apply kN_ | apply kD_ | apply kA_)); exact BK365.out)) : gb365 ≠ gb377)); have n15_ := aM_ n14_.out.symm; clear HO349; clear HO352; clear HO360; clear HO363; clear HO372; clear HO375; clear BK353; clear BK365; clear HB; have HO349 := n0_; have HO352 := n1_; have HO360 := n2_; have HO363 := n3_; have HO372 := n4_; have HO375 := n5_; have BK353 := n6_; have BK365 := n7_; have HB := n8_; have BK377 := n9_; have GW377 := n10_; have GE377 := n11_; have NB353_377 := n12_; have NB377_353 := n13_; have NB365_377 := n14_; have NB377_365 := n15_; clear n0_ n1_ n2_ n3_ n4_ n5_ n6_ n7_ n8_ n9_ n10_ n11_ n12_ n13_ n14_ n15_; clear hb hbox hg; have hnb21 := NB377_353.out; have hnc21 := NB353_377.out; have hnb22 := NB377_365.out; have hnc22 := NB365_377.out; obtain ⟨hcz23_0, hcz23_1, hcz23_2, hcz23_3, hcz23_4, hcz23_5⟩ := bc6 BK377.out; obtain ⟨hfz23_0, hfz23_1, hfz23_2, hfz23_3, hfz23_4, hfz23_5⟩ := bf6 BK377.out; obtain ⟨Ao24, co24, eo24⟩ := Kd.R_slice HO372.out; subst eo24; obtain ⟨Ao25, co25, eo25⟩ := Kd.R_slice HO375.out; subst eo25))
  (try simp only [Act.put, sA_, s0_, s1_])
  go_cut [44] (fun v44 wc => ∃ (kq : Nat) (x44_5 : Bool), v44 = .bool x44_5 ∧ Aside0 (laws_FnImageRgb.j0 kq t364 x44_5 t343 t344 t345 t346 t347 t350 t354 t355 t356 t357 t358 t361 = some true) ∧ Aside0 (kq ≤ k) ∧ Aside0 (Kd.R (Kd.int .i64) 3 wc w.heap.size (fun k_ => some k_ ≠ ((.slice Ao11 t350.length co11) : Value).ownBlock ∧ some k_ ≠ ((.slice Ao16 t358.length co16) : Value).ownBlock ∧ some k_ ≠ ((.slice Ao17 t361.length co17) : Value).ownBlock ∧ some k_ ≠ ((.slice Ao24 t370.length co24) : Value).ownBlock ∧ some k_ ≠ ((.slice Ao25 t373.length co25) : Value).ownBlock) (.slice Ao10 t347.length co10) t347) ∧ Aside0 (Kd.Q (Kd.int .i64) 3 wc w.heap.size (fun k_ => some k_ ≠ ((.slice Ao10 t347.length co10) : Value).ownBlock ∧ some k_ ≠ ((.slice Ao16 t358.length co16) : Value).ownBlock ∧ some k_ ≠ ((.slice Ao17 t361.length co17) : Value).ownBlock ∧ some k_ ≠ ((.slice Ao24 t370.length co24) : Value).ownBlock ∧ some k_ ≠ ((.slice Ao25 t373.length co25) : Value).ownBlock) (.slice Ao11 t350.length co11) t350) ∧ Aside0 (Kd.R (Kd.int .i64) 3 wc w.heap.size (fun k_ => some k_ ≠ ((.slice Ao10 t347.length co10) : Value).ownBlock ∧ some k_ ≠ ((.slice Ao11 t350.length co11) : Value).ownBlock ∧ some k_ ≠ ((.slice Ao17 t361.length co17) : Value).ownBlock ∧ some k_ ≠ ((.slice Ao24 t370.length co24) : Value).ownBlock ∧ some k_ ≠ ((.slice Ao25 t373.length co25) : Value).ownBlock) (.slice Ao16 t358.length co16) t358) ∧ Aside0 (Kd.Q (Kd.int .i64) 3 wc w.heap.size (fun k_ => some k_ ≠ ((.slice Ao10 t347.length co10) : Value).ownBlock ∧ some k_ ≠ ((.slice Ao11 t350.length co11) : Value).ownBlock ∧ some k_ ≠ ((.slice Ao16 t358.length co16) : Value).ownBlock ∧ some k_ ≠ ((.slice Ao24 t370.length co24) : Value).ownBlock ∧ some k_ ≠ ((.slice Ao25 t373.length co25) : Value).ownBlock) (.slice Ao17 t361.length co17) t361) ∧ Aside0 (Kd.R (Kd.int .i64) 3 wc w.heap.size (fun k_ => some k_ ≠ ((.slice Ao10 t347.length co10) : Value).ownBlock ∧ some k_ ≠ ((.slice Ao11 t350.length co11) : Value).ownBlock ∧ some k_ ≠ ((.slice Ao16 t358.length co16) : Value).ownBlock ∧ some k_ ≠ ((.slice Ao17 t361.length co17) : Value).ownBlock ∧ some k_ ≠ ((.slice Ao25 t373.length co25) : Value).ownBlock) (.slice Ao24 t370.length co24) t370) ∧ Aside0 (Kd.Q (Kd.int .i64) 3 wc w.heap.size (fun k_ => some k_ ≠ ((.slice Ao10 t347.length co10) : Value).ownBlock ∧ some k_ ≠ ((.slice Ao11 t350.length co11) : Value).ownBlock ∧ some k_ ≠ ((.slice Ao16 t358.length co16) : Value).ownBlock ∧ some k_ ≠ ((.slice Ao17 t361.length co17) : Value).ownBlock ∧ some k_ ≠ ((.slice Ao24 t370.length co24) : Value).ownBlock) (.slice Ao25 t373.length co25) t373) ∧ Aside0 (wc.heap[gb353]? = some (.cells #[.int .i64 t343, .int .i64 t344, .int .i64 t345, .int .i64 t346, (.slice Ao10 t347.length co10), (.slice Ao11 t350.length co11)] 25 (0, 0))) ∧ Aside0 (wc.heap[gb365]? = some (.cells #[.int .i64 t354, .int .i64 t355, .int .i64 t356, .int .i64 t357, (.slice Ao16 t358.length co16), (.slice Ao17 t361.length co17)] 25 (0, 0))) ∧ Aside0 (wc.heap[gb377]? = some (.cells #[.int .i64 t366, .int .i64 t367, .int .i64 t368, .int .i64 t369, (.slice Ao24 t370.length co24), (.slice Ao25 t373.length co25)] 25 (0, 0))) ∧ Aside0 (Below w.heap.size w wc))
  case first =>
   have H := HC6.out
   clear HC6
   replace H := Option.bind_eq_some_iff.mp H
   obtain ⟨t378, A260, H⟩ := H
   replace H : (if t378 = true then (if (t364 != t376) = true then (laws_FnImageRgb.j0 k t364 true t343 t344 t345 t346 t347 t350 t354 t355 t356 t357 t358 t361) else ((impl_ImageOk.f k t343 t344 t345 t346 t347 t350).bind fun t379 => ((spec_ImageOk.f k t343 t344 t345 t346 t347 t350).bind fun t380 => (laws_FnImageRgb.j0 k t364 (t379 != t380) t343 t344 t345 t346 t347 t350 t354 t355 t356 t357 t358 t361)))) else (laws_FnImageRgb.j0 k t364 true t343 t344 t345 t346 t347 t350 t354 t355 t356 t357 t358 t361)) = some true := H
   have A26 := aM_ A260
   clear A260
   by_cases c27 : t378 = true
   ·subst c27
    have H1 : (if (t364 != t376) = true then (laws_FnImageRgb.j0 k t364 true t343 t344 t345 t346 t347 t350 t354 t355 t356 t357 t358 t361) else ((impl_ImageOk.f k t343 t344 t345 t346 t347 t350).bind fun t379 => ((spec_ImageOk.f k t343 t344 t345 t346 t347 t350).bind fun t380 => (laws_FnImageRgb.j0 k t364 (t379 != t380) t343 t344 t345 t346 t347 t350 t354 t355 t356 t357 t358 t361)))) = some true := by first | (rw [if_pos rfl] at H; exact H) | rfl
    clear H
    have H := H1
    clear H1
    by_cases c28 : (t364 != t376) = true
    ·rw [if_pos c28] at H
     have c28b0 : (t364 != t376) = true := c28
     (try (have c28b1 : decide (t364 = t376) = false := by simpa using c28))
     (try (have c28b2 : (t364 == t376) = false := by simpa using c28))
     (try (have c28b3 : ¬ (t364 = t376) := by simpa using c28))
     clear c28
     (first | rw [c28b0] | (simp only [i64_w, i32_w]; rw [c28b0]) | skip)
     exact absurd H (by cases k <;> simp [laws_FnImageRgb.j0])
    ·rw [if_neg c28] at H
     have c28b0 : (t364 != t376) = false := by simpa using c28
     (try (have c28b1 : decide (t364 = t376) = true := by simpa using c28))
     (try (have c28b2 : (t364 == t376) = true := by simpa using c28))
     clear c28
     (first | rw [c28b0] | (simp only [i64_w, i32_w]; rw [c28b0]) | skip)
     replace H := Option.bind_eq_some_iff.mp H
     obtain ⟨t379, A290, H⟩ := H
     replace H : ((spec_ImageOk.f k t343 t344 t345 t346 t347 t350).bind fun t380 => (laws_FnImageRgb.j0 k t364 (t379 != t380) t343 t344 t345 t346 t347 t350 t354 t355 t356 t357 t358 t361)) = some true := H
     have A29 := aM_ A290
     clear A290
     replace H := Option.bind_eq_some_iff.mp H
     obtain ⟨t380, A300, H⟩ := H
     replace H : (laws_FnImageRgb.j0 k t364 (t379 != t380) t343 t344 t345 t346 t347 t350 t354 t355 t356 t357 t358 t361) = some true := H
     have A30 := aM_ A300
     clear A300
     have H' := aM_ H
     clear H
     try go_wp2
     have n0_ : Aside0 (Kd.R (Kd.int .i64) 3 ((((((w20.setCell ⟨gb377, 0, none⟩ (.int .i64 t366)).setCell ⟨gb377, 1, none⟩ (.int .i64 t367)).setCell ⟨gb377, 2, none⟩ (.int .i64 t368)).setCell ⟨gb377, 3, none⟩ (.int .i64 t369)).setCell ⟨gb377, 4, none⟩ (.slice Ao24 t370.length co24)).setCell ⟨gb377, 5, none⟩ (.slice Ao25 t373.length co25)) w.heap.size (fun k_ => some k_ ≠ (.slice Ao11 t350.length co11 : Value).ownBlock ∧ some k_ ≠ (.slice Ao16 t358.length co16 : Value).ownBlock ∧ some k_ ≠ (.slice Ao17 t361.length co17 : Value).ownBlock ∧ some k_ ≠ (.slice Ao24 t370.length co24 : Value).ownBlock ∧ some k_ ≠ (.slice Ao25 t373.length co25 : Value).ownBlock) (.slice Ao10 t347.length co10) t347) := ⟨by (with_reducible repeat (first | apply rA_ | apply rN_ | apply rD_)); exact Kd.R_mono (Kd.R_far (Kd.R_far (Kd.R_far (Kd.R_far (Kd.R_far (Kd.R_far (Kd.R_types HO349.out BK377.out (by decide)) (fun _ hk => hk.2) (.int .i64 t366)) (fun _ hk => hk.2) (.int .i64 t367)) (fun _ hk => hk.2) (.int .i64 t368)) (fun _ hk => hk.2) (.int .i64 t369)) (fun _ hk => hk.2) (.slice Ao24 t370.length co24)) (fun _ hk => hk.2) (.slice Ao25 t373.length co25)) (fun _ hk => ⟨hk.1.1.1.1.1, ⟨hk.1.1.1.1.2, ⟨hk.1.1.1.2, ⟨hk.1.1.2, hk.1.2⟩⟩⟩⟩)⟩
     have n1_ : Aside0 (Kd.Q (Kd.int .i64) 3 ((((((w20.setCell ⟨gb377, 0, none⟩ (.int .i64 t366)).setCell ⟨gb377, 1, none⟩ (.int .i64 t367)).setCell ⟨gb377, 2, none⟩ (.int .i64 t368)).setCell ⟨gb377, 3, none⟩ (.int .i64 t369)).setCell ⟨gb377, 4, none⟩ (.slice Ao24 t370.length co24)).setCell ⟨gb377, 5, none⟩ (.slice Ao25 t373.length co25)) w.heap.size (fun k_ => some k_ ≠ (.slice Ao10 t347.length co10 : Value).ownBlock ∧ some k_ ≠ (.slice Ao16 t358.length co16 : Value).ownBlock ∧ some k_ ≠ (.slice Ao17 t361.length co17 : Value).ownBlock ∧ some k_ ≠ (.slice Ao24 t370.length co24 : Value).ownBlock ∧ some k_ ≠ (.slice Ao25 t373.length co25 : Value).ownBlock) (.slice Ao11 t350.length co11) t350) := ⟨by (with_reducible repeat (first | apply Kd.Q_alloc | apply Kd.Q_drewN | apply Kd.Q_drew)); exact Kd.Q_mono (Kd.Q_far (Kd.Q_far (Kd.Q_far (Kd.Q_far (Kd.Q_far (Kd.Q_far (Kd.Q_types HO352.out BK377.out (by decide)) (fun _ hk => hk.2) (.int .i64 t366)) (fun _ hk => hk.2) (.int .i64 t367)) (fun _ hk => hk.2) (.int .i64 t368)) (fun _ hk => hk.2) (.int .i64 t369)) (fun _ hk => hk.2) (.slice Ao24 t370.length co24)) (fun _ hk => hk.2) (.slice Ao25 t373.length co25)) (fun _ hk => ⟨hk.1.1.1.1.1, ⟨hk.1.1.1.1.2, ⟨hk.1.1.1.2, ⟨hk.1.1.2, hk.1.2⟩⟩⟩⟩)⟩
     have n2_ : Aside0 (Kd.R (Kd.int .i64) 3 ((((((w20.setCell ⟨gb377, 0, none⟩ (.int .i64 t366)).setCell ⟨gb377, 1, none⟩ (.int .i64 t367)).setCell ⟨gb377, 2, none⟩ (.int .i64 t368)).setCell ⟨gb377, 3, none⟩ (.int .i64 t369)).setCell ⟨gb377, 4, none⟩ (.slice Ao24 t370.length co24)).setCell ⟨gb377, 5, none⟩ (.slice Ao25 t373.length co25)) w.heap.size (fun k_ => some k_ ≠ (.slice Ao10 t347.length co10 : Value).ownBlock ∧ some k_ ≠ (.slice Ao11 t350.length co11 : Value).ownBlock ∧ some k_ ≠ (.slice Ao17 t361.length co17 : Value).ownBlock ∧ some k_ ≠ (.slice Ao24 t370.length co24 : Value).ownBlock ∧ some k_ ≠ (.slice Ao25 t373.length co25 : Value).ownBlock) (.slice Ao16 t358.length co16) t358) := ⟨by (with_reducible repeat (first | apply rA_ | apply rN_ | apply rD_)); exact Kd.R_mono (Kd.R_far (Kd.R_far (Kd.R_far (Kd.R_far (Kd.R_far (Kd.R_far (Kd.R_types HO360.out BK377.out (by decide)) (fun _ hk => hk.2) (.int .i64 t366)) (fun _ hk => hk.2) (.int .i64 t367)) (fun _ hk => hk.2) (.int .i64 t368)) (fun _ hk => hk.2) (.int .i64 t369)) (fun _ hk => hk.2) (.slice Ao24 t370.length co24)) (fun _ hk => hk.2) (.slice Ao25 t373.length co25)) (fun _ hk => ⟨hk.1.1.1.1.2, ⟨hk.1.1.1.2, ⟨hk.1.1.1.1.1, ⟨hk.1.1.2, hk.1.2⟩⟩⟩⟩)⟩
     have n3_ : Aside0 (Kd.R (Kd.int .i64) 3 ((((((w20.setCell ⟨gb377, 0, none⟩ (.int .i64 t366)).setCell ⟨gb377, 1, none⟩ (.int .i64 t367)).setCell ⟨gb377, 2, none⟩ (.int .i64 t368)).setCell ⟨gb377, 3, none⟩ (.int .i64 t369)).setCell ⟨gb377, 4, none⟩ (.slice Ao24 t370.length co24)).setCell ⟨gb377, 5, none⟩ (.slice Ao25 t373.length co25)) w.heap.size (fun k_ => some k_ ≠ (.slice Ao10 t347.length co10 : Value).ownBlock ∧ some k_ ≠ (.slice Ao11 t350.length co11 : Value).ownBlock ∧ some k_ ≠ (.slice Ao16 t358.length co16 : Value).ownBlock ∧ some k_ ≠ (.slice Ao24 t370.length co24 : Value).ownBlock ∧ some k_ ≠ (.slice Ao25 t373.length co25 : Value).ownBlock) (.slice Ao17 t361.length co17) t361) := ⟨by (with_reducible repeat (first | apply rA_ | apply rN_ | apply rD_)); exact Kd.R_mono (Kd.R_far (Kd.R_far (Kd.R_far (Kd.R_far (Kd.R_far (Kd.R_far (Kd.R_types HO363.out BK377.out (by decide)) (fun _ hk => hk.2) (.int .i64 t366)) (fun _ hk => hk.2) (.int .i64 t367)) (fun _ hk => hk.2) (.int .i64 t368)) (fun _ hk => hk.2) (.int .i64 t369)) (fun _ hk => hk.2) (.slice Ao24 t370.length co24)) (fun _ hk => hk.2) (.slice Ao25 t373.length co25)) (fun _ hk => ⟨hk.1.1.1.1.2, ⟨hk.1.1.1.2, ⟨hk.1.1.1.1.1, ⟨hk.1.1.2, hk.1.2⟩⟩⟩⟩)⟩
     have n4_ : Aside0 (Kd.R (Kd.int .i64) 3 ((((((w20.setCell ⟨gb377, 0, none⟩ (.int .i64 t366)).setCell ⟨gb377, 1, none⟩ (.int .i64 t367)).setCell ⟨gb377, 2, none⟩ (.int .i64 t368)).setCell ⟨gb377, 3, none⟩ (.int .i64 t369)).setCell ⟨gb377, 4, none⟩ (.slice Ao24 t370.length co24)).setCell ⟨gb377, 5, none⟩ (.slice Ao25 t373.length co25)) w.heap.size (fun k_ => some k_ ≠ (.slice Ao10 t347.length co10 : Value).ownBlock ∧ some k_ ≠ (.slice Ao11 t350.length co11 : Value).ownBlock ∧ some k_ ≠ (.slice Ao16 t358.length co16 : Value).ownBlock ∧ some k_ ≠ (.slice Ao17 t361.length co17 : Value).ownBlock ∧ some k_ ≠ (.slice Ao25 t373.length co25 : Value).ownBlock) (.slice Ao24 t370.length co24) t370) := ⟨by (with_reducible repeat (first | apply rA_ | apply rN_ | apply rD_)); exact Kd.R_mono (Kd.R_far (Kd.R_far (Kd.R_far (Kd.R_far (Kd.R_far (Kd.R_far (Kd.R_types HO372.out BK377.out (by decide)) (fun _ hk => hk.2) (.int .i64 t366)) (fun _ hk => hk.2) (.int .i64 t367)) (fun _ hk => hk.2) (.int .i64 t368)) (fun _ hk => hk.2) (.int .i64 t369)) (fun _ hk => hk.2) (.slice Ao24 t370.length co24)) (fun _ hk => hk.2) (.slice Ao25 t373.length co25)) (fun _ hk => ⟨hk.1.1.1.1.2, ⟨hk.1.1.1.2, ⟨hk.1.1.2, ⟨hk.1.2, hk.1.1.1.1.1⟩⟩⟩⟩)⟩
     have n5_ : Aside0 (Kd.R (Kd.int .i64) 3 ((((((w20.setCell ⟨gb377, 0, none⟩ (.int .i64 t366)).setCell ⟨gb377, 1, none⟩ (.int .i64 t367)).setCell ⟨gb377, 2, none⟩ (.int .i64 t368)).setCell ⟨gb377, 3, none⟩ (.int .i64 t369)).setCell ⟨gb377, 4, none⟩ (.slice Ao24 t370.length co24)).setCell ⟨gb377, 5, none⟩ (.slice Ao25 t373.length co25)) w.heap.size (fun k_ => some k_ ≠ (.slice Ao10 t347.length co10 : Value).ownBlock ∧ some k_ ≠ (.slice Ao11 t350.length co11 : Value).ownBlock ∧ some k_ ≠ (.slice Ao16 t358.length co16 : Value).ownBlock ∧ some k_ ≠ (.slice Ao17 t361.length co17 : Value).ownBlock ∧ some k_ ≠ (.slice Ao24 t370.length co24 : Value).ownBlock) (.slice Ao25 t373.length co25) t373) := ⟨by (with_reducible repeat (first | apply rA_ | apply rN_ | apply rD_)); exact Kd.R_mono (Kd.R_far (Kd.R_far (Kd.R_far (Kd.R_far (Kd.R_far (Kd.R_far (Kd.R_types HO375.out BK377.out (by decide)) (fun _ hk => hk.2) (.int .i64 t366)) (fun _ hk => hk.2) (.int .i64 t367)) (fun _ hk => hk.2) (.int .i64 t368)) (fun _ hk => hk.2) (.int .i64 t369)) (fun _ hk => hk.2) (.slice Ao24 t370.length co24)) (fun _ hk => hk.2) (.slice Ao25 t373.length co25)) (fun _ hk => ⟨hk.1.1.1.1.2, ⟨hk.1.1.1.2, ⟨hk.1.1.2, ⟨hk.1.2, hk.1.1.1.1.1⟩⟩⟩⟩)⟩
     have n6_ : Aside0 (((((((w20.setCell ⟨gb377, 0, none⟩ (.int .i64 t366)).setCell ⟨gb377, 1, none⟩ (.int .i64 t367)).setCell ⟨gb377, 2, none⟩ (.int .i64 t368)).setCell ⟨gb377, 3, none⟩ (.int .i64 t369)).setCell ⟨gb377, 4, none⟩ (.slice Ao24 t370.length co24)).setCell ⟨gb377, 5, none⟩ (.slice Ao25 t373.length co25)).heap[gb353]? = some (.cells #[.int .i64 t343, .int .i64 t344, .int .i64 t345, .int .i64 t346, .slice Ao10 t347.length co10, .slice Ao11 t350.length co11] 25 (0, 0))) := ⟨by (with_reducible repeat (first | apply kN_ | apply kD_ | apply kA_)); refine blk_far ?_ NB353_377.out _; (with_reducible repeat (first | apply kN_ | apply kD_ | apply kA_)); refine blk_far ?_ NB353_377.out _; (with_reducible repeat (first | apply kN_ | apply kD_ | apply kA_)); refine blk_far ?_ NB353_377.out _; (with_reducible repeat (first | apply kN_ | apply kD_ | apply kA_)); refine blk_far ?_ NB353_377.out _; (with_reducible repeat (first | apply kN_ | apply kD_ | apply kA_)); refine blk_far ?_ NB353_377.out _; (with_reducible repeat (first | apply kN_ | apply kD_ | apply kA_)); refine blk_far ?_ NB353_377.out _; (with_reducible repeat (first | apply kN_ | apply kD_ | apply kA_)); exact BK353.out⟩
     have n7_ : Aside0 (((((((w20.setCell ⟨gb377, 0, none⟩ (.int .i64 t366)).setCell ⟨gb377, 1, none⟩ (.int .i64 t367)).setCell ⟨gb377, 2, none⟩ (.int .i64 t368)).setCell ⟨gb377, 3, none⟩ (.int .i64 t369)).setCell ⟨gb377, 4, none⟩ (.slice Ao24 t370.length co24)).setCell ⟨gb377, 5, none⟩ (.slice Ao25 t373.length co25)).heap[gb365]? = some (.cells #[.int .i64 t354, .int .i64 t355, .int .i64 t356, .int .i64 t357, .slice Ao16 t358.length co16, .slice Ao17 t361.length co17] 25 (0, 0))) := ⟨by (with_reducible repeat (first | apply kN_ | apply kD_ | apply kA_)); refine blk_far ?_ NB365_377.out _; (with_reducible repeat (first | apply kN_ | apply kD_ | apply kA_)); refine blk_far ?_ NB365_377.out _; (with_reducible repeat (first | apply kN_ | apply kD_ | apply kA_)); refine blk_far ?_ NB365_377.out _; (with_reducible repeat (first | apply kN_ | apply kD_ | apply kA_)); refine blk_far ?_ NB365_377.out _; (with_reducible repeat (first | apply kN_ | apply kD_ | apply kA_)); refine blk_far ?_ NB365_377.out _; (with_reducible repeat (first | apply kN_ | apply kD_ | apply kA_)); refine blk_far ?_ NB365_377.out _; (with_reducible repeat (first | apply kN_ | apply kD_ | apply kA_)); exact BK365.out⟩
     have n8_ : Aside0 (((((((w20.setCell ⟨gb377, 0, none⟩ (.int .i64 t366)).setCell ⟨gb377, 1, none⟩ (.int .i64 t367)).setCell ⟨gb377, 2, none⟩ (.int .i64 t368)).setCell ⟨gb377, 3, none⟩ (.int .i64 t369)).setCell ⟨gb377, 4, none⟩ (.slice Ao24 t370.length co24)).setCell ⟨gb377, 5, none⟩ (.slice Ao25 t373.length co25)).heap[gb377]? = some (.cells #[.int .i64 t366, .int .i64 t367, .int .i64 t368, .int .i64 t369, .slice Ao24 t370.length co24, .slice Ao25 t373.length co25] 25 (0, 0))) := ⟨by (with_reducible repeat (first | apply kN_ | apply kD_ | apply kA_)); refine blk_put (cs := #[.int .i64 t366, .int .i64 t367, .int .i64 t368, .int .i64 t369, .slice Ao24 t370.length co24, .slice none 0 0]) ?_ 5 _ rfl; (with_reducible repeat (first | apply kN_ | apply kD_ | apply kA_)); refine blk_put (cs := #[.int .i64 t366, .int .i64 t367, .int .i64 t368, .int .i64 t369, .slice none 0 0, .slice none 0 0]) ?_ 4 _ rfl; (with_reducible repeat (first | apply kN_ | apply kD_ | apply kA_)); refine blk_put (cs := #[.int .i64 t366, .int .i64 t367, .int .i64 t368, .int .i64 0, .slice none 0 0, .slice none 0 0]) ?_ 3 _ rfl; (with_reducible repeat (first | apply kN_ | apply kD_ | apply kA_)); refine blk_put (cs := #[.int .i64 t366, .int .i64 t367, .int .i64 0, .int .i64 0, .slice none 0 0, .slice none 0 0]) ?_ 2 _ rfl; (with_reducible repeat (first | apply kN_ | apply kD_ | apply kA_)); refine blk_put (cs := #[.int .i64 t366, .int .i64 0, .int .i64 0, .int .i64 0, .slice none 0 0, .slice none 0 0]) ?_ 1 _ rfl; (with_reducible repeat (first | apply kN_ | apply kD_ | apply kA_)); refine blk_put (cs := #[.int .i64 0, .int .i64 0, .int .i64 0, .int .i64 0, .slice none 0 0, .slice none 0 0]) ?_ 0 _ rfl; (with_reducible repeat (first | apply kN_ | apply kD_ | apply kA_)); exact BK377.out⟩
     have n9_ : Aside0 (Below w.heap.size w ((((((w20.setCell ⟨gb377, 0, none⟩ (.int .i64 t366)).setCell ⟨gb377, 1, none⟩ (.int .i64 t367)).setCell ⟨gb377, 2, none⟩ (.int .i64 t368)).setCell ⟨gb377, 3, none⟩ (.int .i64 t369)).setCell ⟨gb377, 4, none⟩ (.slice Ao24 t370.length co24)).setCell ⟨gb377, 5, none⟩ (.slice Ao25 t373.length co25))) := ⟨by repeat (first | (with_reducible first | exact HB.out | apply wA_ | apply wN_ | apply wD_ | refine below_set ?_ GE353.out | refine below_set ?_ GE365.out | refine below_set ?_ GE377.out) | exact HB.out)⟩
     (try clear HO349)
     (try clear HO352)
     (try clear HO360)
     (try clear HO363)
     (try clear HO372)
     (try clear HO375)
     (try clear BK353)
     (try clear BK365)
     (try clear BK377)
     (try clear HB)
     generalize ((((((w20.setCell ⟨gb377, 0, none⟩ (.int .i64 t366)).setCell ⟨gb377, 1, none⟩ (.int .i64 t367)).setCell ⟨gb377, 2, none⟩ (.int .i64 t368)).setCell ⟨gb377, 3, none⟩ (.int .i64 t369)).setCell ⟨gb377, 4, none⟩ (.slice Ao24 t370.length co24)).setCell ⟨gb377, 5, none⟩ (.slice Ao25 t373.length co25)) = w31 at n0_ n1_ n2_ n3_ n4_ n5_ n6_ n7_ n8_ n9_ ⊢
     have HO349 := n0_
     have HO352 := n1_
     have HO360 := n2_
     have HO363 := n3_
     have HO372 := n4_
     have HO375 := n5_
     have BK353 := n6_
     have BK365 := n7_
     have BK377 := n8_
     have HB := n9_
     clear n0_ n1_ n2_ n3_ n4_ n5_ n6_ n7_ n8_ n9_
     have n0_ := aM_ (rD_ HO349.out)
     have n1_ := aM_ (Kd.Q_drew HO352.out)
     have n2_ := aM_ (rD_ HO360.out)
     have n3_ := aM_ (rD_ HO363.out)
     have n4_ := aM_ (rD_ HO372.out)
     have n5_ := aM_ (rD_ HO375.out)
     have n6_ := aM_ (kD_ BK353.out)
     have n7_ := aM_ (kD_ BK365.out)
     have n8_ := aM_ (kD_ BK377.out)
     have n9_ := aM_ (wD_ HB.out)
     clear HO349
     clear HO352
     clear HO360
     clear HO363
     clear HO372
     clear HO375
     clear BK353
     clear BK365
     clear BK377
     clear HB
     have HO349 := n0_
     have HO352 := n1_
     have HO360 := n2_
     have HO363 := n3_
     have HO372 := n4_
     have HO375 := n5_
     have BK353 := n6_
     have BK365 := n7_
     have BK377 := n8_
     have HB := n9_
     clear n0_ n1_ n2_ n3_ n4_ n5_ n6_ n7_ n8_ n9_
     refine start_ (n := 16) (S := fun w' => w'.cell? ⟨gb365, 0, none⟩ = some (.int .i64 t354) ∧ w'.cell? ⟨gb365, 1, none⟩ = some (.int .i64 t355) ∧ w'.cell? ⟨gb365, 2, none⟩ = some (.int .i64 t356) ∧ w'.cell? ⟨gb365, 3, none⟩ = some (.int .i64 t357) ∧ w'.cell? ⟨gb365, 4, none⟩ = some (.slice Ao16 t358.length co16) ∧ w'.cell? ⟨gb365, 5, none⟩ = some (.slice Ao17 t361.length co17) ∧ w'.cell? ⟨gb377, 0, none⟩ = some (.int .i64 t366) ∧ w'.cell? ⟨gb377, 1, none⟩ = some (.int .i64 t367) ∧ w'.cell? ⟨gb377, 2, none⟩ = some (.int .i64 t368) ∧ w'.cell? ⟨gb377, 3, none⟩ = some (.int .i64 t369) ∧ w'.cell? ⟨gb377, 4, none⟩ = some (.slice Ao24 t370.length co24) ∧ w'.cell? ⟨gb377, 5, none⟩ = some (.slice Ao25 t373.length co25) ∧ w'.cell? ⟨gb353, 0, none⟩ = some (.int .i64 t343) ∧ w'.cell? ⟨gb353, 1, none⟩ = some (.int .i64 t344) ∧ w'.cell? ⟨gb353, 2, none⟩ = some (.int .i64 t345) ∧ w'.cell? ⟨gb353, 3, none⟩ = some (.int .i64 t346) ∧ w'.cell? ⟨gb353, 4, none⟩ = some (.slice Ao10 t347.length co10) ∧ w'.cell? ⟨gb353, 5, none⟩ = some (.slice Ao11 t350.length co11)) (ds := []) #[false, false, false, false, false, false, false, false, false, false, false, false, false, false, false, false] (by kernel_rfl) rfl rfl ⟨(blk_cell BK365.out 0).trans rfl, (blk_cell BK365.out 1).trans rfl, (blk_cell BK365.out 2).trans rfl, (blk_cell BK365.out 3).trans rfl, (blk_cell BK365.out 4).trans rfl, (blk_cell BK365.out 5).trans rfl, (blk_cell BK377.out 0).trans rfl, (blk_cell BK377.out 1).trans rfl, (blk_cell BK377.out 2).trans rfl, (blk_cell BK377.out 3).trans rfl, (blk_cell BK377.out 4).trans rfl, (blk_cell BK377.out 5).trans rfl, (blk_cell BK353.out 0).trans rfl, (blk_cell BK353.out 1).trans rfl, (blk_cell BK353.out 2).trans rfl, (blk_cell BK353.out 3).trans rfl, (blk_cell BK353.out 4).trans rfl, (blk_cell BK353.out 5).trans rfl⟩ (fun hHeld => ?_); refine with_tabW laws_FnImageRgb.tab6 laws_FnImageRgb.bits6 (fun HT_ HW_ => ?_)
     generalize w31.drew = w32 at HO349 HO352 HO360 HO363 HO372 HO375 BK353 BK365 BK377 HB hHeld ⊢
     refine take_ (i := 0) (N := some 29) (v := ?_) (a' := ?_) #[true, false, false, false, false, false, false, false, false, false, false, false, false, false, false, false] rfl rfl (take_ofW HT_.out HW_.out (by kernel_rfl)) (fun _ _ _ h => h) (Or.inl ⟨by rfl, ?_⟩) hHeld ?_ ?_
     rotate_left
     ·rintro w' ⟨s0, s1, s2, s3, s4, s5, s6, s7, s8, s9, s10, s11, s12, s13, s14, s15, s16, s17⟩
      go_simp
      with_reducible rfl
     rotate_left
     ·simp only [Act.put, sA_, s0_, s1_, i64_w, i32_w]
      rfl
     refine take_ (i := 1) (N := some 30) (v := ?_) (a' := ?_) #[true, true, false, false, false, false, false, false, false, false, false, false, false, false, false, false] rfl rfl (take_ofW HT_.out HW_.out (by kernel_rfl)) (fun _ _ _ h => h) (Or.inl ⟨by rfl, ?_⟩) hHeld ?_ ?_
     rotate_left
     ·rintro w' ⟨s0, s1, s2, s3, s4, s5, s6, s7, s8, s9, s10, s11, s12, s13, s14, s15, s16, s17⟩
      go_simp
      with_reducible rfl
     rotate_left
     ·simp only [Act.put, sA_, s0_, s1_, i64_w, i32_w]
      rfl
     refine one_ (i := 2) (N := some 31) #[true, true, true, false, false, false, false, false, false, false, false, false, false, false, false, false] rfl rfl (one_of HT_.out (by kernel_rfl)) (by decide) (fun K hK => ?_)
     refine goes_ Try.func23 (by kernel_rfl) rfl #[.agg #[.int .i64 t354, .int .i64 t355, .int .i64 t356, .int .i64 t357, .slice Ao16 t358.length co16, .slice Ao17 t361.length co17], .agg #[.int .i64 t366, .int .i64 t367, .int .i64 t368, .int .i64 t369, .slice Ao24 t370.length co24, .slice Ao25 t373.length co25]] (by rfl) rfl rfl (by (try simp only [List.map_toArray, List.map_cons, List.map_nil]); first | done | rfl | (simp only [List.length_drop, List.length_take]; rfl)) ?_
     with_reducible refine (laws_wiImage.calls k t354 t355 t356 t357 _ _ t358 _ _ t361 t366 t367 t368 t369 _ _ t370 _ _ t373 true _ ?side1 ?side2 ?side3 ?side4 ?side5 ?side6 ?side7 ?side8 A26.out).mono ?_
     (case side1 => repeat (first | exact (Kd.R_reads' HO360.out).2.2 | (with_reducible refine Kd.C_alloc ?_ _) | (with_reducible refine Kd.C_drewN ?_ _) | (with_reducible refine Kd.C_drew ?_)))
     (case side2 => exact (Kd.R_reads' HO360.out).2.1)
     (case side3 => repeat (first | exact (Kd.R_reads' HO363.out).2.2 | (with_reducible refine Kd.C_alloc ?_ _) | (with_reducible refine Kd.C_drewN ?_ _) | (with_reducible refine Kd.C_drew ?_)))
     (case side4 => exact (Kd.R_reads' HO363.out).2.1)
     (case side5 => repeat (first | exact (Kd.R_reads' HO372.out).2.2 | (with_reducible refine Kd.C_alloc ?_ _) | (with_reducible refine Kd.C_drewN ?_ _) | (with_reducible refine Kd.C_drew ?_)))
     (case side6 => exact (Kd.R_reads' HO372.out).2.1)
     (case side7 => repeat (first | exact (Kd.R_reads' HO375.out).2.2 | (with_reducible refine Kd.C_alloc ?_ _) | (with_reducible refine Kd.C_drewN ?_ _) | (with_reducible refine Kd.C_drew ?_)))
     (case side8 => exact (Kd.R_reads' HO375.out).2.1)
     rintro e w33 ⟨rfl, hb⟩
     refine ⟨_, rfl, ?_⟩
     have n0_ := aM_ (Kd.R_below (by (with_reducible repeat (first | apply rA_ | apply rN_ | apply rD_)); exact HO349.out) hb)
     have n1_ := aM_ (Kd.Q_below (by (with_reducible repeat (first | apply Kd.Q_alloc | apply Kd.Q_drewN | apply Kd.Q_drew)); exact HO352.out) hb)
     have n2_ := aM_ (Kd.R_below (by (with_reducible repeat (first | apply rA_ | apply rN_ | apply rD_)); exact HO360.out) hb)
     have n3_ := aM_ (Kd.R_below (by (with_reducible repeat (first | apply rA_ | apply rN_ | apply rD_)); exact HO363.out) hb)
     have n4_ := aM_ (Kd.R_below (by (with_reducible repeat (first | apply rA_ | apply rN_ | apply rD_)); exact HO372.out) hb)
     have n5_ := aM_ (Kd.R_below (by (with_reducible repeat (first | apply rA_ | apply rN_ | apply rD_)); exact HO375.out) hb)
     have n6_ := aM_ (blk_below (g := gb353) (by (with_reducible repeat (first | apply kN_ | apply kD_ | apply kA_)); exact BK353.out) hb)
     have n7_ := aM_ (blk_below (g := gb365) (by (with_reducible repeat (first | apply kN_ | apply kD_ | apply kA_)); exact BK365.out) hb)
     have n8_ := aM_ (blk_below (g := gb377) (by (with_reducible repeat (first | apply kN_ | apply kD_ | apply kA_)); exact BK377.out) hb)
     have n9_ := aM_ (below_step (by repeat (first | (with_reducible first | exact HB.out | apply wA_ | apply wN_ | apply wD_ | refine below_set ?_ GE353.out | refine below_set ?_ GE365.out | refine below_set ?_ GE377.out) | exact HB.out)) hb)
     clear HO349
     clear HO352
     clear HO360
     clear HO363
     clear HO372
     clear HO375
     clear BK353
     clear BK365
     clear BK377
     clear HB
     have HO349 := n0_
     have HO352 := n1_
     have HO360 := n2_
     have HO363 := n3_
     have HO372 := n4_
     have HO375 := n5_
     have BK353 := n6_
     have BK365 := n7_
     have BK377 := n8_
     have HB := n9_
     clear n0_ n1_ n2_ n3_ n4_ n5_ n6_ n7_ n8_ n9_
     (try clear hb)
     (try clear hb2)
     (try clear hk)
     (try clear hi)
     refine hK.out _ _ ⟨(blk_cell BK365.out 0).trans rfl, (blk_cell BK365.out 1).trans rfl, (blk_cell BK365.out 2).trans rfl, (blk_cell BK365.out 3).trans rfl, (blk_cell BK365.out 4).trans rfl, (blk_cell BK365.out 5).trans rfl, (blk_cell BK377.out 0).trans rfl, (blk_cell BK377.out 1).trans rfl, (blk_cell BK377.out 2).trans rfl, (blk_cell BK377.out 3).trans rfl, (blk_cell BK377.out 4).trans rfl, (blk_cell BK377.out 5).trans rfl, (blk_cell BK353.out 0).trans rfl, (blk_cell BK353.out 1).trans rfl, (blk_cell BK353.out 2).trans rfl, (blk_cell BK353.out 3).trans rfl, (blk_cell BK353.out 4).trans rfl, (blk_cell BK353.out 5).trans rfl⟩ (fun hHeld => ?_)
     clear hK K
     refine norm_ (a' := ?_) ?_ ?_
     rotate_left
     ·show Act.put _ (some 31) _ = _
      simp only [Act.put, sA_, s0_, s1_, i64_w, i32_w]
      rfl
     refine pure_ (i := 3) (N := some 32) (v := ?_) (a' := ?_) #[true, true, true, true, false, false, false, false, false, false, false, false, false, false, false, false] rfl rfl (any_of HT_.out (by kernel_rfl)) (fun _ _ _ h => h) (Or.inl ⟨by rfl, ?_⟩) ?_ ?_
     rotate_left
     ·intro w'
      go_simp
      with_reducible rfl
     rotate_left
     ·simp only [Act.put, sA_, s0_, s1_, i64_w, i32_w]
      rfl
     refine pure_ (i := 4) (N := some 33) (v := ?_) (a' := ?_) #[true, true, true, true, true, false, false, false, false, false, false, false, false, false, false, false] rfl rfl (any_of HT_.out (by kernel_rfl)) (fun _ _ _ h => h) (Or.inl ⟨by rfl, ?_⟩) ?_ ?_
     rotate_left
     ·intro w'
      go_simp
      with_reducible rfl
     rotate_left
     ·simp only [Act.put, sA_, s0_, s1_, i64_w, i32_w]
      rfl
     refine pure_ (i := 5) (N := some 34) (v := ?_) (a' := ?_) #[true, true, true, true, true, true, false, false, false, false, false, false, false, false, false, false] rfl rfl (any_of HT_.out (by kernel_rfl)) (fun _ _ _ h => h) (Or.inl ⟨by rfl, ?_⟩) ?_ ?_
     rotate_left
     ·intro w'
      go_simp
      with_reducible rfl
     rotate_left
     ·simp only [Act.put, sA_, s0_, s1_, i64_w, i32_w]
      rfl
     refine pure_ (i := 6) (N := some 35) (v := ?_) (a' := ?_) #[true, true, true, true, true, true, true, false, false, false, false, false, false, false, false, false] rfl rfl (any_of HT_.out (by kernel_rfl)) (fun _ _ _ h => h) (Or.inl ⟨by rfl, ?_⟩) ?_ ?_
     rotate_left
     ·intro w'
      go_simp
      with_reducible rfl
     rotate_left
     ·simp only [Act.put, sA_, s0_, s1_, i64_w, i32_w]
      rfl
     refine pure_ (i := 7) (N := some 36) (v := ?_) (a' := ?_) #[true, true, true, true, true, true, true, true, false, false, false, false, false, false, false, false] rfl rfl (any_of HT_.out (by kernel_rfl)) (fun _ _ _ h => h) (Or.inl ⟨by rfl, ?_⟩) ?_ ?_
     rotate_left
     ·intro w'
      go_simp
      with_reducible rfl
     rotate_left
     ·simp only [Act.put, sA_, s0_, s1_, i64_w, i32_w]
      rfl
     refine pure_ (i := 8) (N := some 37) (v := ?_) (a' := ?_) #[true, true, true, true, true, true, true, true, true, false, false, false, false, false, false, false] rfl rfl (any_of HT_.out (by kernel_rfl)) (fun _ _ _ h => h) (Or.inl ⟨by rfl, ?_⟩) ?_ ?_
     rotate_left
     ·intro w'
      go_simp
      with_reducible rfl
     rotate_left
     ·simp only [Act.put, sA_, s0_, s1_, i64_w, i32_w]
      rfl
     refine pure_ (i := 9) (N := some 38) (v := ?_) (a' := ?_) #[true, true, true, true, true, true, true, true, true, true, false, false, false, false, false, false] rfl rfl (any_of HT_.out (by kernel_rfl)) (fun _ _ _ h => h) (Or.inl ⟨by rfl, ?_⟩) ?_ ?_
     rotate_left
     ·intro w'
      go_simp
      with_reducible rfl
     rotate_left
     ·simp only [Act.put, sA_, s0_, s1_, i64_w, i32_w]
      rfl
     refine take_ (i := 10) (N := some 39) (v := ?_) (a' := ?_) #[true, true, true, true, true, true, true, true, true, true, true, false, false, false, false, false] rfl rfl (take_ofW HT_.out HW_.out (by kernel_rfl)) (fun _ _ _ h => h) (Or.inl ⟨by rfl, ?_⟩) hHeld ?_ ?_
     rotate_left
     ·rintro w' ⟨s0, s1, s2, s3, s4, s5, s6, s7, s8, s9, s10, s11, s12, s13, s14, s15, s16, s17⟩
      go_simp
      with_reducible rfl
     rotate_left
     ·simp only [Act.put, sA_, s0_, s1_, i64_w, i32_w]
      rfl
     refine take_ (i := 12) (N := some 41) (v := ?_) (a' := ?_) #[true, true, true, true, true, true, true, true, true, true, true, false, true, false, false, false] rfl rfl (take_ofW HT_.out HW_.out (by kernel_rfl)) (fun _ _ _ h => h) (Or.inl ⟨by rfl, ?_⟩) hHeld ?_ ?_
     rotate_left
     ·rintro w' ⟨s0, s1, s2, s3, s4, s5, s6, s7, s8, s9, s10, s11, s12, s13, s14, s15, s16, s17⟩
      go_simp
      with_reducible rfl
     rotate_left
     ·simp only [Act.put, sA_, s0_, s1_, i64_w, i32_w]
      rfl
     refine one_ (i := 11) (N := some 40) #[true, true, true, true, true, true, true, true, true, true, true, true, true, false, false, false] rfl rfl (one_of HT_.out (by kernel_rfl)) (by decide) (fun K hK => ?_)
     refine goes_ Try.func24 (by kernel_rfl) rfl #[.agg #[.int .i64 t343, .int .i64 t344, .int .i64 t345, .int .i64 t346, .slice Ao10 t347.length co10, .slice Ao11 t350.length co11]] (by rfl) rfl rfl (by (try simp only [List.map_toArray, List.map_cons, List.map_nil]); first | done | rfl | (simp only [List.length_drop, List.length_take]; rfl)) ?_
     with_reducible refine (impl_ImageOk.calls k t343 t344 t345 t346 _ _ t347 _ _ t350 t379 _ ?side1 ?side2 ?side3 ?side4 A29.out).mono ?_
     (case side1 => repeat (first | exact (Kd.R_reads' HO349.out).2.2 | (with_reducible refine Kd.C_alloc ?_ _) | (with_reducible refine Kd.C_drewN ?_ _) | (with_reducible refine Kd.C_drew ?_)))
     (case side2 => exact (Kd.R_reads' HO349.out).2.1)
     (case side3 => repeat (first | exact (Kd.Q_reads' HO352.out).2.2 | (with_reducible refine Kd.C_alloc ?_ _) | (with_reducible refine Kd.C_drewN ?_ _) | (with_reducible refine Kd.C_drew ?_)))
     (case side4 => exact (Kd.Q_reads' HO352.out).2.1)
     rintro e w34 ⟨rfl, hb⟩
     refine ⟨_, rfl, ?_⟩
     have n0_ := aM_ (Kd.R_below (by (with_reducible repeat (first | apply rA_ | apply rN_ | apply rD_)); exact HO349.out) hb)
     have n1_ := aM_ (Kd.Q_below (by (with_reducible repeat (first | apply Kd.Q_alloc | apply Kd.Q_drewN | apply Kd.Q_drew)); exact HO352.out) hb)
     have n2_ := aM_ (Kd.R_below (by (with_reducible repeat (first | apply rA_ | apply rN_ | apply rD_)); exact HO360.out) hb)
     have n3_ := aM_ (Kd.R_below (by (with_reducible repeat (first | apply rA_ | apply rN_ | apply rD_)); exact HO363.out) hb)
     have n4_ := aM_ (Kd.R_below (by (with_reducible repeat (first | apply rA_ | apply rN_ | apply rD_)); exact HO372.out) hb)
     have n5_ := aM_ (Kd.R_below (by (with_reducible repeat (first | apply rA_ | apply rN_ | apply rD_)); exact HO375.out) hb)
     have n6_ := aM_ (blk_below (g := gb353) (by (with_reducible repeat (first | apply kN_ | apply kD_ | apply kA_)); exact BK353.out) hb)
     have n7_ := aM_ (blk_below (g := gb365) (by (with_reducible repeat (first | apply kN_ | apply kD_ | apply kA_)); exact BK365.out) hb)
     have n8_ := aM_ (blk_below (g := gb377) (by (with_reducible repeat (first | apply kN_ | apply kD_ | apply kA_)); exact BK377.out) hb)
     have n9_ := aM_ (below_step (by repeat (first | (with_reducible first | exact HB.out | apply wA_ | apply wN_ | apply wD_ | refine below_set ?_ GE353.out | refine below_set ?_ GE365.out | refine below_set ?_ GE377.out) | exact HB.out)) hb)
     clear HO349
     clear HO352
     clear HO360
     clear HO363
     clear HO372
     clear HO375
     clear BK353
     clear BK365
     clear BK377
     clear HB
     have HO349 := n0_
     have HO352 := n1_
     have HO360 := n2_
     have HO363 := n3_
     have HO372 := n4_
     have HO375 := n5_
     have BK353 := n6_
     have BK365 := n7_
     have BK377 := n8_
     have HB := n9_
     clear n0_ n1_ n2_ n3_ n4_ n5_ n6_ n7_ n8_ n9_
     (try clear hb)
     (try clear hb2)
     (try clear hk)
     (try clear hi)
     refine hK.out _ _ ⟨(blk_cell BK365.out 0).trans rfl, (blk_cell BK365.out 1).trans rfl, (blk_cell BK365.out 2).trans rfl, (blk_cell BK365.out 3).trans rfl, (blk_cell BK365.out 4).trans rfl, (blk_cell BK365.out 5).trans rfl, (blk_cell BK377.out 0).trans rfl, (blk_cell BK377.out 1).trans rfl, (blk_cell BK377.out 2).trans rfl, (blk_cell BK377.out 3).trans rfl, (blk_cell BK377.out 4).trans rfl, (blk_cell BK377.out 5).trans rfl, (blk_cell BK353.out 0).trans rfl, (blk_cell BK353.out 1).trans rfl, (blk_cell BK353.out 2).trans rfl, (blk_cell BK353.out 3).trans rfl, (blk_cell BK353.out 4).trans rfl, (blk_cell BK353.out 5).trans rfl⟩ (fun hHeld => ?_)
     clear hK K
     refine norm_ (a' := ?_) ?_ ?_
     rotate_left
     ·show Act.put _ (some 40) _ = _
      simp only [Act.put, sA_, s0_, s1_, i64_w, i32_w]
      rfl
     refine one_ (i := 13) (N := some 42) #[true, true, true, true, true, true, true, true, true, true, true, true, true, true, false, false] rfl rfl (one_of HT_.out (by kernel_rfl)) (by decide) (fun K hK => ?_)
     refine goes_ Try.func25 (by kernel_rfl) rfl #[.agg #[.int .i64 t343, .int .i64 t344, .int .i64 t345, .int .i64 t346, .slice Ao10 t347.length co10, .slice Ao11 t350.length co11]] (by rfl) rfl rfl (by (try simp only [List.map_toArray, List.map_cons, List.map_nil]); first | done | rfl | (simp only [List.length_drop, List.length_take]; rfl)) ?_
     with_reducible refine (spec_ImageOk.calls k t343 t344 t345 t346 _ _ t347 _ _ t350 t380 _ ?side1 ?side2 ?side3 ?side4 A30.out).mono ?_
     (case side1 => repeat (first | exact (Kd.R_reads' HO349.out).2.2 | (with_reducible refine Kd.C_alloc ?_ _) | (with_reducible refine Kd.C_drewN ?_ _) | (with_reducible refine Kd.C_drew ?_)))
     (case side2 => exact (Kd.R_reads' HO349.out).2.1)
     (case side3 => repeat (first | exact (Kd.Q_reads' HO352.out).2.2 | (with_reducible refine Kd.C_alloc ?_ _) | (with_reducible refine Kd.C_drewN ?_ _) | (with_reducible refine Kd.C_drew ?_)))
     (case side4 => exact (Kd.Q_reads' HO352.out).2.1)
     rintro e w35 ⟨rfl, hb⟩
     refine ⟨_, rfl, ?_⟩
     have n0_ := aM_ (Kd.R_below (by (with_reducible repeat (first | apply rA_ | apply rN_ | apply rD_)); exact HO349.out) hb)
     have n1_ := aM_ (Kd.Q_below (by (with_reducible repeat (first | apply Kd.Q_alloc | apply Kd.Q_drewN | apply Kd.Q_drew)); exact HO352.out) hb)
     have n2_ := aM_ (Kd.R_below (by (with_reducible repeat (first | apply rA_ | apply rN_ | apply rD_)); exact HO360.out) hb)
     have n3_ := aM_ (Kd.R_below (by (with_reducible repeat (first | apply rA_ | apply rN_ | apply rD_)); exact HO363.out) hb)
     have n4_ := aM_ (Kd.R_below (by (with_reducible repeat (first | apply rA_ | apply rN_ | apply rD_)); exact HO372.out) hb)
     have n5_ := aM_ (Kd.R_below (by (with_reducible repeat (first | apply rA_ | apply rN_ | apply rD_)); exact HO375.out) hb)
     have n6_ := aM_ (blk_below (g := gb353) (by (with_reducible repeat (first | apply kN_ | apply kD_ | apply kA_)); exact BK353.out) hb)
     have n7_ := aM_ (blk_below (g := gb365) (by (with_reducible repeat (first | apply kN_ | apply kD_ | apply kA_)); exact BK365.out) hb)
     have n8_ := aM_ (blk_below (g := gb377) (by (with_reducible repeat (first | apply kN_ | apply kD_ | apply kA_)); exact BK377.out) hb)
     have n9_ := aM_ (below_step (by repeat (first | (with_reducible first | exact HB.out | apply wA_ | apply wN_ | apply wD_ | refine below_set ?_ GE353.out | refine below_set ?_ GE365.out | refine below_set ?_ GE377.out) | exact HB.out)) hb)
     clear HO349
     clear HO352
     clear HO360
     clear HO363
     clear HO372
     clear HO375
     clear BK353
     clear BK365
     clear BK377
     clear HB
     have HO349 := n0_
     have HO352 := n1_
     have HO360 := n2_
     have HO363 := n3_
     have HO372 := n4_
     have HO375 := n5_
     have BK353 := n6_
     have BK365 := n7_
     have BK377 := n8_
     have HB := n9_
     clear n0_ n1_ n2_ n3_ n4_ n5_ n6_ n7_ n8_ n9_
     (try clear hb)
     (try clear hb2)
     (try clear hk)
     (try clear hi)
     refine hK.out _ _ ⟨(blk_cell BK365.out 0).trans rfl, (blk_cell BK365.out 1).trans rfl, (blk_cell BK365.out 2).trans rfl, (blk_cell BK365.out 3).trans rfl, (blk_cell BK365.out 4).trans rfl, (blk_cell BK365.out 5).trans rfl, (blk_cell BK377.out 0).trans rfl, (blk_cell BK377.out 1).trans rfl, (blk_cell BK377.out 2).trans rfl, (blk_cell BK377.out 3).trans rfl, (blk_cell BK377.out 4).trans rfl, (blk_cell BK377.out 5).trans rfl, (blk_cell BK353.out 0).trans rfl, (blk_cell BK353.out 1).trans rfl, (blk_cell BK353.out 2).trans rfl, (blk_cell BK353.out 3).trans rfl, (blk_cell BK353.out 4).trans rfl, (blk_cell BK353.out 5).trans rfl⟩ (fun hHeld => ?_)
     clear hK K
     refine norm_ (a' := ?_) ?_ ?_
     rotate_left
     ·show Act.put _ (some 42) _ = _
      simp only [Act.put, sA_, s0_, s1_, i64_w, i32_w]
      rfl
     refine pure_ (i := 14) (N := some 43) (v := ?_) (a' := ?_) #[true, true, true, true, true, true, true, true, true, true, true, true, true, true, true, false] rfl rfl (any_of HT_.out (by kernel_rfl)) (fun _ _ _ h => h) (Or.inl ⟨by rfl, ?_⟩) ?_ ?_
     rotate_left
     ·intro w'
      go_simp
      with_reducible rfl
     rotate_left
     ·simp only [Act.put, sA_, s0_, s1_, i64_w, i32_w]
      rfl
     refine pure_ (i := 15) (N := some 44) (v := ?_) (a' := ?_) #[true, true, true, true, true, true, true, true, true, true, true, true, true, true, true, true] rfl rfl (any_of HT_.out (by kernel_rfl)) (fun _ _ _ h => h) (Or.inl ⟨by rfl, ?_⟩) ?_ ?_
     rotate_left
     ·intro w'
      go_simp
      with_reducible rfl
     rotate_left
     ·simp only [Act.put, sA_, s0_, s1_, i64_w, i32_w]
      rfl
     refine done_ (done_of HT_.out (by kernel_rfl)) ?_
     try go_wp2
     go_meet
     case rel => exact ⟨_, ((t379 != t380)), (by first | rfl | (simp; done) | (simp [*]; done)), H', ⟨by first | omega | exact Nat.le_refl _⟩, ⟨by (with_reducible repeat (first | apply rA_ | apply rN_ | apply rD_)); exact HO349.out⟩, ⟨by (with_reducible repeat (first | apply Kd.Q_alloc | apply Kd.Q_drewN | apply Kd.Q_drew)); exact HO352.out⟩, ⟨by (with_reducible repeat (first | apply rA_ | apply rN_ | apply rD_)); exact HO360.out⟩, ⟨Kd.Q_of_R (by (with_reducible repeat (first | apply rA_ | apply rN_ | apply rD_)); exact HO363.out)⟩, ⟨by (with_reducible repeat (first | apply rA_ | apply rN_ | apply rD_)); exact HO372.out⟩, ⟨Kd.Q_of_R (by (with_reducible repeat (first | apply rA_ | apply rN_ | apply rD_)); exact HO375.out)⟩, ⟨by (with_reducible repeat (first | apply kN_ | apply kD_ | apply kA_)); exact BK353.out⟩, ⟨by (with_reducible repeat (first | apply kN_ | apply kD_ | apply kA_)); exact BK365.out⟩, ⟨by (with_reducible repeat (first | apply kN_ | apply kD_ | apply kA_)); exact BK377.out⟩, ⟨by repeat (first | (with_reducible first | exact HB.out | apply wA_ | apply wN_ | apply wD_ | refine below_set ?_ GE353.out | refine below_set ?_ GE365.out | refine below_set ?_ GE377.out) | exact HB.out)⟩⟩
   ·replace c27 := Bool.eq_false_iff.mpr c27
    subst c27
    have H1 : (laws_FnImageRgb.j0 k t364 true t343 t344 t345 t346 t347 t350 t354 t355 t356 t357 t358 t361) = some true := by first | (rw [if_neg (show ¬ (false = true) by decide)] at H; exact H) | rfl
    clear H
    have H := H1
    clear H1
    exact absurd H (by cases k <;> simp [laws_FnImageRgb.j0])
  case rest =>
   clear HC6
   try clear c1
   try clear c2
   try clear c2b0
   try clear c2b1
   try clear p2
   try clear c4
   try clear c14
   try clear c20
   try clear c21
   try clear c22
   try clear c23
   try clear c24
   try clear c25
   try clear c27
   try clear c28
   try clear c28b0
   try clear c28b1
   try clear c28b2
   try clear hcz15_0
   try clear hcz15_1
   try clear hcz15_2
   try clear hcz15_3
   try clear hcz15_4
   try clear hcz15_5
   try clear hcz18_0
   try clear hcz18_1
   try clear hcz18_2
   try clear hcz18_3
   try clear hcz18_4
   try clear hcz18_5
   try clear hcz23_0
   try clear hcz23_1
   try clear hcz23_2
   try clear hcz23_3
   try clear hcz23_4
   try clear hcz23_5
   try clear hcz9_0
   try clear hcz9_1
   try clear hcz9_2
   try clear hcz9_3
   try clear hcz9_4
   try clear hcz9_5
   try clear hfz15_0
   try clear hfz15_1
   try clear hfz15_2
   try clear hfz15_3
   try clear hfz15_4
   try clear hfz15_5
   try clear hfz18_0
   try clear hfz18_1
   try clear hfz18_2
   try clear hfz18_3
   try clear hfz18_4
   try clear hfz18_5
   try clear hfz23_0
   try clear hfz23_1
   try clear hfz23_2
   try clear hfz23_3
   try clear hfz23_4
   try clear hfz23_5
   try clear hfz9_0
   try clear hfz9_1
   try clear hfz9_2
   try clear hfz9_3
   try clear hfz9_4
   try clear hfz9_5
   obtain ⟨kq, x44_5, rfl, HA, HJ5, HO_354004, HO_354005, HO_366004, HO_366005, HO_378004, HO_378005, BK353, BK365, BK377, HB⟩ := hcut
   cases kq with
   | zero => exact absurd HA.out (by simp [laws_FnImageRgb.j0])
   | succ kj5 =>
    have H := HA.out
    clear HA
    simp only [laws_FnImageRgb.j0] at H
    by_cases c36 : x44_5 = true
    ·subst c36
     have H1 : (some false) = some true := by first | (rw [if_pos rfl] at H; exact H) | rfl
     clear H
     have H := H1
     clear H1
     exact absurd H (by simp)
    ·replace c36 := Bool.eq_false_iff.mpr c36
     subst c36
     have H1 : ((spec_ImageOk.f kj5 t343 t344 t345 t346 t347 t350).bind fun t381 => (laws_FnImageRgb.l0 kj5 t364 t381 0 t343 t344 t345 t346 t347 t350 t354 t355 t356 t357 t358 t361)) = some true := by first | (rw [if_neg (show ¬ (false = true) by decide)] at H; exact H) | rfl
     clear H
     have H := H1
     clear H1
     replace H := Option.bind_eq_some_iff.mp H
     obtain ⟨t381, A370, H⟩ := H
     replace H : (laws_FnImageRgb.l0 kj5 t364 t381 0 t343 t344 t345 t346 t347 t350 t354 t355 t356 t357 t358 t361) = some true := H
     have A37 := aM_ A370
     clear A370
     have HC38 := aM_ H
     clear H
     have hnb39 := NB353_365.out
     have hnc39 := NB365_353.out
     have hnb40 := NB353_377.out
     have hnc40 := NB377_353.out
     obtain ⟨hcz41_0, hcz41_1, hcz41_2, hcz41_3, hcz41_4, hcz41_5⟩ := bc6 BK353.out
     obtain ⟨hfz41_0, hfz41_1, hfz41_2, hfz41_3, hfz41_4, hfz41_5⟩ := bf6 BK353.out
     go_upto_block 0 with (first | ((with_reducible refine gate_callee (f := 25) rfl ?_); refine goesL_ (some 46) rfl rfl Try.func25 (by kernel_rfl) rfl #[.agg #[.int .i64 t343, .int .i64 t344, .int .i64 t345, .int .i64 t346, .slice Ao10 t347.length co10, .slice Ao11 t350.length co11]] rfl (by (try simp only [List.map_toArray, List.map_cons, List.map_nil]); first | done | rfl | (simp only [List.length_drop, List.length_take]; rfl)) ?_; (with_reducible refine (spec_ImageOk.calls kj5 t343 t344 t345 t346 _ _ t347 _ _ t350 t381 _ ?side1 ?side2 ?side3 ?side4 A37.out).mono ?_); (case side1 => repeat (first | exact (Kd.R_reads' HO_354004.out).2.2 | (with_reducible refine Kd.C_alloc ?_ _) | (with_reducible refine Kd.C_drewN ?_ _) | (with_reducible refine Kd.C_drew ?_))); (case side2 => exact (Kd.R_reads' HO_354004.out).2.1); (case side3 => repeat (first | exact (Kd.Q_reads' HO_354005.out).2.2 | (with_reducible refine Kd.C_alloc ?_ _) | (with_reducible refine Kd.C_drewN ?_ _) | (with_reducible refine Kd.C_drew ?_))); (case side4 => exact (Kd.Q_reads' HO_354005.out).2.1); rintro e w42 ⟨rfl, hb⟩; refine ⟨_, rfl, ?_⟩; have n0_ := aM_ (Kd.R_below (by (with_reducible repeat (first | apply rA_ | apply rN_ | apply rD_)); exact HO_354004.out) hb); have n1_ := aM_ (Kd.Q_below (by (with_reducible repeat (first | apply Kd.Q_alloc | apply Kd.Q_drewN | apply Kd.Q_drew)); exact HO_354005.out) hb); have n2_ := aM_ (Kd.R_below (by (with_reducible repeat (first | apply rA_ | apply rN_ | apply rD_)); exact HO_366004.out) hb); have n3_ := aM_ (Kd.Q_below (by (with_reducible repeat (first | apply Kd.Q_alloc | apply Kd.Q_drewN | apply Kd.Q_drew)); exact HO_366005.out) hb); have n4_ := aM_ (Kd.R_below (by (with_reducible repeat (first | apply rA_ | apply rN_ | apply rD_)); exact HO_378004.out) hb); have n5_ := aM_ (Kd.Q_below (by (with_reducible repeat (first | apply Kd.Q_alloc | apply Kd.Q_drewN | apply Kd.Q_drew)); exact HO_378005.out) hb); have n6_ := aM_ (blk_below (g := gb353) (by (with_reducible repeat (first | apply kN_ | apply kD_ | apply kA_)); exact BK353.out) hb); have n7_ := aM_ (blk_below (g := gb365) (by (with_reducible repeat (first | apply kN_ | apply kD_ | apply kA_)); exact BK365.out) hb); have n8_ := aM_ (blk_below (g := gb377) (by (with_reducible repeat (first | apply kN_ | apply kD_ | apply kA_)); exact BK377.out) hb); have n9_ := aM_ (below_step (by repeat (first | (with_reducible first | exact HB.out | apply wA_ | apply wN_ | apply wD_ | refine below_set ?_ GE353.out | refine below_set ?_ GE365.out | refine below_set ?_ GE377.out) | exact HB.out)) hb); clear HO_354004; clear HO_354005; clear HO_366004; clear HO_366005; clear HO_378004; clear HO_378005; clear BK353; clear BK365; clear BK377; clear HB; have HO_354004 := n0_; have HO_354005 := n1_; have HO_366004 := n2_; have HO_366005 := n3_; have HO_378004 := n4_; have HO_378005 := n5_; have BK353 := n6_; have BK365 := n7_; have BK377 := n8_; have HB := n9_; clear n0_ n1_ n2_ n3_ n4_ n5_ n6_ n7_ n8_ n9_; (try clear hb); (try clear hb2); (try clear hk); (try clear hi)))
     (try simp only [Act.put, sA_, s0_, s1_])
     go_cut [8] (fun v8 wc => ∃ (kq : Nat) (x8_37 : Bool), v8 = .bool x8_37 ∧ Aside0 (laws_FnImageRgb.j2 kq t364 x8_37 t343 t344 t345 t346 t347 t350 t354 t355 t356 t357 t358 t361 = some true) ∧ Aside0 (kq ≤ kj5) ∧ Aside0 (Kd.R (Kd.int .i64) 3 wc w.heap.size (fun k_ => some k_ ≠ ((.slice Ao11 t350.length co11) : Value).ownBlock ∧ some k_ ≠ ((.slice Ao16 t358.length co16) : Value).ownBlock ∧ some k_ ≠ ((.slice Ao17 t361.length co17) : Value).ownBlock ∧ some k_ ≠ ((.slice Ao24 t370.length co24) : Value).ownBlock ∧ some k_ ≠ ((.slice Ao25 t373.length co25) : Value).ownBlock) (.slice Ao10 t347.length co10) t347) ∧ Aside0 (Kd.Q (Kd.int .i64) 3 wc w.heap.size (fun k_ => some k_ ≠ ((.slice Ao10 t347.length co10) : Value).ownBlock ∧ some k_ ≠ ((.slice Ao16 t358.length co16) : Value).ownBlock ∧ some k_ ≠ ((.slice Ao17 t361.length co17) : Value).ownBlock ∧ some k_ ≠ ((.slice Ao24 t370.length co24) : Value).ownBlock ∧ some k_ ≠ ((.slice Ao25 t373.length co25) : Value).ownBlock) (.slice Ao11 t350.length co11) t350) ∧ Aside0 (Kd.R (Kd.int .i64) 3 wc w.heap.size (fun k_ => some k_ ≠ ((.slice Ao10 t347.length co10) : Value).ownBlock ∧ some k_ ≠ ((.slice Ao11 t350.length co11) : Value).ownBlock ∧ some k_ ≠ ((.slice Ao17 t361.length co17) : Value).ownBlock ∧ some k_ ≠ ((.slice Ao24 t370.length co24) : Value).ownBlock ∧ some k_ ≠ ((.slice Ao25 t373.length co25) : Value).ownBlock) (.slice Ao16 t358.length co16) t358) ∧ Aside0 (Kd.Q (Kd.int .i64) 3 wc w.heap.size (fun k_ => some k_ ≠ ((.slice Ao10 t347.length co10) : Value).ownBlock ∧ some k_ ≠ ((.slice Ao11 t350.length co11) : Value).ownBlock ∧ some k_ ≠ ((.slice Ao16 t358.length co16) : Value).ownBlock ∧ some k_ ≠ ((.slice Ao24 t370.length co24) : Value).ownBlock ∧ some k_ ≠ ((.slice Ao25 t373.length co25) : Value).ownBlock) (.slice Ao17 t361.length co17) t361) ∧ Aside0 (Kd.R (Kd.int .i64) 3 wc w.heap.size (fun k_ => some k_ ≠ ((.slice Ao10 t347.length co10) : Value).ownBlock ∧ some k_ ≠ ((.slice Ao11 t350.length co11) : Value).ownBlock ∧ some k_ ≠ ((.slice Ao16 t358.length co16) : Value).ownBlock ∧ some k_ ≠ ((.slice Ao17 t361.length co17) : Value).ownBlock ∧ some k_ ≠ ((.slice Ao25 t373.length co25) : Value).ownBlock) (.slice Ao24 t370.length co24) t370) ∧ Aside0 (Kd.Q (Kd.int .i64) 3 wc w.heap.size (fun k_ => some k_ ≠ ((.slice Ao10 t347.length co10) : Value).ownBlock ∧ some k_ ≠ ((.slice Ao11 t350.length co11) : Value).ownBlock ∧ some k_ ≠ ((.slice Ao16 t358.length co16) : Value).ownBlock ∧ some k_ ≠ ((.slice Ao17 t361.length co17) : Value).ownBlock ∧ some k_ ≠ ((.slice Ao24 t370.length co24) : Value).ownBlock) (.slice Ao25 t373.length co25) t373) ∧ Aside0 (wc.heap[gb353]? = some (.cells #[.int .i64 t343, .int .i64 t344, .int .i64 t345, .int .i64 t346, (.slice Ao10 t347.length co10), (.slice Ao11 t350.length co11)] 25 (0, 0))) ∧ Aside0 (wc.heap[gb365]? = some (.cells #[.int .i64 t354, .int .i64 t355, .int .i64 t356, .int .i64 t357, (.slice Ao16 t358.length co16), (.slice Ao17 t361.length co17)] 25 (0, 0))) ∧ Aside0 (wc.heap[gb377]? = some (.cells #[.int .i64 t366, .int .i64 t367, .int .i64 t368, .int .i64 t369, (.slice Ao24 t370.length co24), (.slice Ao25 t373.length co25)] 25 (0, 0))) ∧ Aside0 (Below w.heap.size w wc))
     case first =>
      have H := HC38.out
      clear HC38
      have H' := aM_ H
      clear H
      go_wp2
      go_loopg [8, 9] kj5 (fun kq v8 v9 w' => ∃ (x8_2 : Bool) (x9_2 : Int), v8 = .bool x8_2 ∧ v9 = .int .i64 x9_2 ∧ Aside0 (laws_FnImageRgb.l0 kq t364 x8_2 x9_2 t343 t344 t345 t346 t347 t350 t354 t355 t356 t357 t358 t361 = some true) ∧ Aside0 (kq ≤ kj5) ∧ Aside0 (Kd.R (Kd.int .i64) 3 w' w.heap.size (fun k_ => some k_ ≠ ((.slice Ao11 t350.length co11) : Value).ownBlock ∧ some k_ ≠ ((.slice Ao16 t358.length co16) : Value).ownBlock ∧ some k_ ≠ ((.slice Ao17 t361.length co17) : Value).ownBlock ∧ some k_ ≠ ((.slice Ao24 t370.length co24) : Value).ownBlock ∧ some k_ ≠ ((.slice Ao25 t373.length co25) : Value).ownBlock) (.slice Ao10 t347.length co10) t347) ∧ Aside0 (Kd.Q (Kd.int .i64) 3 w' w.heap.size (fun k_ => some k_ ≠ ((.slice Ao10 t347.length co10) : Value).ownBlock ∧ some k_ ≠ ((.slice Ao16 t358.length co16) : Value).ownBlock ∧ some k_ ≠ ((.slice Ao17 t361.length co17) : Value).ownBlock ∧ some k_ ≠ ((.slice Ao24 t370.length co24) : Value).ownBlock ∧ some k_ ≠ ((.slice Ao25 t373.length co25) : Value).ownBlock) (.slice Ao11 t350.length co11) t350) ∧ Aside0 (Kd.R (Kd.int .i64) 3 w' w.heap.size (fun k_ => some k_ ≠ ((.slice Ao10 t347.length co10) : Value).ownBlock ∧ some k_ ≠ ((.slice Ao11 t350.length co11) : Value).ownBlock ∧ some k_ ≠ ((.slice Ao17 t361.length co17) : Value).ownBlock ∧ some k_ ≠ ((.slice Ao24 t370.length co24) : Value).ownBlock ∧ some k_ ≠ ((.slice Ao25 t373.length co25) : Value).ownBlock) (.slice Ao16 t358.length co16) t358) ∧ Aside0 (Kd.Q (Kd.int .i64) 3 w' w.heap.size (fun k_ => some k_ ≠ ((.slice Ao10 t347.length co10) : Value).ownBlock ∧ some k_ ≠ ((.slice Ao11 t350.length co11) : Value).ownBlock ∧ some k_ ≠ ((.slice Ao16 t358.length co16) : Value).ownBlock ∧ some k_ ≠ ((.slice Ao24 t370.length co24) : Value).ownBlock ∧ some k_ ≠ ((.slice Ao25 t373.length co25) : Value).ownBlock) (.slice Ao17 t361.length co17) t361) ∧ Aside0 (Kd.R (Kd.int .i64) 3 w' w.heap.size (fun k_ => some k_ ≠ ((.slice Ao10 t347.length co10) : Value).ownBlock ∧ some k_ ≠ ((.slice Ao11 t350.length co11) : Value).ownBlock ∧ some k_ ≠ ((.slice Ao16 t358.length co16) : Value).ownBlock ∧ some k_ ≠ ((.slice Ao17 t361.length co17) : Value).ownBlock ∧ some k_ ≠ ((.slice Ao25 t373.length co25) : Value).ownBlock) (.slice Ao24 t370.length co24) t370) ∧ Aside0 (Kd.Q (Kd.int .i64) 3 w' w.heap.size (fun k_ => some k_ ≠ ((.slice Ao10 t347.length co10) : Value).ownBlock ∧ some k_ ≠ ((.slice Ao11 t350.length co11) : Value).ownBlock ∧ some k_ ≠ ((.slice Ao16 t358.length co16) : Value).ownBlock ∧ some k_ ≠ ((.slice Ao17 t361.length co17) : Value).ownBlock ∧ some k_ ≠ ((.slice Ao24 t370.length co24) : Value).ownBlock) (.slice Ao25 t373.length co25) t373) ∧ Aside0 (w'.heap[gb353]? = some (.cells #[.int .i64 t343, .int .i64 t344, .int .i64 t345, .int .i64 t346, (.slice Ao10 t347.length co10), (.slice Ao11 t350.length co11)] 25 (0, 0))) ∧ Aside0 (w'.heap[gb365]? = some (.cells #[.int .i64 t354, .int .i64 t355, .int .i64 t356, .int .i64 t357, (.slice Ao16 t358.length co16), (.slice Ao17 t361.length co17)] 25 (0, 0))) ∧ Aside0 (w'.heap[gb377]? = some (.cells #[.int .i64 t366, .int .i64 t367, .int .i64 t368, .int .i64 t369, (.slice Ao24 t370.length co24), (.slice Ao25 t373.length co25)] 25 (0, 0))) ∧ Aside0 (Below w.heap.size w w'))
      case atStart => exact ⟨(t381), (0), (by first | rfl | (simp; done) | (simp [*]; done)), (by first | rfl | (simp; done) | (simp [*]; done)), H', ⟨Nat.le_refl _⟩, ⟨by (with_reducible repeat (first | apply rA_ | apply rN_ | apply rD_)); exact HO_354004.out⟩, ⟨by (with_reducible repeat (first | apply Kd.Q_alloc | apply Kd.Q_drewN | apply Kd.Q_drew)); exact HO_354005.out⟩, ⟨by (with_reducible repeat (first | apply rA_ | apply rN_ | apply rD_)); exact HO_366004.out⟩, ⟨by (with_reducible repeat (first | apply Kd.Q_alloc | apply Kd.Q_drewN | apply Kd.Q_drew)); exact HO_366005.out⟩, ⟨by (with_reducible repeat (first | apply rA_ | apply rN_ | apply rD_)); exact HO_378004.out⟩, ⟨by (with_reducible repeat (first | apply Kd.Q_alloc | apply Kd.Q_drewN | apply Kd.Q_drew)); exact HO_378005.out⟩, ⟨by (with_reducible repeat (first | apply kN_ | apply kD_ | apply kA_)); exact BK353.out⟩, ⟨by (with_reducible repeat (first | apply kN_ | apply kD_ | apply kA_)); exact BK365.out⟩, ⟨by (with_reducible repeat (first | apply kN_ | apply kD_ | apply kA_)); exact BK377.out⟩, ⟨by repeat (first | (with_reducible first | exact HB.out | apply wA_ | apply wN_ | apply wD_ | refine below_set ?_ GE353.out | refine below_set ?_ GE365.out | refine below_set ?_ GE377.out) | exact HB.out)⟩⟩
      case round =>
       clear H'
       try clear c1
       try clear c2
       try clear c2b0
       try clear c2b1
       try clear p2
       try clear c3
       try clear c4
       try clear c14
       try clear c20
       try clear c21
       try clear c22
       try clear c23
       try clear c24
       try clear c25
       try clear c27
       try clear c28
       try clear c28b0
       try clear c28b1
       try clear c28b2
       try clear c36
       try clear c39
       try clear c40
       try clear hcz15_0
       try clear hcz15_1
       try clear hcz15_2
       try clear hcz15_3
       try clear hcz15_4
       try clear hcz15_5
       try clear hcz18_0
       try clear hcz18_1
       try clear hcz18_2
       try clear hcz18_3
       try clear hcz18_4
       try clear hcz18_5
       try clear hcz23_0
       try clear hcz23_1
       try clear hcz23_2
       try clear hcz23_3
       try clear hcz23_4
       try clear hcz23_5
       try clear hcz41_0
       try clear hcz41_1
       try clear hcz41_2
       try clear hcz41_3
       try clear hcz41_4
       try clear hcz41_5
       try clear hcz9_0
       try clear hcz9_1
       try clear hcz9_2
       try clear hcz9_3
       try clear hcz9_4
       try clear hcz9_5
       try clear hfz15_0
       try clear hfz15_1
       try clear hfz15_2
       try clear hfz15_3
       try clear hfz15_4
       try clear hfz15_5
       try clear hfz18_0
       try clear hfz18_1
       try clear hfz18_2
       try clear hfz18_3
       try clear hfz18_4
       try clear hfz18_5
       try clear hfz23_0
       try clear hfz23_1
       try clear hfz23_2
       try clear hfz23_3
       try clear hfz23_4
       try clear hfz23_5
       try clear hfz41_0
       try clear hfz41_1
       try clear hfz41_2
       try clear hfz41_3
       try clear hfz41_4
       try clear hfz41_5
       try clear hfz9_0
       try clear hfz9_1
       try clear hfz9_2
       try clear hfz9_3
       try clear hfz9_4
       try clear hfz9_5
       try clear p2
       obtain ⟨x8_2, x9_2, rfl, rfl, HA, HK2, HO_354004, HO_354005, HO_366004, HO_366005, HO_378004, HO_378005, BK353, BK365, BK377, HB⟩ := hrel
       cases gk with
       | zero => exact absurd HA.out (by simp [laws_FnImageRgb.l0])
       | succ k2 =>
        have H := HA.out
        clear HA
        simp only [laws_FnImageRgb.l0] at H
        by_cases c43 : x9_2 < (t350.length : Int)
        ·rw [if_pos c43] at H
         have c43b0 : decide (x9_2 < (t350.length : Int)) = true := decide_eq_true c43
         clear c43
         (first | rw [c43b0] | (simp only [i64_w, i32_w]; rw [c43b0]) | skip)
         by_cases c44 : x8_2 = true
         ·subst c44
          have H1 : (if t345 = 0 then (none) else ((impl_ImageColor.f k2 t343 t344 t345 t346 t347 t350 (Int.tmod x9_2 t345) (wrap64 (Int.tdiv x9_2 t345))).bind fun bt382 => (laws_FnImageRgb.l0 k2 t364 ((Int.tmod bt382.1 256) == 255) (wrap64 (x9_2 + 1)) t343 t344 t345 t346 t347 t350 t354 t355 t356 t357 t358 t361))) = some true := by first | (rw [if_pos rfl] at H; exact H) | rfl
          clear H
          have H := H1
          clear H1
          by_cases c45 : t345 = 0
          ·rw [if_pos c45] at H
           exact absurd H (by simp)
          ·rw [if_neg c45] at H
           have c45b0 : (t345 == 0) = false := beq_eq_false_iff_ne.mpr c45
           have c45b1 : (t345 != 0) = true := bne_iff_ne.mpr c45
           replace H := Option.bind_eq_some_iff.mp H
           obtain ⟨⟨t382, t383⟩, A460, H⟩ := H
           replace H : (laws_FnImageRgb.l0 k2 t364 ((Int.tmod t382 256) == 255) (wrap64 (x9_2 + 1)) t343 t344 t345 t346 t347 t350 t354 t355 t356 t357 t358 t361) = some true := H
           have A46 := aM_ A460
           clear A460
           have H' := aM_ H
           clear H
           have hnb47 := NB353_365.out
           have hnc47 := NB365_353.out
           have hnb48 := NB353_377.out
           have hnc48 := NB377_353.out
           obtain ⟨hcz49_0, hcz49_1, hcz49_2, hcz49_3, hcz49_4, hcz49_5⟩ := bc6 BK353.out
           obtain ⟨hfz49_0, hfz49_1, hfz49_2, hfz49_3, hfz49_4, hfz49_5⟩ := bf6 BK353.out
           try go_wp2
           have n0_ := aM_ (rD_ HO_354004.out)
           have n1_ := aM_ (Kd.Q_drew HO_354005.out)
           have n2_ := aM_ (rD_ HO_366004.out)
           have n3_ := aM_ (Kd.Q_drew HO_366005.out)
           have n4_ := aM_ (rD_ HO_378004.out)
           have n5_ := aM_ (Kd.Q_drew HO_378005.out)
           have n6_ := aM_ (kD_ BK353.out)
           have n7_ := aM_ (kD_ BK365.out)
           have n8_ := aM_ (kD_ BK377.out)
           have n9_ := aM_ (wD_ HB.out)
           clear HO_354004
           clear HO_354005
           clear HO_366004
           clear HO_366005
           clear HO_378004
           clear HO_378005
           clear BK353
           clear BK365
           clear BK377
           clear HB
           have HO_354004 := n0_
           have HO_354005 := n1_
           have HO_366004 := n2_
           have HO_366005 := n3_
           have HO_378004 := n4_
           have HO_378005 := n5_
           have BK353 := n6_
           have BK365 := n7_
           have BK377 := n8_
           have HB := n9_
           clear n0_ n1_ n2_ n3_ n4_ n5_ n6_ n7_ n8_ n9_
           refine start_ (n := 15) (S := fun w' => w'.cell? ⟨gb353, 0, none⟩ = some (.int .i64 t343) ∧ w'.cell? ⟨gb353, 1, none⟩ = some (.int .i64 t344) ∧ w'.cell? ⟨gb353, 2, none⟩ = some (.int .i64 t345) ∧ w'.cell? ⟨gb353, 3, none⟩ = some (.int .i64 t346) ∧ w'.cell? ⟨gb353, 4, none⟩ = some (.slice Ao10 t347.length co10) ∧ w'.cell? ⟨gb353, 5, none⟩ = some (.slice Ao11 t350.length co11)) (ds := []) #[false, false, false, false, false, false, false, false, false, false, false, false, false, false, false] (by kernel_rfl) rfl rfl (bc6 BK353.out) (fun hHeld => ?_); refine with_tabW laws_FnImageRgb.tab12 laws_FnImageRgb.bits12 (fun HT_ HW_ => ?_)
           generalize wr.drew = w50 at HO_354004 HO_354005 HO_366004 HO_366005 HO_378004 HO_378005 BK353 BK365 BK377 HB hHeld ⊢
           refine pure_ (i := 1) (N := some 59) (v := ?_) (a' := ?_) #[false, true, false, false, false, false, false, false, false, false, false, false, false, false, false] rfl rfl (any_of HT_.out (by kernel_rfl)) (fun _ _ _ h => h) (Or.inl ⟨by rfl, ?_⟩) ?_ ?_
           rotate_left
           ·intro w'
            go_simp
            with_reducible rfl
           rotate_left
           ·simp only [Act.put, sA_, s0_, s1_, i64_w, i32_w]
            rfl
           refine pure_ (i := 2) (N := some 60) (v := ?_) (a' := ?_) #[false, true, true, false, false, false, false, false, false, false, false, false, false, false, false] rfl rfl (any_of HT_.out (by kernel_rfl)) (fun _ _ _ h => h) (Or.inl ⟨by rfl, ?_⟩) ?_ ?_
           rotate_left
           ·intro w'
            go_simp
            with_reducible rfl
           rotate_left
           ·simp only [Act.put, sA_, s0_, s1_, i64_w, i32_w]
            rfl
           refine pure_ (i := 5) (N := some 63) (v := ?_) (a' := ?_) #[false, true, true, false, false, true, false, false, false, false, false, false, false, false, false] rfl rfl (any_of HT_.out (by kernel_rfl)) (fun _ _ _ h => h) (Or.inl ⟨by rfl, ?_⟩) ?_ ?_
           rotate_left
           ·intro w'
            go_simp
            with_reducible rfl
           rotate_left
           ·simp only [Act.put, sA_, s0_, s1_, i64_w, i32_w]
            rfl
           refine pure_ (i := 6) (N := some 64) (v := ?_) (a' := ?_) #[false, true, true, false, false, true, true, false, false, false, false, false, false, false, false] rfl rfl (any_of HT_.out (by kernel_rfl)) (fun _ _ _ h => h) (Or.inl ⟨by rfl, ?_⟩) ?_ ?_
           rotate_left
           ·intro w'
            go_simp
            with_reducible rfl
           rotate_left
           ·simp only [Act.put, sA_, s0_, s1_, i64_w, i32_w]
            rfl
           refine take_ (i := 0) (N := some 58) (v := ?_) (a' := ?_) #[true, true, true, false, false, true, true, false, false, false, false, false, false, false, false] rfl rfl (take_ofW HT_.out HW_.out (by kernel_rfl)) (fun _ _ _ h => h) (Or.inl ⟨by rfl, ?_⟩) hHeld ?_ ?_
           rotate_left
           ·rintro w' ⟨s0, s1, s2, s3, s4, s5⟩
            go_simp
            with_reducible rfl
           rotate_left
           ·simp only [Act.put, sA_, s0_, s1_, i64_w, i32_w]
            rfl
           refine take_ (i := 3) (N := some 61) (v := ?_) (a' := ?_) #[true, true, true, true, false, true, true, false, false, false, false, false, false, false, false] rfl rfl (take_ofW HT_.out HW_.out (by kernel_rfl)) (fun _ _ _ h => h) (Or.inl ⟨by rfl, ?_⟩) hHeld ?_ ?_
           rotate_left
           ·rintro w' ⟨s0, s1, s2, s3, s4, s5⟩
            go_simp
            with_reducible rfl
           rotate_left
           ·simp only [Act.put, sA_, s0_, s1_, i64_w, i32_w]
            rfl
           refine pure_ (i := 4) (N := some 62) (v := ?_) (a' := ?_) #[true, true, true, true, true, true, true, false, false, false, false, false, false, false, false] rfl rfl (any_of HT_.out (by kernel_rfl)) (fun _ _ _ h => h) (Or.inl ⟨by rfl, ?_⟩) ?_ ?_
           rotate_left
           ·intro w'
            go_simp
            with_reducible rfl
           rotate_left
           ·simp only [Act.put, sA_, s0_, s1_, i64_w, i32_w]
            rfl
           refine take_ (i := 7) (N := some 65) (v := ?_) (a' := ?_) #[true, true, true, true, true, true, true, true, false, false, false, false, false, false, false] rfl rfl (take_ofW HT_.out HW_.out (by kernel_rfl)) (fun _ _ _ h => h) (Or.inl ⟨by rfl, ?_⟩) hHeld ?_ ?_
           rotate_left
           ·rintro w' ⟨s0, s1, s2, s3, s4, s5⟩
            go_simp
            with_reducible rfl
           rotate_left
           ·simp only [Act.put, sA_, s0_, s1_, i64_w, i32_w]
            rfl
           refine pure_ (i := 8) (N := some 66) (v := ?_) (a' := ?_) #[true, true, true, true, true, true, true, true, true, false, false, false, false, false, false] rfl rfl (any_of HT_.out (by kernel_rfl)) (fun _ _ _ h => h) (Or.inl ⟨by rfl, ?_⟩) ?_ ?_
           rotate_left
           ·intro w'
            go_simp
            with_reducible rfl
           rotate_left
           ·simp only [Act.put, sA_, s0_, s1_, i64_w, i32_w]
            rfl
           refine one_ (i := 9) (N := some 67) #[true, true, true, true, true, true, true, true, true, true, false, false, false, false, false] rfl rfl (one_of HT_.out (by kernel_rfl)) (by decide) (fun K hK => ?_)
           refine goes_ Try.func15 (by kernel_rfl) rfl #[.agg #[.int .i64 t343, .int .i64 t344, .int .i64 t345, .int .i64 t346, .slice Ao10 t347.length co10, .slice Ao11 t350.length co11], .int .i64 (Int.tmod x9_2 t345), .int .i64 (wrap64 (Int.tdiv x9_2 t345))] (by rfl) rfl rfl (by (try simp only [List.map_toArray, List.map_cons, List.map_nil]); first | done | rfl | (simp only [List.length_drop, List.length_take]; rfl)) ?_
           with_reducible refine (impl_ImageColor.calls k2 t343 t344 t345 t346 _ _ t347 _ _ t350 (Int.tmod x9_2 t345) (wrap64 (Int.tdiv x9_2 t345)) t382 t383 _ ?side1 ?side2 ?side3 ?side4 A46.out).mono ?_
           (case side1 => repeat (first | exact (Kd.R_reads' HO_354004.out).2.2 | (with_reducible refine Kd.C_alloc ?_ _) | (with_reducible refine Kd.C_drewN ?_ _) | (with_reducible refine Kd.C_drew ?_)))
           (case side2 => exact (Kd.R_reads' HO_354004.out).2.1)
           (case side3 => repeat (first | exact (Kd.Q_reads' HO_354005.out).2.2 | (with_reducible refine Kd.C_alloc ?_ _) | (with_reducible refine Kd.C_drewN ?_ _) | (with_reducible refine Kd.C_drew ?_)))
           (case side4 => exact (Kd.Q_reads' HO_354005.out).2.1)
           rintro e w51 ⟨rfl, hb⟩
           refine ⟨_, rfl, ?_⟩
           have n0_ := aM_ (Kd.R_below (by (with_reducible repeat (first | apply rA_ | apply rN_ | apply rD_)); exact HO_354004.out) hb)
           have n1_ := aM_ (Kd.Q_below (by (with_reducible repeat (first | apply Kd.Q_alloc | apply Kd.Q_drewN | apply Kd.Q_drew)); exact HO_354005.out) hb)
           have n2_ := aM_ (Kd.R_below (by (with_reducible repeat (first | apply rA_ | apply rN_ | apply rD_)); exact HO_366004.out) hb)
           have n3_ := aM_ (Kd.Q_below (by (with_reducible repeat (first | apply Kd.Q_alloc | apply Kd.Q_drewN | apply Kd.Q_drew)); exact HO_366005.out) hb)
           have n4_ := aM_ (Kd.R_below (by (with_reducible repeat (first | apply rA_ | apply rN_ | apply rD_)); exact HO_378004.out) hb)
           have n5_ := aM_ (Kd.Q_below (by (with_reducible repeat (first | apply Kd.Q_alloc | apply Kd.Q_drewN | apply Kd.Q_drew)); exact HO_378005.out) hb)
           have n6_ := aM_ (blk_below (g := gb353) (by (with_reducible repeat (first | apply kN_ | apply kD_ | apply kA_)); exact BK353.out) hb)
           have n7_ := aM_ (blk_below (g := gb365) (by (with_reducible repeat (first | apply kN_ | apply kD_ | apply kA_)); exact BK365.out) hb)
           have n8_ := aM_ (blk_below (g := gb377) (by (with_reducible repeat (first | apply kN_ | apply kD_ | apply kA_)); exact BK377.out) hb)
           have n9_ := aM_ (below_step (by repeat (first | (with_reducible first | exact HB.out | apply wA_ | apply wN_ | apply wD_ | refine below_set ?_ GE353.out | refine below_set ?_ GE365.out | refine below_set ?_ GE377.out) | exact HB.out)) hb)
           clear HO_354004
           clear HO_354005
           clear HO_366004
           clear HO_366005
           clear HO_378004
           clear HO_378005
           clear BK353
           clear BK365
           clear BK377
           clear HB
           have HO_354004 := n0_
           have HO_354005 := n1_
           have HO_366004 := n2_
           have HO_366005 := n3_
           have HO_378004 := n4_
           have HO_378005 := n5_
           have BK353 := n6_
           have BK365 := n7_
           have BK377 := n8_
           have HB := n9_
           clear n0_ n1_ n2_ n3_ n4_ n5_ n6_ n7_ n8_ n9_
           (try clear hb)
           (try clear hb2)
           (try clear hk)
           (try clear hi)
           refine hK.out _ _ (bc6 BK353.out) (fun hHeld => ?_)
           clear hK K
           refine norm_ (a' := ?_) ?_ ?_
           rotate_left
           ·show Act.put _ (some 67) _ = _
            simp only [Act.put, sA_, s0_, s1_, i64_w, i32_w]
            rfl
           refine pure_ (i := 10) (N := some 57) (v := ?_) (a' := ?_) #[true, true, true, true, true, true, true, true, true, true, true, false, false, false, false] rfl rfl (any_of HT_.out (by kernel_rfl)) (fun _ _ _ h => h) (Or.inl ⟨by rfl, ?_⟩) ?_ ?_
           rotate_left
           ·intro w'
            go_simp
            with_reducible rfl
           rotate_left
           ·simp only [Act.put, sA_, s0_, s1_, i64_w, i32_w]
            rfl
           refine pure_ (i := 11) (N := some 68) (v := ?_) (a' := ?_) #[true, true, true, true, true, true, true, true, true, true, true, true, false, false, false] rfl rfl (any_of HT_.out (by kernel_rfl)) (fun _ _ _ h => h) (Or.inl ⟨by rfl, ?_⟩) ?_ ?_
           rotate_left
           ·intro w'
            go_simp
            with_reducible rfl
           rotate_left
           ·simp only [Act.put, sA_, s0_, s1_, i64_w, i32_w]
            rfl
           refine pure_ (i := 12) (N := some 69) (v := ?_) (a' := ?_) #[true, true, true, true, true, true, true, true, true, true, true, true, true, false, false] rfl rfl (any_of HT_.out (by kernel_rfl)) (fun _ _ _ h => h) (Or.inl ⟨by rfl, ?_⟩) ?_ ?_
           rotate_left
           ·intro w'
            go_simp
            with_reducible rfl
           rotate_left
           ·simp only [Act.put, sA_, s0_, s1_, i64_w, i32_w]
            rfl
           refine pure_ (i := 13) (N := some 10) (v := ?_) (a' := ?_) #[true, true, true, true, true, true, true, true, true, true, true, true, true, true, false] rfl rfl (any_of HT_.out (by kernel_rfl)) (fun _ _ _ h => h) (Or.inl ⟨by rfl, ?_⟩) ?_ ?_
           rotate_left
           ·intro w'
            go_simp
            with_reducible rfl
           rotate_left
           ·simp only [Act.put, sA_, s0_, s1_, i64_w, i32_w]
            rfl
           refine pure_ (i := 14) (N := some 11) (v := ?_) (a' := ?_) #[true, true, true, true, true, true, true, true, true, true, true, true, true, true, true] rfl rfl (any_of HT_.out (by kernel_rfl)) (fun _ _ _ h => h) (Or.inl ⟨by rfl, ?_⟩) ?_ ?_
           rotate_left
           ·intro w'
            go_simp
            with_reducible rfl
           rotate_left
           ·simp only [Act.put, sA_, s0_, s1_, i64_w, i32_w]
            rfl
           refine done_ (done_of HT_.out (by kernel_rfl)) ?_
           try go_wp2
           go_roundg k2
           case measure => have := HJ5.out; have := HK2.out; omega
           case rel => exact ⟨(((Int.tmod t382 256) == 255)), (wrap64 (x9_2 + 1)), (by first | rfl | (simp; done) | (simp [*]; done)), (by first | rfl | (simp; done) | (simp [*]; done)), H', ⟨by have := HJ5.out; have := HK2.out; omega⟩, ⟨by (with_reducible repeat (first | apply rA_ | apply rN_ | apply rD_)); exact HO_354004.out⟩, ⟨by (with_reducible repeat (first | apply Kd.Q_alloc | apply Kd.Q_drewN | apply Kd.Q_drew)); exact HO_354005.out⟩, ⟨by (with_reducible repeat (first | apply rA_ | apply rN_ | apply rD_)); exact HO_366004.out⟩, ⟨by (with_reducible repeat (first | apply Kd.Q_alloc | apply Kd.Q_drewN | apply Kd.Q_drew)); exact HO_366005.out⟩, ⟨by (with_reducible repeat (first | apply rA_ | apply rN_ | apply rD_)); exact HO_378004.out⟩, ⟨by (with_reducible repeat (first | apply Kd.Q_alloc | apply Kd.Q_drewN | apply Kd.Q_drew)); exact HO_378005.out⟩, ⟨by (with_reducible repeat (first | apply kN_ | apply kD_ | apply kA_)); exact BK353.out⟩, ⟨by (with_reducible repeat (first | apply kN_ | apply kD_ | apply kA_)); exact BK365.out⟩, ⟨by (with_reducible repeat (first | apply kN_ | apply kD_ | apply kA_)); exact BK377.out⟩, ⟨by repeat (first | (with_reducible first | exact HB.out | apply wA_ | apply wN_ | apply wD_ | refine below_set ?_ GE353.out | refine below_set ?_ GE365.out | refine below_set ?_ GE377.out) | exact HB.out)⟩⟩
         ·replace c44 := Bool.eq_false_iff.mpr c44
          subst c44
          have H1 : (laws_FnImageRgb.j2 k2 t364 false t343 t344 t345 t346 t347 t350 t354 t355 t356 t357 t358 t361) = some true := by first | (rw [if_neg (show ¬ (false = true) by decide)] at H; exact H) | rfl
          clear H
          have H := H1
          clear H1
          have H' := aM_ H
          clear H
          have hnb52 := NB353_365.out
          have hnc52 := NB365_353.out
          have hnb53 := NB353_377.out
          have hnc53 := NB377_353.out
          obtain ⟨hcz54_0, hcz54_1, hcz54_2, hcz54_3, hcz54_4, hcz54_5⟩ := bc6 BK353.out
          obtain ⟨hfz54_0, hfz54_1, hfz54_2, hfz54_3, hfz54_4, hfz54_5⟩ := bf6 BK353.out
          go_wp2
          go_meet
          case rel => exact ⟨_, (false), (by first | rfl | (simp; done) | (simp [*]; done)), H', ⟨by have := HJ5.out; have := HK2.out; first | omega | exact Nat.le_refl _⟩, ⟨by (with_reducible repeat (first | apply rA_ | apply rN_ | apply rD_)); exact HO_354004.out⟩, ⟨by (with_reducible repeat (first | apply Kd.Q_alloc | apply Kd.Q_drewN | apply Kd.Q_drew)); exact HO_354005.out⟩, ⟨by (with_reducible repeat (first | apply rA_ | apply rN_ | apply rD_)); exact HO_366004.out⟩, ⟨by (with_reducible repeat (first | apply Kd.Q_alloc | apply Kd.Q_drewN | apply Kd.Q_drew)); exact HO_366005.out⟩, ⟨by (with_reducible repeat (first | apply rA_ | apply rN_ | apply rD_)); exact HO_378004.out⟩, ⟨by (with_reducible repeat (first | apply Kd.Q_alloc | apply Kd.Q_drewN | apply Kd.Q_drew)); exact HO_378005.out⟩, ⟨by (with_reducible repeat (first | apply kN_ | apply kD_ | apply kA_)); exact BK353.out⟩, ⟨by (with_reducible repeat (first | apply kN_ | apply kD_ | apply kA_)); exact BK365.out⟩, ⟨by (with_reducible repeat (first | apply kN_ | apply kD_ | apply kA_)); exact BK377.out⟩, ⟨by repeat (first | (with_reducible first | exact HB.out | apply wA_ | apply wN_ | apply wD_ | refine below_set ?_ GE353.out | refine below_set ?_ GE365.out | refine below_set ?_ GE377.out) | exact HB.out)⟩⟩
        ·rw [if_neg c43] at H
         have c43b0 : decide (x9_2 < (t350.length : Int)) = false := decide_eq_false c43
         clear c43
         (first | rw [c43b0] | (simp only [i64_w, i32_w]; rw [c43b0]) | skip)
         have H' := aM_ H
         clear H
         have hnb55 := NB353_365.out
         have hnc55 := NB365_353.out
         have hnb56 := NB353_377.out
         have hnc56 := NB377_353.out
         obtain ⟨hcz57_0, hcz57_1, hcz57_2, hcz57_3, hcz57_4, hcz57_5⟩ := bc6 BK353.out
         obtain ⟨hfz57_0, hfz57_1, hfz57_2, hfz57_3, hfz57_4, hfz57_5⟩ := bf6 BK353.out
         go_wp2
         go_meet
         case rel => exact ⟨_, (x8_2), (by first | rfl | (simp; done) | (simp [*]; done)), H', ⟨by have := HJ5.out; have := HK2.out; first | omega | exact Nat.le_refl _⟩, ⟨by (with_reducible repeat (first | apply rA_ | apply rN_ | apply rD_)); exact HO_354004.out⟩, ⟨by (with_reducible repeat (first | apply Kd.Q_alloc | apply Kd.Q_drewN | apply Kd.Q_drew)); exact HO_354005.out⟩, ⟨by (with_reducible repeat (first | apply rA_ | apply rN_ | apply rD_)); exact HO_366004.out⟩, ⟨by (with_reducible repeat (first | apply Kd.Q_alloc | apply Kd.Q_drewN | apply Kd.Q_drew)); exact HO_366005.out⟩, ⟨by (with_reducible repeat (first | apply rA_ | apply rN_ | apply rD_)); exact HO_378004.out⟩, ⟨by (with_reducible repeat (first | apply Kd.Q_alloc | apply Kd.Q_drewN | apply Kd.Q_drew)); exact HO_378005.out⟩, ⟨by (with_reducible repeat (first | apply kN_ | apply kD_ | apply kA_)); exact BK353.out⟩, ⟨by (with_reducible repeat (first | apply kN_ | apply kD_ | apply kA_)); exact BK365.out⟩, ⟨by (with_reducible repeat (first | apply kN_ | apply kD_ | apply kA_)); exact BK377.out⟩, ⟨by repeat (first | (with_reducible first | exact HB.out | apply wA_ | apply wN_ | apply wD_ | refine below_set ?_ GE353.out | refine below_set ?_ GE365.out | refine below_set ?_ GE377.out) | exact HB.out)⟩⟩
     case rest =>
      clear HC38
      try clear c1
      try clear c2
      try clear c2b0
      try clear c2b1
      try clear p2
      try clear c3
      try clear c4
      try clear c5
      try clear p6
      try clear c14
      try clear c15
      try clear c20
      try clear c21
      try clear c22
      try clear c23
      try clear c24
      try clear c25
      try clear c27
      try clear c28
      try clear c28b0
      try clear c28b1
      try clear c28b2
      try clear c36
      try clear c39
      try clear c40
      try clear c43
      try clear c43b0
      try clear c44
      try clear c45
      try clear c45b0
      try clear c45b1
      try clear c47
      try clear c48
      try clear c52
      try clear c53
      try clear c55
      try clear c56
      try clear hcz15_0
      try clear hcz15_1
      try clear hcz15_2
      try clear hcz15_3
      try clear hcz15_4
      try clear hcz15_5
      try clear hcz18_0
      try clear hcz18_1
      try clear hcz18_2
      try clear hcz18_3
      try clear hcz18_4
      try clear hcz18_5
      try clear hcz23_0
      try clear hcz23_1
      try clear hcz23_2
      try clear hcz23_3
      try clear hcz23_4
      try clear hcz23_5
      try clear hcz41_0
      try clear hcz41_1
      try clear hcz41_2
      try clear hcz41_3
      try clear hcz41_4
      try clear hcz41_5
      try clear hcz49_0
      try clear hcz49_1
      try clear hcz49_2
      try clear hcz49_3
      try clear hcz49_4
      try clear hcz49_5
      try clear hcz54_0
      try clear hcz54_1
      try clear hcz54_2
      try clear hcz54_3
      try clear hcz54_4
      try clear hcz54_5
      try clear hcz57_0
      try clear hcz57_1
      try clear hcz57_2
      try clear hcz57_3
      try clear hcz57_4
      try clear hcz57_5
      try clear hcz9_0
      try clear hcz9_1
      try clear hcz9_2
      try clear hcz9_3
      try clear hcz9_4
      try clear hcz9_5
      try clear hfz15_0
      try clear hfz15_1
      try clear hfz15_2
      try clear hfz15_3
      try clear hfz15_4
      try clear hfz15_5
      try clear hfz18_0
      try clear hfz18_1
      try clear hfz18_2
      try clear hfz18_3
      try clear hfz18_4
      try clear hfz18_5
      try clear hfz23_0
      try clear hfz23_1
      try clear hfz23_2
      try clear hfz23_3
      try clear hfz23_4
      try clear hfz23_5
      try clear hfz41_0
      try clear hfz41_1
      try clear hfz41_2
      try clear hfz41_3
      try clear hfz41_4
      try clear hfz41_5
      try clear hfz49_0
      try clear hfz49_1
      try clear hfz49_2
      try clear hfz49_3
      try clear hfz49_4
      try clear hfz49_5
      try clear hfz54_0
      try clear hfz54_1
      try clear hfz54_2
      try clear hfz54_3
      try clear hfz54_4
      try clear hfz54_5
      try clear hfz57_0
      try clear hfz57_1
      try clear hfz57_2
      try clear hfz57_3
      try clear hfz57_4
      try clear hfz57_5
      try clear hfz9_0
      try clear hfz9_1
      try clear hfz9_2
      try clear hfz9_3
      try clear hfz9_4
      try clear hfz9_5
      try clear p2
      obtain ⟨kq, x8_37, rfl, HA, HJ37, HO_354004, HO_354005, HO_366004, HO_366005, HO_378004, HO_378005, BK353, BK365, BK377, HB⟩ := hcut
      cases kq with
      | zero => exact absurd HA.out (by simp [laws_FnImageRgb.j2])
      | succ kj37 =>
       have H := HA.out
       clear HA
       simp only [laws_FnImageRgb.j2] at H
       by_cases c58 : t364 = true
       ·subst c58
        have H1 : ((impl_ImageRgb.f kj37 t354 t355 t356 t357 t358 t361).bind fun bt384 => (if x8_37 = true then ((impl_ImageOk.f kj37 t354 t355 t356 t357 t358 t361).bind fun t396 => (if t396 = true then ((impl_ImageLike.f kj37 t354 t355 t356 t357 t358 t361 t343 t344 t345 t346 t347 t350).bind fun t397 => (if t397 = true then (if bt384.2.2.2.2.2.2 = true then ((laws_wiImage.f kj37 t354 t355 t356 t357 t358 t361 bt384.1 bt384.2.1 bt384.2.2.1 bt384.2.2.2.1 bt384.2.2.2.2.1 bt384.2.2.2.2.2.1).bind fun t398 => (some t398)) else (some false)) else (some false))) else (some false))) else (some false))) = some true := by first | (rw [if_pos rfl] at H; exact H) | rfl
        clear H
        have H := H1
        clear H1
        replace H := Option.bind_eq_some_iff.mp H
        obtain ⟨⟨t384, t385, t386, t387, t388, t391, t394⟩, A590, H⟩ := H
        replace H : (if x8_37 = true then ((impl_ImageOk.f kj37 t354 t355 t356 t357 t358 t361).bind fun t396 => (if t396 = true then ((impl_ImageLike.f kj37 t354 t355 t356 t357 t358 t361 t343 t344 t345 t346 t347 t350).bind fun t397 => (if t397 = true then (if t394 = true then ((laws_wiImage.f kj37 t354 t355 t356 t357 t358 t361 t384 t385 t386 t387 t388 t391).bind fun t398 => (some t398)) else (some false)) else (some false))) else (some false))) else (some false)) = some true := H
        have A59 := aM_ A590
        clear A590
        by_cases c60 : x8_37 = true
        ·subst c60
         have H1 : ((impl_ImageOk.f kj37 t354 t355 t356 t357 t358 t361).bind fun t396 => (if t396 = true then ((impl_ImageLike.f kj37 t354 t355 t356 t357 t358 t361 t343 t344 t345 t346 t347 t350).bind fun t397 => (if t397 = true then (if t394 = true then ((laws_wiImage.f kj37 t354 t355 t356 t357 t358 t361 t384 t385 t386 t387 t388 t391).bind fun t398 => (some t398)) else (some false)) else (some false))) else (some false))) = some true := by first | (rw [if_pos rfl] at H; exact H) | rfl
         clear H
         have H := H1
         clear H1
         replace H := Option.bind_eq_some_iff.mp H
         obtain ⟨t396, A610, H⟩ := H
         replace H : (if t396 = true then ((impl_ImageLike.f kj37 t354 t355 t356 t357 t358 t361 t343 t344 t345 t346 t347 t350).bind fun t397 => (if t397 = true then (if t394 = true then ((laws_wiImage.f kj37 t354 t355 t356 t357 t358 t361 t384 t385 t386 t387 t388 t391).bind fun t398 => (some t398)) else (some false)) else (some false))) else (some false)) = some true := H
         have A61 := aM_ A610
         clear A610
         by_cases c62 : t396 = true
         ·subst c62
          have H1 : ((impl_ImageLike.f kj37 t354 t355 t356 t357 t358 t361 t343 t344 t345 t346 t347 t350).bind fun t397 => (if t397 = true then (if t394 = true then ((laws_wiImage.f kj37 t354 t355 t356 t357 t358 t361 t384 t385 t386 t387 t388 t391).bind fun t398 => (some t398)) else (some false)) else (some false))) = some true := by first | (rw [if_pos rfl] at H; exact H) | rfl
          clear H
          have H := H1
          clear H1
          replace H := Option.bind_eq_some_iff.mp H
          obtain ⟨t397, A630, H⟩ := H
          replace H : (if t397 = true then (if t394 = true then ((laws_wiImage.f kj37 t354 t355 t356 t357 t358 t361 t384 t385 t386 t387 t388 t391).bind fun t398 => (some t398)) else (some false)) else (some false)) = some true := H
          have A63 := aM_ A630
          clear A630
          by_cases c64 : t397 = true
          ·subst c64
           have H1 : (if t394 = true then ((laws_wiImage.f kj37 t354 t355 t356 t357 t358 t361 t384 t385 t386 t387 t388 t391).bind fun t398 => (some t398)) else (some false)) = some true := by first | (rw [if_pos rfl] at H; exact H) | rfl
           clear H
           have H := H1
           clear H1
           by_cases c65 : t394 = true
           ·subst c65
            have H1 : ((laws_wiImage.f kj37 t354 t355 t356 t357 t358 t361 t384 t385 t386 t387 t388 t391).bind fun t398 => (some t398)) = some true := by first | (rw [if_pos rfl] at H; exact H) | rfl
            clear H
            have H := H1
            clear H1
            replace H := Option.bind_eq_some_iff.mp H
            obtain ⟨t398, A660, H⟩ := H
            replace H : (some t398) = some true := H
            have A66 := aM_ A660
            clear A660
            have HX_ := Option.some.inj H
            clear H
            have hnb67 := NB365_353.out
            have hnc67 := NB353_365.out
            have hnb68 := NB365_377.out
            have hnc68 := NB377_365.out
            obtain ⟨hcz69_0, hcz69_1, hcz69_2, hcz69_3, hcz69_4, hcz69_5⟩ := bc6 BK365.out
            obtain ⟨hfz69_0, hfz69_1, hfz69_2, hfz69_3, hfz69_4, hfz69_5⟩ := bf6 BK365.out
            go_wp2_with (first | ((with_reducible refine gate_callee (f := 21) rfl ?_); refine goesL_ (some 84) rfl rfl Try.func21 (by kernel_rfl) rfl #[.agg #[.int .i64 t354, .int .i64 t355, .int .i64 t356, .int .i64 t357, .slice Ao16 t358.length co16, .slice Ao17 t361.length co17]] rfl (by (try simp only [List.map_toArray, List.map_cons, List.map_nil]); first | done | rfl | (simp only [List.length_drop, List.length_take]; rfl)) ?_; (with_reducible refine (impl_ImageRgb.calls kj37 t354 t355 t356 t357 _ _ t358 _ _ t361 t384 t385 t386 t387 t388 t391 true _ ?side1 ?side2 ?side3 ?side4 A59.out).mono ?_); (case side1 => repeat (first | exact (Kd.R_reads' HO_366004.out).2.2 | (with_reducible refine Kd.C_alloc ?_ _) | (with_reducible refine Kd.C_drewN ?_ _) | (with_reducible refine Kd.C_drew ?_))); (case side2 => exact (Kd.R_reads' HO_366004.out).2.1); (case side3 => repeat (first | exact (Kd.Q_reads' HO_366005.out).2.2 | (with_reducible refine Kd.C_alloc ?_ _) | (with_reducible refine Kd.C_drewN ?_ _) | (with_reducible refine Kd.C_drew ?_))); (case side4 => exact (Kd.Q_reads' HO_366005.out).2.1); rintro e w70 ⟨v389, v392, rfl, ho0, ho1, hb⟩; refine ⟨_, rfl, ?_⟩; have n0_ := aM_ (Kd.R_mono (Kd.R_told (Kd.R_told (Kd.R_old (by (with_reducible repeat (first | apply rA_ | apply rN_ | apply rD_)); exact HO_354004.out) hb) (Kd.R_base ho0)) (Kd.R_base ho1)) (fun _ h_ => h_.1)); have n1_ := aM_ (Kd.Q_mono (Kd.Q_told (Kd.Q_told (Kd.Q_old (by (with_reducible repeat (first | apply Kd.Q_alloc | apply Kd.Q_drewN | apply Kd.Q_drew)); exact HO_354005.out) hb) (Kd.R_base ho0)) (Kd.R_base ho1)) (fun _ h_ => h_.1)); have n2_ := aM_ (Kd.R_mono (Kd.R_told (Kd.R_told (Kd.R_old (by (with_reducible repeat (first | apply rA_ | apply rN_ | apply rD_)); exact HO_366004.out) hb) (Kd.R_base ho0)) (Kd.R_base ho1)) (fun _ h_ => h_.1)); have n3_ := aM_ (Kd.Q_mono (Kd.Q_told (Kd.Q_told (Kd.Q_old (by (with_reducible repeat (first | apply Kd.Q_alloc | apply Kd.Q_drewN | apply Kd.Q_drew)); exact HO_366005.out) hb) (Kd.R_base ho0)) (Kd.R_base ho1)) (fun _ h_ => h_.1)); have n4_ := aM_ (Kd.R_mono (Kd.R_told (Kd.R_told (Kd.R_old (by (with_reducible repeat (first | apply rA_ | apply rN_ | apply rD_)); exact HO_378004.out) hb) (Kd.R_base ho0)) (Kd.R_base ho1)) (fun _ h_ => h_.1)); have n5_ := aM_ (Kd.Q_mono (Kd.Q_told (Kd.Q_told (Kd.Q_old (by (with_reducible repeat (first | apply Kd.Q_alloc | apply Kd.Q_drewN | apply Kd.Q_drew)); exact HO_378005.out) hb) (Kd.R_base ho0)) (Kd.R_base ho1)) (fun _ h_ => h_.1)); have n6_ := aM_ (Kd.R_lower (Kd.R_new' (Kd.R_new' (Kd.R_new' (Kd.R_new' (Kd.R_new' (Kd.R_new' ho0 (Kd.R_lt (by (with_reducible repeat (first | apply rA_ | apply rN_ | apply rD_)); exact HO_354004.out))) (Kd.Q_lt (by (with_reducible repeat (first | apply Kd.Q_alloc | apply Kd.Q_drewN | apply Kd.Q_drew)); exact HO_354005.out))) (Kd.R_lt (by (with_reducible repeat (first | apply rA_ | apply rN_ | apply rD_)); exact HO_366004.out))) (Kd.Q_lt (by (with_reducible repeat (first | apply Kd.Q_alloc | apply Kd.Q_drewN | apply Kd.Q_drew)); exact HO_366005.out))) (Kd.R_lt (by (with_reducible repeat (first | apply rA_ | apply rN_ | apply rD_)); exact HO_378004.out))) (Kd.Q_lt (by (with_reducible repeat (first | apply Kd.Q_alloc | apply Kd.Q_drewN | apply Kd.Q_drew)); exact HO_378005.out))) (below_size (by repeat (first | (with_reducible first | exact HB.out | apply wA_ | apply wN_ | apply wD_ | refine below_set ?_ GE353.out | refine below_set ?_ GE365.out | refine below_set ?_ GE377.out) | exact HB.out)))); have n7_ := aM_ (Kd.R_lower (Kd.R_new' (Kd.R_new' (Kd.R_new' (Kd.R_new' (Kd.R_new' (Kd.R_new' ho1 (Kd.R_lt (by (with_reducible repeat (first | apply rA_ | apply rN_ | apply rD_)); exact HO_354004.out))) (Kd.Q_lt (by (with_reducible repeat (first | apply Kd.Q_alloc | apply Kd.Q_drewN | apply Kd.Q_drew)); exact HO_354005.out))) (Kd.R_lt (by (with_reducible repeat (first | apply rA_ | apply rN_ | apply rD_)); exact HO_366004.out))) (Kd.Q_lt (by (with_reducible repeat (first | apply Kd.Q_alloc | apply Kd.Q_drewN | apply Kd.Q_drew)); exact HO_366005.out))) (Kd.R_lt (by (with_reducible repeat (first | apply rA_ | apply rN_ | apply rD_)); exact HO_378004.out))) (Kd.Q_lt (by (with_reducible repeat (first | apply Kd.Q_alloc | apply Kd.Q_drewN | apply Kd.Q_drew)); exact HO_378005.out))) (below_size (by repeat (first | (with_reducible first | exact HB.out | apply wA_ | apply wN_ | apply wD_ | refine below_set ?_ GE353.out | refine below_set ?_ GE365.out | refine below_set ?_ GE377.out) | exact HB.out)))); have n8_ := aM_ (blk_below (g := gb353) (by (with_reducible repeat (first | apply kN_ | apply kD_ | apply kA_)); exact BK353.out) hb); have n9_ := aM_ (blk_below (g := gb365) (by (with_reducible repeat (first | apply kN_ | apply kD_ | apply kA_)); exact BK365.out) hb); have n10_ := aM_ (blk_below (g := gb377) (by (with_reducible repeat (first | apply kN_ | apply kD_ | apply kA_)); exact BK377.out) hb); have n11_ := aM_ (below_step (by repeat (first | (with_reducible first | exact HB.out | apply wA_ | apply wN_ | apply wD_ | refine below_set ?_ GE353.out | refine below_set ?_ GE365.out | refine below_set ?_ GE377.out) | exact HB.out)) hb); clear HO_354004; clear HO_354005; clear HO_366004; clear HO_366005; clear HO_378004; clear HO_378005; clear BK353; clear BK365; clear BK377; clear HB; have HO_354004 := n0_; have HO_354005 := n1_; have HO_366004 := n2_; have HO_366005 := n3_; have HO_378004 := n4_; have HO_378005 := n5_; have HO390 := n6_; have HO393 := n7_; have BK353 := n8_; have BK365 := n9_; have BK377 := n10_; have HB := n11_; clear n0_ n1_ n2_ n3_ n4_ n5_ n6_ n7_ n8_ n9_ n10_ n11_; (try clear hb); (try clear hb2); (try clear hk); (try clear hi); (try clear ho0); (try clear ho1)) | ((with_reducible refine gate_dst (N := 12) rfl ?_); refine box_event ?hg (N := 12) ?hd (cs := #[.int .i64 0, .int .i64 0, .int .i64 0, .int .i64 0, .slice none 0 0, .slice none 0 0]) (t := 25) ?hr ?_; (case hd => rfl); (case hg => rfl); (case hr => first | (go_simp; done) | (go_simp; rfl)); intro gb395 hg w71 hbox hb; have n0_ := aM_ (Kd.R_below (by (with_reducible repeat (first | apply rA_ | apply rN_ | apply rD_)); exact HO_354004.out) hb); have n1_ := aM_ (Kd.Q_below (by (with_reducible repeat (first | apply Kd.Q_alloc | apply Kd.Q_drewN | apply Kd.Q_drew)); exact HO_354005.out) hb); have n2_ := aM_ (Kd.R_below (by (with_reducible repeat (first | apply rA_ | apply rN_ | apply rD_)); exact HO_366004.out) hb); have n3_ := aM_ (Kd.Q_below (by (with_reducible repeat (first | apply Kd.Q_alloc | apply Kd.Q_drewN | apply Kd.Q_drew)); exact HO_366005.out) hb); have n4_ := aM_ (Kd.R_below (by (with_reducible repeat (first | apply rA_ | apply rN_ | apply rD_)); exact HO_378004.out) hb); have n5_ := aM_ (Kd.Q_below (by (with_reducible repeat (first | apply Kd.Q_alloc | apply Kd.Q_drewN | apply Kd.Q_drew)); exact HO_378005.out) hb); have n6_ := aM_ (Kd.R_below (by (with_reducible repeat (first | apply rA_ | apply rN_ | apply rD_)); exact HO390.out) hb); have n7_ := aM_ (Kd.R_below (by (with_reducible repeat (first | apply rA_ | apply rN_ | apply rD_)); exact HO393.out) hb); have n8_ := aM_ (blk_below (g := gb353) (by (with_reducible repeat (first | apply kN_ | apply kD_ | apply kA_)); exact BK353.out) hb); have n9_ := aM_ (blk_below (g := gb365) (by (with_reducible repeat (first | apply kN_ | apply kD_ | apply kA_)); exact BK365.out) hb); have n10_ := aM_ (blk_below (g := gb377) (by (with_reducible repeat (first | apply kN_ | apply kD_ | apply kA_)); exact BK377.out) hb); have n11_ := aM_ (below_step (by repeat (first | (with_reducible first | exact HB.out | apply wA_ | apply wN_ | apply wD_ | refine below_set ?_ GE353.out | refine below_set ?_ GE365.out | refine below_set ?_ GE377.out) | exact HB.out)) hb); have n12_ := aM_ (hbox); have n13_ := aM_ ((by rw [hg]; exact (below_size (by repeat (first | (with_reducible first | exact HB.out | apply wA_ | apply wN_ | apply wD_ | refine below_set ?_ GE353.out | refine below_set ?_ GE365.out | refine below_set ?_ GE377.out) | exact HB.out))) : w.heap.size ≤ gb395)); have n14_ := aM_ ((by rw [hg]; exact (below_size (by repeat (first | (with_reducible first | exact HB.out | apply wA_ | apply wN_ | apply wD_ | refine below_set ?_ GE353.out | refine below_set ?_ GE365.out | refine below_set ?_ GE377.out) | exact HB.out))) : w.heap.size ≤ gb395)); have n15_ := aM_ ((by rw [hg]; exact Nat.ne_of_lt (blk_lt (g := gb353) (by (with_reducible repeat (first | apply kN_ | apply kD_ | apply kA_)); exact BK353.out)) : gb353 ≠ gb395)); have n16_ := aM_ n15_.out.symm; have n17_ := aM_ ((by rw [hg]; exact Nat.ne_of_lt (blk_lt (g := gb365) (by (with_reducible repeat (first | apply kN_ | apply kD_ | apply kA_)); exact BK365.out)) : gb365 ≠ gb395)); have n18_ := aM_ n17_.out.symm; have n19_ := aM_ ((by rw [hg]; exact Nat.ne_of_lt (blk_lt (g := gb377) (by (with_reducible repeat (first | apply kN_ | apply kD_ | apply kA_)); exact BK377.out)) : gb377 ≠ gb395)); have n20_ := aM_ n19_.out.symm; clear HO_354004; clear HO_354005; clear HO_366004; clear HO_366005; clear HO_378004; clear HO_378005; clear HO390; clear HO393; clear BK353; clear BK365; clear BK377; clear HB; have HO_354004 := n0_; have HO_354005 := n1_; have HO_366004 := n2_; have HO_366005 := n3_; have HO_378004 := n4_; have HO_378005 := n5_; have HO390 := n6_; have HO393 := n7_; have BK353 := n8_; have BK365 := n9_; have BK377 := n10_; have HB := n11_; have BK395 := n12_; have GW395 := n13_; have GE395 := n14_; have NB353_395 := n15_; have NB395_353 := n16_; have NB365_395 := n17_; have NB395_365 := n18_; have NB377_395 := n19_; have NB395_377 := n20_; clear n0_ n1_ n2_ n3_ n4_ n5_ n6_ n7_ n8_ n9_ n10_ n11_ n12_ n13_ n14_ n15_ n16_ n17_ n18_ n19_ n20_; clear hb hbox hg; have hnb72 := NB395_353.out; have hnc72 := NB353_395.out; have hnb73 := NB395_365.out; have hnc73 := NB365_395.out; have hnb74 := NB395_377.out; have hnc74 := NB377_395.out; obtain ⟨hcz75_0, hcz75_1, hcz75_2, hcz75_3, hcz75_4, hcz75_5⟩ := bc6 BK395.out; obtain ⟨hfz75_0, hfz75_1, hfz75_2, hfz75_3, hfz75_4, hfz75_5⟩ := bf6 BK395.out; obtain ⟨Ao76, co76, eo76⟩ := Kd.R_slice HO390.out; subst eo76; obtain ⟨Ao77, co77, eo77⟩ := Kd.R_slice HO393.out; subst eo77; obtain ⟨hcz78_0, hcz78_1, hcz78_2, hcz78_3, hcz78_4, hcz78_5⟩ := bc6 BK365.out; obtain ⟨hfz78_0, hfz78_1, hfz78_2, hfz78_3, hfz78_4, hfz78_5⟩ := bf6 BK365.out) | (go_at_call 24; (with_reducible refine (impl_ImageOk.calls kj37 t354 t355 t356 t357 _ _ t358 _ _ t361 true _ ?side1 ?side2 ?side3 ?side4 A61.out).mono ?_); (case side1 => refine (Kd.R_reads' (e := 3) (base := w.heap.size) (ok := fun k_ => (((some k_ ≠ (.slice Ao10 t347.length co10 : Value).ownBlock ∧ (some k_ ≠ (.slice Ao11 t350.length co11 : Value).ownBlock ∧ (some k_ ≠ (.slice Ao17 t361.length co17 : Value).ownBlock ∧ (some k_ ≠ (.slice Ao24 t370.length co24 : Value).ownBlock ∧ some k_ ≠ (.slice Ao25 t373.length co25 : Value).ownBlock)))) ∧ some k_ ≠ (.slice Ao76 t388.length co76 : Value).ownBlock) ∧ some k_ ≠ (.slice Ao77 t391.length co77 : Value).ownBlock)) (n := t358.length) (c := co16) ?_).2.2; exact (by (with_reducible repeat (first | apply rA_ | apply rN_ | apply rD_)); exact (Kd.R_mono (Kd.R_far (Kd.R_far (Kd.R_far (Kd.R_far (Kd.R_far (Kd.R_far (Kd.R_types HO_366004.out BK395.out (by decide)) (fun _ hk => hk.2) (.int .i64 t384)) (fun _ hk => hk.2) (.int .i64 t385)) (fun _ hk => hk.2) (.int .i64 t386)) (fun _ hk => hk.2) (.int .i64 t387)) (fun _ hk => hk.2) (.slice Ao76 t388.length co76)) (fun _ hk => hk.2) (.slice Ao77 t391.length co77)) (fun _ h_ => h_.1)))); (case side2 => exact (Kd.R_reads' HO_366004.out).2.1); (case side3 => refine (Kd.Q_reads' (e := 3) (base := w.heap.size) (ok := fun k_ => (((some k_ ≠ (.slice Ao10 t347.length co10 : Value).ownBlock ∧ (some k_ ≠ (.slice Ao11 t350.length co11 : Value).ownBlock ∧ (some k_ ≠ (.slice Ao16 t358.length co16 : Value).ownBlock ∧ (some k_ ≠ (.slice Ao24 t370.length co24 : Value).ownBlock ∧ some k_ ≠ (.slice Ao25 t373.length co25 : Value).ownBlock)))) ∧ some k_ ≠ (.slice Ao76 t388.length co76 : Value).ownBlock) ∧ some k_ ≠ (.slice Ao77 t391.length co77 : Value).ownBlock)) (n := t361.length) (c := co17) ?_).2.2; exact (by (with_reducible repeat (first | apply Kd.Q_alloc | apply Kd.Q_drewN | apply Kd.Q_drew)); exact (Kd.Q_mono (Kd.Q_far (Kd.Q_far (Kd.Q_far (Kd.Q_far (Kd.Q_far (Kd.Q_far (Kd.Q_types HO_366005.out BK395.out (by decide)) (fun _ hk => hk.2) (.int .i64 t384)) (fun _ hk => hk.2) (.int .i64 t385)) (fun _ hk => hk.2) (.int .i64 t386)) (fun _ hk => hk.2) (.int .i64 t387)) (fun _ hk => hk.2) (.slice Ao76 t388.length co76)) (fun _ hk => hk.2) (.slice Ao77 t391.length co77)) (fun _ h_ => h_.1)))); (case side4 => exact (Kd.Q_reads' HO_366005.out).2.1); rintro e w79 ⟨rfl, hb⟩; have n0_ := aM_ (Kd.R_below (by (with_reducible repeat (first | apply rA_ | apply rN_ | apply rD_)); exact (Kd.R_mono (Kd.R_far (Kd.R_far (Kd.R_far (Kd.R_far (Kd.R_far (Kd.R_far (Kd.R_types HO_354004.out BK395.out (by decide)) (fun _ hk => hk.2) (.int .i64 t384)) (fun _ hk => hk.2) (.int .i64 t385)) (fun _ hk => hk.2) (.int .i64 t386)) (fun _ hk => hk.2) (.int .i64 t387)) (fun _ hk => hk.2) (.slice Ao76 t388.length co76)) (fun _ hk => hk.2) (.slice Ao77 t391.length co77)) (fun _ h_ => h_.1))) hb); have n1_ := aM_ (Kd.Q_below (by (with_reducible repeat (first | apply Kd.Q_alloc | apply Kd.Q_drewN | apply Kd.Q_drew)); exact (Kd.Q_mono (Kd.Q_far (Kd.Q_far (Kd.Q_far (Kd.Q_far (Kd.Q_far (Kd.Q_far (Kd.Q_types HO_354005.out BK395.out (by decide)) (fun _ hk => hk.2) (.int .i64 t384)) (fun _ hk => hk.2) (.int .i64 t385)) (fun _ hk => hk.2) (.int .i64 t386)) (fun _ hk => hk.2) (.int .i64 t387)) (fun _ hk => hk.2) (.slice Ao76 t388.length co76)) (fun _ hk => hk.2) (.slice Ao77 t391.length co77)) (fun _ h_ => h_.1))) hb); have n2_ := aM_ (Kd.R_below (by (with_reducible repeat (first | apply rA_ | apply rN_ | apply rD_)); exact (Kd.R_mono (Kd.R_far (Kd.R_far (Kd.R_far (Kd.R_far (Kd.R_far (Kd.R_far (Kd.R_types HO_366004.out BK395.out (by decide)) (fun _ hk => hk.2) (.int .i64 t384)) (fun _ hk => hk.2) (.int .i64 t385)) (fun _ hk => hk.2) (.int .i64 t386)) (fun _ hk => hk.2) (.int .i64 t387)) (fun _ hk => hk.2) (.slice Ao76 t388.length co76)) (fun _ hk => hk.2) (.slice Ao77 t391.length co77)) (fun _ h_ => h_.1))) hb); have n3_ := aM_ (Kd.Q_below (by (with_reducible repeat (first | apply Kd.Q_alloc | apply Kd.Q_drewN | apply Kd.Q_drew)); exact (Kd.Q_mono (Kd.Q_far (Kd.Q_far (Kd.Q_far (Kd.Q_far (Kd.Q_far (Kd.Q_far (Kd.Q_types HO_366005.out BK395.out (by decide)) (fun _ hk => hk.2) (.int .i64 t384)) (fun _ hk => hk.2) (.int .i64 t385)) (fun _ hk => hk.2) (.int .i64 t386)) (fun _ hk => hk.2) (.int .i64 t387)) (fun _ hk => hk.2) (.slice Ao76 t388.length co76)) (fun _ hk => hk.2) (.slice Ao77 t391.length co77)) (fun _ h_ => h_.1))) hb); have n4_ := aM_ (Kd.R_below (by (with_reducible repeat (first | apply rA_ | apply rN_ | apply rD_)); exact (Kd.R_mono (Kd.R_far (Kd.R_far (Kd.R_far (Kd.R_far (Kd.R_far (Kd.R_far (Kd.R_types HO_378004.out BK395.out (by decide)) (fun _ hk => hk.2) (.int .i64 t384)) (fun _ hk => hk.2) (.int .i64 t385)) (fun _ hk => hk.2) (.int .i64 t386)) (fun _ hk => hk.2) (.int .i64 t387)) (fun _ hk => hk.2) (.slice Ao76 t388.length co76)) (fun _ hk => hk.2) (.slice Ao77 t391.length co77)) (fun _ h_ => h_.1))) hb); have n5_ := aM_ (Kd.Q_below (by (with_reducible repeat (first | apply Kd.Q_alloc | apply Kd.Q_drewN | apply Kd.Q_drew)); exact (Kd.Q_mono (Kd.Q_far (Kd.Q_far (Kd.Q_far (Kd.Q_far (Kd.Q_far (Kd.Q_far (Kd.Q_types HO_378005.out BK395.out (by decide)) (fun _ hk => hk.2) (.int .i64 t384)) (fun _ hk => hk.2) (.int .i64 t385)) (fun _ hk => hk.2) (.int .i64 t386)) (fun _ hk => hk.2) (.int .i64 t387)) (fun _ hk => hk.2) (.slice Ao76 t388.length co76)) (fun _ hk => hk.2) (.slice Ao77 t391.length co77)) (fun _ h_ => h_.1))) hb); have n6_ := aM_ (Kd.R_below (by (with_reducible repeat (first | apply rA_ | apply rN_ | apply rD_)); exact (Kd.R_mono (Kd.R_far (Kd.R_far (Kd.R_far (Kd.R_far (Kd.R_far (Kd.R_far (Kd.R_types HO390.out BK395.out (by decide)) (fun _ hk => hk.2) (.int .i64 t384)) (fun _ hk => hk.2) (.int .i64 t385)) (fun _ hk => hk.2) (.int .i64 t386)) (fun _ hk => hk.2) (.int .i64 t387)) (fun _ hk => hk.2) (.slice Ao76 t388.length co76)) (fun _ hk => hk.2) (.slice Ao77 t391.length co77)) (fun _ h_ => h_.1))) hb); have n7_ := aM_ (Kd.R_below (by (with_reducible repeat (first | apply rA_ | apply rN_ | apply rD_)); exact (Kd.R_mono (Kd.R_far (Kd.R_far (Kd.R_far (Kd.R_far (Kd.R_far (Kd.R_far (Kd.R_types HO393.out BK395.out (by decide)) (fun _ hk => hk.2) (.int .i64 t384)) (fun _ hk => hk.2) (.int .i64 t385)) (fun _ hk => hk.2) (.int .i64 t386)) (fun _ hk => hk.2) (.int .i64 t387)) (fun _ hk => hk.2) (.slice Ao76 t388.length co76)) (fun _ hk => hk.2) (.slice Ao77 t391.length co77)) (fun _ h_ => h_.1))) hb); have n8_ := aM_ (blk_below (g := gb353) (o := .cells #[.int .i64 t343, .int .i64 t344, .int .i64 t345, .int .i64 t346, .slice Ao10 t347.length co10, .slice Ao11 t350.length co11] 25 (0, 0)) (by (with_reducible repeat (first | apply kN_ | apply kD_ | apply kA_)); refine blk_far ?_ NB353_395.out _; (with_reducible repeat (first | apply kN_ | apply kD_ | apply kA_)); refine blk_far ?_ NB353_395.out _; (with_reducible repeat (first | apply kN_ | apply kD_ | apply kA_)); refine blk_far ?_ NB353_395.out _; (with_reducible repeat (first | apply kN_ | apply kD_ | apply kA_)); refine blk_far ?_ NB353_395.out _; (with_reducible repeat (first | apply kN_ | apply kD_ | apply kA_)); refine blk_far ?_ NB353_395.out _; (with_reducible repeat (first | apply kN_ | apply kD_ | apply kA_)); refine blk_far ?_ NB353_395.out _; (with_reducible repeat (first | apply kN_ | apply kD_ | apply kA_)); exact BK353.out) hb); have n9_ := aM_ (blk_below (g := gb365) (o := .cells #[.int .i64 t354, .int .i64 t355, .int .i64 t356, .int .i64 t357, .slice Ao16 t358.length co16, .slice Ao17 t361.length co17] 25 (0, 0)) (by (with_reducible repeat (first | apply kN_ | apply kD_ | apply kA_)); refine blk_far ?_ NB365_395.out _; (with_reducible repeat (first | apply kN_ | apply kD_ | apply kA_)); refine blk_far ?_ NB365_395.out _; (with_reducible repeat (first | apply kN_ | apply kD_ | apply kA_)); refine blk_far ?_ NB365_395.out _; (with_reducible repeat (first | apply kN_ | apply kD_ | apply kA_)); refine blk_far ?_ NB365_395.out _; (with_reducible repeat (first | apply kN_ | apply kD_ | apply kA_)); refine blk_far ?_ NB365_395.out _; (with_reducible repeat (first | apply kN_ | apply kD_ | apply kA_)); refine blk_far ?_ NB365_395.out _; (with_reducible repeat (first | apply kN_ | apply kD_ | apply kA_)); exact BK365.out) hb); have n10_ := aM_ (blk_below (g := gb377) (o := .cells #[.int .i64 t366, .int .i64 t367, .int .i64 t368, .int .i64 t369, .slice Ao24 t370.length co24, .slice Ao25 t373.length co25] 25 (0, 0)) (by (with_reducible repeat (first | apply kN_ | apply kD_ | apply kA_)); refine blk_far ?_ NB377_395.out _; (with_reducible repeat (first | apply kN_ | apply kD_ | apply kA_)); refine blk_far ?_ NB377_395.out _; (with_reducible repeat (first | apply kN_ | apply kD_ | apply kA_)); refine blk_far ?_ NB377_395.out _; (with_reducible repeat (first | apply kN_ | apply kD_ | apply kA_)); refine blk_far ?_ NB377_395.out _; (with_reducible repeat (first | apply kN_ | apply kD_ | apply kA_)); refine blk_far ?_ NB377_395.out _; (with_reducible repeat (first | apply kN_ | apply kD_ | apply kA_)); refine blk_far ?_ NB377_395.out _; (with_reducible repeat (first | apply kN_ | apply kD_ | apply kA_)); exact BK377.out) hb); have n11_ := aM_ (blk_below (g := gb395) (o := .cells #[.int .i64 t384, .int .i64 t385, .int .i64 t386, .int .i64 t387, .slice Ao76 t388.length co76, .slice Ao77 t391.length co77] 25 (0, 0)) (by (with_reducible repeat (first | apply kN_ | apply kD_ | apply kA_)); refine blk_put (cs := #[.int .i64 t384, .int .i64 t385, .int .i64 t386, .int .i64 t387, .slice Ao76 t388.length co76, .slice none 0 0]) ?_ 5 _ rfl; (with_reducible repeat (first | apply kN_ | apply kD_ | apply kA_)); refine blk_put (cs := #[.int .i64 t384, .int .i64 t385, .int .i64 t386, .int .i64 t387, .slice none 0 0, .slice none 0 0]) ?_ 4 _ rfl; (with_reducible repeat (first | apply kN_ | apply kD_ | apply kA_)); refine blk_put (cs := #[.int .i64 t384, .int .i64 t385, .int .i64 t386, .int .i64 0, .slice none 0 0, .slice none 0 0]) ?_ 3 _ rfl; (with_reducible repeat (first | apply kN_ | apply kD_ | apply kA_)); refine blk_put (cs := #[.int .i64 t384, .int .i64 t385, .int .i64 0, .int .i64 0, .slice none 0 0, .slice none 0 0]) ?_ 2 _ rfl; (with_reducible repeat (first | apply kN_ | apply kD_ | apply kA_)); refine blk_put (cs := #[.int .i64 t384, .int .i64 0, .int .i64 0, .int .i64 0, .slice none 0 0, .slice none 0 0]) ?_ 1 _ rfl; (with_reducible repeat (first | apply kN_ | apply kD_ | apply kA_)); refine blk_put (cs := #[.int .i64 0, .int .i64 0, .int .i64 0, .int .i64 0, .slice none 0 0, .slice none 0 0]) ?_ 0 _ rfl; (with_reducible repeat (first | apply kN_ | apply kD_ | apply kA_)); exact BK395.out) hb); have n12_ := aM_ (below_step (by repeat (first | (with_reducible first | exact HB.out | apply wA_ | apply wN_ | apply wD_ | refine below_set ?_ GE353.out | refine below_set ?_ GE365.out | refine below_set ?_ GE377.out | refine below_set ?_ GE395.out) | exact HB.out)) hb); clear HO_354004; clear HO_354005; clear HO_366004; clear HO_366005; clear HO_378004; clear HO_378005; clear HO390; clear HO393; clear BK353; clear BK365; clear BK377; clear BK395; clear HB; have HO_354004 := n0_; have HO_354005 := n1_; have HO_366004 := n2_; have HO_366005 := n3_; have HO_378004 := n4_; have HO_378005 := n5_; have HO390 := n6_; have HO393 := n7_; have BK353 := n8_; have BK365 := n9_; have BK377 := n10_; have BK395 := n11_; have HB := n12_; clear n0_ n1_ n2_ n3_ n4_ n5_ n6_ n7_ n8_ n9_ n10_ n11_ n12_; (try clear hb); (try clear hb2); (try clear hk); (try clear hi); obtain ⟨hcz80_0, hcz80_1, hcz80_2, hcz80_3, hcz80_4, hcz80_5⟩ := bc6 BK365.out; obtain ⟨hfz80_0, hfz80_1, hfz80_2, hfz80_3, hfz80_4, hfz80_5⟩ := bf6 BK365.out; have hnb81 := NB353_377.out; have hnc81 := NB377_353.out; obtain ⟨hcz82_0, hcz82_1, hcz82_2, hcz82_3, hcz82_4, hcz82_5⟩ := bc6 BK353.out; obtain ⟨hfz82_0, hfz82_1, hfz82_2, hfz82_3, hfz82_4, hfz82_5⟩ := bf6 BK353.out) | (go_at_call 26; (with_reducible refine (impl_ImageLike.calls kj37 t354 t355 t356 t357 _ _ t358 _ _ t361 t343 t344 t345 t346 _ _ t347 _ _ t350 true _ ?side1 ?side2 ?side3 ?side4 ?side5 ?side6 ?side7 ?side8 A63.out).mono ?_); (case side1 => repeat (first | exact (Kd.R_reads' HO_366004.out).2.2 | (with_reducible refine Kd.C_alloc ?_ _) | (with_reducible refine Kd.C_drewN ?_ _) | (with_reducible refine Kd.C_drew ?_))); (case side2 => exact (Kd.R_reads' HO_366004.out).2.1); (case side3 => repeat (first | exact (Kd.Q_reads' HO_366005.out).2.2 | (with_reducible refine Kd.C_alloc ?_ _) | (with_reducible refine Kd.C_drewN ?_ _) | (with_reducible refine Kd.C_drew ?_))); (case side4 => exact (Kd.Q_reads' HO_366005.out).2.1); (case side5 => repeat (first | exact (Kd.R_reads' HO_354004.out).2.2 | (with_reducible refine Kd.C_alloc ?_ _) | (with_reducible refine Kd.C_drewN ?_ _) | (with_reducible refine Kd.C_drew ?_))); (case side6 => exact (Kd.R_reads' HO_354004.out).2.1); (case side7 => repeat (first | exact (Kd.Q_reads' HO_354005.out).2.2 | (with_reducible refine Kd.C_alloc ?_ _) | (with_reducible refine Kd.C_drewN ?_ _) | (with_reducible refine Kd.C_drew ?_))); (case side8 => exact (Kd.Q_reads' HO_354005.out).2.1); rintro e w83 ⟨rfl, hb⟩; have n0_ := aM_ (Kd.R_below (by (with_reducible repeat (first | apply rA_ | apply rN_ | apply rD_)); exact HO_354004.out) hb); have n1_ := aM_ (Kd.Q_below (by (with_reducible repeat (first | apply Kd.Q_alloc | apply Kd.Q_drewN | apply Kd.Q_drew)); exact HO_354005.out) hb); have n2_ := aM_ (Kd.R_below (by (with_reducible repeat (first | apply rA_ | apply rN_ | apply rD_)); exact HO_366004.out) hb); have n3_ := aM_ (Kd.Q_below (by (with_reducible repeat (first | apply Kd.Q_alloc | apply Kd.Q_drewN | apply Kd.Q_drew)); exact HO_366005.out) hb); have n4_ := aM_ (Kd.R_below (by (with_reducible repeat (first | apply rA_ | apply rN_ | apply rD_)); exact HO_378004.out) hb); have n5_ := aM_ (Kd.Q_below (by (with_reducible repeat (first | apply Kd.Q_alloc | apply Kd.Q_drewN | apply Kd.Q_drew)); exact HO_378005.out) hb); have n6_ := aM_ (Kd.R_below (by (with_reducible repeat (first | apply rA_ | apply rN_ | apply rD_)); exact HO390.out) hb); have n7_ := aM_ (Kd.R_below (by (with_reducible repeat (first | apply rA_ | apply rN_ | apply rD_)); exact HO393.out) hb); have n8_ := aM_ (blk_below (g := gb353) (by (with_reducible repeat (first | apply kN_ | apply kD_ | apply kA_)); exact BK353.out) hb); have n9_ := aM_ (blk_below (g := gb365) (by (with_reducible repeat (first | apply kN_ | apply kD_ | apply kA_)); exact BK365.out) hb); have n10_ := aM_ (blk_below (g := gb377) (by (with_reducible repeat (first | apply kN_ | apply kD_ | apply kA_)); exact BK377.out) hb); have n11_ := aM_ (blk_below (g := gb395) (by (with_reducible repeat (first | apply kN_ | apply kD_ | apply kA_)); exact BK395.out) hb); have n12_ := aM_ (below_step (by repeat (first | (with_reducible first | exact HB.out | apply wA_ | apply wN_ | apply wD_ | refine below_set ?_ GE353.out | refine below_set ?_ GE365.out | refine below_set ?_ GE377.out | refine below_set ?_ GE395.out) | exact HB.out)) hb); clear HO_354004; clear HO_354005; clear HO_366004; clear HO_366005; clear HO_378004; clear HO_378005; clear HO390; clear HO393; clear BK353; clear BK365; clear BK377; clear BK395; clear HB; have HO_354004 := n0_; have HO_354005 := n1_; have HO_366004 := n2_; have HO_366005 := n3_; have HO_378004 := n4_; have HO_378005 := n5_; have HO390 := n6_; have HO393 := n7_; have BK353 := n8_; have BK365 := n9_; have BK377 := n10_; have BK395 := n11_; have HB := n12_; clear n0_ n1_ n2_ n3_ n4_ n5_ n6_ n7_ n8_ n9_ n10_ n11_ n12_; (try clear hb); (try clear hb2); (try clear hk); (try clear hi); obtain ⟨hcz84_0, hcz84_1, hcz84_2, hcz84_3, hcz84_4, hcz84_5⟩ := bc6 BK365.out; obtain ⟨hfz84_0, hfz84_1, hfz84_2, hfz84_3, hfz84_4, hfz84_5⟩ := bf6 BK365.out; obtain ⟨hcz85_0, hcz85_1, hcz85_2, hcz85_3, hcz85_4, hcz85_5⟩ := bc6 BK395.out; obtain ⟨hfz85_0, hfz85_1, hfz85_2, hfz85_3, hfz85_4, hfz85_5⟩ := bf6 BK395.out) | (go_at_call 23; (with_reducible refine (laws_wiImage.calls kj37 t354 t355 t356 t357 _ _ t358 _ _ t361 t384 t385 t386 t387 _ _ t388 _ _ t391 t398 _ ?side1 ?side2 ?side3 ?side4 ?side5 ?side6 ?side7 ?side8 A66.out).mono ?_); (case side1 => repeat (first | exact (Kd.R_reads' HO_366004.out).2.2 | (with_reducible refine Kd.C_alloc ?_ _) | (with_reducible refine Kd.C_drewN ?_ _) | (with_reducible refine Kd.C_drew ?_))); (case side2 => exact (Kd.R_reads' HO_366004.out).2.1); (case side3 => repeat (first | exact (Kd.Q_reads' HO_366005.out).2.2 | (with_reducible refine Kd.C_alloc ?_ _) | (with_reducible refine Kd.C_drewN ?_ _) | (with_reducible refine Kd.C_drew ?_))); (case side4 => exact (Kd.Q_reads' HO_366005.out).2.1); (case side5 => repeat (first | exact (Kd.R_reads' HO390.out).2.2 | (with_reducible refine Kd.C_alloc ?_ _) | (with_reducible refine Kd.C_drewN ?_ _) | (with_reducible refine Kd.C_drew ?_))); (case side6 => exact (Kd.R_reads' HO390.out).2.1); (case side7 => repeat (first | exact (Kd.R_reads' HO393.out).2.2 | (with_reducible refine Kd.C_alloc ?_ _) | (with_reducible refine Kd.C_drewN ?_ _) | (with_reducible refine Kd.C_drew ?_))); (case side8 => exact (Kd.R_reads' HO393.out).2.1); rintro e w86 ⟨rfl, hb⟩; have n0_ := aM_ (Kd.R_below (by (with_reducible repeat (first | apply rA_ | apply rN_ | apply rD_)); exact HO_354004.out) hb); have n1_ := aM_ (Kd.Q_below (by (with_reducible repeat (first | apply Kd.Q_alloc | apply Kd.Q_drewN | apply Kd.Q_drew)); exact HO_354005.out) hb); have n2_ := aM_ (Kd.R_below (by (with_reducible repeat (first | apply rA_ | apply rN_ | apply rD_)); exact HO_366004.out) hb); have n3_ := aM_ (Kd.Q_below (by (with_reducible repeat (first | apply Kd.Q_alloc | apply Kd.Q_drewN | apply Kd.Q_drew)); exact HO_366005.out) hb); have n4_ := aM_ (Kd.R_below (by (with_reducible repeat (first | apply rA_ | apply rN_ | apply rD_)); exact HO_378004.out) hb); have n5_ := aM_ (Kd.Q_below (by (with_reducible repeat (first | apply Kd.Q_alloc | apply Kd.Q_drewN | apply Kd.Q_drew)); exact HO_378005.out) hb); have n6_ := aM_ (Kd.R_below (by (with_reducible repeat (first | apply rA_ | apply rN_ | apply rD_)); exact HO390.out) hb); have n7_ := aM_ (Kd.R_below (by (with_reducible repeat (first | apply rA_ | apply rN_ | apply rD_)); exact HO393.out) hb); have n8_ := aM_ (blk_below (g := gb353) (by (with_reducible repeat (first | apply kN_ | apply kD_ | apply kA_)); exact BK353.out) hb); have n9_ := aM_ (blk_below (g := gb365) (by (with_reducible repeat (first | apply kN_ | apply kD_ | apply kA_)); exact BK365.out) hb); have n10_ := aM_ (blk_below (g := gb377) (by (with_reducible repeat (first | apply kN_ | apply kD_ | apply kA_)); exact BK377.out) hb); have n11_ := aM_ (blk_below (g := gb395) (by (with_reducible repeat (first | apply kN_ | apply kD_ | apply kA_)); exact BK395.out) hb); have n12_ := aM_ (below_step (by repeat (first | (with_reducible first | exact HB.out | apply wA_ | apply wN_ | apply wD_ | refine below_set ?_ GE353.out | refine below_set ?_ GE365.out | refine below_set ?_ GE377.out | refine below_set ?_ GE395.out) | exact HB.out)) hb); clear HO_354004; clear HO_354005; clear HO_366004; clear HO_366005; clear HO_378004; clear HO_378005; clear HO390; clear HO393; clear BK353; clear BK365; clear BK377; clear BK395; clear HB; have HO_354004 := n0_; have HO_354005 := n1_; have HO_366004 := n2_; have HO_366005 := n3_; have HO_378004 := n4_; have HO_378005 := n5_; have HO390 := n6_; have HO393 := n7_; have BK353 := n8_; have BK365 := n9_; have BK377 := n10_; have BK395 := n11_; have HB := n12_; clear n0_ n1_ n2_ n3_ n4_ n5_ n6_ n7_ n8_ n9_ n10_ n11_ n12_; (try clear hb); (try clear hb2); (try clear hk); (try clear hi)))
            go_ret
            exact ⟨by first | rfl | (simp [errW_none, errW_some] <;> rfl) | (simp [*, errW_none, errW_some] <;> rfl), by repeat (first | (with_reducible first | exact HB.out | apply wA_ | apply wN_ | apply wD_ | refine below_set ?_ GE353.out | refine below_set ?_ GE365.out | refine below_set ?_ GE377.out | refine below_set ?_ GE395.out) | exact HB.out)⟩
           ·replace c65 := Bool.eq_false_iff.mpr c65
            subst c65
            have H1 : (some false) = some true := by first | (rw [if_neg (show ¬ (false = true) by decide)] at H; exact H) | rfl
            clear H
            have H := H1
            clear H1
            exact absurd H (by simp)
          ·replace c64 := Bool.eq_false_iff.mpr c64
           subst c64
           have H1 : (some false) = some true := by first | (rw [if_neg (show ¬ (false = true) by decide)] at H; exact H) | rfl
           clear H
           have H := H1
           clear H1
           exact absurd H (by simp)
         ·replace c62 := Bool.eq_false_iff.mpr c62
          subst c62
          have H1 : (some false) = some true := by first | (rw [if_neg (show ¬ (false = true) by decide)] at H; exact H) | rfl
          clear H
          have H := H1
          clear H1
          exact absurd H (by simp)
        ·replace c60 := Bool.eq_false_iff.mpr c60
         subst c60
         have H1 : (some false) = some true := by first | (rw [if_neg (show ¬ (false = true) by decide)] at H; exact H) | rfl
         clear H
         have H := H1
         clear H1
         exact absurd H (by simp)
       ·replace c58 := Bool.eq_false_iff.mpr c58
        subst c58
        have H1 : (if x8_37 = true then (some false) else (some (t354 == 0))) = some true := by first | (rw [if_neg (show ¬ (false = true) by decide)] at H; exact H) | rfl
        clear H
        have H := H1
        clear H1
        by_cases c87 : x8_37 = true
        ·subst c87
         have H1 : (some false) = some true := by first | (rw [if_pos rfl] at H; exact H) | rfl
         clear H
         have H := H1
         clear H1
         exact absurd H (by simp)
        ·replace c87 := Bool.eq_false_iff.mpr c87
         subst c87
         have H1 : (some (t354 == 0)) = some true := by first | (rw [if_neg (show ¬ (false = true) by decide)] at H; exact H) | rfl
         clear H
         have H := H1
         clear H1
         have HX_ := Option.some.inj H
         clear H
         have hnb88 := NB365_353.out
         have hnc88 := NB353_365.out
         have hnb89 := NB365_377.out
         have hnc89 := NB377_365.out
         obtain ⟨hcz90_0, hcz90_1, hcz90_2, hcz90_3, hcz90_4, hcz90_5⟩ := bc6 BK365.out
         obtain ⟨hfz90_0, hfz90_1, hfz90_2, hfz90_3, hfz90_4, hfz90_5⟩ := bf6 BK365.out
         go_wp2
         go_ret
         exact ⟨by first | rfl | (simp [errW_none, errW_some] <;> rfl) | (simp [*, errW_none, errW_some] <;> rfl), by repeat (first | (with_reducible first | exact HB.out | apply wA_ | apply wN_ | apply wD_ | refine below_set ?_ GE353.out | refine below_set ?_ GE365.out | refine below_set ?_ GE377.out) | exact HB.out)⟩

/-- THE ONE PURE STATEMENT of laws_FnImageRgb: yours. -/
def laws_FnImageRgb.Pure : Prop := ∀ (l0 : List Int), l0.length ≤ maxLen → l0.length * 1 ≤ 140737488351232 → (∀ x ∈ l0, (Lit.int .u8 x).wf = true) → ∃ k, laws_FnImageRgb.f k l0 = some true
theorem laws_FnImageRgb.walk (P : laws_FnImageRgb.Pure) (a0 : Option Addr) (len0 cap0 : Nat) (z0 : List Int) (w : World) (w0 : (a0 = none ∧ len0 = 0 ∧ cap0 = 0 ∧ z0 = []) ∨ ∃ x, a0 = some x ∧ len0 ≤ cap0 ∧ cap0 ≤ maxLen ∧ z0.length = cap0 ∧ (∀ i, i < z0.length → w.cell? (x.add i) = some (.int .u8 (z0.getD i 0))) ∧ ∀ n ∈ z0, (Lit.int .u8 n).wf = true) (y0 : len0 * 1 ≤ 140737488351232) :
  Calls Try.prog 4 #[.slice a0 len0 cap0] w fun e w' => e = .returned (.bool true) ∧ Below w.heap.size w w' := by
 obtain ⟨l0, rfl, hr0, hm0, hw0, hc0⟩ := ReadsInt.ofRowC w0
 obtain ⟨k, h⟩ := P l0 hm0 y0 hw0
 refine (laws_FnImageRgb.calls k _ _ l0 w (Kd.C_of_reads (d := (0 : Int)) (h1 := fun _ => rfl) hr0) hc0 h).mono ?_
 rintro e w' ⟨rfl, hd⟩
 exact ⟨rfl, hd⟩

end Go.Proofs.Ytabjhgimeldpeaa.PFnImageRgb
