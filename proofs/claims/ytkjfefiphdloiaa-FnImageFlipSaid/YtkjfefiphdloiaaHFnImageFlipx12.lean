/- What the functions that the law comes to compute, as plain functions, and that the machine's calls come to just that: written by a program for this claim, and turned where Lean did not take it. No condition. -/
import Derived.Test.YtkjfefiphdloiaaHFnImageFlipx0
import Derived.Test.YtkjfefiphdloiaaHFnImageFlipx2
import Derived.Test.YtkjfefiphdloiaaHFnImageFlipx4
import Derived.Test.YtkjfefiphdloiaaHFnImageFlipx5
import Derived.Test.YtkjfefiphdloiaaHFnImageFlipx6
import Derived.Test.YtkjfefiphdloiaaHFnImageFlipx7
import Derived.Test.YtkjfefiphdloiaaHFnImageFlipx11
namespace Go.Proofs.Ytkjfefiphdloiaa.PFnImageFlip
open Go.RowKit Go.Proofs.YtkjfefiphdloiaaW.PrintWords Go.Proofs.YtkjfefiphdloiaaW.PrintLast Go.Proofs.YtkjfefiphdloiaaW.PrintMore
attribute [local go_sem] max2_int min2_int max_two min_two max_three min_three max_four min_four   -- for this text's walks alone
set_option linter.unusedVariables false
set_option linter.unusedSimpArgs false

/-! ### laws_FnImageFlip: function 13 -/
mutual
def laws_FnImageFlip.j0 : Nat → Bool → Int → Int → Int → Int → List Int → List Int → Int → Int → Int → Int → List Int → List Int → Option (Bool)
 | 0, _, _, _, _, _, _, _, _, _, _, _, _, _ => none
 | k + 1, x28, x376000, x376001, x376002, x376003, x376004, x376005, x387000, x387001, x387002, x387003, x387004, x387005 => if x28 = true then (some false) else ((spec_ImageOk.f k x376000 x376001 x376002 x376003 x376004 x376005).bind fun t400 => (if t400 = true then (laws_FnImageFlip.l0 k 0 x376000 x376001 x376002 x376003 x376004 x376005 x387000 x387001 x387002 x387003 x387004 x387005) else (some (x387000 == 0))))
def laws_FnImageFlip.l0 : Nat → Int → Int → Int → Int → Int → List Int → List Int → Int → Int → Int → Int → List Int → List Int → Option (Bool)
 | 0, _, _, _, _, _, _, _, _, _, _, _, _, _ => none
 | k + 1, x5, x376000, x376001, x376002, x376003, x376004, x376005, x387000, x387001, x387002, x387003, x387004, x387005 => if x5 < x376002 then ((impl_ImageAt.f k x376000 x376001 x376002 x376003 x376004 x376005 x5 0).bind fun bt401 => ((impl_ImageAt.f k x387000 x387001 x387002 x387003 x387004 x387005 x5 (wrap64 (x376003 - 1))).bind fun bt403 => (if bt401.1 = bt403.1 then (laws_FnImageFlip.l0 k (wrap64 (x5 + 1)) x376000 x376001 x376002 x376003 x376004 x376005 x387000 x387001 x387002 x387003 x387004 x387005) else (some false)))) else ((impl_ImageOk.f k x387000 x387001 x387002 x387003 x387004 x387005).bind fun t405 => (if t405 = true then ((impl_ImageFlip.f k x387000 x387001 x387002 x387003 x387004 x387005).bind fun bt406 => ((laws_wiImage.f k bt406.1 bt406.2.1 bt406.2.2.1 bt406.2.2.2.1 bt406.2.2.2.2.1 bt406.2.2.2.2.2 x376000 x376001 x376002 x376003 x376004 x376005).bind fun t416 => (some t416))) else (some false)))
end
def laws_FnImageFlip.f (k : Nat) (l0 : List Int) : Option (Bool) := if (l0.length : Int) > 1048576 then (some true) else ((spec_DrawImageFlip.f k l0).bind fun bt365 => ((impl_ImageFlip.f k bt365.1 bt365.2.1 bt365.2.2.1 bt365.2.2.2.1 bt365.2.2.2.2.1 bt365.2.2.2.2.2).bind fun bt376 => ((spec_ImageFlip.f k bt365.1 bt365.2.1 bt365.2.2.1 bt365.2.2.2.1 bt365.2.2.2.2.1 bt365.2.2.2.2.2).bind fun bt387 => ((laws_wiImage.f k bt376.1 bt376.2.1 bt376.2.2.1 bt376.2.2.2.1 bt376.2.2.2.2.1 bt376.2.2.2.2.2 bt387.1 bt387.2.1 bt387.2.2.1 bt387.2.2.2.1 bt387.2.2.2.2.1 bt387.2.2.2.2.2).bind fun t397 => (if t397 = true then ((impl_ImageOk.f k bt365.1 bt365.2.1 bt365.2.2.1 bt365.2.2.2.1 bt365.2.2.2.2.1 bt365.2.2.2.2.2).bind fun t398 => ((spec_ImageOk.f k bt365.1 bt365.2.1 bt365.2.2.1 bt365.2.2.2.1 bt365.2.2.2.2.1 bt365.2.2.2.2.2).bind fun t399 => (laws_FnImageFlip.j0 k (t398 != t399) bt365.1 bt365.2.1 bt365.2.2.1 bt365.2.2.2.1 bt365.2.2.2.2.1 bt365.2.2.2.2.2 bt376.1 bt376.2.1 bt376.2.2.1 bt376.2.2.2.1 bt376.2.2.2.2.1 bt376.2.2.2.2.2))) else (laws_FnImageFlip.j0 k true bt365.1 bt365.2.1 bt365.2.2.1 bt365.2.2.2.1 bt365.2.2.2.2.1 bt365.2.2.2.2.2 bt376.1 bt376.2.1 bt376.2.2.1 bt376.2.2.2.1 bt376.2.2.2.2.1 bt376.2.2.2.2.2))))))
theorem laws_FnImageFlip.mono_l : ∀ k, (∀ y0 y1 y2 y3 y4 y5 y6 y7 y8 y9 y10 y11 y12, LeO (laws_FnImageFlip.j0 k y0 y1 y2 y3 y4 y5 y6 y7 y8 y9 y10 y11 y12) (laws_FnImageFlip.j0 (k + 1) y0 y1 y2 y3 y4 y5 y6 y7 y8 y9 y10 y11 y12)) ∧ (∀ y0 y1 y2 y3 y4 y5 y6 y7 y8 y9 y10 y11 y12, LeO (laws_FnImageFlip.l0 k y0 y1 y2 y3 y4 y5 y6 y7 y8 y9 y10 y11 y12) (laws_FnImageFlip.l0 (k + 1) y0 y1 y2 y3 y4 y5 y6 y7 y8 y9 y10 y11 y12))
 | 0 => ⟨fun _ _ _ _ _ _ _ _ _ _ _ _ _ r h => by simp [laws_FnImageFlip.j0] at h, fun _ _ _ _ _ _ _ _ _ _ _ _ _ r h => by simp [laws_FnImageFlip.l0] at h⟩
 | k + 1 => by
  obtain ⟨ih0, ih1⟩ := laws_FnImageFlip.mono_l k
  refine ⟨?_, ?_⟩
  ·intro y0 y1 y2 y3 y4 y5 y6 y7 y8 y9 y10 y11 y12
   unfold laws_FnImageFlip.j0
   repeat' first
   | (with_reducible exact ih0 _ _ _ _ _ _ _ _ _ _ _ _ _)
   | (with_reducible exact ih1 _ _ _ _ _ _ _ _ _ _ _ _ _)
   | (with_reducible exact impl_ImageAt.mono _ _ _ _ _ _ _ _ _)
   | (with_reducible exact impl_ImageFlip.mono _ _ _ _ _ _ _)
   | (with_reducible exact impl_ImageOk.mono _ _ _ _ _ _ _)
   | (with_reducible exact laws_wiImage.mono _ _ _ _ _ _ _ _ _ _ _ _ _)
   | (with_reducible exact spec_DrawImageFlip.mono _ _)
   | (with_reducible exact spec_ImageFlip.mono _ _ _ _ _ _ _)
   | (with_reducible exact spec_ImageOk.mono _ _ _ _ _ _ _)
   | (with_reducible exact LeO.refl _)
   | (with_reducible exact LeO.none _)
   | (with_reducible refine LeO.ite ?_ ?_)
   | (with_reducible refine LeO.bind ?_ (fun _ => ?_))
  ·intro y0 y1 y2 y3 y4 y5 y6 y7 y8 y9 y10 y11 y12
   unfold laws_FnImageFlip.l0
   repeat' first
   | (with_reducible exact ih0 _ _ _ _ _ _ _ _ _ _ _ _ _)
   | (with_reducible exact ih1 _ _ _ _ _ _ _ _ _ _ _ _ _)
   | (with_reducible exact impl_ImageAt.mono _ _ _ _ _ _ _ _ _)
   | (with_reducible exact impl_ImageFlip.mono _ _ _ _ _ _ _)
   | (with_reducible exact impl_ImageOk.mono _ _ _ _ _ _ _)
   | (with_reducible exact laws_wiImage.mono _ _ _ _ _ _ _ _ _ _ _ _ _)
   | (with_reducible exact spec_DrawImageFlip.mono _ _)
   | (with_reducible exact spec_ImageFlip.mono _ _ _ _ _ _ _)
   | (with_reducible exact spec_ImageOk.mono _ _ _ _ _ _ _)
   | (with_reducible exact LeO.refl _)
   | (with_reducible exact LeO.none _)
   | (with_reducible refine LeO.ite ?_ ?_)
   | (with_reducible refine LeO.bind ?_ (fun _ => ?_))
theorem laws_FnImageFlip.mono : ∀ a0 k, LeO (laws_FnImageFlip.f k a0) (laws_FnImageFlip.f (k + 1) a0) := by
 intro a0 k
 obtain ⟨ih0, ih1⟩ := laws_FnImageFlip.mono_l k
 unfold laws_FnImageFlip.f
 repeat' first
   | (with_reducible exact ih0 _ _ _ _ _ _ _ _ _ _ _ _ _)
   | (with_reducible exact ih1 _ _ _ _ _ _ _ _ _ _ _ _ _)
   | (with_reducible exact impl_ImageAt.mono _ _ _ _ _ _ _ _ _)
   | (with_reducible exact impl_ImageFlip.mono _ _ _ _ _ _ _)
   | (with_reducible exact impl_ImageOk.mono _ _ _ _ _ _ _)
   | (with_reducible exact laws_wiImage.mono _ _ _ _ _ _ _ _ _ _ _ _ _)
   | (with_reducible exact spec_DrawImageFlip.mono _ _)
   | (with_reducible exact spec_ImageFlip.mono _ _ _ _ _ _ _)
   | (with_reducible exact spec_ImageOk.mono _ _ _ _ _ _ _)
   | (with_reducible exact LeO.refl _)
   | (with_reducible exact LeO.none _)
   | (with_reducible refine LeO.ite ?_ ?_)
   | (with_reducible refine LeO.bind ?_ (fun _ => ?_))
def laws_FnImageFlip.T5 : Bool × List (List Nat × List Nat) := (true, [([], []), ([], []), ([1], [1]), ([0, 2, 2], [0, 2]), ([3], [3]), ([4, 3], [4]), ([5], [5]), ([6, 5, 5], [5, 6]), ([5], [5]), ([8, 7, 5], [5, 8]), ([7, 9, 5], [5, 7, 9]), ([5, 10], [5, 10])])
def laws_FnImageFlip.B5 : List Nat := [0, 0, 2, 7, 15, 31, 63, 127, 63, 511, 1023, 2047]
theorem laws_FnImageFlip.tab5 : rtab .any (opsOf Try.f13 5) = laws_FnImageFlip.T5 := by kernel_rfl
theorem laws_FnImageFlip.bits5 : waitsOk laws_FnImageFlip.T5.2 laws_FnImageFlip.B5 = true := by kernel_rfl
def laws_FnImageFlip.T16 : Bool × List (List Nat × List Nat) := (true, [([], []), ([0], [0]), ([1, 1], [1]), ([2], [2]), ([3, 2, 2], [2, 3]), ([2], [2]), ([4, 5, 4, 2], [2, 4, 5]), ([2, 6], [2, 6]), ([7, 6, 0, 1, 2, 3, 4, 5, 6, 7], [7])])
def laws_FnImageFlip.B16 : List Nat := [0, 1, 3, 7, 15, 7, 63, 127, 255]
theorem laws_FnImageFlip.tab16 : rtab .any (opsOf Try.f13 16) = laws_FnImageFlip.T16 := by kernel_rfl
theorem laws_FnImageFlip.bits16 : waitsOk laws_FnImageFlip.T16.2 laws_FnImageFlip.B16 = true := by kernel_rfl
set_option maxHeartbeats 8000000 in
set_option maxRecDepth 100000 in
theorem laws_FnImageFlip.calls (k : Nat) (A0 : Option Addr) (c0 : Nat) (l0 : List Int) (w : World) (hr0 : Kd.C (Kd.int .u8) w A0 l0.length l0) (hc0 : l0.length ≤ c0) (h : laws_FnImageFlip.f k l0 = some true) :
  Calls Try.prog 13 #[.slice A0 l0.length c0] w fun e w' => e = .returned (.bool true) ∧ Below w.heap.size w w' := by
 have hu27 := Try.underlying27
 have HR0 := Aside0.mk hr0
 have HC0 := Aside0.mk hc0
 clear hr0 hc0
 have HB := Aside0.mk (Below.refl w.heap.size w)
 have H : (if (l0.length : Int) > 1048576 then (some true) else ((spec_DrawImageFlip.f k l0).bind fun bt365 => ((impl_ImageFlip.f k bt365.1 bt365.2.1 bt365.2.2.1 bt365.2.2.2.1 bt365.2.2.2.2.1 bt365.2.2.2.2.2).bind fun bt376 => ((spec_ImageFlip.f k bt365.1 bt365.2.1 bt365.2.2.1 bt365.2.2.2.1 bt365.2.2.2.2.1 bt365.2.2.2.2.2).bind fun bt387 => ((laws_wiImage.f k bt376.1 bt376.2.1 bt376.2.2.1 bt376.2.2.2.1 bt376.2.2.2.2.1 bt376.2.2.2.2.2 bt387.1 bt387.2.1 bt387.2.2.1 bt387.2.2.2.1 bt387.2.2.2.2.1 bt387.2.2.2.2.2).bind fun t397 => (if t397 = true then ((impl_ImageOk.f k bt365.1 bt365.2.1 bt365.2.2.1 bt365.2.2.2.1 bt365.2.2.2.2.1 bt365.2.2.2.2.2).bind fun t398 => ((spec_ImageOk.f k bt365.1 bt365.2.1 bt365.2.2.1 bt365.2.2.2.1 bt365.2.2.2.2.1 bt365.2.2.2.2.2).bind fun t399 => (laws_FnImageFlip.j0 k (t398 != t399) bt365.1 bt365.2.1 bt365.2.2.1 bt365.2.2.2.1 bt365.2.2.2.2.1 bt365.2.2.2.2.2 bt376.1 bt376.2.1 bt376.2.2.1 bt376.2.2.2.1 bt376.2.2.2.2.1 bt376.2.2.2.2.2))) else (laws_FnImageFlip.j0 k true bt365.1 bt365.2.1 bt365.2.2.1 bt365.2.2.2.1 bt365.2.2.2.2.1 bt365.2.2.2.2.2 bt376.1 bt376.2.1 bt376.2.2.1 bt376.2.2.2.1 bt376.2.2.2.2.1 bt376.2.2.2.2.2))))))) = some true := h
 clear h
 by_cases c2 : (l0.length : Int) > 1048576
 ·rw [if_pos c2] at H
  have c2b0 : decide (1048576 < (l0.length : Int)) = true := decide_eq_true c2
  have c2b1 : decide (1048576 < l0.length) = true := decide_eq_true (by omega)
  clear c2
  clear H
  go_enter Try.func13, Try.ntmps13
  go_wp2
  go_ret
  exact ⟨by first | rfl | (simp [errW_none, errW_some] <;> rfl) | (simp [*, errW_none, errW_some] <;> rfl), by repeat (first | (with_reducible first | exact HB.out | apply below_alloc | apply pw_below_drewN | apply below_drew1) | exact HB.out)⟩
 ·rw [if_neg c2] at H
  have c2b0 : decide (1048576 < (l0.length : Int)) = false := decide_eq_false c2
  have c2b1 : decide (1048576 < l0.length) = false := decide_eq_false (by omega)
  clear c2
  replace H := Option.bind_eq_some_iff.mp H
  obtain ⟨⟨t365, t366, t367, t368, t369, t372⟩, A30, H⟩ := H
  replace H : ((impl_ImageFlip.f k t365 t366 t367 t368 t369 t372).bind fun bt376 => ((spec_ImageFlip.f k t365 t366 t367 t368 t369 t372).bind fun bt387 => ((laws_wiImage.f k bt376.1 bt376.2.1 bt376.2.2.1 bt376.2.2.2.1 bt376.2.2.2.2.1 bt376.2.2.2.2.2 bt387.1 bt387.2.1 bt387.2.2.1 bt387.2.2.2.1 bt387.2.2.2.2.1 bt387.2.2.2.2.2).bind fun t397 => (if t397 = true then ((impl_ImageOk.f k t365 t366 t367 t368 t369 t372).bind fun t398 => ((spec_ImageOk.f k t365 t366 t367 t368 t369 t372).bind fun t399 => (laws_FnImageFlip.j0 k (t398 != t399) t365 t366 t367 t368 t369 t372 bt376.1 bt376.2.1 bt376.2.2.1 bt376.2.2.2.1 bt376.2.2.2.2.1 bt376.2.2.2.2.2))) else (laws_FnImageFlip.j0 k true t365 t366 t367 t368 t369 t372 bt376.1 bt376.2.1 bt376.2.2.1 bt376.2.2.2.1 bt376.2.2.2.2.1 bt376.2.2.2.2.2))))) = some true := H
  have A3 := Aside0.mk A30
  clear A30
  replace H := Option.bind_eq_some_iff.mp H
  obtain ⟨⟨t376, t377, t378, t379, t380, t383⟩, A40, H⟩ := H
  replace H : ((spec_ImageFlip.f k t365 t366 t367 t368 t369 t372).bind fun bt387 => ((laws_wiImage.f k t376 t377 t378 t379 t380 t383 bt387.1 bt387.2.1 bt387.2.2.1 bt387.2.2.2.1 bt387.2.2.2.2.1 bt387.2.2.2.2.2).bind fun t397 => (if t397 = true then ((impl_ImageOk.f k t365 t366 t367 t368 t369 t372).bind fun t398 => ((spec_ImageOk.f k t365 t366 t367 t368 t369 t372).bind fun t399 => (laws_FnImageFlip.j0 k (t398 != t399) t365 t366 t367 t368 t369 t372 t376 t377 t378 t379 t380 t383))) else (laws_FnImageFlip.j0 k true t365 t366 t367 t368 t369 t372 t376 t377 t378 t379 t380 t383)))) = some true := H
  have A4 := Aside0.mk A40
  clear A40
  have HC5 := Aside0.mk H
  clear H
  go_enter Try.func13, Try.ntmps13
  go_upto_region 5 with (first | ((with_reducible refine gate_callee (f := 40) rfl ?_); refine goesL_ (some 14) rfl rfl Try.func40 (by kernel_rfl) rfl #[.slice A0 l0.length c0] rfl (by (try simp only [List.map_toArray, List.map_cons, List.map_nil]); first | done | rfl | (simp only [List.length_drop, List.length_take]; rfl)) ?_; (with_reducible refine (spec_DrawImageFlip.calls k _ _ l0 t365 t366 t367 t368 t369 t372 _ ?side1 ?side2 A3.out).mono ?_); (case side1 => repeat (first | exact HR0.out | (with_reducible refine Kd.C_alloc ?_ _) | (with_reducible refine Kd.C_drewN ?_ _) | (with_reducible refine Kd.C_drew ?_))); (case side2 => exact HC0.out); rintro e w6 ⟨v370, v373, rfl, ho0, ho1, hb⟩; refine ⟨_, rfl, ?_⟩; have n0_ := Aside0.mk (Kd.R_lower ho0 (below_size (by repeat (first | (with_reducible first | exact HB.out | apply below_alloc | apply pw_below_drewN | apply below_drew1) | exact HB.out)))); have n1_ := Aside0.mk (Kd.Q_lower ho1 (below_size (by repeat (first | (with_reducible first | exact HB.out | apply below_alloc | apply pw_below_drewN | apply below_drew1) | exact HB.out)))); have n2_ := Aside0.mk (below_step (by repeat (first | (with_reducible first | exact HB.out | apply below_alloc | apply pw_below_drewN | apply below_drew1) | exact HB.out)) hb); clear HB; have HO371 := n0_; have HO374 := n1_; have HB := n2_; clear n0_ n1_ n2_; (try clear hb); (try clear hb2); (try clear hk); (try clear hi); (try clear ho0); (try clear ho1)) | ((with_reducible refine gate_dst (N := 3) rfl ?_); refine box_event ?hg (N := 3) ?hd (cs := #[.int .i64 0, .int .i64 0, .int .i64 0, .int .i64 0, .slice none 0 0, .slice none 0 0]) (t := 27) ?hr ?_; (case hd => rfl); (case hg => rfl); (case hr => first | (go_simp; done) | (go_simp; rfl)); intro gb375 hg w7 hbox hb; have n0_ := Aside0.mk (Kd.R_below (by (with_reducible repeat (first | apply Kd.R_alloc | apply Kd.R_drewN | apply Kd.R_drew)); exact HO371.out) hb); have n1_ := Aside0.mk (Kd.Q_below (by (with_reducible repeat (first | apply Kd.Q_alloc | apply Kd.Q_drewN | apply Kd.Q_drew)); exact HO374.out) hb); have n2_ := Aside0.mk (below_step (by repeat (first | (with_reducible first | exact HB.out | apply below_alloc | apply pw_below_drewN | apply below_drew1) | exact HB.out)) hb); have n3_ := Aside0.mk (hbox); have n4_ := Aside0.mk ((by rw [hg]; exact (below_size (by repeat (first | (with_reducible first | exact HB.out | apply below_alloc | apply pw_below_drewN | apply below_drew1) | exact HB.out))) : w.heap.size ≤ gb375)); have n5_ := Aside0.mk ((by rw [hg]; exact (below_size (by repeat (first | (with_reducible first | exact HB.out | apply below_alloc | apply pw_below_drewN | apply below_drew1) | exact HB.out))) : w.heap.size ≤ gb375)); clear HO371; clear HO374; clear HB; have HO371 := n0_; have HO374 := n1_; have HB := n2_; have BK375 := n3_; have GW375 := n4_; have GE375 := n5_; clear n0_ n1_ n2_ n3_ n4_ n5_; clear hb hbox hg; obtain ⟨hcz8_0, hcz8_1, hcz8_2, hcz8_3, hcz8_4, hcz8_5⟩ := bc6 BK375.out; obtain ⟨hfz8_0, hfz8_1, hfz8_2, hfz8_3, hfz8_4, hfz8_5⟩ := bf6 BK375.out; obtain ⟨Ao9, co9, eo9⟩ := Kd.R_slice HO371.out; subst eo9; obtain ⟨Ao10, co10, eo10, _⟩ := Kd.Q_slice HO374.out; subst eo10) | ((with_reducible refine gate_callee (f := 27) rfl ?_); refine goesL_ (some 16) rfl rfl Try.func27 (by kernel_rfl) rfl #[.agg #[.int .i64 t365, .int .i64 t366, .int .i64 t367, .int .i64 t368, .slice Ao9 t369.length co9, .slice Ao10 t372.length co10]] rfl (by (try simp only [List.map_toArray, List.map_cons, List.map_nil]); first | done | rfl | (simp only [List.length_drop, List.length_take]; rfl)) ?_; (with_reducible refine (impl_ImageFlip.calls k t365 t366 t367 t368 _ _ t369 _ _ t372 t376 t377 t378 t379 t380 t383 _ ?side1 ?side2 ?side3 ?side4 A4.out).mono ?_); (case side1 => refine (Kd.R_reads' (e := 3) (base := w.heap.size) (ok := fun k_ => some k_ ≠ (.slice Ao10 t372.length co10 : Value).ownBlock) (n := t369.length) (c := co9) ?_).2.2; exact (by (with_reducible repeat (first | apply Kd.R_alloc | apply Kd.R_drewN | apply Kd.R_drew)); exact (Kd.R_mono (Kd.R_far (Kd.R_far (Kd.R_far (Kd.R_far (Kd.R_far (Kd.R_far (Kd.R_types HO371.out BK375.out (by decide)) (fun _ hk => hk.2) (.int .i64 t365)) (fun _ hk => hk.2) (.int .i64 t366)) (fun _ hk => hk.2) (.int .i64 t367)) (fun _ hk => hk.2) (.int .i64 t368)) (fun _ hk => hk.2) (.slice Ao9 t369.length co9)) (fun _ hk => hk.2) (.slice Ao10 t372.length co10)) (fun _ h_ => h_.1)))); (case side2 => exact (Kd.R_reads' HO371.out).2.1); (case side3 => refine (Kd.Q_reads' (e := 3) (base := w.heap.size) (ok := fun k_ => some k_ ≠ (.slice Ao9 t369.length co9 : Value).ownBlock) (n := t372.length) (c := co10) ?_).2.2; exact (by (with_reducible repeat (first | apply Kd.Q_alloc | apply Kd.Q_drewN | apply Kd.Q_drew)); exact (Kd.Q_mono (Kd.Q_far (Kd.Q_far (Kd.Q_far (Kd.Q_far (Kd.Q_far (Kd.Q_far (Kd.Q_types HO374.out BK375.out (by decide)) (fun _ hk => hk.2) (.int .i64 t365)) (fun _ hk => hk.2) (.int .i64 t366)) (fun _ hk => hk.2) (.int .i64 t367)) (fun _ hk => hk.2) (.int .i64 t368)) (fun _ hk => hk.2) (.slice Ao9 t369.length co9)) (fun _ hk => hk.2) (.slice Ao10 t372.length co10)) (fun _ h_ => h_.1)))); (case side4 => exact (Kd.Q_reads' HO374.out).2.1); rintro e w11 ⟨v381, v384, rfl, ho0, ho1, hb⟩; refine ⟨_, rfl, ?_⟩; have n0_ := Aside0.mk (Kd.R_mono (Kd.R_told (Kd.R_told (Kd.R_old (by (with_reducible repeat (first | apply Kd.R_alloc | apply Kd.R_drewN | apply Kd.R_drew)); exact (Kd.R_mono (Kd.R_far (Kd.R_far (Kd.R_far (Kd.R_far (Kd.R_far (Kd.R_far (Kd.R_types HO371.out BK375.out (by decide)) (fun _ hk => hk.2) (.int .i64 t365)) (fun _ hk => hk.2) (.int .i64 t366)) (fun _ hk => hk.2) (.int .i64 t367)) (fun _ hk => hk.2) (.int .i64 t368)) (fun _ hk => hk.2) (.slice Ao9 t369.length co9)) (fun _ hk => hk.2) (.slice Ao10 t372.length co10)) (fun _ h_ => h_.1))) hb) (Kd.R_base ho0)) (Kd.R_base ho1)) (fun _ h_ => h_.1)); have n1_ := Aside0.mk (Kd.Q_mono (Kd.Q_told (Kd.Q_told (Kd.Q_old (by (with_reducible repeat (first | apply Kd.Q_alloc | apply Kd.Q_drewN | apply Kd.Q_drew)); exact (Kd.Q_mono (Kd.Q_far (Kd.Q_far (Kd.Q_far (Kd.Q_far (Kd.Q_far (Kd.Q_far (Kd.Q_types HO374.out BK375.out (by decide)) (fun _ hk => hk.2) (.int .i64 t365)) (fun _ hk => hk.2) (.int .i64 t366)) (fun _ hk => hk.2) (.int .i64 t367)) (fun _ hk => hk.2) (.int .i64 t368)) (fun _ hk => hk.2) (.slice Ao9 t369.length co9)) (fun _ hk => hk.2) (.slice Ao10 t372.length co10)) (fun _ h_ => h_.1))) hb) (Kd.R_base ho0)) (Kd.R_base ho1)) (fun _ h_ => h_.1)); have n2_ := Aside0.mk (Kd.R_lower (Kd.R_new' (Kd.R_new' ho0 (Kd.R_lt (by (with_reducible repeat (first | apply Kd.R_alloc | apply Kd.R_drewN | apply Kd.R_drew)); exact (Kd.R_mono (Kd.R_far (Kd.R_far (Kd.R_far (Kd.R_far (Kd.R_far (Kd.R_far (Kd.R_types HO371.out BK375.out (by decide)) (fun _ hk => hk.2) (.int .i64 t365)) (fun _ hk => hk.2) (.int .i64 t366)) (fun _ hk => hk.2) (.int .i64 t367)) (fun _ hk => hk.2) (.int .i64 t368)) (fun _ hk => hk.2) (.slice Ao9 t369.length co9)) (fun _ hk => hk.2) (.slice Ao10 t372.length co10)) (fun _ h_ => h_.1))))) (Kd.Q_lt (by (with_reducible repeat (first | apply Kd.Q_alloc | apply Kd.Q_drewN | apply Kd.Q_drew)); exact (Kd.Q_mono (Kd.Q_far (Kd.Q_far (Kd.Q_far (Kd.Q_far (Kd.Q_far (Kd.Q_far (Kd.Q_types HO374.out BK375.out (by decide)) (fun _ hk => hk.2) (.int .i64 t365)) (fun _ hk => hk.2) (.int .i64 t366)) (fun _ hk => hk.2) (.int .i64 t367)) (fun _ hk => hk.2) (.int .i64 t368)) (fun _ hk => hk.2) (.slice Ao9 t369.length co9)) (fun _ hk => hk.2) (.slice Ao10 t372.length co10)) (fun _ h_ => h_.1))))) (below_size (by repeat (first | (with_reducible first | exact HB.out | apply below_alloc | apply pw_below_drewN | apply below_drew1 | refine below_set ?_ GE375.out) | exact HB.out)))); have n3_ := Aside0.mk (Kd.R_lower (Kd.R_new' (Kd.R_new' ho1 (Kd.R_lt (by (with_reducible repeat (first | apply Kd.R_alloc | apply Kd.R_drewN | apply Kd.R_drew)); exact (Kd.R_mono (Kd.R_far (Kd.R_far (Kd.R_far (Kd.R_far (Kd.R_far (Kd.R_far (Kd.R_types HO371.out BK375.out (by decide)) (fun _ hk => hk.2) (.int .i64 t365)) (fun _ hk => hk.2) (.int .i64 t366)) (fun _ hk => hk.2) (.int .i64 t367)) (fun _ hk => hk.2) (.int .i64 t368)) (fun _ hk => hk.2) (.slice Ao9 t369.length co9)) (fun _ hk => hk.2) (.slice Ao10 t372.length co10)) (fun _ h_ => h_.1))))) (Kd.Q_lt (by (with_reducible repeat (first | apply Kd.Q_alloc | apply Kd.Q_drewN | apply Kd.Q_drew)); exact (Kd.Q_mono (Kd.Q_far (Kd.Q_far (Kd.Q_far (Kd.Q_far (Kd.Q_far (Kd.Q_far (Kd.Q_types HO374.out BK375.out (by decide)) (fun _ hk => hk.2) (.int .i64 t365)) (fun _ hk => hk.2) (.int .i64 t366)) (fun _ hk => hk.2) (.int .i64 t367)) (fun _ hk => hk.2) (.int .i64 t368)) (fun _ hk => hk.2) (.slice Ao9 t369.length co9)) (fun _ hk => hk.2) (.slice Ao10 t372.length co10)) (fun _ h_ => h_.1))))) (below_size (by repeat (first | (with_reducible first | exact HB.out | apply below_alloc | apply pw_below_drewN | apply below_drew1 | refine below_set ?_ GE375.out) | exact HB.out)))); have n4_ := Aside0.mk (blk_below (g := gb375) (o := .cells #[.int .i64 t365, .int .i64 t366, .int .i64 t367, .int .i64 t368, .slice Ao9 t369.length co9, .slice Ao10 t372.length co10] 27 (0, 0)) (by (with_reducible repeat (first | apply blk_drewN | apply blk_drew | apply blk_alloc)); refine blk_put (cs := #[.int .i64 t365, .int .i64 t366, .int .i64 t367, .int .i64 t368, .slice Ao9 t369.length co9, .slice none 0 0]) ?_ 5 _ rfl; (with_reducible repeat (first | apply blk_drewN | apply blk_drew | apply blk_alloc)); refine blk_put (cs := #[.int .i64 t365, .int .i64 t366, .int .i64 t367, .int .i64 t368, .slice none 0 0, .slice none 0 0]) ?_ 4 _ rfl; (with_reducible repeat (first | apply blk_drewN | apply blk_drew | apply blk_alloc)); refine blk_put (cs := #[.int .i64 t365, .int .i64 t366, .int .i64 t367, .int .i64 0, .slice none 0 0, .slice none 0 0]) ?_ 3 _ rfl; (with_reducible repeat (first | apply blk_drewN | apply blk_drew | apply blk_alloc)); refine blk_put (cs := #[.int .i64 t365, .int .i64 t366, .int .i64 0, .int .i64 0, .slice none 0 0, .slice none 0 0]) ?_ 2 _ rfl; (with_reducible repeat (first | apply blk_drewN | apply blk_drew | apply blk_alloc)); refine blk_put (cs := #[.int .i64 t365, .int .i64 0, .int .i64 0, .int .i64 0, .slice none 0 0, .slice none 0 0]) ?_ 1 _ rfl; (with_reducible repeat (first | apply blk_drewN | apply blk_drew | apply blk_alloc)); refine blk_put (cs := #[.int .i64 0, .int .i64 0, .int .i64 0, .int .i64 0, .slice none 0 0, .slice none 0 0]) ?_ 0 _ rfl; (with_reducible repeat (first | apply blk_drewN | apply blk_drew | apply blk_alloc)); exact BK375.out) hb); have n5_ := Aside0.mk (below_step (by repeat (first | (with_reducible first | exact HB.out | apply below_alloc | apply pw_below_drewN | apply below_drew1 | refine below_set ?_ GE375.out) | exact HB.out)) hb); clear HO371; clear HO374; clear BK375; clear HB; have HO371 := n0_; have HO374 := n1_; have HO382 := n2_; have HO385 := n3_; have BK375 := n4_; have HB := n5_; clear n0_ n1_ n2_ n3_ n4_ n5_; (try clear hb); (try clear hb2); (try clear hk); (try clear hi); (try clear ho0); (try clear ho1)) | ((with_reducible refine gate_dst (N := 4) rfl ?_); refine box_event ?hg (N := 4) ?hd (cs := #[.int .i64 0, .int .i64 0, .int .i64 0, .int .i64 0, .slice none 0 0, .slice none 0 0]) (t := 27) ?hr ?_; (case hd => rfl); (case hg => rfl); (case hr => first | (go_simp; done) | (go_simp; rfl)); intro gb386 hg w12 hbox hb; have n0_ := Aside0.mk (Kd.R_below (by (with_reducible repeat (first | apply Kd.R_alloc | apply Kd.R_drewN | apply Kd.R_drew)); exact HO371.out) hb); have n1_ := Aside0.mk (Kd.Q_below (by (with_reducible repeat (first | apply Kd.Q_alloc | apply Kd.Q_drewN | apply Kd.Q_drew)); exact HO374.out) hb); have n2_ := Aside0.mk (Kd.R_below (by (with_reducible repeat (first | apply Kd.R_alloc | apply Kd.R_drewN | apply Kd.R_drew)); exact HO382.out) hb); have n3_ := Aside0.mk (Kd.R_below (by (with_reducible repeat (first | apply Kd.R_alloc | apply Kd.R_drewN | apply Kd.R_drew)); exact HO385.out) hb); have n4_ := Aside0.mk (blk_below (g := gb375) (by (with_reducible repeat (first | apply blk_drewN | apply blk_drew | apply blk_alloc)); exact BK375.out) hb); have n5_ := Aside0.mk (below_step (by repeat (first | (with_reducible first | exact HB.out | apply below_alloc | apply pw_below_drewN | apply below_drew1 | refine below_set ?_ GE375.out) | exact HB.out)) hb); have n6_ := Aside0.mk (hbox); have n7_ := Aside0.mk ((by rw [hg]; exact (below_size (by repeat (first | (with_reducible first | exact HB.out | apply below_alloc | apply pw_below_drewN | apply below_drew1 | refine below_set ?_ GE375.out) | exact HB.out))) : w.heap.size ≤ gb386)); have n8_ := Aside0.mk ((by rw [hg]; exact (below_size (by repeat (first | (with_reducible first | exact HB.out | apply below_alloc | apply pw_below_drewN | apply below_drew1 | refine below_set ?_ GE375.out) | exact HB.out))) : w.heap.size ≤ gb386)); have n9_ := Aside0.mk ((by rw [hg]; exact Nat.ne_of_lt (blk_lt (g := gb375) (by (with_reducible repeat (first | apply blk_drewN | apply blk_drew | apply blk_alloc)); exact BK375.out)) : gb375 ≠ gb386)); have n10_ := Aside0.mk n9_.out.symm; clear HO371; clear HO374; clear HO382; clear HO385; clear BK375; clear HB; have HO371 := n0_; have HO374 := n1_; have HO382 := n2_; have HO385 := n3_; have BK375 := n4_; have HB := n5_; have BK386 := n6_; have GW386 := n7_; have GE386 := n8_; have NB375_386 := n9_; have NB386_375 := n10_; clear n0_ n1_ n2_ n3_ n4_ n5_ n6_ n7_ n8_ n9_ n10_; clear hb hbox hg; have hnb13 := NB386_375.out; have hnc13 := NB375_386.out; obtain ⟨hcz14_0, hcz14_1, hcz14_2, hcz14_3, hcz14_4, hcz14_5⟩ := bc6 BK386.out; obtain ⟨hfz14_0, hfz14_1, hfz14_2, hfz14_3, hfz14_4, hfz14_5⟩ := bf6 BK386.out; obtain ⟨Ao15, co15, eo15⟩ := Kd.R_slice HO382.out; subst eo15; obtain ⟨Ao16, co16, eo16⟩ := Kd.R_slice HO385.out; subst eo16))
  (try simp only [Act.put, sA_, s0_, s1_])
  go_cut [28] (fun v28 wc => ∃ (kq : Nat) (x28_4 : Bool), v28 = .bool x28_4 ∧ Aside0 (laws_FnImageFlip.j0 kq x28_4 t365 t366 t367 t368 t369 t372 t376 t377 t378 t379 t380 t383 = some true) ∧ Aside0 (kq ≤ k) ∧ Aside0 (Kd.R (Kd.int .i64) 3 wc w.heap.size (fun k_ => some k_ ≠ ((.slice Ao10 t372.length co10) : Value).ownBlock ∧ some k_ ≠ ((.slice Ao15 t380.length co15) : Value).ownBlock ∧ some k_ ≠ ((.slice Ao16 t383.length co16) : Value).ownBlock) (.slice Ao9 t369.length co9) t369) ∧ Aside0 (Kd.Q (Kd.int .i64) 3 wc w.heap.size (fun k_ => some k_ ≠ ((.slice Ao9 t369.length co9) : Value).ownBlock ∧ some k_ ≠ ((.slice Ao15 t380.length co15) : Value).ownBlock ∧ some k_ ≠ ((.slice Ao16 t383.length co16) : Value).ownBlock) (.slice Ao10 t372.length co10) t372) ∧ Aside0 (Kd.R (Kd.int .i64) 3 wc w.heap.size (fun k_ => some k_ ≠ ((.slice Ao9 t369.length co9) : Value).ownBlock ∧ some k_ ≠ ((.slice Ao10 t372.length co10) : Value).ownBlock ∧ some k_ ≠ ((.slice Ao16 t383.length co16) : Value).ownBlock) (.slice Ao15 t380.length co15) t380) ∧ Aside0 (Kd.Q (Kd.int .i64) 3 wc w.heap.size (fun k_ => some k_ ≠ ((.slice Ao9 t369.length co9) : Value).ownBlock ∧ some k_ ≠ ((.slice Ao10 t372.length co10) : Value).ownBlock ∧ some k_ ≠ ((.slice Ao15 t380.length co15) : Value).ownBlock) (.slice Ao16 t383.length co16) t383) ∧ Aside0 (wc.heap[gb375]? = some (.cells #[.int .i64 t365, .int .i64 t366, .int .i64 t367, .int .i64 t368, (.slice Ao9 t369.length co9), (.slice Ao10 t372.length co10)] 27 (0, 0))) ∧ Aside0 (wc.heap[gb386]? = some (.cells #[.int .i64 t376, .int .i64 t377, .int .i64 t378, .int .i64 t379, (.slice Ao15 t380.length co15), (.slice Ao16 t383.length co16)] 27 (0, 0))) ∧ Aside0 (Below w.heap.size w wc))
  case first =>
   have H := HC5.out
   clear HC5
   replace H := Option.bind_eq_some_iff.mp H
   obtain ⟨⟨t387, t388, t389, t390, t391, t394⟩, A170, H⟩ := H
   replace H : ((laws_wiImage.f k t376 t377 t378 t379 t380 t383 t387 t388 t389 t390 t391 t394).bind fun t397 => (if t397 = true then ((impl_ImageOk.f k t365 t366 t367 t368 t369 t372).bind fun t398 => ((spec_ImageOk.f k t365 t366 t367 t368 t369 t372).bind fun t399 => (laws_FnImageFlip.j0 k (t398 != t399) t365 t366 t367 t368 t369 t372 t376 t377 t378 t379 t380 t383))) else (laws_FnImageFlip.j0 k true t365 t366 t367 t368 t369 t372 t376 t377 t378 t379 t380 t383))) = some true := H
   have A17 := Aside0.mk A170
   clear A170
   replace H := Option.bind_eq_some_iff.mp H
   obtain ⟨t397, A180, H⟩ := H
   replace H : (if t397 = true then ((impl_ImageOk.f k t365 t366 t367 t368 t369 t372).bind fun t398 => ((spec_ImageOk.f k t365 t366 t367 t368 t369 t372).bind fun t399 => (laws_FnImageFlip.j0 k (t398 != t399) t365 t366 t367 t368 t369 t372 t376 t377 t378 t379 t380 t383))) else (laws_FnImageFlip.j0 k true t365 t366 t367 t368 t369 t372 t376 t377 t378 t379 t380 t383)) = some true := H
   have A18 := Aside0.mk A180
   clear A180
   by_cases c19 : t397 = true
   ·subst c19
    have H1 : ((impl_ImageOk.f k t365 t366 t367 t368 t369 t372).bind fun t398 => ((spec_ImageOk.f k t365 t366 t367 t368 t369 t372).bind fun t399 => (laws_FnImageFlip.j0 k (t398 != t399) t365 t366 t367 t368 t369 t372 t376 t377 t378 t379 t380 t383))) = some true := by first | (rw [if_pos rfl] at H; exact H) | rfl
    clear H
    have H := H1
    clear H1
    replace H := Option.bind_eq_some_iff.mp H
    obtain ⟨t398, A200, H⟩ := H
    replace H : ((spec_ImageOk.f k t365 t366 t367 t368 t369 t372).bind fun t399 => (laws_FnImageFlip.j0 k (t398 != t399) t365 t366 t367 t368 t369 t372 t376 t377 t378 t379 t380 t383)) = some true := H
    have A20 := Aside0.mk A200
    clear A200
    replace H := Option.bind_eq_some_iff.mp H
    obtain ⟨t399, A210, H⟩ := H
    replace H : (laws_FnImageFlip.j0 k (t398 != t399) t365 t366 t367 t368 t369 t372 t376 t377 t378 t379 t380 t383) = some true := H
    have A21 := Aside0.mk A210
    clear A210
    have H' := Aside0.mk H
    clear H
    try go_wp2
    have n0_ : Aside0 (Kd.R (Kd.int .i64) 3 ((((((w12.setCell ⟨gb386, 0, none⟩ (.int .i64 t376)).setCell ⟨gb386, 1, none⟩ (.int .i64 t377)).setCell ⟨gb386, 2, none⟩ (.int .i64 t378)).setCell ⟨gb386, 3, none⟩ (.int .i64 t379)).setCell ⟨gb386, 4, none⟩ (.slice Ao15 t380.length co15)).setCell ⟨gb386, 5, none⟩ (.slice Ao16 t383.length co16)) w.heap.size (fun k_ => some k_ ≠ (.slice Ao10 t372.length co10 : Value).ownBlock ∧ some k_ ≠ (.slice Ao15 t380.length co15 : Value).ownBlock ∧ some k_ ≠ (.slice Ao16 t383.length co16 : Value).ownBlock) (.slice Ao9 t369.length co9) t369) := ⟨by (with_reducible repeat (first | apply Kd.R_alloc | apply Kd.R_drewN | apply Kd.R_drew)); exact Kd.R_mono (Kd.R_far (Kd.R_far (Kd.R_far (Kd.R_far (Kd.R_far (Kd.R_far (Kd.R_types HO371.out BK386.out (by decide)) (fun _ hk => hk.2) (.int .i64 t376)) (fun _ hk => hk.2) (.int .i64 t377)) (fun _ hk => hk.2) (.int .i64 t378)) (fun _ hk => hk.2) (.int .i64 t379)) (fun _ hk => hk.2) (.slice Ao15 t380.length co15)) (fun _ hk => hk.2) (.slice Ao16 t383.length co16)) (fun _ hk => ⟨hk.1.1.1, ⟨hk.1.1.2, hk.1.2⟩⟩)⟩
    have n1_ : Aside0 (Kd.Q (Kd.int .i64) 3 ((((((w12.setCell ⟨gb386, 0, none⟩ (.int .i64 t376)).setCell ⟨gb386, 1, none⟩ (.int .i64 t377)).setCell ⟨gb386, 2, none⟩ (.int .i64 t378)).setCell ⟨gb386, 3, none⟩ (.int .i64 t379)).setCell ⟨gb386, 4, none⟩ (.slice Ao15 t380.length co15)).setCell ⟨gb386, 5, none⟩ (.slice Ao16 t383.length co16)) w.heap.size (fun k_ => some k_ ≠ (.slice Ao9 t369.length co9 : Value).ownBlock ∧ some k_ ≠ (.slice Ao15 t380.length co15 : Value).ownBlock ∧ some k_ ≠ (.slice Ao16 t383.length co16 : Value).ownBlock) (.slice Ao10 t372.length co10) t372) := ⟨by (with_reducible repeat (first | apply Kd.Q_alloc | apply Kd.Q_drewN | apply Kd.Q_drew)); exact Kd.Q_mono (Kd.Q_far (Kd.Q_far (Kd.Q_far (Kd.Q_far (Kd.Q_far (Kd.Q_far (Kd.Q_types HO374.out BK386.out (by decide)) (fun _ hk => hk.2) (.int .i64 t376)) (fun _ hk => hk.2) (.int .i64 t377)) (fun _ hk => hk.2) (.int .i64 t378)) (fun _ hk => hk.2) (.int .i64 t379)) (fun _ hk => hk.2) (.slice Ao15 t380.length co15)) (fun _ hk => hk.2) (.slice Ao16 t383.length co16)) (fun _ hk => ⟨hk.1.1.1, ⟨hk.1.1.2, hk.1.2⟩⟩)⟩
    have n2_ : Aside0 (Kd.R (Kd.int .i64) 3 ((((((w12.setCell ⟨gb386, 0, none⟩ (.int .i64 t376)).setCell ⟨gb386, 1, none⟩ (.int .i64 t377)).setCell ⟨gb386, 2, none⟩ (.int .i64 t378)).setCell ⟨gb386, 3, none⟩ (.int .i64 t379)).setCell ⟨gb386, 4, none⟩ (.slice Ao15 t380.length co15)).setCell ⟨gb386, 5, none⟩ (.slice Ao16 t383.length co16)) w.heap.size (fun k_ => some k_ ≠ (.slice Ao9 t369.length co9 : Value).ownBlock ∧ some k_ ≠ (.slice Ao10 t372.length co10 : Value).ownBlock ∧ some k_ ≠ (.slice Ao16 t383.length co16 : Value).ownBlock) (.slice Ao15 t380.length co15) t380) := ⟨by (with_reducible repeat (first | apply Kd.R_alloc | apply Kd.R_drewN | apply Kd.R_drew)); exact Kd.R_mono (Kd.R_far (Kd.R_far (Kd.R_far (Kd.R_far (Kd.R_far (Kd.R_far (Kd.R_types HO382.out BK386.out (by decide)) (fun _ hk => hk.2) (.int .i64 t376)) (fun _ hk => hk.2) (.int .i64 t377)) (fun _ hk => hk.2) (.int .i64 t378)) (fun _ hk => hk.2) (.int .i64 t379)) (fun _ hk => hk.2) (.slice Ao15 t380.length co15)) (fun _ hk => hk.2) (.slice Ao16 t383.length co16)) (fun _ hk => ⟨hk.1.1.2, ⟨hk.1.2, hk.1.1.1⟩⟩)⟩
    have n3_ : Aside0 (Kd.R (Kd.int .i64) 3 ((((((w12.setCell ⟨gb386, 0, none⟩ (.int .i64 t376)).setCell ⟨gb386, 1, none⟩ (.int .i64 t377)).setCell ⟨gb386, 2, none⟩ (.int .i64 t378)).setCell ⟨gb386, 3, none⟩ (.int .i64 t379)).setCell ⟨gb386, 4, none⟩ (.slice Ao15 t380.length co15)).setCell ⟨gb386, 5, none⟩ (.slice Ao16 t383.length co16)) w.heap.size (fun k_ => some k_ ≠ (.slice Ao9 t369.length co9 : Value).ownBlock ∧ some k_ ≠ (.slice Ao10 t372.length co10 : Value).ownBlock ∧ some k_ ≠ (.slice Ao15 t380.length co15 : Value).ownBlock) (.slice Ao16 t383.length co16) t383) := ⟨by (with_reducible repeat (first | apply Kd.R_alloc | apply Kd.R_drewN | apply Kd.R_drew)); exact Kd.R_mono (Kd.R_far (Kd.R_far (Kd.R_far (Kd.R_far (Kd.R_far (Kd.R_far (Kd.R_types HO385.out BK386.out (by decide)) (fun _ hk => hk.2) (.int .i64 t376)) (fun _ hk => hk.2) (.int .i64 t377)) (fun _ hk => hk.2) (.int .i64 t378)) (fun _ hk => hk.2) (.int .i64 t379)) (fun _ hk => hk.2) (.slice Ao15 t380.length co15)) (fun _ hk => hk.2) (.slice Ao16 t383.length co16)) (fun _ hk => ⟨hk.1.1.2, ⟨hk.1.2, hk.1.1.1⟩⟩)⟩
    have n4_ : Aside0 (((((((w12.setCell ⟨gb386, 0, none⟩ (.int .i64 t376)).setCell ⟨gb386, 1, none⟩ (.int .i64 t377)).setCell ⟨gb386, 2, none⟩ (.int .i64 t378)).setCell ⟨gb386, 3, none⟩ (.int .i64 t379)).setCell ⟨gb386, 4, none⟩ (.slice Ao15 t380.length co15)).setCell ⟨gb386, 5, none⟩ (.slice Ao16 t383.length co16)).heap[gb375]? = some (.cells #[.int .i64 t365, .int .i64 t366, .int .i64 t367, .int .i64 t368, .slice Ao9 t369.length co9, .slice Ao10 t372.length co10] 27 (0, 0))) := ⟨by (with_reducible repeat (first | apply blk_drewN | apply blk_drew | apply blk_alloc)); refine blk_far ?_ NB375_386.out _; (with_reducible repeat (first | apply blk_drewN | apply blk_drew | apply blk_alloc)); refine blk_far ?_ NB375_386.out _; (with_reducible repeat (first | apply blk_drewN | apply blk_drew | apply blk_alloc)); refine blk_far ?_ NB375_386.out _; (with_reducible repeat (first | apply blk_drewN | apply blk_drew | apply blk_alloc)); refine blk_far ?_ NB375_386.out _; (with_reducible repeat (first | apply blk_drewN | apply blk_drew | apply blk_alloc)); refine blk_far ?_ NB375_386.out _; (with_reducible repeat (first | apply blk_drewN | apply blk_drew | apply blk_alloc)); refine blk_far ?_ NB375_386.out _; (with_reducible repeat (first | apply blk_drewN | apply blk_drew | apply blk_alloc)); exact BK375.out⟩
    have n5_ : Aside0 (((((((w12.setCell ⟨gb386, 0, none⟩ (.int .i64 t376)).setCell ⟨gb386, 1, none⟩ (.int .i64 t377)).setCell ⟨gb386, 2, none⟩ (.int .i64 t378)).setCell ⟨gb386, 3, none⟩ (.int .i64 t379)).setCell ⟨gb386, 4, none⟩ (.slice Ao15 t380.length co15)).setCell ⟨gb386, 5, none⟩ (.slice Ao16 t383.length co16)).heap[gb386]? = some (.cells #[.int .i64 t376, .int .i64 t377, .int .i64 t378, .int .i64 t379, .slice Ao15 t380.length co15, .slice Ao16 t383.length co16] 27 (0, 0))) := ⟨by (with_reducible repeat (first | apply blk_drewN | apply blk_drew | apply blk_alloc)); refine blk_put (cs := #[.int .i64 t376, .int .i64 t377, .int .i64 t378, .int .i64 t379, .slice Ao15 t380.length co15, .slice none 0 0]) ?_ 5 _ rfl; (with_reducible repeat (first | apply blk_drewN | apply blk_drew | apply blk_alloc)); refine blk_put (cs := #[.int .i64 t376, .int .i64 t377, .int .i64 t378, .int .i64 t379, .slice none 0 0, .slice none 0 0]) ?_ 4 _ rfl; (with_reducible repeat (first | apply blk_drewN | apply blk_drew | apply blk_alloc)); refine blk_put (cs := #[.int .i64 t376, .int .i64 t377, .int .i64 t378, .int .i64 0, .slice none 0 0, .slice none 0 0]) ?_ 3 _ rfl; (with_reducible repeat (first | apply blk_drewN | apply blk_drew | apply blk_alloc)); refine blk_put (cs := #[.int .i64 t376, .int .i64 t377, .int .i64 0, .int .i64 0, .slice none 0 0, .slice none 0 0]) ?_ 2 _ rfl; (with_reducible repeat (first | apply blk_drewN | apply blk_drew | apply blk_alloc)); refine blk_put (cs := #[.int .i64 t376, .int .i64 0, .int .i64 0, .int .i64 0, .slice none 0 0, .slice none 0 0]) ?_ 1 _ rfl; (with_reducible repeat (first | apply blk_drewN | apply blk_drew | apply blk_alloc)); refine blk_put (cs := #[.int .i64 0, .int .i64 0, .int .i64 0, .int .i64 0, .slice none 0 0, .slice none 0 0]) ?_ 0 _ rfl; (with_reducible repeat (first | apply blk_drewN | apply blk_drew | apply blk_alloc)); exact BK386.out⟩
    have n6_ : Aside0 (Below w.heap.size w ((((((w12.setCell ⟨gb386, 0, none⟩ (.int .i64 t376)).setCell ⟨gb386, 1, none⟩ (.int .i64 t377)).setCell ⟨gb386, 2, none⟩ (.int .i64 t378)).setCell ⟨gb386, 3, none⟩ (.int .i64 t379)).setCell ⟨gb386, 4, none⟩ (.slice Ao15 t380.length co15)).setCell ⟨gb386, 5, none⟩ (.slice Ao16 t383.length co16))) := ⟨by repeat (first | (with_reducible first | exact HB.out | apply below_alloc | apply pw_below_drewN | apply below_drew1 | refine below_set ?_ GE375.out | refine below_set ?_ GE386.out) | exact HB.out)⟩
    (try clear HO371)
    (try clear HO374)
    (try clear HO382)
    (try clear HO385)
    (try clear BK375)
    (try clear BK386)
    (try clear HB)
    generalize ((((((w12.setCell ⟨gb386, 0, none⟩ (.int .i64 t376)).setCell ⟨gb386, 1, none⟩ (.int .i64 t377)).setCell ⟨gb386, 2, none⟩ (.int .i64 t378)).setCell ⟨gb386, 3, none⟩ (.int .i64 t379)).setCell ⟨gb386, 4, none⟩ (.slice Ao15 t380.length co15)).setCell ⟨gb386, 5, none⟩ (.slice Ao16 t383.length co16)) = w22 at n0_ n1_ n2_ n3_ n4_ n5_ n6_ ⊢
    have HO371 := n0_
    have HO374 := n1_
    have HO382 := n2_
    have HO385 := n3_
    have BK375 := n4_
    have BK386 := n5_
    have HB := n6_
    clear n0_ n1_ n2_ n3_ n4_ n5_ n6_
    have n0_ := Aside0.mk (Kd.R_drew HO371.out)
    have n1_ := Aside0.mk (Kd.Q_drew HO374.out)
    have n2_ := Aside0.mk (Kd.R_drew HO382.out)
    have n3_ := Aside0.mk (Kd.R_drew HO385.out)
    have n4_ := Aside0.mk (blk_drew BK375.out)
    have n5_ := Aside0.mk (blk_drew BK386.out)
    have n6_ := Aside0.mk (below_drew1 HB.out)
    clear HO371
    clear HO374
    clear HO382
    clear HO385
    clear BK375
    clear BK386
    clear HB
    have HO371 := n0_
    have HO374 := n1_
    have HO382 := n2_
    have HO385 := n3_
    have BK375 := n4_
    have BK386 := n5_
    have HB := n6_
    clear n0_ n1_ n2_ n3_ n4_ n5_ n6_
    refine start_ (n := 12) (S := fun w' => w'.cell? ⟨gb386, 0, none⟩ = some (.int .i64 t376) ∧ w'.cell? ⟨gb386, 1, none⟩ = some (.int .i64 t377) ∧ w'.cell? ⟨gb386, 2, none⟩ = some (.int .i64 t378) ∧ w'.cell? ⟨gb386, 3, none⟩ = some (.int .i64 t379) ∧ w'.cell? ⟨gb386, 4, none⟩ = some (.slice Ao15 t380.length co15) ∧ w'.cell? ⟨gb386, 5, none⟩ = some (.slice Ao16 t383.length co16) ∧ w'.cell? ⟨gb375, 0, none⟩ = some (.int .i64 t365) ∧ w'.cell? ⟨gb375, 1, none⟩ = some (.int .i64 t366) ∧ w'.cell? ⟨gb375, 2, none⟩ = some (.int .i64 t367) ∧ w'.cell? ⟨gb375, 3, none⟩ = some (.int .i64 t368) ∧ w'.cell? ⟨gb375, 4, none⟩ = some (.slice Ao9 t369.length co9) ∧ w'.cell? ⟨gb375, 5, none⟩ = some (.slice Ao10 t372.length co10)) (ds := []) #[false, false, false, false, false, false, false, false, false, false, false, false] (by kernel_rfl) rfl rfl (bc12 BK386.out BK375.out) (fun hHeld => ?_); refine with_tabW laws_FnImageFlip.tab5 laws_FnImageFlip.bits5 (fun HT_ HW_ => ?_)
    generalize w22.drew = w23 at HO371 HO374 HO382 HO385 BK375 BK386 HB hHeld ⊢
    refine take_ (i := 0) (N := some 17) (v := ?_) (a' := ?_) #[true, false, false, false, false, false, false, false, false, false, false, false] rfl rfl (take_ofW HT_.out HW_.out (by kernel_rfl)) (fun _ _ _ h => h) (Or.inl ⟨by rfl, ?_⟩) hHeld ?_ ?_
    rotate_left
    ·rintro w' ⟨s0, s1, s2, s3, s4, s5, s6, s7, s8, s9, s10, s11⟩
     go_simp
     with_reducible rfl
    rotate_left
    ·simp only [Act.put, sA_, s0_, s1_, i64_w, i32_w]
     rfl
    refine take_ (i := 1) (N := some 18) (v := ?_) (a' := ?_) #[true, true, false, false, false, false, false, false, false, false, false, false] rfl rfl (take_ofW HT_.out HW_.out (by kernel_rfl)) (fun _ _ _ h => h) (Or.inl ⟨by rfl, ?_⟩) hHeld ?_ ?_
    rotate_left
    ·rintro w' ⟨s0, s1, s2, s3, s4, s5, s6, s7, s8, s9, s10, s11⟩
     go_simp
     with_reducible rfl
    rotate_left
    ·simp only [Act.put, sA_, s0_, s1_, i64_w, i32_w]
     rfl
    refine one_ (i := 2) (N := some 19) #[true, true, true, false, false, false, false, false, false, false, false, false] rfl rfl (one_of HT_.out (by kernel_rfl)) (by decide) (fun K hK => ?_)
    refine goes_ Try.func26 (by kernel_rfl) rfl #[.agg #[.int .i64 t365, .int .i64 t366, .int .i64 t367, .int .i64 t368, .slice Ao9 t369.length co9, .slice Ao10 t372.length co10]] (by rfl) rfl rfl (by (try simp only [List.map_toArray, List.map_cons, List.map_nil]); first | done | rfl | (simp only [List.length_drop, List.length_take]; rfl)) ?_
    with_reducible refine (spec_ImageFlip.calls k t365 t366 t367 t368 _ _ t369 _ _ t372 t387 t388 t389 t390 t391 t394 _ ?side1 ?side2 ?side3 ?side4 A17.out).mono ?_
    (case side1 => repeat (first | exact (Kd.R_reads' HO371.out).2.2 | (with_reducible refine Kd.C_alloc ?_ _) | (with_reducible refine Kd.C_drewN ?_ _) | (with_reducible refine Kd.C_drew ?_)))
    (case side2 => exact (Kd.R_reads' HO371.out).2.1)
    (case side3 => repeat (first | exact (Kd.Q_reads' HO374.out).2.2 | (with_reducible refine Kd.C_alloc ?_ _) | (with_reducible refine Kd.C_drewN ?_ _) | (with_reducible refine Kd.C_drew ?_)))
    (case side4 => exact (Kd.Q_reads' HO374.out).2.1)
    rintro e w24 ⟨v392, v395, rfl, ho0, ho1, hb⟩
    refine ⟨_, rfl, ?_⟩
    have n0_ := Aside0.mk (Kd.R_mono (Kd.R_told (Kd.R_told (Kd.R_old (by (with_reducible repeat (first | apply Kd.R_alloc | apply Kd.R_drewN | apply Kd.R_drew)); exact HO371.out) hb) (Kd.R_base ho0)) (Kd.R_base ho1)) (fun _ h_ => h_.1))
    have n1_ := Aside0.mk (Kd.Q_mono (Kd.Q_told (Kd.Q_told (Kd.Q_old (by (with_reducible repeat (first | apply Kd.Q_alloc | apply Kd.Q_drewN | apply Kd.Q_drew)); exact HO374.out) hb) (Kd.R_base ho0)) (Kd.R_base ho1)) (fun _ h_ => h_.1))
    have n2_ := Aside0.mk (Kd.R_mono (Kd.R_told (Kd.R_told (Kd.R_old (by (with_reducible repeat (first | apply Kd.R_alloc | apply Kd.R_drewN | apply Kd.R_drew)); exact HO382.out) hb) (Kd.R_base ho0)) (Kd.R_base ho1)) (fun _ h_ => h_.1))
    have n3_ := Aside0.mk (Kd.R_mono (Kd.R_told (Kd.R_told (Kd.R_old (by (with_reducible repeat (first | apply Kd.R_alloc | apply Kd.R_drewN | apply Kd.R_drew)); exact HO385.out) hb) (Kd.R_base ho0)) (Kd.R_base ho1)) (fun _ h_ => h_.1))
    have n4_ := Aside0.mk (Kd.R_lower (Kd.R_new' (Kd.R_new' (Kd.R_new' (Kd.R_new' ho0 (Kd.R_lt (by (with_reducible repeat (first | apply Kd.R_alloc | apply Kd.R_drewN | apply Kd.R_drew)); exact HO371.out))) (Kd.Q_lt (by (with_reducible repeat (first | apply Kd.Q_alloc | apply Kd.Q_drewN | apply Kd.Q_drew)); exact HO374.out))) (Kd.R_lt (by (with_reducible repeat (first | apply Kd.R_alloc | apply Kd.R_drewN | apply Kd.R_drew)); exact HO382.out))) (Kd.R_lt (by (with_reducible repeat (first | apply Kd.R_alloc | apply Kd.R_drewN | apply Kd.R_drew)); exact HO385.out))) (below_size (by repeat (first | (with_reducible first | exact HB.out | apply below_alloc | apply pw_below_drewN | apply below_drew1 | refine below_set ?_ GE375.out | refine below_set ?_ GE386.out) | exact HB.out))))
    have n5_ := Aside0.mk (Kd.R_lower (Kd.R_new' (Kd.R_new' (Kd.R_new' (Kd.R_new' ho1 (Kd.R_lt (by (with_reducible repeat (first | apply Kd.R_alloc | apply Kd.R_drewN | apply Kd.R_drew)); exact HO371.out))) (Kd.Q_lt (by (with_reducible repeat (first | apply Kd.Q_alloc | apply Kd.Q_drewN | apply Kd.Q_drew)); exact HO374.out))) (Kd.R_lt (by (with_reducible repeat (first | apply Kd.R_alloc | apply Kd.R_drewN | apply Kd.R_drew)); exact HO382.out))) (Kd.R_lt (by (with_reducible repeat (first | apply Kd.R_alloc | apply Kd.R_drewN | apply Kd.R_drew)); exact HO385.out))) (below_size (by repeat (first | (with_reducible first | exact HB.out | apply below_alloc | apply pw_below_drewN | apply below_drew1 | refine below_set ?_ GE375.out | refine below_set ?_ GE386.out) | exact HB.out))))
    have n6_ := Aside0.mk (blk_below (g := gb375) (by (with_reducible repeat (first | apply blk_drewN | apply blk_drew | apply blk_alloc)); exact BK375.out) hb)
    have n7_ := Aside0.mk (blk_below (g := gb386) (by (with_reducible repeat (first | apply blk_drewN | apply blk_drew | apply blk_alloc)); exact BK386.out) hb)
    have n8_ := Aside0.mk (below_step (by repeat (first | (with_reducible first | exact HB.out | apply below_alloc | apply pw_below_drewN | apply below_drew1 | refine below_set ?_ GE375.out | refine below_set ?_ GE386.out) | exact HB.out)) hb)
    clear HO371
    clear HO374
    clear HO382
    clear HO385
    clear BK375
    clear BK386
    clear HB
    have HO371 := n0_
    have HO374 := n1_
    have HO382 := n2_
    have HO385 := n3_
    have HO393 := n4_
    have HO396 := n5_
    have BK375 := n6_
    have BK386 := n7_
    have HB := n8_
    clear n0_ n1_ n2_ n3_ n4_ n5_ n6_ n7_ n8_
    (try clear hb)
    (try clear hb2)
    (try clear hk)
    (try clear hi)
    (try clear ho0)
    (try clear ho1)
    obtain ⟨Ao25, co25, eo25⟩ := Kd.R_slice HO393.out
    (first | subst eo25 | (injection eo25 with f1_ f2_ f3_; have f4_ := f1_.symm; have f5_ := f3_.symm; clear f1_ f2_ f3_; subst f4_; subst f5_))
    obtain ⟨Ao26, co26, eo26⟩ := Kd.R_slice HO396.out
    (first | subst eo26 | (injection eo26 with f1_ f2_ f3_; have f4_ := f1_.symm; have f5_ := f3_.symm; clear f1_ f2_ f3_; subst f4_; subst f5_))
    refine hK.out _ _ (bc12 BK386.out BK375.out) (fun hHeld => ?_)
    clear hK K
    refine norm_ (a' := ?_) ?_ ?_
    rotate_left
    ·show Act.put _ (some 19) _ = _
     simp only [Act.put, sA_, s0_, s1_, i64_w, i32_w]
     rfl
    refine one_ (i := 3) (N := some 20) #[true, true, true, true, false, false, false, false, false, false, false, false] rfl rfl (one_of HT_.out (by kernel_rfl)) (by decide) (fun K hK => ?_)
    refine goes_ Try.func39 (by kernel_rfl) rfl #[.agg #[.int .i64 t376, .int .i64 t377, .int .i64 t378, .int .i64 t379, .slice Ao15 t380.length co15, .slice Ao16 t383.length co16], .agg #[.int .i64 t387, .int .i64 t388, .int .i64 t389, .int .i64 t390, .slice Ao25 t391.length co25, .slice Ao26 t394.length co26]] (by rfl) rfl rfl (by (try simp only [List.map_toArray, List.map_cons, List.map_nil]); first | done | rfl | (simp only [List.length_drop, List.length_take]; rfl)) ?_
    with_reducible refine (laws_wiImage.calls k t376 t377 t378 t379 _ _ t380 _ _ t383 t387 t388 t389 t390 _ _ t391 _ _ t394 true _ ?side1 ?side2 ?side3 ?side4 ?side5 ?side6 ?side7 ?side8 A18.out).mono ?_
    (case side1 => repeat (first | exact (Kd.R_reads' HO382.out).2.2 | (with_reducible refine Kd.C_alloc ?_ _) | (with_reducible refine Kd.C_drewN ?_ _) | (with_reducible refine Kd.C_drew ?_)))
    (case side2 => exact (Kd.R_reads' HO382.out).2.1)
    (case side3 => repeat (first | exact (Kd.R_reads' HO385.out).2.2 | (with_reducible refine Kd.C_alloc ?_ _) | (with_reducible refine Kd.C_drewN ?_ _) | (with_reducible refine Kd.C_drew ?_)))
    (case side4 => exact (Kd.R_reads' HO385.out).2.1)
    (case side5 => repeat (first | exact (Kd.R_reads' HO393.out).2.2 | (with_reducible refine Kd.C_alloc ?_ _) | (with_reducible refine Kd.C_drewN ?_ _) | (with_reducible refine Kd.C_drew ?_)))
    (case side6 => exact (Kd.R_reads' HO393.out).2.1)
    (case side7 => repeat (first | exact (Kd.R_reads' HO396.out).2.2 | (with_reducible refine Kd.C_alloc ?_ _) | (with_reducible refine Kd.C_drewN ?_ _) | (with_reducible refine Kd.C_drew ?_)))
    (case side8 => exact (Kd.R_reads' HO396.out).2.1)
    rintro e w27 ⟨rfl, hb⟩
    refine ⟨_, rfl, ?_⟩
    have n0_ := Aside0.mk (Kd.R_below (by (with_reducible repeat (first | apply Kd.R_alloc | apply Kd.R_drewN | apply Kd.R_drew)); exact HO371.out) hb)
    have n1_ := Aside0.mk (Kd.Q_below (by (with_reducible repeat (first | apply Kd.Q_alloc | apply Kd.Q_drewN | apply Kd.Q_drew)); exact HO374.out) hb)
    have n2_ := Aside0.mk (Kd.R_below (by (with_reducible repeat (first | apply Kd.R_alloc | apply Kd.R_drewN | apply Kd.R_drew)); exact HO382.out) hb)
    have n3_ := Aside0.mk (Kd.R_below (by (with_reducible repeat (first | apply Kd.R_alloc | apply Kd.R_drewN | apply Kd.R_drew)); exact HO385.out) hb)
    have n4_ := Aside0.mk (Kd.R_below (by (with_reducible repeat (first | apply Kd.R_alloc | apply Kd.R_drewN | apply Kd.R_drew)); exact HO393.out) hb)
    have n5_ := Aside0.mk (Kd.R_below (by (with_reducible repeat (first | apply Kd.R_alloc | apply Kd.R_drewN | apply Kd.R_drew)); exact HO396.out) hb)
    have n6_ := Aside0.mk (blk_below (g := gb375) (by (with_reducible repeat (first | apply blk_drewN | apply blk_drew | apply blk_alloc)); exact BK375.out) hb)
    have n7_ := Aside0.mk (blk_below (g := gb386) (by (with_reducible repeat (first | apply blk_drewN | apply blk_drew | apply blk_alloc)); exact BK386.out) hb)
    have n8_ := Aside0.mk (below_step (by repeat (first | (with_reducible first | exact HB.out | apply below_alloc | apply pw_below_drewN | apply below_drew1 | refine below_set ?_ GE375.out | refine below_set ?_ GE386.out) | exact HB.out)) hb)
    clear HO371
    clear HO374
    clear HO382
    clear HO385
    clear HO393
    clear HO396
    clear BK375
    clear BK386
    clear HB
    have HO371 := n0_
    have HO374 := n1_
    have HO382 := n2_
    have HO385 := n3_
    have HO393 := n4_
    have HO396 := n5_
    have BK375 := n6_
    have BK386 := n7_
    have HB := n8_
    clear n0_ n1_ n2_ n3_ n4_ n5_ n6_ n7_ n8_
    (try clear hb)
    (try clear hb2)
    (try clear hk)
    (try clear hi)
    refine hK.out _ _ (bc12 BK386.out BK375.out) (fun hHeld => ?_)
    clear hK K
    refine norm_ (a' := ?_) ?_ ?_
    rotate_left
    ·show Act.put _ (some 20) _ = _
     simp only [Act.put, sA_, s0_, s1_, i64_w, i32_w]
     rfl
    refine pure_ (i := 4) (N := some 21) (v := ?_) (a' := ?_) #[true, true, true, true, true, false, false, false, false, false, false, false] rfl rfl (any_of HT_.out (by kernel_rfl)) (fun _ _ _ h => h) (Or.inl ⟨by rfl, ?_⟩) ?_ ?_
    rotate_left
    ·intro w'
     go_simp
     with_reducible rfl
    rotate_left
    ·simp only [Act.put, sA_, s0_, s1_, i64_w, i32_w]
     rfl
    refine pure_ (i := 5) (N := some 22) (v := ?_) (a' := ?_) #[true, true, true, true, true, true, false, false, false, false, false, false] rfl rfl (any_of HT_.out (by kernel_rfl)) (fun _ _ _ h => h) (Or.inl ⟨by rfl, ?_⟩) ?_ ?_
    rotate_left
    ·intro w'
     go_simp
     with_reducible rfl
    rotate_left
    ·simp only [Act.put, sA_, s0_, s1_, i64_w, i32_w]
     rfl
    refine take_ (i := 6) (N := some 23) (v := ?_) (a' := ?_) #[true, true, true, true, true, true, true, false, false, false, false, false] rfl rfl (take_ofW HT_.out HW_.out (by kernel_rfl)) (fun _ _ _ h => h) (Or.inl ⟨by rfl, ?_⟩) hHeld ?_ ?_
    rotate_left
    ·rintro w' ⟨s0, s1, s2, s3, s4, s5, s6, s7, s8, s9, s10, s11⟩
     go_simp
     with_reducible rfl
    rotate_left
    ·simp only [Act.put, sA_, s0_, s1_, i64_w, i32_w]
     rfl
    refine take_ (i := 8) (N := some 25) (v := ?_) (a' := ?_) #[true, true, true, true, true, true, true, false, true, false, false, false] rfl rfl (take_ofW HT_.out HW_.out (by kernel_rfl)) (fun _ _ _ h => h) (Or.inl ⟨by rfl, ?_⟩) hHeld ?_ ?_
    rotate_left
    ·rintro w' ⟨s0, s1, s2, s3, s4, s5, s6, s7, s8, s9, s10, s11⟩
     go_simp
     with_reducible rfl
    rotate_left
    ·simp only [Act.put, sA_, s0_, s1_, i64_w, i32_w]
     rfl
    refine one_ (i := 7) (N := some 24) #[true, true, true, true, true, true, true, true, true, false, false, false] rfl rfl (one_of HT_.out (by kernel_rfl)) (by decide) (fun K hK => ?_)
    refine goes_ Try.func18 (by kernel_rfl) rfl #[.agg #[.int .i64 t365, .int .i64 t366, .int .i64 t367, .int .i64 t368, .slice Ao9 t369.length co9, .slice Ao10 t372.length co10]] (by rfl) rfl rfl (by (try simp only [List.map_toArray, List.map_cons, List.map_nil]); first | done | rfl | (simp only [List.length_drop, List.length_take]; rfl)) ?_
    with_reducible refine (impl_ImageOk.calls k t365 t366 t367 t368 _ _ t369 _ _ t372 t398 _ ?side1 ?side2 ?side3 ?side4 A20.out).mono ?_
    (case side1 => repeat (first | exact (Kd.R_reads' HO371.out).2.2 | (with_reducible refine Kd.C_alloc ?_ _) | (with_reducible refine Kd.C_drewN ?_ _) | (with_reducible refine Kd.C_drew ?_)))
    (case side2 => exact (Kd.R_reads' HO371.out).2.1)
    (case side3 => repeat (first | exact (Kd.Q_reads' HO374.out).2.2 | (with_reducible refine Kd.C_alloc ?_ _) | (with_reducible refine Kd.C_drewN ?_ _) | (with_reducible refine Kd.C_drew ?_)))
    (case side4 => exact (Kd.Q_reads' HO374.out).2.1)
    rintro e w28 ⟨rfl, hb⟩
    refine ⟨_, rfl, ?_⟩
    have n0_ := Aside0.mk (Kd.R_below (by (with_reducible repeat (first | apply Kd.R_alloc | apply Kd.R_drewN | apply Kd.R_drew)); exact HO371.out) hb)
    have n1_ := Aside0.mk (Kd.Q_below (by (with_reducible repeat (first | apply Kd.Q_alloc | apply Kd.Q_drewN | apply Kd.Q_drew)); exact HO374.out) hb)
    have n2_ := Aside0.mk (Kd.R_below (by (with_reducible repeat (first | apply Kd.R_alloc | apply Kd.R_drewN | apply Kd.R_drew)); exact HO382.out) hb)
    have n3_ := Aside0.mk (Kd.R_below (by (with_reducible repeat (first | apply Kd.R_alloc | apply Kd.R_drewN | apply Kd.R_drew)); exact HO385.out) hb)
    have n4_ := Aside0.mk (Kd.R_below (by (with_reducible repeat (first | apply Kd.R_alloc | apply Kd.R_drewN | apply Kd.R_drew)); exact HO393.out) hb)
    have n5_ := Aside0.mk (Kd.R_below (by (with_reducible repeat (first | apply Kd.R_alloc | apply Kd.R_drewN | apply Kd.R_drew)); exact HO396.out) hb)
    have n6_ := Aside0.mk (blk_below (g := gb375) (by (with_reducible repeat (first | apply blk_drewN | apply blk_drew | apply blk_alloc)); exact BK375.out) hb)
    have n7_ := Aside0.mk (blk_below (g := gb386) (by (with_reducible repeat (first | apply blk_drewN | apply blk_drew | apply blk_alloc)); exact BK386.out) hb)
    have n8_ := Aside0.mk (below_step (by repeat (first | (with_reducible first | exact HB.out | apply below_alloc | apply pw_below_drewN | apply below_drew1 | refine below_set ?_ GE375.out | refine below_set ?_ GE386.out) | exact HB.out)) hb)
    clear HO371
    clear HO374
    clear HO382
    clear HO385
    clear HO393
    clear HO396
    clear BK375
    clear BK386
    clear HB
    have HO371 := n0_
    have HO374 := n1_
    have HO382 := n2_
    have HO385 := n3_
    have HO393 := n4_
    have HO396 := n5_
    have BK375 := n6_
    have BK386 := n7_
    have HB := n8_
    clear n0_ n1_ n2_ n3_ n4_ n5_ n6_ n7_ n8_
    (try clear hb)
    (try clear hb2)
    (try clear hk)
    (try clear hi)
    refine hK.out _ _ (bc12 BK386.out BK375.out) (fun hHeld => ?_)
    clear hK K
    refine norm_ (a' := ?_) ?_ ?_
    rotate_left
    ·show Act.put _ (some 24) _ = _
     simp only [Act.put, sA_, s0_, s1_, i64_w, i32_w]
     rfl
    refine one_ (i := 9) (N := some 26) #[true, true, true, true, true, true, true, true, true, true, false, false] rfl rfl (one_of HT_.out (by kernel_rfl)) (by decide) (fun K hK => ?_)
    refine goes_ Try.func16 (by kernel_rfl) rfl #[.agg #[.int .i64 t365, .int .i64 t366, .int .i64 t367, .int .i64 t368, .slice Ao9 t369.length co9, .slice Ao10 t372.length co10]] (by rfl) rfl rfl (by (try simp only [List.map_toArray, List.map_cons, List.map_nil]); first | done | rfl | (simp only [List.length_drop, List.length_take]; rfl)) ?_
    with_reducible refine (spec_ImageOk.calls k t365 t366 t367 t368 _ _ t369 _ _ t372 t399 _ ?side1 ?side2 ?side3 ?side4 A21.out).mono ?_
    (case side1 => repeat (first | exact (Kd.R_reads' HO371.out).2.2 | (with_reducible refine Kd.C_alloc ?_ _) | (with_reducible refine Kd.C_drewN ?_ _) | (with_reducible refine Kd.C_drew ?_)))
    (case side2 => exact (Kd.R_reads' HO371.out).2.1)
    (case side3 => repeat (first | exact (Kd.Q_reads' HO374.out).2.2 | (with_reducible refine Kd.C_alloc ?_ _) | (with_reducible refine Kd.C_drewN ?_ _) | (with_reducible refine Kd.C_drew ?_)))
    (case side4 => exact (Kd.Q_reads' HO374.out).2.1)
    rintro e w29 ⟨rfl, hb⟩
    refine ⟨_, rfl, ?_⟩
    have n0_ := Aside0.mk (Kd.R_below (by (with_reducible repeat (first | apply Kd.R_alloc | apply Kd.R_drewN | apply Kd.R_drew)); exact HO371.out) hb)
    have n1_ := Aside0.mk (Kd.Q_below (by (with_reducible repeat (first | apply Kd.Q_alloc | apply Kd.Q_drewN | apply Kd.Q_drew)); exact HO374.out) hb)
    have n2_ := Aside0.mk (Kd.R_below (by (with_reducible repeat (first | apply Kd.R_alloc | apply Kd.R_drewN | apply Kd.R_drew)); exact HO382.out) hb)
    have n3_ := Aside0.mk (Kd.R_below (by (with_reducible repeat (first | apply Kd.R_alloc | apply Kd.R_drewN | apply Kd.R_drew)); exact HO385.out) hb)
    have n4_ := Aside0.mk (Kd.R_below (by (with_reducible repeat (first | apply Kd.R_alloc | apply Kd.R_drewN | apply Kd.R_drew)); exact HO393.out) hb)
    have n5_ := Aside0.mk (Kd.R_below (by (with_reducible repeat (first | apply Kd.R_alloc | apply Kd.R_drewN | apply Kd.R_drew)); exact HO396.out) hb)
    have n6_ := Aside0.mk (blk_below (g := gb375) (by (with_reducible repeat (first | apply blk_drewN | apply blk_drew | apply blk_alloc)); exact BK375.out) hb)
    have n7_ := Aside0.mk (blk_below (g := gb386) (by (with_reducible repeat (first | apply blk_drewN | apply blk_drew | apply blk_alloc)); exact BK386.out) hb)
    have n8_ := Aside0.mk (below_step (by repeat (first | (with_reducible first | exact HB.out | apply below_alloc | apply pw_below_drewN | apply below_drew1 | refine below_set ?_ GE375.out | refine below_set ?_ GE386.out) | exact HB.out)) hb)
    clear HO371
    clear HO374
    clear HO382
    clear HO385
    clear HO393
    clear HO396
    clear BK375
    clear BK386
    clear HB
    have HO371 := n0_
    have HO374 := n1_
    have HO382 := n2_
    have HO385 := n3_
    have HO393 := n4_
    have HO396 := n5_
    have BK375 := n6_
    have BK386 := n7_
    have HB := n8_
    clear n0_ n1_ n2_ n3_ n4_ n5_ n6_ n7_ n8_
    (try clear hb)
    (try clear hb2)
    (try clear hk)
    (try clear hi)
    refine hK.out _ _ (bc12 BK386.out BK375.out) (fun hHeld => ?_)
    clear hK K
    refine norm_ (a' := ?_) ?_ ?_
    rotate_left
    ·show Act.put _ (some 26) _ = _
     simp only [Act.put, sA_, s0_, s1_, i64_w, i32_w]
     rfl
    refine pure_ (i := 10) (N := some 27) (v := ?_) (a' := ?_) #[true, true, true, true, true, true, true, true, true, true, true, false] rfl rfl (any_of HT_.out (by kernel_rfl)) (fun _ _ _ h => h) (Or.inl ⟨by rfl, ?_⟩) ?_ ?_
    rotate_left
    ·intro w'
     go_simp
     with_reducible rfl
    rotate_left
    ·simp only [Act.put, sA_, s0_, s1_, i64_w, i32_w]
     rfl
    refine pure_ (i := 11) (N := some 28) (v := ?_) (a' := ?_) #[true, true, true, true, true, true, true, true, true, true, true, true] rfl rfl (any_of HT_.out (by kernel_rfl)) (fun _ _ _ h => h) (Or.inl ⟨by rfl, ?_⟩) ?_ ?_
    rotate_left
    ·intro w'
     go_simp
     with_reducible rfl
    rotate_left
    ·simp only [Act.put, sA_, s0_, s1_, i64_w, i32_w]
     rfl
    refine done_ (done_of HT_.out (by kernel_rfl)) ?_
    try go_wp2
    go_meet
    case rel => exact ⟨_, ((t398 != t399)), (by first | rfl | (simp; done) | (simp [*]; done)), H', ⟨by first | omega | exact Nat.le_refl _⟩, ⟨by (with_reducible repeat (first | apply Kd.R_alloc | apply Kd.R_drewN | apply Kd.R_drew)); exact Kd.R_mono HO371.out (fun _ hk => ⟨hk.1.1.1, ⟨hk.1.1.2.1, hk.1.1.2.2⟩⟩)⟩, ⟨by (with_reducible repeat (first | apply Kd.Q_alloc | apply Kd.Q_drewN | apply Kd.Q_drew)); exact Kd.Q_mono HO374.out (fun _ hk => ⟨hk.1.1.1, ⟨hk.1.1.2.1, hk.1.1.2.2⟩⟩)⟩, ⟨by (with_reducible repeat (first | apply Kd.R_alloc | apply Kd.R_drewN | apply Kd.R_drew)); exact Kd.R_mono HO382.out (fun _ hk => ⟨hk.1.1.1, ⟨hk.1.1.2.1, hk.1.1.2.2⟩⟩)⟩, ⟨Kd.Q_of_R (by (with_reducible repeat (first | apply Kd.R_alloc | apply Kd.R_drewN | apply Kd.R_drew)); exact Kd.R_mono HO385.out (fun _ hk => ⟨hk.1.1.1, ⟨hk.1.1.2.1, hk.1.1.2.2⟩⟩))⟩, ⟨by (with_reducible repeat (first | apply blk_drewN | apply blk_drew | apply blk_alloc)); exact BK375.out⟩, ⟨by (with_reducible repeat (first | apply blk_drewN | apply blk_drew | apply blk_alloc)); exact BK386.out⟩, ⟨by repeat (first | (with_reducible first | exact HB.out | apply below_alloc | apply pw_below_drewN | apply below_drew1 | refine below_set ?_ GE375.out | refine below_set ?_ GE386.out) | exact HB.out)⟩⟩
   ·replace c19 := Bool.eq_false_iff.mpr c19
    subst c19
    have H1 : (laws_FnImageFlip.j0 k true t365 t366 t367 t368 t369 t372 t376 t377 t378 t379 t380 t383) = some true := by first | (rw [if_neg (show ¬ (false = true) by decide)] at H; exact H) | rfl
    clear H
    have H := H1
    clear H1
    exact absurd H (by cases k <;> simp [laws_FnImageFlip.j0])
  case rest =>
   clear HC5
   try clear c1
   try clear c2
   try clear c2b0
   try clear c2b1
   try clear p2
   try clear c3
   try clear c4
   try clear c13
   try clear c16
   try clear c18
   try clear c19
   try clear c26
   try clear c27
   try clear hcz14_0
   try clear hcz14_1
   try clear hcz14_2
   try clear hcz14_3
   try clear hcz14_4
   try clear hcz14_5
   try clear hcz8_0
   try clear hcz8_1
   try clear hcz8_2
   try clear hcz8_3
   try clear hcz8_4
   try clear hcz8_5
   try clear hfz14_0
   try clear hfz14_1
   try clear hfz14_2
   try clear hfz14_3
   try clear hfz14_4
   try clear hfz14_5
   try clear hfz8_0
   try clear hfz8_1
   try clear hfz8_2
   try clear hfz8_3
   try clear hfz8_4
   try clear hfz8_5
   obtain ⟨kq, x28_4, rfl, HA, HJ4, HO_376004, HO_376005, HO_387004, HO_387005, BK375, BK386, HB⟩ := hcut
   cases kq with
   | zero => exact absurd HA.out (by simp [laws_FnImageFlip.j0])
   | succ kj4 =>
    have H := HA.out
    clear HA
    simp only [laws_FnImageFlip.j0] at H
    by_cases c30 : x28_4 = true
    ·subst c30
     have H1 : (some false) = some true := by first | (rw [if_pos rfl] at H; exact H) | rfl
     clear H
     have H := H1
     clear H1
     exact absurd H (by simp)
    ·replace c30 := Bool.eq_false_iff.mpr c30
     subst c30
     have H1 : ((spec_ImageOk.f kj4 t365 t366 t367 t368 t369 t372).bind fun t400 => (if t400 = true then (laws_FnImageFlip.l0 kj4 0 t365 t366 t367 t368 t369 t372 t376 t377 t378 t379 t380 t383) else (some (t376 == 0)))) = some true := by first | (rw [if_neg (show ¬ (false = true) by decide)] at H; exact H) | rfl
     clear H
     have H := H1
     clear H1
     replace H := Option.bind_eq_some_iff.mp H
     obtain ⟨t400, A310, H⟩ := H
     replace H : (if t400 = true then (laws_FnImageFlip.l0 kj4 0 t365 t366 t367 t368 t369 t372 t376 t377 t378 t379 t380 t383) else (some (t376 == 0))) = some true := H
     have A31 := Aside0.mk A310
     clear A310
     by_cases c32 : t400 = true
     ·subst c32
      have H1 : (laws_FnImageFlip.l0 kj4 0 t365 t366 t367 t368 t369 t372 t376 t377 t378 t379 t380 t383) = some true := by first | (rw [if_pos rfl] at H; exact H) | rfl
      clear H
      have H := H1
      clear H1
      have H' := Aside0.mk H
      clear H
      have hnb33 := NB375_386.out
      have hnc33 := NB386_375.out
      obtain ⟨hcz34_0, hcz34_1, hcz34_2, hcz34_3, hcz34_4, hcz34_5⟩ := bc6 BK375.out
      obtain ⟨hfz34_0, hfz34_1, hfz34_2, hfz34_3, hfz34_4, hfz34_5⟩ := bf6 BK375.out
      go_wp2_with (first | ((with_reducible refine gate_callee (f := 16) rfl ?_); refine goesL_ (some 30) rfl rfl Try.func16 (by kernel_rfl) rfl #[.agg #[.int .i64 t365, .int .i64 t366, .int .i64 t367, .int .i64 t368, .slice Ao9 t369.length co9, .slice Ao10 t372.length co10]] rfl (by (try simp only [List.map_toArray, List.map_cons, List.map_nil]); first | done | rfl | (simp only [List.length_drop, List.length_take]; rfl)) ?_; (with_reducible refine (spec_ImageOk.calls kj4 t365 t366 t367 t368 _ _ t369 _ _ t372 true _ ?side1 ?side2 ?side3 ?side4 A31.out).mono ?_); (case side1 => repeat (first | exact (Kd.R_reads' HO_376004.out).2.2 | (with_reducible refine Kd.C_alloc ?_ _) | (with_reducible refine Kd.C_drewN ?_ _) | (with_reducible refine Kd.C_drew ?_))); (case side2 => exact (Kd.R_reads' HO_376004.out).2.1); (case side3 => repeat (first | exact (Kd.Q_reads' HO_376005.out).2.2 | (with_reducible refine Kd.C_alloc ?_ _) | (with_reducible refine Kd.C_drewN ?_ _) | (with_reducible refine Kd.C_drew ?_))); (case side4 => exact (Kd.Q_reads' HO_376005.out).2.1); rintro e w35 ⟨rfl, hb⟩; refine ⟨_, rfl, ?_⟩; have n0_ := Aside0.mk (Kd.R_below (by (with_reducible repeat (first | apply Kd.R_alloc | apply Kd.R_drewN | apply Kd.R_drew)); exact HO_376004.out) hb); have n1_ := Aside0.mk (Kd.Q_below (by (with_reducible repeat (first | apply Kd.Q_alloc | apply Kd.Q_drewN | apply Kd.Q_drew)); exact HO_376005.out) hb); have n2_ := Aside0.mk (Kd.R_below (by (with_reducible repeat (first | apply Kd.R_alloc | apply Kd.R_drewN | apply Kd.R_drew)); exact HO_387004.out) hb); have n3_ := Aside0.mk (Kd.Q_below (by (with_reducible repeat (first | apply Kd.Q_alloc | apply Kd.Q_drewN | apply Kd.Q_drew)); exact HO_387005.out) hb); have n4_ := Aside0.mk (blk_below (g := gb375) (by (with_reducible repeat (first | apply blk_drewN | apply blk_drew | apply blk_alloc)); exact BK375.out) hb); have n5_ := Aside0.mk (blk_below (g := gb386) (by (with_reducible repeat (first | apply blk_drewN | apply blk_drew | apply blk_alloc)); exact BK386.out) hb); have n6_ := Aside0.mk (below_step (by repeat (first | (with_reducible first | exact HB.out | apply below_alloc | apply pw_below_drewN | apply below_drew1 | refine below_set ?_ GE375.out | refine below_set ?_ GE386.out) | exact HB.out)) hb); clear HO_376004; clear HO_376005; clear HO_387004; clear HO_387005; clear BK375; clear BK386; clear HB; have HO_376004 := n0_; have HO_376005 := n1_; have HO_387004 := n2_; have HO_387005 := n3_; have BK375 := n4_; have BK386 := n5_; have HB := n6_; clear n0_ n1_ n2_ n3_ n4_ n5_ n6_; (try clear hb); (try clear hb2); (try clear hk); (try clear hi)))
      go_loopg [5] kj4 (fun kq v5 w' => ∃ (x5_2 : Int), v5 = .int .i64 x5_2 ∧ Aside0 (laws_FnImageFlip.l0 kq x5_2 t365 t366 t367 t368 t369 t372 t376 t377 t378 t379 t380 t383 = some true) ∧ Aside0 (kq ≤ kj4) ∧ Aside0 (Kd.R (Kd.int .i64) 3 w' w.heap.size (fun k_ => some k_ ≠ ((.slice Ao10 t372.length co10) : Value).ownBlock ∧ some k_ ≠ ((.slice Ao15 t380.length co15) : Value).ownBlock ∧ some k_ ≠ ((.slice Ao16 t383.length co16) : Value).ownBlock) (.slice Ao9 t369.length co9) t369) ∧ Aside0 (Kd.Q (Kd.int .i64) 3 w' w.heap.size (fun k_ => some k_ ≠ ((.slice Ao9 t369.length co9) : Value).ownBlock ∧ some k_ ≠ ((.slice Ao15 t380.length co15) : Value).ownBlock ∧ some k_ ≠ ((.slice Ao16 t383.length co16) : Value).ownBlock) (.slice Ao10 t372.length co10) t372) ∧ Aside0 (Kd.R (Kd.int .i64) 3 w' w.heap.size (fun k_ => some k_ ≠ ((.slice Ao9 t369.length co9) : Value).ownBlock ∧ some k_ ≠ ((.slice Ao10 t372.length co10) : Value).ownBlock ∧ some k_ ≠ ((.slice Ao16 t383.length co16) : Value).ownBlock) (.slice Ao15 t380.length co15) t380) ∧ Aside0 (Kd.Q (Kd.int .i64) 3 w' w.heap.size (fun k_ => some k_ ≠ ((.slice Ao9 t369.length co9) : Value).ownBlock ∧ some k_ ≠ ((.slice Ao10 t372.length co10) : Value).ownBlock ∧ some k_ ≠ ((.slice Ao15 t380.length co15) : Value).ownBlock) (.slice Ao16 t383.length co16) t383) ∧ Aside0 (w'.heap[gb375]? = some (.cells #[.int .i64 t365, .int .i64 t366, .int .i64 t367, .int .i64 t368, (.slice Ao9 t369.length co9), (.slice Ao10 t372.length co10)] 27 (0, 0))) ∧ Aside0 (w'.heap[gb386]? = some (.cells #[.int .i64 t376, .int .i64 t377, .int .i64 t378, .int .i64 t379, (.slice Ao15 t380.length co15), (.slice Ao16 t383.length co16)] 27 (0, 0))) ∧ Aside0 (Below w.heap.size w w'))
      case atStart => exact ⟨(0), (by first | rfl | (simp; done) | (simp [*]; done)), H', ⟨Nat.le_refl _⟩, ⟨by (with_reducible repeat (first | apply Kd.R_alloc | apply Kd.R_drewN | apply Kd.R_drew)); exact HO_376004.out⟩, ⟨by (with_reducible repeat (first | apply Kd.Q_alloc | apply Kd.Q_drewN | apply Kd.Q_drew)); exact HO_376005.out⟩, ⟨by (with_reducible repeat (first | apply Kd.R_alloc | apply Kd.R_drewN | apply Kd.R_drew)); exact HO_387004.out⟩, ⟨by (with_reducible repeat (first | apply Kd.Q_alloc | apply Kd.Q_drewN | apply Kd.Q_drew)); exact HO_387005.out⟩, ⟨by (with_reducible repeat (first | apply blk_drewN | apply blk_drew | apply blk_alloc)); exact BK375.out⟩, ⟨by (with_reducible repeat (first | apply blk_drewN | apply blk_drew | apply blk_alloc)); exact BK386.out⟩, ⟨by repeat (first | (with_reducible first | exact HB.out | apply below_alloc | apply pw_below_drewN | apply below_drew1 | refine below_set ?_ GE375.out | refine below_set ?_ GE386.out) | exact HB.out)⟩⟩
      case round =>
       clear H'
       try clear c1
       try clear c2
       try clear c2b0
       try clear c2b1
       try clear p2
       try clear c3
       try clear c4
       try clear c13
       try clear c16
       try clear c18
       try clear c19
       try clear c26
       try clear c27
       try clear c30
       try clear c32
       try clear c33
       try clear hcz14_0
       try clear hcz14_1
       try clear hcz14_2
       try clear hcz14_3
       try clear hcz14_4
       try clear hcz14_5
       try clear hcz34_0
       try clear hcz34_1
       try clear hcz34_2
       try clear hcz34_3
       try clear hcz34_4
       try clear hcz34_5
       try clear hcz8_0
       try clear hcz8_1
       try clear hcz8_2
       try clear hcz8_3
       try clear hcz8_4
       try clear hcz8_5
       try clear hfz14_0
       try clear hfz14_1
       try clear hfz14_2
       try clear hfz14_3
       try clear hfz14_4
       try clear hfz14_5
       try clear hfz34_0
       try clear hfz34_1
       try clear hfz34_2
       try clear hfz34_3
       try clear hfz34_4
       try clear hfz34_5
       try clear hfz8_0
       try clear hfz8_1
       try clear hfz8_2
       try clear hfz8_3
       try clear hfz8_4
       try clear hfz8_5
       try clear p2
       obtain ⟨x5_2, rfl, HA, HK2, HO_376004, HO_376005, HO_387004, HO_387005, BK375, BK386, HB⟩ := hrel
       cases gk with
       | zero => exact absurd HA.out (by simp [laws_FnImageFlip.l0])
       | succ k2 =>
        have H := HA.out
        clear HA
        simp only [laws_FnImageFlip.l0] at H
        by_cases c36 : x5_2 < t367
        ·rw [if_pos c36] at H
         have c36b0 : decide (x5_2 < t367) = true := decide_eq_true c36
         clear c36
         replace H := Option.bind_eq_some_iff.mp H
         obtain ⟨⟨t401, t402⟩, A370, H⟩ := H
         replace H : ((impl_ImageAt.f k2 t376 t377 t378 t379 t380 t383 x5_2 (wrap64 (t368 - 1))).bind fun bt403 => (if t401 = bt403.1 then (laws_FnImageFlip.l0 k2 (wrap64 (x5_2 + 1)) t365 t366 t367 t368 t369 t372 t376 t377 t378 t379 t380 t383) else (some false))) = some true := H
         have A37 := Aside0.mk A370
         clear A370
         replace H := Option.bind_eq_some_iff.mp H
         obtain ⟨⟨t403, t404⟩, A380, H⟩ := H
         replace H : (if t401 = t403 then (laws_FnImageFlip.l0 k2 (wrap64 (x5_2 + 1)) t365 t366 t367 t368 t369 t372 t376 t377 t378 t379 t380 t383) else (some false)) = some true := H
         have A38 := Aside0.mk A380
         clear A380
         by_cases c39 : t401 = t403
         ·rw [if_pos c39] at H
          have c39b0 : (t401 == t403) = true := beq_iff_eq.mpr c39
          have c39b1 : (t401 != t403) = false := bne_eq_false_iff_eq.mpr c39
          clear c39
          have H' := Aside0.mk H
          clear H
          have hnb40 := NB375_386.out
          have hnc40 := NB386_375.out
          obtain ⟨hcz41_0, hcz41_1, hcz41_2, hcz41_3, hcz41_4, hcz41_5⟩ := bc6 BK375.out
          obtain ⟨hfz41_0, hfz41_1, hfz41_2, hfz41_3, hfz41_4, hfz41_5⟩ := bf6 BK375.out
          go_wp2_with (first | ((with_reducible refine gate_callee (f := 21) rfl ?_); refine goesL_ (some 44) rfl rfl Try.func21 (by kernel_rfl) rfl #[.agg #[.int .i64 t365, .int .i64 t366, .int .i64 t367, .int .i64 t368, .slice Ao9 t369.length co9, .slice Ao10 t372.length co10], .int .i64 x5_2, .int .i64 0] rfl (by (try simp only [List.map_toArray, List.map_cons, List.map_nil]); first | done | rfl | (simp only [List.length_drop, List.length_take]; rfl)) ?_; (with_reducible refine (impl_ImageAt.calls k2 t365 t366 t367 t368 _ _ t369 _ _ t372 x5_2 0 t401 t402 _ ?side1 ?side2 ?side3 ?side4 A37.out).mono ?_); (case side1 => repeat (first | exact (Kd.R_reads' HO_376004.out).2.2 | (with_reducible refine Kd.C_alloc ?_ _) | (with_reducible refine Kd.C_drewN ?_ _) | (with_reducible refine Kd.C_drew ?_))); (case side2 => exact (Kd.R_reads' HO_376004.out).2.1); (case side3 => repeat (first | exact (Kd.Q_reads' HO_376005.out).2.2 | (with_reducible refine Kd.C_alloc ?_ _) | (with_reducible refine Kd.C_drewN ?_ _) | (with_reducible refine Kd.C_drew ?_))); (case side4 => exact (Kd.Q_reads' HO_376005.out).2.1); rintro e w42 ⟨rfl, hb⟩; refine ⟨_, rfl, ?_⟩; have n0_ := Aside0.mk (Kd.R_below (by (with_reducible repeat (first | apply Kd.R_alloc | apply Kd.R_drewN | apply Kd.R_drew)); exact HO_376004.out) hb); have n1_ := Aside0.mk (Kd.Q_below (by (with_reducible repeat (first | apply Kd.Q_alloc | apply Kd.Q_drewN | apply Kd.Q_drew)); exact HO_376005.out) hb); have n2_ := Aside0.mk (Kd.R_below (by (with_reducible repeat (first | apply Kd.R_alloc | apply Kd.R_drewN | apply Kd.R_drew)); exact HO_387004.out) hb); have n3_ := Aside0.mk (Kd.Q_below (by (with_reducible repeat (first | apply Kd.Q_alloc | apply Kd.Q_drewN | apply Kd.Q_drew)); exact HO_387005.out) hb); have n4_ := Aside0.mk (blk_below (g := gb375) (by (with_reducible repeat (first | apply blk_drewN | apply blk_drew | apply blk_alloc)); exact BK375.out) hb); have n5_ := Aside0.mk (blk_below (g := gb386) (by (with_reducible repeat (first | apply blk_drewN | apply blk_drew | apply blk_alloc)); exact BK386.out) hb); have n6_ := Aside0.mk (below_step (by repeat (first | (with_reducible first | exact HB.out | apply below_alloc | apply pw_below_drewN | apply below_drew1 | refine below_set ?_ GE375.out | refine below_set ?_ GE386.out) | exact HB.out)) hb); clear HO_376004; clear HO_376005; clear HO_387004; clear HO_387005; clear BK375; clear BK386; clear HB; have HO_376004 := n0_; have HO_376005 := n1_; have HO_387004 := n2_; have HO_387005 := n3_; have BK375 := n4_; have BK386 := n5_; have HB := n6_; clear n0_ n1_ n2_ n3_ n4_ n5_ n6_; (try clear hb); (try clear hb2); (try clear hk); (try clear hi); obtain ⟨hcz43_0, hcz43_1, hcz43_2, hcz43_3, hcz43_4, hcz43_5⟩ := bc6 BK386.out; obtain ⟨hfz43_0, hfz43_1, hfz43_2, hfz43_3, hfz43_4, hfz43_5⟩ := bf6 BK386.out; obtain ⟨hcz44_0, hcz44_1, hcz44_2, hcz44_3, hcz44_4, hcz44_5⟩ := bc6 BK375.out; obtain ⟨hfz44_0, hfz44_1, hfz44_2, hfz44_3, hfz44_4, hfz44_5⟩ := bf6 BK375.out) | ((with_reducible refine gate_callee (f := 21) rfl ?_); refine goesL_ (some 53) rfl rfl Try.func21 (by kernel_rfl) rfl #[.agg #[.int .i64 t376, .int .i64 t377, .int .i64 t378, .int .i64 t379, .slice Ao15 t380.length co15, .slice Ao16 t383.length co16], .int .i64 x5_2, .int .i64 (wrap64 (t368 - 1))] rfl (by (try simp only [List.map_toArray, List.map_cons, List.map_nil]); first | done | rfl | (simp only [List.length_drop, List.length_take]; rfl)) ?_; (with_reducible refine (impl_ImageAt.calls k2 t376 t377 t378 t379 _ _ t380 _ _ t383 x5_2 (wrap64 (t368 - 1)) t403 t404 _ ?side1 ?side2 ?side3 ?side4 A38.out).mono ?_); (case side1 => repeat (first | exact (Kd.R_reads' HO_387004.out).2.2 | (with_reducible refine Kd.C_alloc ?_ _) | (with_reducible refine Kd.C_drewN ?_ _) | (with_reducible refine Kd.C_drew ?_))); (case side2 => exact (Kd.R_reads' HO_387004.out).2.1); (case side3 => repeat (first | exact (Kd.Q_reads' HO_387005.out).2.2 | (with_reducible refine Kd.C_alloc ?_ _) | (with_reducible refine Kd.C_drewN ?_ _) | (with_reducible refine Kd.C_drew ?_))); (case side4 => exact (Kd.Q_reads' HO_387005.out).2.1); rintro e w45 ⟨rfl, hb⟩; refine ⟨_, rfl, ?_⟩; have n0_ := Aside0.mk (Kd.R_below (by (with_reducible repeat (first | apply Kd.R_alloc | apply Kd.R_drewN | apply Kd.R_drew)); exact HO_376004.out) hb); have n1_ := Aside0.mk (Kd.Q_below (by (with_reducible repeat (first | apply Kd.Q_alloc | apply Kd.Q_drewN | apply Kd.Q_drew)); exact HO_376005.out) hb); have n2_ := Aside0.mk (Kd.R_below (by (with_reducible repeat (first | apply Kd.R_alloc | apply Kd.R_drewN | apply Kd.R_drew)); exact HO_387004.out) hb); have n3_ := Aside0.mk (Kd.Q_below (by (with_reducible repeat (first | apply Kd.Q_alloc | apply Kd.Q_drewN | apply Kd.Q_drew)); exact HO_387005.out) hb); have n4_ := Aside0.mk (blk_below (g := gb375) (by (with_reducible repeat (first | apply blk_drewN | apply blk_drew | apply blk_alloc)); exact BK375.out) hb); have n5_ := Aside0.mk (blk_below (g := gb386) (by (with_reducible repeat (first | apply blk_drewN | apply blk_drew | apply blk_alloc)); exact BK386.out) hb); have n6_ := Aside0.mk (below_step (by repeat (first | (with_reducible first | exact HB.out | apply below_alloc | apply pw_below_drewN | apply below_drew1 | refine below_set ?_ GE375.out | refine below_set ?_ GE386.out) | exact HB.out)) hb); clear HO_376004; clear HO_376005; clear HO_387004; clear HO_387005; clear BK375; clear BK386; clear HB; have HO_376004 := n0_; have HO_376005 := n1_; have HO_387004 := n2_; have HO_387005 := n3_; have BK375 := n4_; have BK386 := n5_; have HB := n6_; clear n0_ n1_ n2_ n3_ n4_ n5_ n6_; (try clear hb); (try clear hb2); (try clear hk); (try clear hi)))
          go_roundg k2
          case measure => have := HJ4.out; have := HK2.out; omega
          case rel => exact ⟨(wrap64 (x5_2 + 1)), (by first | rfl | (simp; done) | (simp [*]; done)), H', ⟨by have := HJ4.out; have := HK2.out; omega⟩, ⟨by (with_reducible repeat (first | apply Kd.R_alloc | apply Kd.R_drewN | apply Kd.R_drew)); exact HO_376004.out⟩, ⟨by (with_reducible repeat (first | apply Kd.Q_alloc | apply Kd.Q_drewN | apply Kd.Q_drew)); exact HO_376005.out⟩, ⟨by (with_reducible repeat (first | apply Kd.R_alloc | apply Kd.R_drewN | apply Kd.R_drew)); exact HO_387004.out⟩, ⟨by (with_reducible repeat (first | apply Kd.Q_alloc | apply Kd.Q_drewN | apply Kd.Q_drew)); exact HO_387005.out⟩, ⟨by (with_reducible repeat (first | apply blk_drewN | apply blk_drew | apply blk_alloc)); exact BK375.out⟩, ⟨by (with_reducible repeat (first | apply blk_drewN | apply blk_drew | apply blk_alloc)); exact BK386.out⟩, ⟨by repeat (first | (with_reducible first | exact HB.out | apply below_alloc | apply pw_below_drewN | apply below_drew1 | refine below_set ?_ GE375.out | refine below_set ?_ GE386.out) | exact HB.out)⟩⟩
         ·rw [if_neg c39] at H
          have c39b0 : (t401 == t403) = false := beq_eq_false_iff_ne.mpr c39
          have c39b1 : (t401 != t403) = true := bne_iff_ne.mpr c39
          exact absurd H (by simp)
        ·rw [if_neg c36] at H
         have c36b0 : decide (x5_2 < t367) = false := decide_eq_false c36
         clear c36
         replace H := Option.bind_eq_some_iff.mp H
         obtain ⟨t405, A460, H⟩ := H
         replace H : (if t405 = true then ((impl_ImageFlip.f k2 t376 t377 t378 t379 t380 t383).bind fun bt406 => ((laws_wiImage.f k2 bt406.1 bt406.2.1 bt406.2.2.1 bt406.2.2.2.1 bt406.2.2.2.2.1 bt406.2.2.2.2.2 t365 t366 t367 t368 t369 t372).bind fun t416 => (some t416))) else (some false)) = some true := H
         have A46 := Aside0.mk A460
         clear A460
         by_cases c47 : t405 = true
         ·subst c47
          have H1 : ((impl_ImageFlip.f k2 t376 t377 t378 t379 t380 t383).bind fun bt406 => ((laws_wiImage.f k2 bt406.1 bt406.2.1 bt406.2.2.1 bt406.2.2.2.1 bt406.2.2.2.2.1 bt406.2.2.2.2.2 t365 t366 t367 t368 t369 t372).bind fun t416 => (some t416))) = some true := by first | (rw [if_pos rfl] at H; exact H) | rfl
          clear H
          have H := H1
          clear H1
          replace H := Option.bind_eq_some_iff.mp H
          obtain ⟨⟨t406, t407, t408, t409, t410, t413⟩, A480, H⟩ := H
          replace H : ((laws_wiImage.f k2 t406 t407 t408 t409 t410 t413 t365 t366 t367 t368 t369 t372).bind fun t416 => (some t416)) = some true := H
          have A48 := Aside0.mk A480
          clear A480
          replace H := Option.bind_eq_some_iff.mp H
          obtain ⟨t416, A490, H⟩ := H
          replace H : (some t416) = some true := H
          have A49 := Aside0.mk A490
          clear A490
          have HX_ := Option.some.inj H
          clear H
          have hnb50 := NB375_386.out
          have hnc50 := NB386_375.out
          obtain ⟨hcz51_0, hcz51_1, hcz51_2, hcz51_3, hcz51_4, hcz51_5⟩ := bc6 BK375.out
          obtain ⟨hfz51_0, hfz51_1, hfz51_2, hfz51_3, hfz51_4, hfz51_5⟩ := bf6 BK375.out
          try go_wp2
          have n0_ := Aside0.mk (Kd.R_drew HO_376004.out)
          have n1_ := Aside0.mk (Kd.Q_drew HO_376005.out)
          have n2_ := Aside0.mk (Kd.R_drew HO_387004.out)
          have n3_ := Aside0.mk (Kd.Q_drew HO_387005.out)
          have n4_ := Aside0.mk (blk_drew BK375.out)
          have n5_ := Aside0.mk (blk_drew BK386.out)
          have n6_ := Aside0.mk (below_drew1 HB.out)
          clear HO_376004
          clear HO_376005
          clear HO_387004
          clear HO_387005
          clear BK375
          clear BK386
          clear HB
          have HO_376004 := n0_
          have HO_376005 := n1_
          have HO_387004 := n2_
          have HO_387005 := n3_
          have BK375 := n4_
          have BK386 := n5_
          have HB := n6_
          clear n0_ n1_ n2_ n3_ n4_ n5_ n6_
          refine start_ (n := 9) (S := fun w' => w'.cell? ⟨gb386, 0, none⟩ = some (.int .i64 t376) ∧ w'.cell? ⟨gb386, 1, none⟩ = some (.int .i64 t377) ∧ w'.cell? ⟨gb386, 2, none⟩ = some (.int .i64 t378) ∧ w'.cell? ⟨gb386, 3, none⟩ = some (.int .i64 t379) ∧ w'.cell? ⟨gb386, 4, none⟩ = some (.slice Ao15 t380.length co15) ∧ w'.cell? ⟨gb386, 5, none⟩ = some (.slice Ao16 t383.length co16) ∧ w'.cell? ⟨gb375, 0, none⟩ = some (.int .i64 t365) ∧ w'.cell? ⟨gb375, 1, none⟩ = some (.int .i64 t366) ∧ w'.cell? ⟨gb375, 2, none⟩ = some (.int .i64 t367) ∧ w'.cell? ⟨gb375, 3, none⟩ = some (.int .i64 t368) ∧ w'.cell? ⟨gb375, 4, none⟩ = some (.slice Ao9 t369.length co9) ∧ w'.cell? ⟨gb375, 5, none⟩ = some (.slice Ao10 t372.length co10)) (ds := []) #[false, false, false, false, false, false, false, false, false] (by kernel_rfl) rfl rfl (bc12 BK386.out BK375.out) (fun hHeld => ?_); refine with_tabW laws_FnImageFlip.tab16 laws_FnImageFlip.bits16 (fun HT_ HW_ => ?_)
          generalize wr.drew = w52 at HO_376004 HO_376005 HO_387004 HO_387005 BK375 BK386 HB hHeld ⊢
          refine take_ (i := 0) (N := some 59) (v := ?_) (a' := ?_) #[true, false, false, false, false, false, false, false, false] rfl rfl (take_ofW HT_.out HW_.out (by kernel_rfl)) (fun _ _ _ h => h) (Or.inl ⟨by rfl, ?_⟩) hHeld ?_ ?_
          rotate_left
          ·rintro w' ⟨s0, s1, s2, s3, s4, s5, s6, s7, s8, s9, s10, s11⟩
           go_simp
           with_reducible rfl
          rotate_left
          ·simp only [Act.put, sA_, s0_, s1_, i64_w, i32_w]
           rfl
          refine one_ (i := 1) (N := some 60) #[true, true, false, false, false, false, false, false, false] rfl rfl (one_of HT_.out (by kernel_rfl)) (by decide) (fun K hK => ?_)
          refine goes_ Try.func18 (by kernel_rfl) rfl #[.agg #[.int .i64 t376, .int .i64 t377, .int .i64 t378, .int .i64 t379, .slice Ao15 t380.length co15, .slice Ao16 t383.length co16]] (by rfl) rfl rfl (by (try simp only [List.map_toArray, List.map_cons, List.map_nil]); first | done | rfl | (simp only [List.length_drop, List.length_take]; rfl)) ?_
          with_reducible refine (impl_ImageOk.calls k2 t376 t377 t378 t379 _ _ t380 _ _ t383 true _ ?side1 ?side2 ?side3 ?side4 A46.out).mono ?_
          (case side1 => repeat (first | exact (Kd.R_reads' HO_387004.out).2.2 | (with_reducible refine Kd.C_alloc ?_ _) | (with_reducible refine Kd.C_drewN ?_ _) | (with_reducible refine Kd.C_drew ?_)))
          (case side2 => exact (Kd.R_reads' HO_387004.out).2.1)
          (case side3 => repeat (first | exact (Kd.Q_reads' HO_387005.out).2.2 | (with_reducible refine Kd.C_alloc ?_ _) | (with_reducible refine Kd.C_drewN ?_ _) | (with_reducible refine Kd.C_drew ?_)))
          (case side4 => exact (Kd.Q_reads' HO_387005.out).2.1)
          rintro e w53 ⟨rfl, hb⟩
          refine ⟨_, rfl, ?_⟩
          have n0_ := Aside0.mk (Kd.R_below (by (with_reducible repeat (first | apply Kd.R_alloc | apply Kd.R_drewN | apply Kd.R_drew)); exact HO_376004.out) hb)
          have n1_ := Aside0.mk (Kd.Q_below (by (with_reducible repeat (first | apply Kd.Q_alloc | apply Kd.Q_drewN | apply Kd.Q_drew)); exact HO_376005.out) hb)
          have n2_ := Aside0.mk (Kd.R_below (by (with_reducible repeat (first | apply Kd.R_alloc | apply Kd.R_drewN | apply Kd.R_drew)); exact HO_387004.out) hb)
          have n3_ := Aside0.mk (Kd.Q_below (by (with_reducible repeat (first | apply Kd.Q_alloc | apply Kd.Q_drewN | apply Kd.Q_drew)); exact HO_387005.out) hb)
          have n4_ := Aside0.mk (blk_below (g := gb375) (by (with_reducible repeat (first | apply blk_drewN | apply blk_drew | apply blk_alloc)); exact BK375.out) hb)
          have n5_ := Aside0.mk (blk_below (g := gb386) (by (with_reducible repeat (first | apply blk_drewN | apply blk_drew | apply blk_alloc)); exact BK386.out) hb)
          have n6_ := Aside0.mk (below_step (by repeat (first | (with_reducible first | exact HB.out | apply below_alloc | apply pw_below_drewN | apply below_drew1 | refine below_set ?_ GE375.out | refine below_set ?_ GE386.out) | exact HB.out)) hb)
          clear HO_376004
          clear HO_376005
          clear HO_387004
          clear HO_387005
          clear BK375
          clear BK386
          clear HB
          have HO_376004 := n0_
          have HO_376005 := n1_
          have HO_387004 := n2_
          have HO_387005 := n3_
          have BK375 := n4_
          have BK386 := n5_
          have HB := n6_
          clear n0_ n1_ n2_ n3_ n4_ n5_ n6_
          (try clear hb)
          (try clear hb2)
          (try clear hk)
          (try clear hi)
          refine hK.out _ _ (bc12 BK386.out BK375.out) (fun hHeld => ?_)
          clear hK K
          refine norm_ (a' := ?_) ?_ ?_
          rotate_left
          ·show Act.put _ (some 60) _ = _
           simp only [Act.put, sA_, s0_, s1_, i64_w, i32_w]
           rfl
          refine pure_ (i := 2) (N := some 61) (v := ?_) (a' := ?_) #[true, true, true, false, false, false, false, false, false] rfl rfl (any_of HT_.out (by kernel_rfl)) (fun _ _ _ h => h) (Or.inl ⟨by rfl, ?_⟩) ?_ ?_
          rotate_left
          ·intro w'
           go_simp
           with_reducible rfl
          rotate_left
          ·simp only [Act.put, sA_, s0_, s1_, i64_w, i32_w]
           rfl
          refine take_ (i := 3) (N := some 62) (v := ?_) (a' := ?_) #[true, true, true, true, false, false, false, false, false] rfl rfl (take_ofW HT_.out HW_.out (by kernel_rfl)) (fun _ _ _ h => h) (Or.inl ⟨by rfl, ?_⟩) hHeld ?_ ?_
          rotate_left
          ·rintro w' ⟨s0, s1, s2, s3, s4, s5, s6, s7, s8, s9, s10, s11⟩
           go_simp
           with_reducible rfl
          rotate_left
          ·simp only [Act.put, sA_, s0_, s1_, i64_w, i32_w]
           rfl
          refine take_ (i := 5) (N := some 64) (v := ?_) (a' := ?_) #[true, true, true, true, false, true, false, false, false] rfl rfl (take_ofW HT_.out HW_.out (by kernel_rfl)) (fun _ _ _ h => h) (Or.inl ⟨by rfl, ?_⟩) hHeld ?_ ?_
          rotate_left
          ·rintro w' ⟨s0, s1, s2, s3, s4, s5, s6, s7, s8, s9, s10, s11⟩
           go_simp
           with_reducible rfl
          rotate_left
          ·simp only [Act.put, sA_, s0_, s1_, i64_w, i32_w]
           rfl
          refine one_ (i := 4) (N := some 63) #[true, true, true, true, true, true, false, false, false] rfl rfl (one_of HT_.out (by kernel_rfl)) (by decide) (fun K hK => ?_)
          refine goes_ Try.func27 (by kernel_rfl) rfl #[.agg #[.int .i64 t376, .int .i64 t377, .int .i64 t378, .int .i64 t379, .slice Ao15 t380.length co15, .slice Ao16 t383.length co16]] (by rfl) rfl rfl (by (try simp only [List.map_toArray, List.map_cons, List.map_nil]); first | done | rfl | (simp only [List.length_drop, List.length_take]; rfl)) ?_
          with_reducible refine (impl_ImageFlip.calls k2 t376 t377 t378 t379 _ _ t380 _ _ t383 t406 t407 t408 t409 t410 t413 _ ?side1 ?side2 ?side3 ?side4 A48.out).mono ?_
          (case side1 => repeat (first | exact (Kd.R_reads' HO_387004.out).2.2 | (with_reducible refine Kd.C_alloc ?_ _) | (with_reducible refine Kd.C_drewN ?_ _) | (with_reducible refine Kd.C_drew ?_)))
          (case side2 => exact (Kd.R_reads' HO_387004.out).2.1)
          (case side3 => repeat (first | exact (Kd.Q_reads' HO_387005.out).2.2 | (with_reducible refine Kd.C_alloc ?_ _) | (with_reducible refine Kd.C_drewN ?_ _) | (with_reducible refine Kd.C_drew ?_)))
          (case side4 => exact (Kd.Q_reads' HO_387005.out).2.1)
          rintro e w54 ⟨v411, v414, rfl, ho0, ho1, hb⟩
          refine ⟨_, rfl, ?_⟩
          have n0_ := Aside0.mk (Kd.R_mono (Kd.R_told (Kd.R_told (Kd.R_old (by (with_reducible repeat (first | apply Kd.R_alloc | apply Kd.R_drewN | apply Kd.R_drew)); exact HO_376004.out) hb) (Kd.R_base ho0)) (Kd.R_base ho1)) (fun _ h_ => h_.1))
          have n1_ := Aside0.mk (Kd.Q_mono (Kd.Q_told (Kd.Q_told (Kd.Q_old (by (with_reducible repeat (first | apply Kd.Q_alloc | apply Kd.Q_drewN | apply Kd.Q_drew)); exact HO_376005.out) hb) (Kd.R_base ho0)) (Kd.R_base ho1)) (fun _ h_ => h_.1))
          have n2_ := Aside0.mk (Kd.R_mono (Kd.R_told (Kd.R_told (Kd.R_old (by (with_reducible repeat (first | apply Kd.R_alloc | apply Kd.R_drewN | apply Kd.R_drew)); exact HO_387004.out) hb) (Kd.R_base ho0)) (Kd.R_base ho1)) (fun _ h_ => h_.1))
          have n3_ := Aside0.mk (Kd.Q_mono (Kd.Q_told (Kd.Q_told (Kd.Q_old (by (with_reducible repeat (first | apply Kd.Q_alloc | apply Kd.Q_drewN | apply Kd.Q_drew)); exact HO_387005.out) hb) (Kd.R_base ho0)) (Kd.R_base ho1)) (fun _ h_ => h_.1))
          have n4_ := Aside0.mk (Kd.R_lower (Kd.R_new' (Kd.R_new' (Kd.R_new' (Kd.R_new' ho0 (Kd.R_lt (by (with_reducible repeat (first | apply Kd.R_alloc | apply Kd.R_drewN | apply Kd.R_drew)); exact HO_376004.out))) (Kd.Q_lt (by (with_reducible repeat (first | apply Kd.Q_alloc | apply Kd.Q_drewN | apply Kd.Q_drew)); exact HO_376005.out))) (Kd.R_lt (by (with_reducible repeat (first | apply Kd.R_alloc | apply Kd.R_drewN | apply Kd.R_drew)); exact HO_387004.out))) (Kd.Q_lt (by (with_reducible repeat (first | apply Kd.Q_alloc | apply Kd.Q_drewN | apply Kd.Q_drew)); exact HO_387005.out))) (below_size (by repeat (first | (with_reducible first | exact HB.out | apply below_alloc | apply pw_below_drewN | apply below_drew1 | refine below_set ?_ GE375.out | refine below_set ?_ GE386.out) | exact HB.out))))
          have n5_ := Aside0.mk (Kd.R_lower (Kd.R_new' (Kd.R_new' (Kd.R_new' (Kd.R_new' ho1 (Kd.R_lt (by (with_reducible repeat (first | apply Kd.R_alloc | apply Kd.R_drewN | apply Kd.R_drew)); exact HO_376004.out))) (Kd.Q_lt (by (with_reducible repeat (first | apply Kd.Q_alloc | apply Kd.Q_drewN | apply Kd.Q_drew)); exact HO_376005.out))) (Kd.R_lt (by (with_reducible repeat (first | apply Kd.R_alloc | apply Kd.R_drewN | apply Kd.R_drew)); exact HO_387004.out))) (Kd.Q_lt (by (with_reducible repeat (first | apply Kd.Q_alloc | apply Kd.Q_drewN | apply Kd.Q_drew)); exact HO_387005.out))) (below_size (by repeat (first | (with_reducible first | exact HB.out | apply below_alloc | apply pw_below_drewN | apply below_drew1 | refine below_set ?_ GE375.out | refine below_set ?_ GE386.out) | exact HB.out))))
          have n6_ := Aside0.mk (blk_below (g := gb375) (by (with_reducible repeat (first | apply blk_drewN | apply blk_drew | apply blk_alloc)); exact BK375.out) hb)
          have n7_ := Aside0.mk (blk_below (g := gb386) (by (with_reducible repeat (first | apply blk_drewN | apply blk_drew | apply blk_alloc)); exact BK386.out) hb)
          have n8_ := Aside0.mk (below_step (by repeat (first | (with_reducible first | exact HB.out | apply below_alloc | apply pw_below_drewN | apply below_drew1 | refine below_set ?_ GE375.out | refine below_set ?_ GE386.out) | exact HB.out)) hb)
          clear HO_376004
          clear HO_376005
          clear HO_387004
          clear HO_387005
          clear BK375
          clear BK386
          clear HB
          have HO_376004 := n0_
          have HO_376005 := n1_
          have HO_387004 := n2_
          have HO_387005 := n3_
          have HO412 := n4_
          have HO415 := n5_
          have BK375 := n6_
          have BK386 := n7_
          have HB := n8_
          clear n0_ n1_ n2_ n3_ n4_ n5_ n6_ n7_ n8_
          (try clear hb)
          (try clear hb2)
          (try clear hk)
          (try clear hi)
          (try clear ho0)
          (try clear ho1)
          obtain ⟨Ao55, co55, eo55⟩ := Kd.R_slice HO412.out
          (first | subst eo55 | (injection eo55 with f1_ f2_ f3_; have f4_ := f1_.symm; have f5_ := f3_.symm; clear f1_ f2_ f3_; subst f4_; subst f5_))
          obtain ⟨Ao56, co56, eo56⟩ := Kd.R_slice HO415.out
          (first | subst eo56 | (injection eo56 with f1_ f2_ f3_; have f4_ := f1_.symm; have f5_ := f3_.symm; clear f1_ f2_ f3_; subst f4_; subst f5_))
          refine hK.out _ _ (bc12 BK386.out BK375.out) (fun hHeld => ?_)
          clear hK K
          refine norm_ (a' := ?_) ?_ ?_
          rotate_left
          ·show Act.put _ (some 63) _ = _
           simp only [Act.put, sA_, s0_, s1_, i64_w, i32_w]
           rfl
          refine one_ (i := 6) (N := some 65) #[true, true, true, true, true, true, true, false, false] rfl rfl (one_of HT_.out (by kernel_rfl)) (by decide) (fun K hK => ?_)
          refine goes_ Try.func39 (by kernel_rfl) rfl #[.agg #[.int .i64 t406, .int .i64 t407, .int .i64 t408, .int .i64 t409, .slice Ao55 t410.length co55, .slice Ao56 t413.length co56], .agg #[.int .i64 t365, .int .i64 t366, .int .i64 t367, .int .i64 t368, .slice Ao9 t369.length co9, .slice Ao10 t372.length co10]] (by rfl) rfl rfl (by (try simp only [List.map_toArray, List.map_cons, List.map_nil]); first | done | rfl | (simp only [List.length_drop, List.length_take]; rfl)) ?_
          with_reducible refine (laws_wiImage.calls k2 t406 t407 t408 t409 _ _ t410 _ _ t413 t365 t366 t367 t368 _ _ t369 _ _ t372 t416 _ ?side1 ?side2 ?side3 ?side4 ?side5 ?side6 ?side7 ?side8 A49.out).mono ?_
          (case side1 => repeat (first | exact (Kd.R_reads' HO412.out).2.2 | (with_reducible refine Kd.C_alloc ?_ _) | (with_reducible refine Kd.C_drewN ?_ _) | (with_reducible refine Kd.C_drew ?_)))
          (case side2 => exact (Kd.R_reads' HO412.out).2.1)
          (case side3 => repeat (first | exact (Kd.R_reads' HO415.out).2.2 | (with_reducible refine Kd.C_alloc ?_ _) | (with_reducible refine Kd.C_drewN ?_ _) | (with_reducible refine Kd.C_drew ?_)))
          (case side4 => exact (Kd.R_reads' HO415.out).2.1)
          (case side5 => repeat (first | exact (Kd.R_reads' HO_376004.out).2.2 | (with_reducible refine Kd.C_alloc ?_ _) | (with_reducible refine Kd.C_drewN ?_ _) | (with_reducible refine Kd.C_drew ?_)))
          (case side6 => exact (Kd.R_reads' HO_376004.out).2.1)
          (case side7 => repeat (first | exact (Kd.Q_reads' HO_376005.out).2.2 | (with_reducible refine Kd.C_alloc ?_ _) | (with_reducible refine Kd.C_drewN ?_ _) | (with_reducible refine Kd.C_drew ?_)))
          (case side8 => exact (Kd.Q_reads' HO_376005.out).2.1)
          rintro e w57 ⟨rfl, hb⟩
          refine ⟨_, rfl, ?_⟩
          have n0_ := Aside0.mk (Kd.R_below (by (with_reducible repeat (first | apply Kd.R_alloc | apply Kd.R_drewN | apply Kd.R_drew)); exact HO_376004.out) hb)
          have n1_ := Aside0.mk (Kd.Q_below (by (with_reducible repeat (first | apply Kd.Q_alloc | apply Kd.Q_drewN | apply Kd.Q_drew)); exact HO_376005.out) hb)
          have n2_ := Aside0.mk (Kd.R_below (by (with_reducible repeat (first | apply Kd.R_alloc | apply Kd.R_drewN | apply Kd.R_drew)); exact HO_387004.out) hb)
          have n3_ := Aside0.mk (Kd.Q_below (by (with_reducible repeat (first | apply Kd.Q_alloc | apply Kd.Q_drewN | apply Kd.Q_drew)); exact HO_387005.out) hb)
          have n4_ := Aside0.mk (Kd.R_below (by (with_reducible repeat (first | apply Kd.R_alloc | apply Kd.R_drewN | apply Kd.R_drew)); exact HO412.out) hb)
          have n5_ := Aside0.mk (Kd.R_below (by (with_reducible repeat (first | apply Kd.R_alloc | apply Kd.R_drewN | apply Kd.R_drew)); exact HO415.out) hb)
          have n6_ := Aside0.mk (blk_below (g := gb375) (by (with_reducible repeat (first | apply blk_drewN | apply blk_drew | apply blk_alloc)); exact BK375.out) hb)
          have n7_ := Aside0.mk (blk_below (g := gb386) (by (with_reducible repeat (first | apply blk_drewN | apply blk_drew | apply blk_alloc)); exact BK386.out) hb)
          have n8_ := Aside0.mk (below_step (by repeat (first | (with_reducible first | exact HB.out | apply below_alloc | apply pw_below_drewN | apply below_drew1 | refine below_set ?_ GE375.out | refine below_set ?_ GE386.out) | exact HB.out)) hb)
          clear HO_376004
          clear HO_376005
          clear HO_387004
          clear HO_387005
          clear HO412
          clear HO415
          clear BK375
          clear BK386
          clear HB
          have HO_376004 := n0_
          have HO_376005 := n1_
          have HO_387004 := n2_
          have HO_387005 := n3_
          have HO412 := n4_
          have HO415 := n5_
          have BK375 := n6_
          have BK386 := n7_
          have HB := n8_
          clear n0_ n1_ n2_ n3_ n4_ n5_ n6_ n7_ n8_
          (try clear hb)
          (try clear hb2)
          (try clear hk)
          (try clear hi)
          refine hK.out _ _ (bc12 BK386.out BK375.out) (fun hHeld => ?_)
          clear hK K
          refine norm_ (a' := ?_) ?_ ?_
          rotate_left
          ·show Act.put _ (some 65) _ = _
           simp only [Act.put, sA_, s0_, s1_, i64_w, i32_w]
           rfl
          refine pure_ (i := 7) (N := some 66) (v := ?_) (a' := ?_) #[true, true, true, true, true, true, true, true, false] rfl rfl (any_of HT_.out (by kernel_rfl)) (fun _ _ _ h => h) (Or.inl ⟨by rfl, ?_⟩) ?_ ?_
          rotate_left
          ·intro w'
           go_simp
           with_reducible rfl
          rotate_left
          ·simp only [Act.put, sA_, s0_, s1_, i64_w, i32_w]
           rfl
          refine pure_ (i := 8) (N := some 2) (v := ?_) (a' := ?_) #[true, true, true, true, true, true, true, true, true] rfl rfl (any_of HT_.out (by kernel_rfl)) (fun _ _ _ h => h) (Or.inl ⟨by rfl, ?_⟩) ?_ ?_
          rotate_left
          ·intro w'
           go_simp
           with_reducible rfl
          rotate_left
          ·simp only [Act.put, sA_, s0_, s1_, i64_w, i32_w]
           rfl
          refine done_ (done_of HT_.out (by kernel_rfl)) ?_
          try go_wp2
          go_ret
          exact ⟨by first | rfl | (simp [errW_none, errW_some] <;> rfl) | (simp [*, errW_none, errW_some] <;> rfl), by repeat (first | (with_reducible first | exact HB.out | apply below_alloc | apply pw_below_drewN | apply below_drew1 | refine below_set ?_ GE375.out | refine below_set ?_ GE386.out) | exact HB.out)⟩
         ·replace c47 := Bool.eq_false_iff.mpr c47
          subst c47
          have H1 : (some false) = some true := by first | (rw [if_neg (show ¬ (false = true) by decide)] at H; exact H) | rfl
          clear H
          have H := H1
          clear H1
          exact absurd H (by simp)
     ·replace c32 := Bool.eq_false_iff.mpr c32
      subst c32
      have H1 : (some (t376 == 0)) = some true := by first | (rw [if_neg (show ¬ (false = true) by decide)] at H; exact H) | rfl
      clear H
      have H := H1
      clear H1
      have HX_ := Option.some.inj H
      clear H
      have hnb58 := NB375_386.out
      have hnc58 := NB386_375.out
      obtain ⟨hcz59_0, hcz59_1, hcz59_2, hcz59_3, hcz59_4, hcz59_5⟩ := bc6 BK375.out
      obtain ⟨hfz59_0, hfz59_1, hfz59_2, hfz59_3, hfz59_4, hfz59_5⟩ := bf6 BK375.out
      go_wp2_with (first | ((with_reducible refine gate_callee (f := 16) rfl ?_); refine goesL_ (some 30) rfl rfl Try.func16 (by kernel_rfl) rfl #[.agg #[.int .i64 t365, .int .i64 t366, .int .i64 t367, .int .i64 t368, .slice Ao9 t369.length co9, .slice Ao10 t372.length co10]] rfl (by (try simp only [List.map_toArray, List.map_cons, List.map_nil]); first | done | rfl | (simp only [List.length_drop, List.length_take]; rfl)) ?_; (with_reducible refine (spec_ImageOk.calls kj4 t365 t366 t367 t368 _ _ t369 _ _ t372 false _ ?side1 ?side2 ?side3 ?side4 A31.out).mono ?_); (case side1 => repeat (first | exact (Kd.R_reads' HO_376004.out).2.2 | (with_reducible refine Kd.C_alloc ?_ _) | (with_reducible refine Kd.C_drewN ?_ _) | (with_reducible refine Kd.C_drew ?_))); (case side2 => exact (Kd.R_reads' HO_376004.out).2.1); (case side3 => repeat (first | exact (Kd.Q_reads' HO_376005.out).2.2 | (with_reducible refine Kd.C_alloc ?_ _) | (with_reducible refine Kd.C_drewN ?_ _) | (with_reducible refine Kd.C_drew ?_))); (case side4 => exact (Kd.Q_reads' HO_376005.out).2.1); rintro e w60 ⟨rfl, hb⟩; refine ⟨_, rfl, ?_⟩; have n0_ := Aside0.mk (Kd.R_below (by (with_reducible repeat (first | apply Kd.R_alloc | apply Kd.R_drewN | apply Kd.R_drew)); exact HO_376004.out) hb); have n1_ := Aside0.mk (Kd.Q_below (by (with_reducible repeat (first | apply Kd.Q_alloc | apply Kd.Q_drewN | apply Kd.Q_drew)); exact HO_376005.out) hb); have n2_ := Aside0.mk (Kd.R_below (by (with_reducible repeat (first | apply Kd.R_alloc | apply Kd.R_drewN | apply Kd.R_drew)); exact HO_387004.out) hb); have n3_ := Aside0.mk (Kd.Q_below (by (with_reducible repeat (first | apply Kd.Q_alloc | apply Kd.Q_drewN | apply Kd.Q_drew)); exact HO_387005.out) hb); have n4_ := Aside0.mk (blk_below (g := gb375) (by (with_reducible repeat (first | apply blk_drewN | apply blk_drew | apply blk_alloc)); exact BK375.out) hb); have n5_ := Aside0.mk (blk_below (g := gb386) (by (with_reducible repeat (first | apply blk_drewN | apply blk_drew | apply blk_alloc)); exact BK386.out) hb); have n6_ := Aside0.mk (below_step (by repeat (first | (with_reducible first | exact HB.out | apply below_alloc | apply pw_below_drewN | apply below_drew1 | refine below_set ?_ GE375.out | refine below_set ?_ GE386.out) | exact HB.out)) hb); clear HO_376004; clear HO_376005; clear HO_387004; clear HO_387005; clear BK375; clear BK386; clear HB; have HO_376004 := n0_; have HO_376005 := n1_; have HO_387004 := n2_; have HO_387005 := n3_; have BK375 := n4_; have BK386 := n5_; have HB := n6_; clear n0_ n1_ n2_ n3_ n4_ n5_ n6_; (try clear hb); (try clear hb2); (try clear hk); (try clear hi); obtain ⟨hcz61_0, hcz61_1, hcz61_2, hcz61_3, hcz61_4, hcz61_5⟩ := bc6 BK386.out; obtain ⟨hfz61_0, hfz61_1, hfz61_2, hfz61_3, hfz61_4, hfz61_5⟩ := bf6 BK386.out))
      go_ret
      exact ⟨by first | rfl | (simp [errW_none, errW_some] <;> rfl) | (simp [*, errW_none, errW_some] <;> rfl), by repeat (first | (with_reducible first | exact HB.out | apply below_alloc | apply pw_below_drewN | apply below_drew1 | refine below_set ?_ GE375.out | refine below_set ?_ GE386.out) | exact HB.out)⟩

/-- THE ONE PURE STATEMENT of laws_FnImageFlip: yours. -/
def laws_FnImageFlip.Pure : Prop := ∀ (l0 : List Int), l0.length ≤ maxLen → l0.length * 1 ≤ 140737488351232 → (∀ x ∈ l0, (Lit.int .u8 x).wf = true) → ∃ k, laws_FnImageFlip.f k l0 = some true
theorem laws_FnImageFlip.walk (P : laws_FnImageFlip.Pure) (a0 : Option Addr) (len0 cap0 : Nat) (z0 : List Int) (w : World) (w0 : (a0 = none ∧ len0 = 0 ∧ cap0 = 0 ∧ z0 = []) ∨ ∃ x, a0 = some x ∧ len0 ≤ cap0 ∧ cap0 ≤ maxLen ∧ z0.length = cap0 ∧ (∀ i, i < z0.length → w.cell? (x.add i) = some (.int .u8 (z0.getD i 0))) ∧ ∀ n ∈ z0, (Lit.int .u8 n).wf = true) (y0 : len0 * 1 ≤ 140737488351232) :
  Calls Try.prog 13 #[.slice a0 len0 cap0] w fun e w' => e = .returned (.bool true) ∧ Below w.heap.size w w' := by
 obtain ⟨l0, rfl, hr0, hm0, hw0, hc0⟩ := ReadsInt.ofRowC w0
 obtain ⟨k, h⟩ := P l0 hm0 y0 hw0
 refine (laws_FnImageFlip.calls k _ _ l0 w (Kd.C_of_reads (d := (0 : Int)) (h1 := fun _ => rfl) hr0) hc0 h).mono ?_
 rintro e w' ⟨rfl, hd⟩
 exact ⟨rfl, hd⟩

end Go.Proofs.Ytkjfefiphdloiaa.PFnImageFlip
