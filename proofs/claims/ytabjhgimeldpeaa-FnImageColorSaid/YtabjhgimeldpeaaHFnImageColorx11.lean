/- What the functions that the law comes to compute, as plain functions, and that the machine's calls come to just that: written by a program for this claim, and turned where Lean did not take it. No condition. -/
import Derived.Test.YtabjhgimeldpeaaHFnImageColorx0
import Derived.Test.YtabjhgimeldpeaaHFnImageColorx5
import Derived.Test.YtabjhgimeldpeaaHFnImageColorx7
import Derived.Test.YtabjhgimeldpeaaHFnImageColorx9
import Derived.Test.YtabjhgimeldpeaaHFnImageColorx10
namespace Go.Proofs.Ytabjhgimeldpeaa.PFnImageColor
open Go.RowKit Go.Proofs.YtabjhgimeldpeaaW.PrintWords Go.Proofs.YtabjhgimeldpeaaW.PrintLast Go.Proofs.YtabjhgimeldpeaaW.PrintMore
attribute [local go_sem] max2_int min2_int max_two min_two max_three min_three max_four min_four   -- for this text's walks alone
set_option linter.unusedVariables false
set_option linter.unusedSimpArgs false

/-! ### laws_FnImageColor: function 3 -/
def laws_FnImageColor.j0 : Nat → Int → Int → Int → Bool → Int → Bool → Int → Int → Int → Int → List Int → List Int → Option (Bool)
 | 0, _, _, _, _, _, _, _, _, _, _, _, _ => none
 | k + 1, x4, x5, x6, x7, x10, x56, x383000, x383001, x383002, x383003, x383004, x383005 => if x56 = true then (some false) else (if x7 = true then ((impl_ImageFlip.f k x383000 x383001 x383002 x383003 x383004 x383005).bind fun bt389 => ((impl_ImageColor.f k bt389.1 bt389.2.1 bt389.2.2.1 bt389.2.2.2.1 bt389.2.2.2.2.1 bt389.2.2.2.2.2 x4 (wrap64 ((wrap64 (x383003 - 1)) - x5))).bind fun bt399 => (if bt399.2 = true then (if bt399.1 = x6 then ((laws_wiIn.f x6 0 4294967295).bind fun t401 => (if t401 = true then (if x383000 = 3 then (some true) else (some ((Int.tmod x6 256) == 255))) else (some false))) else (some false)) else (some false)))) else (if x6 = 0 then (some (x10 == 0)) else (some false)))
def laws_FnImageColor.f (k : Nat) (l0 : List Int) : Option (Bool) := if (l0.length : Int) > 1048576 then (some true) else ((spec_DrawImageColor.f k l0).bind fun bt370 => ((impl_ImageColor.f k bt370.1 bt370.2.1 bt370.2.2.1 bt370.2.2.2.1 bt370.2.2.2.2.1 bt370.2.2.2.2.2.1 bt370.2.2.2.2.2.2.1 bt370.2.2.2.2.2.2.2).bind fun bt383 => ((spec_ImageColor.f k bt370.1 bt370.2.1 bt370.2.2.1 bt370.2.2.2.1 bt370.2.2.2.2.1 bt370.2.2.2.2.2.1 bt370.2.2.2.2.2.2.1 bt370.2.2.2.2.2.2.2).bind fun bt385 => ((impl_ImageAt.f k bt370.1 bt370.2.1 bt370.2.2.1 bt370.2.2.2.1 bt370.2.2.2.2.1 bt370.2.2.2.2.2.1 bt370.2.2.2.2.2.2.1 bt370.2.2.2.2.2.2.2).bind fun bt387 => (if bt383.1 = bt385.1 then (if (bt383.2 != bt385.2) = true then (laws_FnImageColor.j0 k bt370.2.2.2.2.2.2.1 bt370.2.2.2.2.2.2.2 bt383.1 bt383.2 bt387.1 true bt370.1 bt370.2.1 bt370.2.2.1 bt370.2.2.2.1 bt370.2.2.2.2.1 bt370.2.2.2.2.2.1) else (laws_FnImageColor.j0 k bt370.2.2.2.2.2.2.1 bt370.2.2.2.2.2.2.2 bt383.1 bt383.2 bt387.1 (bt383.2 != bt387.2) bt370.1 bt370.2.1 bt370.2.2.1 bt370.2.2.2.1 bt370.2.2.2.2.1 bt370.2.2.2.2.2.1)) else (laws_FnImageColor.j0 k bt370.2.2.2.2.2.2.1 bt370.2.2.2.2.2.2.2 bt383.1 bt383.2 bt387.1 true bt370.1 bt370.2.1 bt370.2.2.1 bt370.2.2.2.1 bt370.2.2.2.2.1 bt370.2.2.2.2.2.1))))))
theorem laws_FnImageColor.mono_l : ∀ k, (∀ y0 y1 y2 y3 y4 y5 y6 y7 y8 y9 y10 y11, LeO (laws_FnImageColor.j0 k y0 y1 y2 y3 y4 y5 y6 y7 y8 y9 y10 y11) (laws_FnImageColor.j0 (k + 1) y0 y1 y2 y3 y4 y5 y6 y7 y8 y9 y10 y11))
 | 0 => fun _ _ _ _ _ _ _ _ _ _ _ _ r h => by simp [laws_FnImageColor.j0] at h
 | k + 1 => by
  have ih0 := laws_FnImageColor.mono_l k
  ·intro y0 y1 y2 y3 y4 y5 y6 y7 y8 y9 y10 y11
   unfold laws_FnImageColor.j0
   repeat' first
   | (with_reducible exact ih0 _ _ _ _ _ _ _ _ _ _ _ _)
   | (with_reducible exact impl_ImageAt.mono _ _ _ _ _ _ _ _ _)
   | (with_reducible exact impl_ImageColor.mono _ _ _ _ _ _ _ _ _)
   | (with_reducible exact impl_ImageFlip.mono _ _ _ _ _ _ _)
   | (with_reducible exact spec_DrawImageColor.mono _ _)
   | (with_reducible exact spec_ImageColor.mono _ _ _ _ _ _ _ _ _)
   | (with_reducible exact LeO.refl _)
   | (with_reducible exact LeO.none _)
   | (with_reducible refine LeO.ite ?_ ?_)
   | (with_reducible refine LeO.bind ?_ (fun _ => ?_))
theorem laws_FnImageColor.mono : ∀ a0 k, LeO (laws_FnImageColor.f k a0) (laws_FnImageColor.f (k + 1) a0) := by
 intro a0 k
 have ih0 := laws_FnImageColor.mono_l k
 unfold laws_FnImageColor.f
 repeat' first
   | (with_reducible exact ih0 _ _ _ _ _ _ _ _ _ _ _ _)
   | (with_reducible exact impl_ImageAt.mono _ _ _ _ _ _ _ _ _)
   | (with_reducible exact impl_ImageColor.mono _ _ _ _ _ _ _ _ _)
   | (with_reducible exact impl_ImageFlip.mono _ _ _ _ _ _ _)
   | (with_reducible exact spec_DrawImageColor.mono _ _)
   | (with_reducible exact spec_ImageColor.mono _ _ _ _ _ _ _ _ _)
   | (with_reducible exact LeO.refl _)
   | (with_reducible exact LeO.none _)
   | (with_reducible refine LeO.ite ?_ ?_)
   | (with_reducible refine LeO.bind ?_ (fun _ => ?_))
def laws_FnImageColor.T11 : Bool × List (List Nat × List Nat) := (true, [([], []), ([0], [0]), ([], []), ([], []), ([3], [3]), ([4], [4]), ([], []), ([5, 6], [5, 6]), ([1, 2, 7, 1], [1, 2, 7]), ([8], [8]), ([9], [9]), ([9], [9]), ([10, 8, 0, 1, 2, 3, 4, 5, 6, 7, 8, 9, 10], [10]), ([11, 12, 0, 1, 2, 3, 4, 5, 6, 7, 8, 9, 10, 11, 12], [11])])
def laws_FnImageColor.B11 : List Nat := [0, 1, 0, 0, 8, 24, 0, 120, 255, 511, 1023, 1023, 2047, 8191]
theorem laws_FnImageColor.tab11 : rtab .any (opsOf Try.f3 11) = laws_FnImageColor.T11 := by kernel_rfl
theorem laws_FnImageColor.bits11 : waitsOk laws_FnImageColor.T11.2 laws_FnImageColor.B11 = true := by kernel_rfl
set_option maxHeartbeats 8000000 in
set_option maxRecDepth 100000 in
theorem laws_FnImageColor.calls (k : Nat) (A0 : Option Addr) (c0 : Nat) (l0 : List Int) (w : World) (hr0 : Kd.C (Kd.int .u8) w A0 l0.length l0) (hc0 : l0.length ≤ c0) (h : laws_FnImageColor.f k l0 = some true) :
  Calls Try.prog 3 #[.slice A0 l0.length c0] w fun e w' => e = .returned (.bool true) ∧ Below w.heap.size w w' := by
 have hu25 := Try.underlying25
 have HR0 := Aside0.mk hr0
 have HC0 := Aside0.mk hc0
 clear hr0 hc0
 have HB := Aside0.mk (Below.refl w.heap.size w)
 have H : (if (l0.length : Int) > 1048576 then (some true) else ((spec_DrawImageColor.f k l0).bind fun bt370 => ((impl_ImageColor.f k bt370.1 bt370.2.1 bt370.2.2.1 bt370.2.2.2.1 bt370.2.2.2.2.1 bt370.2.2.2.2.2.1 bt370.2.2.2.2.2.2.1 bt370.2.2.2.2.2.2.2).bind fun bt383 => ((spec_ImageColor.f k bt370.1 bt370.2.1 bt370.2.2.1 bt370.2.2.2.1 bt370.2.2.2.2.1 bt370.2.2.2.2.2.1 bt370.2.2.2.2.2.2.1 bt370.2.2.2.2.2.2.2).bind fun bt385 => ((impl_ImageAt.f k bt370.1 bt370.2.1 bt370.2.2.1 bt370.2.2.2.1 bt370.2.2.2.2.1 bt370.2.2.2.2.2.1 bt370.2.2.2.2.2.2.1 bt370.2.2.2.2.2.2.2).bind fun bt387 => (if bt383.1 = bt385.1 then (if (bt383.2 != bt385.2) = true then (laws_FnImageColor.j0 k bt370.2.2.2.2.2.2.1 bt370.2.2.2.2.2.2.2 bt383.1 bt383.2 bt387.1 true bt370.1 bt370.2.1 bt370.2.2.1 bt370.2.2.2.1 bt370.2.2.2.2.1 bt370.2.2.2.2.2.1) else (laws_FnImageColor.j0 k bt370.2.2.2.2.2.2.1 bt370.2.2.2.2.2.2.2 bt383.1 bt383.2 bt387.1 (bt383.2 != bt387.2) bt370.1 bt370.2.1 bt370.2.2.1 bt370.2.2.2.1 bt370.2.2.2.2.1 bt370.2.2.2.2.2.1)) else (laws_FnImageColor.j0 k bt370.2.2.2.2.2.2.1 bt370.2.2.2.2.2.2.2 bt383.1 bt383.2 bt387.1 true bt370.1 bt370.2.1 bt370.2.2.1 bt370.2.2.2.1 bt370.2.2.2.2.1 bt370.2.2.2.2.2.1))))))) = some true := h
 clear h
 by_cases c2 : (l0.length : Int) > 1048576
 ·rw [if_pos c2] at H
  have c2b0 : decide (1048576 < (l0.length : Int)) = true := decide_eq_true c2
  have c2b1 : decide (1048576 < l0.length) = true := decide_eq_true (by omega)
  clear c2
  clear H
  go_enter Try.func3, Try.ntmps3
  go_wp2
  go_ret
  exact ⟨by first | rfl | (simp [errW_none, errW_some] <;> rfl) | (simp [*, errW_none, errW_some] <;> rfl), by repeat (first | (with_reducible first | exact HB.out | apply below_alloc | apply pw_below_drewN | apply below_drew1) | exact HB.out)⟩
 ·rw [if_neg c2] at H
  have c2b0 : decide (1048576 < (l0.length : Int)) = false := decide_eq_false c2
  have c2b1 : decide (1048576 < l0.length) = false := decide_eq_false (by omega)
  clear c2
  replace H := Option.bind_eq_some_iff.mp H
  obtain ⟨⟨t370, t371, t372, t373, t374, t377, t380, t381⟩, A30, H⟩ := H
  replace H : ((impl_ImageColor.f k t370 t371 t372 t373 t374 t377 t380 t381).bind fun bt383 => ((spec_ImageColor.f k t370 t371 t372 t373 t374 t377 t380 t381).bind fun bt385 => ((impl_ImageAt.f k t370 t371 t372 t373 t374 t377 t380 t381).bind fun bt387 => (if bt383.1 = bt385.1 then (if (bt383.2 != bt385.2) = true then (laws_FnImageColor.j0 k t380 t381 bt383.1 bt383.2 bt387.1 true t370 t371 t372 t373 t374 t377) else (laws_FnImageColor.j0 k t380 t381 bt383.1 bt383.2 bt387.1 (bt383.2 != bt387.2) t370 t371 t372 t373 t374 t377)) else (laws_FnImageColor.j0 k t380 t381 bt383.1 bt383.2 bt387.1 true t370 t371 t372 t373 t374 t377))))) = some true := H
  have A3 := Aside0.mk A30
  clear A30
  replace H := Option.bind_eq_some_iff.mp H
  obtain ⟨⟨t383, t384⟩, A40, H⟩ := H
  replace H : ((spec_ImageColor.f k t370 t371 t372 t373 t374 t377 t380 t381).bind fun bt385 => ((impl_ImageAt.f k t370 t371 t372 t373 t374 t377 t380 t381).bind fun bt387 => (if t383 = bt385.1 then (if (t384 != bt385.2) = true then (laws_FnImageColor.j0 k t380 t381 t383 t384 bt387.1 true t370 t371 t372 t373 t374 t377) else (laws_FnImageColor.j0 k t380 t381 t383 t384 bt387.1 (t384 != bt387.2) t370 t371 t372 t373 t374 t377)) else (laws_FnImageColor.j0 k t380 t381 t383 t384 bt387.1 true t370 t371 t372 t373 t374 t377)))) = some true := H
  have A4 := Aside0.mk A40
  clear A40
  replace H := Option.bind_eq_some_iff.mp H
  obtain ⟨⟨t385, t386⟩, A50, H⟩ := H
  replace H : ((impl_ImageAt.f k t370 t371 t372 t373 t374 t377 t380 t381).bind fun bt387 => (if t383 = t385 then (if (t384 != t386) = true then (laws_FnImageColor.j0 k t380 t381 t383 t384 bt387.1 true t370 t371 t372 t373 t374 t377) else (laws_FnImageColor.j0 k t380 t381 t383 t384 bt387.1 (t384 != bt387.2) t370 t371 t372 t373 t374 t377)) else (laws_FnImageColor.j0 k t380 t381 t383 t384 bt387.1 true t370 t371 t372 t373 t374 t377))) = some true := H
  have A5 := Aside0.mk A50
  clear A50
  replace H := Option.bind_eq_some_iff.mp H
  obtain ⟨⟨t387, t388⟩, A60, H⟩ := H
  replace H : (if t383 = t385 then (if (t384 != t386) = true then (laws_FnImageColor.j0 k t380 t381 t383 t384 t387 true t370 t371 t372 t373 t374 t377) else (laws_FnImageColor.j0 k t380 t381 t383 t384 t387 (t384 != t388) t370 t371 t372 t373 t374 t377)) else (laws_FnImageColor.j0 k t380 t381 t383 t384 t387 true t370 t371 t372 t373 t374 t377)) = some true := H
  have A6 := Aside0.mk A60
  clear A60
  have HC7 := Aside0.mk H
  clear H
  go_enter Try.func3, Try.ntmps3
  go_upto_region 7 with (first | ((with_reducible refine gate_callee (f := 14) rfl ?_); refine goesL_ (some 19) rfl rfl Try.func14 (by kernel_rfl) rfl #[.slice A0 l0.length c0] rfl (by (try simp only [List.map_toArray, List.map_cons, List.map_nil]); first | done | rfl | (simp only [List.length_drop, List.length_take]; rfl)) ?_; (with_reducible refine (spec_DrawImageColor.calls k _ _ l0 t370 t371 t372 t373 t374 t377 t380 t381 _ ?side1 ?side2 A3.out).mono ?_); (case side1 => repeat (first | exact HR0.out | (with_reducible refine Kd.C_alloc ?_ _) | (with_reducible refine Kd.C_drewN ?_ _) | (with_reducible refine Kd.C_drew ?_))); (case side2 => exact HC0.out); rintro e w8 ⟨v375, v378, rfl, ho0, ho1, hb⟩; refine ⟨_, rfl, ?_⟩; have n0_ := Aside0.mk (Kd.R_lower ho0 (below_size (by repeat (first | (with_reducible first | exact HB.out | apply below_alloc | apply pw_below_drewN | apply below_drew1) | exact HB.out)))); have n1_ := Aside0.mk (Kd.Q_lower ho1 (below_size (by repeat (first | (with_reducible first | exact HB.out | apply below_alloc | apply pw_below_drewN | apply below_drew1) | exact HB.out)))); have n2_ := Aside0.mk (below_step (by repeat (first | (with_reducible first | exact HB.out | apply below_alloc | apply pw_below_drewN | apply below_drew1) | exact HB.out)) hb); clear HB; have HO376 := n0_; have HO379 := n1_; have HB := n2_; clear n0_ n1_ n2_; (try clear hb); (try clear hb2); (try clear hk); (try clear hi); (try clear ho0); (try clear ho1)) | ((with_reducible refine gate_dst (N := 3) rfl ?_); refine box_event ?hg (N := 3) ?hd (cs := #[.int .i64 0, .int .i64 0, .int .i64 0, .int .i64 0, .slice none 0 0, .slice none 0 0]) (t := 25) ?hr ?_; (case hd => rfl); (case hg => rfl); (case hr => first | (go_simp; done) | (go_simp; rfl)); intro gb382 hg w9 hbox hb; have n0_ := Aside0.mk (Kd.R_below (by (with_reducible repeat (first | apply Kd.R_alloc | apply Kd.R_drewN | apply Kd.R_drew)); exact HO376.out) hb); have n1_ := Aside0.mk (Kd.Q_below (by (with_reducible repeat (first | apply Kd.Q_alloc | apply Kd.Q_drewN | apply Kd.Q_drew)); exact HO379.out) hb); have n2_ := Aside0.mk (below_step (by repeat (first | (with_reducible first | exact HB.out | apply below_alloc | apply pw_below_drewN | apply below_drew1) | exact HB.out)) hb); have n3_ := Aside0.mk (hbox); have n4_ := Aside0.mk ((by rw [hg]; exact (below_size (by repeat (first | (with_reducible first | exact HB.out | apply below_alloc | apply pw_below_drewN | apply below_drew1) | exact HB.out))) : w.heap.size ≤ gb382)); have n5_ := Aside0.mk ((by rw [hg]; exact (below_size (by repeat (first | (with_reducible first | exact HB.out | apply below_alloc | apply pw_below_drewN | apply below_drew1) | exact HB.out))) : w.heap.size ≤ gb382)); clear HO376; clear HO379; clear HB; have HO376 := n0_; have HO379 := n1_; have HB := n2_; have BK382 := n3_; have GW382 := n4_; have GE382 := n5_; clear n0_ n1_ n2_ n3_ n4_ n5_; clear hb hbox hg; obtain ⟨hcz10_0, hcz10_1, hcz10_2, hcz10_3, hcz10_4, hcz10_5⟩ := bc6 BK382.out; obtain ⟨hfz10_0, hfz10_1, hfz10_2, hfz10_3, hfz10_4, hfz10_5⟩ := bf6 BK382.out; obtain ⟨Ao11, co11, eo11⟩ := Kd.R_slice HO376.out; subst eo11; obtain ⟨Ao12, co12, eo12, _⟩ := Kd.Q_slice HO379.out; subst eo12) | ((with_reducible refine gate_callee (f := 15) rfl ?_); refine goesL_ (some 27) rfl rfl Try.func15 (by kernel_rfl) rfl #[.agg #[.int .i64 t370, .int .i64 t371, .int .i64 t372, .int .i64 t373, .slice Ao11 t374.length co11, .slice Ao12 t377.length co12], .int .i64 t380, .int .i64 t381] rfl (by (try simp only [List.map_toArray, List.map_cons, List.map_nil]); first | done | rfl | (simp only [List.length_drop, List.length_take]; rfl)) ?_; (with_reducible refine (impl_ImageColor.calls k t370 t371 t372 t373 _ _ t374 _ _ t377 t380 t381 t383 t384 _ ?side1 ?side2 ?side3 ?side4 A4.out).mono ?_); (case side1 => refine (Kd.R_reads' (e := 3) (base := w.heap.size) (ok := fun k_ => some k_ ≠ (.slice Ao12 t377.length co12 : Value).ownBlock) (n := t374.length) (c := co11) ?_).2.2; exact (by (with_reducible repeat (first | apply Kd.R_alloc | apply Kd.R_drewN | apply Kd.R_drew)); exact (Kd.R_mono (Kd.R_far (Kd.R_far (Kd.R_far (Kd.R_far (Kd.R_far (Kd.R_far (Kd.R_types HO376.out BK382.out (by decide)) (fun _ hk => hk.2) (.int .i64 t370)) (fun _ hk => hk.2) (.int .i64 t371)) (fun _ hk => hk.2) (.int .i64 t372)) (fun _ hk => hk.2) (.int .i64 t373)) (fun _ hk => hk.2) (.slice Ao11 t374.length co11)) (fun _ hk => hk.2) (.slice Ao12 t377.length co12)) (fun _ h_ => h_.1)))); (case side2 => exact (Kd.R_reads' HO376.out).2.1); (case side3 => refine (Kd.Q_reads' (e := 3) (base := w.heap.size) (ok := fun k_ => some k_ ≠ (.slice Ao11 t374.length co11 : Value).ownBlock) (n := t377.length) (c := co12) ?_).2.2; exact (by (with_reducible repeat (first | apply Kd.Q_alloc | apply Kd.Q_drewN | apply Kd.Q_drew)); exact (Kd.Q_mono (Kd.Q_far (Kd.Q_far (Kd.Q_far (Kd.Q_far (Kd.Q_far (Kd.Q_far (Kd.Q_types HO379.out BK382.out (by decide)) (fun _ hk => hk.2) (.int .i64 t370)) (fun _ hk => hk.2) (.int .i64 t371)) (fun _ hk => hk.2) (.int .i64 t372)) (fun _ hk => hk.2) (.int .i64 t373)) (fun _ hk => hk.2) (.slice Ao11 t374.length co11)) (fun _ hk => hk.2) (.slice Ao12 t377.length co12)) (fun _ h_ => h_.1)))); (case side4 => exact (Kd.Q_reads' HO379.out).2.1); rintro e w13 ⟨rfl, hb⟩; refine ⟨_, rfl, ?_⟩; have n0_ := Aside0.mk (Kd.R_below (by (with_reducible repeat (first | apply Kd.R_alloc | apply Kd.R_drewN | apply Kd.R_drew)); exact (Kd.R_mono (Kd.R_far (Kd.R_far (Kd.R_far (Kd.R_far (Kd.R_far (Kd.R_far (Kd.R_types HO376.out BK382.out (by decide)) (fun _ hk => hk.2) (.int .i64 t370)) (fun _ hk => hk.2) (.int .i64 t371)) (fun _ hk => hk.2) (.int .i64 t372)) (fun _ hk => hk.2) (.int .i64 t373)) (fun _ hk => hk.2) (.slice Ao11 t374.length co11)) (fun _ hk => hk.2) (.slice Ao12 t377.length co12)) (fun _ h_ => h_.1))) hb); have n1_ := Aside0.mk (Kd.Q_below (by (with_reducible repeat (first | apply Kd.Q_alloc | apply Kd.Q_drewN | apply Kd.Q_drew)); exact (Kd.Q_mono (Kd.Q_far (Kd.Q_far (Kd.Q_far (Kd.Q_far (Kd.Q_far (Kd.Q_far (Kd.Q_types HO379.out BK382.out (by decide)) (fun _ hk => hk.2) (.int .i64 t370)) (fun _ hk => hk.2) (.int .i64 t371)) (fun _ hk => hk.2) (.int .i64 t372)) (fun _ hk => hk.2) (.int .i64 t373)) (fun _ hk => hk.2) (.slice Ao11 t374.length co11)) (fun _ hk => hk.2) (.slice Ao12 t377.length co12)) (fun _ h_ => h_.1))) hb); have n2_ := Aside0.mk (blk_below (g := gb382) (o := .cells #[.int .i64 t370, .int .i64 t371, .int .i64 t372, .int .i64 t373, .slice Ao11 t374.length co11, .slice Ao12 t377.length co12] 25 (0, 0)) (by (with_reducible repeat (first | apply blk_drewN | apply blk_drew | apply blk_alloc)); refine blk_put (cs := #[.int .i64 t370, .int .i64 t371, .int .i64 t372, .int .i64 t373, .slice Ao11 t374.length co11, .slice none 0 0]) ?_ 5 _ rfl; (with_reducible repeat (first | apply blk_drewN | apply blk_drew | apply blk_alloc)); refine blk_put (cs := #[.int .i64 t370, .int .i64 t371, .int .i64 t372, .int .i64 t373, .slice none 0 0, .slice none 0 0]) ?_ 4 _ rfl; (with_reducible repeat (first | apply blk_drewN | apply blk_drew | apply blk_alloc)); refine blk_put (cs := #[.int .i64 t370, .int .i64 t371, .int .i64 t372, .int .i64 0, .slice none 0 0, .slice none 0 0]) ?_ 3 _ rfl; (with_reducible repeat (first | apply blk_drewN | apply blk_drew | apply blk_alloc)); refine blk_put (cs := #[.int .i64 t370, .int .i64 t371, .int .i64 0, .int .i64 0, .slice none 0 0, .slice none 0 0]) ?_ 2 _ rfl; (with_reducible repeat (first | apply blk_drewN | apply blk_drew | apply blk_alloc)); refine blk_put (cs := #[.int .i64 t370, .int .i64 0, .int .i64 0, .int .i64 0, .slice none 0 0, .slice none 0 0]) ?_ 1 _ rfl; (with_reducible repeat (first | apply blk_drewN | apply blk_drew | apply blk_alloc)); refine blk_put (cs := #[.int .i64 0, .int .i64 0, .int .i64 0, .int .i64 0, .slice none 0 0, .slice none 0 0]) ?_ 0 _ rfl; (with_reducible repeat (first | apply blk_drewN | apply blk_drew | apply blk_alloc)); exact BK382.out) hb); have n3_ := Aside0.mk (below_step (by repeat (first | (with_reducible first | exact HB.out | apply below_alloc | apply pw_below_drewN | apply below_drew1 | refine below_set ?_ GE382.out) | exact HB.out)) hb); clear HO376; clear HO379; clear BK382; clear HB; have HO376 := n0_; have HO379 := n1_; have BK382 := n2_; have HB := n3_; clear n0_ n1_ n2_ n3_; (try clear hb); (try clear hb2); (try clear hk); (try clear hi); obtain ⟨hcz14_0, hcz14_1, hcz14_2, hcz14_3, hcz14_4, hcz14_5⟩ := bc6 BK382.out; obtain ⟨hfz14_0, hfz14_1, hfz14_2, hfz14_3, hfz14_4, hfz14_5⟩ := bf6 BK382.out) | ((with_reducible refine gate_callee (f := 16) rfl ?_); refine goesL_ (some 34) rfl rfl Try.func16 (by kernel_rfl) rfl #[.agg #[.int .i64 t370, .int .i64 t371, .int .i64 t372, .int .i64 t373, .slice Ao11 t374.length co11, .slice Ao12 t377.length co12], .int .i64 t380, .int .i64 t381] rfl (by (try simp only [List.map_toArray, List.map_cons, List.map_nil]); first | done | rfl | (simp only [List.length_drop, List.length_take]; rfl)) ?_; (with_reducible refine (spec_ImageColor.calls k t370 t371 t372 t373 _ _ t374 _ _ t377 t380 t381 t385 t386 _ ?side1 ?side2 ?side3 ?side4 A5.out).mono ?_); (case side1 => repeat (first | exact (Kd.R_reads' HO376.out).2.2 | (with_reducible refine Kd.C_alloc ?_ _) | (with_reducible refine Kd.C_drewN ?_ _) | (with_reducible refine Kd.C_drew ?_))); (case side2 => exact (Kd.R_reads' HO376.out).2.1); (case side3 => repeat (first | exact (Kd.Q_reads' HO379.out).2.2 | (with_reducible refine Kd.C_alloc ?_ _) | (with_reducible refine Kd.C_drewN ?_ _) | (with_reducible refine Kd.C_drew ?_))); (case side4 => exact (Kd.Q_reads' HO379.out).2.1); rintro e w15 ⟨rfl, hb⟩; refine ⟨_, rfl, ?_⟩; have n0_ := Aside0.mk (Kd.R_below (by (with_reducible repeat (first | apply Kd.R_alloc | apply Kd.R_drewN | apply Kd.R_drew)); exact HO376.out) hb); have n1_ := Aside0.mk (Kd.Q_below (by (with_reducible repeat (first | apply Kd.Q_alloc | apply Kd.Q_drewN | apply Kd.Q_drew)); exact HO379.out) hb); have n2_ := Aside0.mk (blk_below (g := gb382) (by (with_reducible repeat (first | apply blk_drewN | apply blk_drew | apply blk_alloc)); exact BK382.out) hb); have n3_ := Aside0.mk (below_step (by repeat (first | (with_reducible first | exact HB.out | apply below_alloc | apply pw_below_drewN | apply below_drew1 | refine below_set ?_ GE382.out) | exact HB.out)) hb); clear HO376; clear HO379; clear BK382; clear HB; have HO376 := n0_; have HO379 := n1_; have BK382 := n2_; have HB := n3_; clear n0_ n1_ n2_ n3_; (try clear hb); (try clear hb2); (try clear hk); (try clear hi); obtain ⟨hcz16_0, hcz16_1, hcz16_2, hcz16_3, hcz16_4, hcz16_5⟩ := bc6 BK382.out; obtain ⟨hfz16_0, hfz16_1, hfz16_2, hfz16_3, hfz16_4, hfz16_5⟩ := bf6 BK382.out) | ((with_reducible refine gate_callee (f := 17) rfl ?_); refine goesL_ (some 41) rfl rfl Try.func17 (by kernel_rfl) rfl #[.agg #[.int .i64 t370, .int .i64 t371, .int .i64 t372, .int .i64 t373, .slice Ao11 t374.length co11, .slice Ao12 t377.length co12], .int .i64 t380, .int .i64 t381] rfl (by (try simp only [List.map_toArray, List.map_cons, List.map_nil]); first | done | rfl | (simp only [List.length_drop, List.length_take]; rfl)) ?_; (with_reducible refine (impl_ImageAt.calls k t370 t371 t372 t373 _ _ t374 _ _ t377 t380 t381 t387 t388 _ ?side1 ?side2 ?side3 ?side4 A6.out).mono ?_); (case side1 => repeat (first | exact (Kd.R_reads' HO376.out).2.2 | (with_reducible refine Kd.C_alloc ?_ _) | (with_reducible refine Kd.C_drewN ?_ _) | (with_reducible refine Kd.C_drew ?_))); (case side2 => exact (Kd.R_reads' HO376.out).2.1); (case side3 => repeat (first | exact (Kd.Q_reads' HO379.out).2.2 | (with_reducible refine Kd.C_alloc ?_ _) | (with_reducible refine Kd.C_drewN ?_ _) | (with_reducible refine Kd.C_drew ?_))); (case side4 => exact (Kd.Q_reads' HO379.out).2.1); rintro e w17 ⟨rfl, hb⟩; refine ⟨_, rfl, ?_⟩; have n0_ := Aside0.mk (Kd.R_below (by (with_reducible repeat (first | apply Kd.R_alloc | apply Kd.R_drewN | apply Kd.R_drew)); exact HO376.out) hb); have n1_ := Aside0.mk (Kd.Q_below (by (with_reducible repeat (first | apply Kd.Q_alloc | apply Kd.Q_drewN | apply Kd.Q_drew)); exact HO379.out) hb); have n2_ := Aside0.mk (blk_below (g := gb382) (by (with_reducible repeat (first | apply blk_drewN | apply blk_drew | apply blk_alloc)); exact BK382.out) hb); have n3_ := Aside0.mk (below_step (by repeat (first | (with_reducible first | exact HB.out | apply below_alloc | apply pw_below_drewN | apply below_drew1 | refine below_set ?_ GE382.out) | exact HB.out)) hb); clear HO376; clear HO379; clear BK382; clear HB; have HO376 := n0_; have HO379 := n1_; have BK382 := n2_; have HB := n3_; clear n0_ n1_ n2_ n3_; (try clear hb); (try clear hb2); (try clear hk); (try clear hi)))
  (try simp only [Act.put, sA_, s0_, s1_])
  go_cut [56] (fun v56 wc => ∃ (kq : Nat) (x56_6 : Bool), v56 = .bool x56_6 ∧ Aside0 (laws_FnImageColor.j0 kq t380 t381 t383 t384 t387 x56_6 t370 t371 t372 t373 t374 t377 = some true) ∧ Aside0 (kq ≤ k) ∧ Aside0 (Kd.R (Kd.int .i64) 3 wc w.heap.size (fun k_ => some k_ ≠ ((.slice Ao12 t377.length co12) : Value).ownBlock) (.slice Ao11 t374.length co11) t374) ∧ Aside0 (Kd.Q (Kd.int .i64) 3 wc w.heap.size (fun k_ => some k_ ≠ ((.slice Ao11 t374.length co11) : Value).ownBlock) (.slice Ao12 t377.length co12) t377) ∧ Aside0 (wc.heap[gb382]? = some (.cells #[.int .i64 t370, .int .i64 t371, .int .i64 t372, .int .i64 t373, (.slice Ao11 t374.length co11), (.slice Ao12 t377.length co12)] 25 (0, 0))) ∧ Aside0 (Below w.heap.size w wc))
  case first =>
   have H := HC7.out
   clear HC7
   by_cases c18 : t383 = t385
   ·rw [if_pos c18] at H
    have c18b0 : (t383 == t385) = true := beq_iff_eq.mpr c18
    have c18b1 : (t383 != t385) = false := bne_eq_false_iff_eq.mpr c18
    clear c18
    (first | rw [c18b0] | (simp only [i64_w, i32_w]; rw [c18b0]) | skip)
    by_cases c19 : (t384 != t386) = true
    ·rw [if_pos c19] at H
     have c19b0 : (t384 != t386) = true := c19
     (try (have c19b1 : decide (t384 = t386) = false := by simpa using c19))
     (try (have c19b2 : (t384 == t386) = false := by simpa using c19))
     (try (have c19b3 : ¬ (t384 = t386) := by simpa using c19))
     clear c19
     exact absurd H (by cases k <;> simp [laws_FnImageColor.j0])
    ·rw [if_neg c19] at H
     have c19b0 : (t384 != t386) = false := by simpa using c19
     (try (have c19b1 : decide (t384 = t386) = true := by simpa using c19))
     (try (have c19b2 : (t384 == t386) = true := by simpa using c19))
     clear c19
     have H' := Aside0.mk H
     clear H
     go_wp2
     go_meet
     case rel => exact ⟨_, ((t384 != t388)), (by first | rfl | (simp; done) | (simp [*]; done)), H', ⟨by first | omega | exact Nat.le_refl _⟩, ⟨by (with_reducible repeat (first | apply Kd.R_alloc | apply Kd.R_drewN | apply Kd.R_drew)); exact HO376.out⟩, ⟨by (with_reducible repeat (first | apply Kd.Q_alloc | apply Kd.Q_drewN | apply Kd.Q_drew)); exact HO379.out⟩, ⟨by (with_reducible repeat (first | apply blk_drewN | apply blk_drew | apply blk_alloc)); exact BK382.out⟩, ⟨by repeat (first | (with_reducible first | exact HB.out | apply below_alloc | apply pw_below_drewN | apply below_drew1 | refine below_set ?_ GE382.out) | exact HB.out)⟩⟩
   ·rw [if_neg c18] at H
    have c18b0 : (t383 == t385) = false := beq_eq_false_iff_ne.mpr c18
    have c18b1 : (t383 != t385) = true := bne_iff_ne.mpr c18
    (first | rw [c18b0] | (simp only [i64_w, i32_w]; rw [c18b0]) | skip)
    exact absurd H (by cases k <;> simp [laws_FnImageColor.j0])
  case rest =>
   clear HC7
   try clear c1
   try clear c2
   try clear c2b0
   try clear c2b1
   try clear p2
   try clear c3
   try clear c14
   try clear c15
   try clear c16
   try clear c17
   try clear c18
   try clear c18b0
   try clear c18b1
   try clear c19
   try clear c19b0
   try clear c19b1
   try clear c19b2
   try clear hcz10_0
   try clear hcz10_1
   try clear hcz10_2
   try clear hcz10_3
   try clear hcz10_4
   try clear hcz10_5
   try clear hcz14_0
   try clear hcz14_1
   try clear hcz14_2
   try clear hcz14_3
   try clear hcz14_4
   try clear hcz14_5
   try clear hcz16_0
   try clear hcz16_1
   try clear hcz16_2
   try clear hcz16_3
   try clear hcz16_4
   try clear hcz16_5
   try clear hfz10_0
   try clear hfz10_1
   try clear hfz10_2
   try clear hfz10_3
   try clear hfz10_4
   try clear hfz10_5
   try clear hfz14_0
   try clear hfz14_1
   try clear hfz14_2
   try clear hfz14_3
   try clear hfz14_4
   try clear hfz14_5
   try clear hfz16_0
   try clear hfz16_1
   try clear hfz16_2
   try clear hfz16_3
   try clear hfz16_4
   try clear hfz16_5
   obtain ⟨kq, x56_6, rfl, HA, HJ6, HO_383004, HO_383005, BK382, HB⟩ := hcut
   cases kq with
   | zero => exact absurd HA.out (by simp [laws_FnImageColor.j0])
   | succ kj6 =>
    have H := HA.out
    clear HA
    simp only [laws_FnImageColor.j0] at H
    by_cases c20 : x56_6 = true
    ·subst c20
     have H1 : (some false) = some true := by first | (rw [if_pos rfl] at H; exact H) | rfl
     clear H
     have H := H1
     clear H1
     exact absurd H (by simp)
    ·replace c20 := Bool.eq_false_iff.mpr c20
     subst c20
     have H1 : (if t384 = true then ((impl_ImageFlip.f kj6 t370 t371 t372 t373 t374 t377).bind fun bt389 => ((impl_ImageColor.f kj6 bt389.1 bt389.2.1 bt389.2.2.1 bt389.2.2.2.1 bt389.2.2.2.2.1 bt389.2.2.2.2.2 t380 (wrap64 ((wrap64 (t373 - 1)) - t381))).bind fun bt399 => (if bt399.2 = true then (if bt399.1 = t383 then ((laws_wiIn.f t383 0 4294967295).bind fun t401 => (if t401 = true then (if t370 = 3 then (some true) else (some ((Int.tmod t383 256) == 255))) else (some false))) else (some false)) else (some false)))) else (if t383 = 0 then (some (t387 == 0)) else (some false))) = some true := by first | (rw [if_neg (show ¬ (false = true) by decide)] at H; exact H) | rfl
     clear H
     have H := H1
     clear H1
     by_cases c21 : t384 = true
     ·subst c21
      have H1 : ((impl_ImageFlip.f kj6 t370 t371 t372 t373 t374 t377).bind fun bt389 => ((impl_ImageColor.f kj6 bt389.1 bt389.2.1 bt389.2.2.1 bt389.2.2.2.1 bt389.2.2.2.2.1 bt389.2.2.2.2.2 t380 (wrap64 ((wrap64 (t373 - 1)) - t381))).bind fun bt399 => (if bt399.2 = true then (if bt399.1 = t383 then ((laws_wiIn.f t383 0 4294967295).bind fun t401 => (if t401 = true then (if t370 = 3 then (some true) else (some ((Int.tmod t383 256) == 255))) else (some false))) else (some false)) else (some false)))) = some true := by first | (rw [if_pos rfl] at H; exact H) | rfl
      clear H
      have H := H1
      clear H1
      replace H := Option.bind_eq_some_iff.mp H
      obtain ⟨⟨t389, t390, t391, t392, t393, t396⟩, A220, H⟩ := H
      replace H : ((impl_ImageColor.f kj6 t389 t390 t391 t392 t393 t396 t380 (wrap64 ((wrap64 (t373 - 1)) - t381))).bind fun bt399 => (if bt399.2 = true then (if bt399.1 = t383 then ((laws_wiIn.f t383 0 4294967295).bind fun t401 => (if t401 = true then (if t370 = 3 then (some true) else (some ((Int.tmod t383 256) == 255))) else (some false))) else (some false)) else (some false))) = some true := H
      have A22 := Aside0.mk A220
      clear A220
      replace H := Option.bind_eq_some_iff.mp H
      obtain ⟨⟨t399, t400⟩, A230, H⟩ := H
      replace H : (if t400 = true then (if t399 = t383 then ((laws_wiIn.f t383 0 4294967295).bind fun t401 => (if t401 = true then (if t370 = 3 then (some true) else (some ((Int.tmod t383 256) == 255))) else (some false))) else (some false)) else (some false)) = some true := H
      have A23 := Aside0.mk A230
      clear A230
      by_cases c24 : t400 = true
      ·subst c24
       have H1 : (if t399 = t383 then ((laws_wiIn.f t383 0 4294967295).bind fun t401 => (if t401 = true then (if t370 = 3 then (some true) else (some ((Int.tmod t383 256) == 255))) else (some false))) else (some false)) = some true := by first | (rw [if_pos rfl] at H; exact H) | rfl
       clear H
       have H := H1
       clear H1
       by_cases c25 : t399 = t383
       ·rw [if_pos c25] at H
        have c25b0 : (t399 == t383) = true := beq_iff_eq.mpr c25
        have c25b1 : (t399 != t383) = false := bne_eq_false_iff_eq.mpr c25
        clear c25
        replace H := Option.bind_eq_some_iff.mp H
        obtain ⟨t401, A260, H⟩ := H
        replace H : (if t401 = true then (if t370 = 3 then (some true) else (some ((Int.tmod t383 256) == 255))) else (some false)) = some true := H
        have A26 := Aside0.mk A260
        clear A260
        by_cases c27 : t401 = true
        ·subst c27
         have H1 : (if t370 = 3 then (some true) else (some ((Int.tmod t383 256) == 255))) = some true := by first | (rw [if_pos rfl] at H; exact H) | rfl
         clear H
         have H := H1
         clear H1
         by_cases c28 : t370 = 3
         ·rw [if_pos c28] at H
          have c28b0 : (t370 == 3) = true := beq_iff_eq.mpr c28
          have c28b1 : (t370 != 3) = false := bne_eq_false_iff_eq.mpr c28
          clear c28
          clear H
          try go_wp2
          have n0_ := Aside0.mk (Kd.R_drew HO_383004.out)
          have n1_ := Aside0.mk (Kd.Q_drew HO_383005.out)
          have n2_ := Aside0.mk (blk_drew BK382.out)
          have n3_ := Aside0.mk (below_drew1 HB.out)
          clear HO_383004
          clear HO_383005
          clear BK382
          clear HB
          have HO_383004 := n0_
          have HO_383005 := n1_
          have BK382 := n2_
          have HB := n3_
          clear n0_ n1_ n2_ n3_
          refine start_ (n := 14) (S := fun w' => w'.cell? ⟨gb382, 0, none⟩ = some (.int .i64 t370) ∧ w'.cell? ⟨gb382, 1, none⟩ = some (.int .i64 t371) ∧ w'.cell? ⟨gb382, 2, none⟩ = some (.int .i64 t372) ∧ w'.cell? ⟨gb382, 3, none⟩ = some (.int .i64 t373) ∧ w'.cell? ⟨gb382, 4, none⟩ = some (.slice Ao11 t374.length co11) ∧ w'.cell? ⟨gb382, 5, none⟩ = some (.slice Ao12 t377.length co12)) (ds := []) #[false, false, false, false, false, false, false, false, false, false, false, false, false, false] (by kernel_rfl) rfl rfl (bc6 BK382.out) (fun hHeld => ?_); refine with_tabW laws_FnImageColor.tab11 laws_FnImageColor.bits11 (fun HT_ HW_ => ?_)
          generalize wc.drew = w29 at HO_383004 HO_383005 BK382 HB hHeld ⊢
          refine pure_ (i := 2) (N := some 68) (v := ?_) (a' := ?_) #[false, false, true, false, false, false, false, false, false, false, false, false, false, false] rfl rfl (any_of HT_.out (by kernel_rfl)) (fun _ _ _ h => h) (Or.inl ⟨by rfl, ?_⟩) ?_ ?_
          rotate_left
          ·intro w'
           go_simp
           with_reducible rfl
          rotate_left
          ·simp only [Act.put, sA_, s0_, s1_, i64_w, i32_w]
           rfl
          refine pure_ (i := 3) (N := some 69) (v := ?_) (a' := ?_) #[false, false, true, true, false, false, false, false, false, false, false, false, false, false] rfl rfl (any_of HT_.out (by kernel_rfl)) (fun _ _ _ h => h) (Or.inl ⟨by rfl, ?_⟩) ?_ ?_
          rotate_left
          ·intro w'
           go_simp
           with_reducible rfl
          rotate_left
          ·simp only [Act.put, sA_, s0_, s1_, i64_w, i32_w]
           rfl
          refine pure_ (i := 6) (N := some 72) (v := ?_) (a' := ?_) #[false, false, true, true, false, false, true, false, false, false, false, false, false, false] rfl rfl (any_of HT_.out (by kernel_rfl)) (fun _ _ _ h => h) (Or.inl ⟨by rfl, ?_⟩) ?_ ?_
          rotate_left
          ·intro w'
           go_simp
           with_reducible rfl
          rotate_left
          ·simp only [Act.put, sA_, s0_, s1_, i64_w, i32_w]
           rfl
          refine take_ (i := 0) (N := some 66) (v := ?_) (a' := ?_) #[true, false, true, true, false, false, true, false, false, false, false, false, false, false] rfl rfl (take_ofW HT_.out HW_.out (by kernel_rfl)) (fun _ _ _ h => h) (Or.inl ⟨by rfl, ?_⟩) hHeld ?_ ?_
          rotate_left
          ·rintro w' ⟨s0, s1, s2, s3, s4, s5⟩
           go_simp
           with_reducible rfl
          rotate_left
          ·simp only [Act.put, sA_, s0_, s1_, i64_w, i32_w]
           rfl
          refine take_ (i := 4) (N := some 70) (v := ?_) (a' := ?_) #[true, false, true, true, true, false, true, false, false, false, false, false, false, false] rfl rfl (take_ofW HT_.out HW_.out (by kernel_rfl)) (fun _ _ _ h => h) (Or.inl ⟨by rfl, ?_⟩) hHeld ?_ ?_
          rotate_left
          ·rintro w' ⟨s0, s1, s2, s3, s4, s5⟩
           go_simp
           with_reducible rfl
          rotate_left
          ·simp only [Act.put, sA_, s0_, s1_, i64_w, i32_w]
           rfl
          refine pure_ (i := 5) (N := some 71) (v := ?_) (a' := ?_) #[true, false, true, true, true, true, true, false, false, false, false, false, false, false] rfl rfl (any_of HT_.out (by kernel_rfl)) (fun _ _ _ h => h) (Or.inl ⟨by rfl, ?_⟩) ?_ ?_
          rotate_left
          ·intro w'
           go_simp
           with_reducible rfl
          rotate_left
          ·simp only [Act.put, sA_, s0_, s1_, i64_w, i32_w]
           rfl
          refine pure_ (i := 7) (N := some 73) (v := ?_) (a' := ?_) #[true, false, true, true, true, true, true, true, false, false, false, false, false, false] rfl rfl (any_of HT_.out (by kernel_rfl)) (fun _ _ _ h => h) (Or.inl ⟨by rfl, ?_⟩) ?_ ?_
          rotate_left
          ·intro w'
           go_simp
           with_reducible rfl
          rotate_left
          ·simp only [Act.put, sA_, s0_, s1_, i64_w, i32_w]
           rfl
          refine one_ (i := 1) (N := some 67) #[true, true, true, true, true, true, true, true, false, false, false, false, false, false] rfl rfl (one_of HT_.out (by kernel_rfl)) (by decide) (fun K hK => ?_)
          refine goes_ Try.func18 (by kernel_rfl) rfl #[.agg #[.int .i64 t370, .int .i64 t371, .int .i64 t372, .int .i64 t373, .slice Ao11 t374.length co11, .slice Ao12 t377.length co12]] (by rfl) rfl rfl (by (try simp only [List.map_toArray, List.map_cons, List.map_nil]); first | done | rfl | (simp only [List.length_drop, List.length_take]; rfl)) ?_
          with_reducible refine (impl_ImageFlip.calls kj6 t370 t371 t372 t373 _ _ t374 _ _ t377 t389 t390 t391 t392 t393 t396 _ ?side1 ?side2 ?side3 ?side4 A22.out).mono ?_
          (case side1 => repeat (first | exact (Kd.R_reads' HO_383004.out).2.2 | (with_reducible refine Kd.C_alloc ?_ _) | (with_reducible refine Kd.C_drewN ?_ _) | (with_reducible refine Kd.C_drew ?_)))
          (case side2 => exact (Kd.R_reads' HO_383004.out).2.1)
          (case side3 => repeat (first | exact (Kd.Q_reads' HO_383005.out).2.2 | (with_reducible refine Kd.C_alloc ?_ _) | (with_reducible refine Kd.C_drewN ?_ _) | (with_reducible refine Kd.C_drew ?_)))
          (case side4 => exact (Kd.Q_reads' HO_383005.out).2.1)
          rintro e w30 ⟨v394, v397, rfl, ho0, ho1, hb⟩
          refine ⟨_, rfl, ?_⟩
          have n0_ := Aside0.mk (Kd.R_mono (Kd.R_told (Kd.R_told (Kd.R_old (by (with_reducible repeat (first | apply Kd.R_alloc | apply Kd.R_drewN | apply Kd.R_drew)); exact HO_383004.out) hb) (Kd.R_base ho0)) (Kd.R_base ho1)) (fun _ h_ => h_.1))
          have n1_ := Aside0.mk (Kd.Q_mono (Kd.Q_told (Kd.Q_told (Kd.Q_old (by (with_reducible repeat (first | apply Kd.Q_alloc | apply Kd.Q_drewN | apply Kd.Q_drew)); exact HO_383005.out) hb) (Kd.R_base ho0)) (Kd.R_base ho1)) (fun _ h_ => h_.1))
          have n2_ := Aside0.mk (Kd.R_lower (Kd.R_new' (Kd.R_new' ho0 (Kd.R_lt (by (with_reducible repeat (first | apply Kd.R_alloc | apply Kd.R_drewN | apply Kd.R_drew)); exact HO_383004.out))) (Kd.Q_lt (by (with_reducible repeat (first | apply Kd.Q_alloc | apply Kd.Q_drewN | apply Kd.Q_drew)); exact HO_383005.out))) (below_size (by repeat (first | (with_reducible first | exact HB.out | apply below_alloc | apply pw_below_drewN | apply below_drew1 | refine below_set ?_ GE382.out) | exact HB.out))))
          have n3_ := Aside0.mk (Kd.R_lower (Kd.R_new' (Kd.R_new' ho1 (Kd.R_lt (by (with_reducible repeat (first | apply Kd.R_alloc | apply Kd.R_drewN | apply Kd.R_drew)); exact HO_383004.out))) (Kd.Q_lt (by (with_reducible repeat (first | apply Kd.Q_alloc | apply Kd.Q_drewN | apply Kd.Q_drew)); exact HO_383005.out))) (below_size (by repeat (first | (with_reducible first | exact HB.out | apply below_alloc | apply pw_below_drewN | apply below_drew1 | refine below_set ?_ GE382.out) | exact HB.out))))
          have n4_ := Aside0.mk (blk_below (g := gb382) (by (with_reducible repeat (first | apply blk_drewN | apply blk_drew | apply blk_alloc)); exact BK382.out) hb)
          have n5_ := Aside0.mk (below_step (by repeat (first | (with_reducible first | exact HB.out | apply below_alloc | apply pw_below_drewN | apply below_drew1 | refine below_set ?_ GE382.out) | exact HB.out)) hb)
          clear HO_383004
          clear HO_383005
          clear BK382
          clear HB
          have HO_383004 := n0_
          have HO_383005 := n1_
          have HO395 := n2_
          have HO398 := n3_
          have BK382 := n4_
          have HB := n5_
          clear n0_ n1_ n2_ n3_ n4_ n5_
          (try clear hb)
          (try clear hb2)
          (try clear hk)
          (try clear hi)
          (try clear ho0)
          (try clear ho1)
          obtain ⟨Ao31, co31, eo31⟩ := Kd.R_slice HO395.out
          (first | subst eo31 | (injection eo31 with f1_ f2_ f3_; have f4_ := f1_.symm; have f5_ := f3_.symm; clear f1_ f2_ f3_; subst f4_; subst f5_))
          obtain ⟨Ao32, co32, eo32⟩ := Kd.R_slice HO398.out
          (first | subst eo32 | (injection eo32 with f1_ f2_ f3_; have f4_ := f1_.symm; have f5_ := f3_.symm; clear f1_ f2_ f3_; subst f4_; subst f5_))
          refine hK.out _ _ (bc6 BK382.out) (fun hHeld => ?_)
          clear hK K
          refine norm_ (a' := ?_) ?_ ?_
          rotate_left
          ·show Act.put _ (some 67) _ = _
           simp only [Act.put, sA_, s0_, s1_, i64_w, i32_w]
           rfl
          refine one_ (i := 8) (N := some 74) #[true, true, true, true, true, true, true, true, true, false, false, false, false, false] rfl rfl (one_of HT_.out (by kernel_rfl)) (by decide) (fun K hK => ?_)
          refine goes_ Try.func15 (by kernel_rfl) rfl #[.agg #[.int .i64 t389, .int .i64 t390, .int .i64 t391, .int .i64 t392, .slice Ao31 t393.length co31, .slice Ao32 t396.length co32], .int .i64 t380, .int .i64 (wrap64 ((wrap64 (t373 - 1)) - t381))] (by rfl) rfl rfl (by (try simp only [List.map_toArray, List.map_cons, List.map_nil]); first | done | rfl | (simp only [List.length_drop, List.length_take]; rfl)) ?_
          with_reducible refine (impl_ImageColor.calls kj6 t389 t390 t391 t392 _ _ t393 _ _ t396 t380 (wrap64 ((wrap64 (t373 - 1)) - t381)) t399 true _ ?side1 ?side2 ?side3 ?side4 A23.out).mono ?_
          (case side1 => repeat (first | exact (Kd.R_reads' HO395.out).2.2 | (with_reducible refine Kd.C_alloc ?_ _) | (with_reducible refine Kd.C_drewN ?_ _) | (with_reducible refine Kd.C_drew ?_)))
          (case side2 => exact (Kd.R_reads' HO395.out).2.1)
          (case side3 => repeat (first | exact (Kd.R_reads' HO398.out).2.2 | (with_reducible refine Kd.C_alloc ?_ _) | (with_reducible refine Kd.C_drewN ?_ _) | (with_reducible refine Kd.C_drew ?_)))
          (case side4 => exact (Kd.R_reads' HO398.out).2.1)
          rintro e w33 ⟨rfl, hb⟩
          refine ⟨_, rfl, ?_⟩
          have n0_ := Aside0.mk (Kd.R_below (by (with_reducible repeat (first | apply Kd.R_alloc | apply Kd.R_drewN | apply Kd.R_drew)); exact HO_383004.out) hb)
          have n1_ := Aside0.mk (Kd.Q_below (by (with_reducible repeat (first | apply Kd.Q_alloc | apply Kd.Q_drewN | apply Kd.Q_drew)); exact HO_383005.out) hb)
          have n2_ := Aside0.mk (Kd.R_below (by (with_reducible repeat (first | apply Kd.R_alloc | apply Kd.R_drewN | apply Kd.R_drew)); exact HO395.out) hb)
          have n3_ := Aside0.mk (Kd.R_below (by (with_reducible repeat (first | apply Kd.R_alloc | apply Kd.R_drewN | apply Kd.R_drew)); exact HO398.out) hb)
          have n4_ := Aside0.mk (blk_below (g := gb382) (by (with_reducible repeat (first | apply blk_drewN | apply blk_drew | apply blk_alloc)); exact BK382.out) hb)
          have n5_ := Aside0.mk (below_step (by repeat (first | (with_reducible first | exact HB.out | apply below_alloc | apply pw_below_drewN | apply below_drew1 | refine below_set ?_ GE382.out) | exact HB.out)) hb)
          clear HO_383004
          clear HO_383005
          clear HO395
          clear HO398
          clear BK382
          clear HB
          have HO_383004 := n0_
          have HO_383005 := n1_
          have HO395 := n2_
          have HO398 := n3_
          have BK382 := n4_
          have HB := n5_
          clear n0_ n1_ n2_ n3_ n4_ n5_
          (try clear hb)
          (try clear hb2)
          (try clear hk)
          (try clear hi)
          refine hK.out _ _ (bc6 BK382.out) (fun hHeld => ?_)
          clear hK K
          refine norm_ (a' := ?_) ?_ ?_
          rotate_left
          ·show Act.put _ (some 74) _ = _
           simp only [Act.put, sA_, s0_, s1_, i64_w, i32_w]
           rfl
          refine pure_ (i := 9) (N := some 65) (v := ?_) (a' := ?_) #[true, true, true, true, true, true, true, true, true, true, false, false, false, false] rfl rfl (any_of HT_.out (by kernel_rfl)) (fun _ _ _ h => h) (Or.inl ⟨by rfl, ?_⟩) ?_ ?_
          rotate_left
          ·intro w'
           go_simp
           with_reducible rfl
          rotate_left
          ·simp only [Act.put, sA_, s0_, s1_, i64_w, i32_w]
           rfl
          refine pure_ (i := 10) (N := some 75) (v := ?_) (a' := ?_) #[true, true, true, true, true, true, true, true, true, true, true, false, false, false] rfl rfl (any_of HT_.out (by kernel_rfl)) (fun _ _ _ h => h) (Or.inl ⟨by rfl, ?_⟩) ?_ ?_
          rotate_left
          ·intro w'
           go_simp
           with_reducible rfl
          rotate_left
          ·simp only [Act.put, sA_, s0_, s1_, i64_w, i32_w]
           rfl
          refine pure_ (i := 11) (N := some 76) (v := ?_) (a' := ?_) #[true, true, true, true, true, true, true, true, true, true, true, true, false, false] rfl rfl (any_of HT_.out (by kernel_rfl)) (fun _ _ _ h => h) (Or.inl ⟨by rfl, ?_⟩) ?_ ?_
          rotate_left
          ·intro w'
           go_simp
           with_reducible rfl
          rotate_left
          ·simp only [Act.put, sA_, s0_, s1_, i64_w, i32_w]
           rfl
          refine pure_ (i := 12) (N := some 12) (v := ?_) (a' := ?_) #[true, true, true, true, true, true, true, true, true, true, true, true, true, false] rfl rfl (any_of HT_.out (by kernel_rfl)) (fun _ _ _ h => h) (Or.inl ⟨by rfl, ?_⟩) ?_ ?_
          rotate_left
          ·intro w'
           go_simp
           with_reducible rfl
          rotate_left
          ·simp only [Act.put, sA_, s0_, s1_, i64_w, i32_w]
           rfl
          refine pure_ (i := 13) (N := some 13) (v := ?_) (a' := ?_) #[true, true, true, true, true, true, true, true, true, true, true, true, true, true] rfl rfl (any_of HT_.out (by kernel_rfl)) (fun _ _ _ h => h) (Or.inl ⟨by rfl, ?_⟩) ?_ ?_
          rotate_left
          ·intro w'
           go_simp
           with_reducible rfl
          rotate_left
          ·simp only [Act.put, sA_, s0_, s1_, i64_w, i32_w]
           rfl
          refine done_ (done_of HT_.out (by kernel_rfl)) ?_
          try go_wp2_with (first | (go_at_call 19; (with_reducible refine (laws_wiIn.calls t383 0 4294967295 true _ A26.out).mono ?_); rintro e w' ⟨rfl, ⟨nd, rfl⟩⟩; obtain ⟨hcz34_0, hcz34_1, hcz34_2, hcz34_3, hcz34_4, hcz34_5⟩ := bc6 BK382.out; obtain ⟨hfz34_0, hfz34_1, hfz34_2, hfz34_3, hfz34_4, hfz34_5⟩ := bf6 BK382.out))
          go_ret
          exact ⟨by first | rfl | (simp [errW_none, errW_some] <;> rfl) | (simp [*, errW_none, errW_some] <;> rfl), by repeat (first | (with_reducible first | exact HB.out | apply below_alloc | apply pw_below_drewN | apply below_drew1 | refine below_set ?_ GE382.out) | exact HB.out)⟩
         ·rw [if_neg c28] at H
          have c28b0 : (t370 == 3) = false := beq_eq_false_iff_ne.mpr c28
          have c28b1 : (t370 != 3) = true := bne_iff_ne.mpr c28
          have HX_ := Option.some.inj H
          clear H
          try subst HX_
          try go_wp2
          have n0_ := Aside0.mk (Kd.R_drew HO_383004.out)
          have n1_ := Aside0.mk (Kd.Q_drew HO_383005.out)
          have n2_ := Aside0.mk (blk_drew BK382.out)
          have n3_ := Aside0.mk (below_drew1 HB.out)
          clear HO_383004
          clear HO_383005
          clear BK382
          clear HB
          have HO_383004 := n0_
          have HO_383005 := n1_
          have BK382 := n2_
          have HB := n3_
          clear n0_ n1_ n2_ n3_
          refine start_ (n := 14) (S := fun w' => w'.cell? ⟨gb382, 0, none⟩ = some (.int .i64 t370) ∧ w'.cell? ⟨gb382, 1, none⟩ = some (.int .i64 t371) ∧ w'.cell? ⟨gb382, 2, none⟩ = some (.int .i64 t372) ∧ w'.cell? ⟨gb382, 3, none⟩ = some (.int .i64 t373) ∧ w'.cell? ⟨gb382, 4, none⟩ = some (.slice Ao11 t374.length co11) ∧ w'.cell? ⟨gb382, 5, none⟩ = some (.slice Ao12 t377.length co12)) (ds := []) #[false, false, false, false, false, false, false, false, false, false, false, false, false, false] (by kernel_rfl) rfl rfl (bc6 BK382.out) (fun hHeld => ?_); refine with_tabW laws_FnImageColor.tab11 laws_FnImageColor.bits11 (fun HT_ HW_ => ?_)
          generalize wc.drew = w35 at HO_383004 HO_383005 BK382 HB hHeld ⊢
          refine pure_ (i := 2) (N := some 68) (v := ?_) (a' := ?_) #[false, false, true, false, false, false, false, false, false, false, false, false, false, false] rfl rfl (any_of HT_.out (by kernel_rfl)) (fun _ _ _ h => h) (Or.inl ⟨by rfl, ?_⟩) ?_ ?_
          rotate_left
          ·intro w'
           go_simp
           with_reducible rfl
          rotate_left
          ·simp only [Act.put, sA_, s0_, s1_, i64_w, i32_w]
           rfl
          refine pure_ (i := 3) (N := some 69) (v := ?_) (a' := ?_) #[false, false, true, true, false, false, false, false, false, false, false, false, false, false] rfl rfl (any_of HT_.out (by kernel_rfl)) (fun _ _ _ h => h) (Or.inl ⟨by rfl, ?_⟩) ?_ ?_
          rotate_left
          ·intro w'
           go_simp
           with_reducible rfl
          rotate_left
          ·simp only [Act.put, sA_, s0_, s1_, i64_w, i32_w]
           rfl
          refine pure_ (i := 6) (N := some 72) (v := ?_) (a' := ?_) #[false, false, true, true, false, false, true, false, false, false, false, false, false, false] rfl rfl (any_of HT_.out (by kernel_rfl)) (fun _ _ _ h => h) (Or.inl ⟨by rfl, ?_⟩) ?_ ?_
          rotate_left
          ·intro w'
           go_simp
           with_reducible rfl
          rotate_left
          ·simp only [Act.put, sA_, s0_, s1_, i64_w, i32_w]
           rfl
          refine take_ (i := 0) (N := some 66) (v := ?_) (a' := ?_) #[true, false, true, true, false, false, true, false, false, false, false, false, false, false] rfl rfl (take_ofW HT_.out HW_.out (by kernel_rfl)) (fun _ _ _ h => h) (Or.inl ⟨by rfl, ?_⟩) hHeld ?_ ?_
          rotate_left
          ·rintro w' ⟨s0, s1, s2, s3, s4, s5⟩
           go_simp
           with_reducible rfl
          rotate_left
          ·simp only [Act.put, sA_, s0_, s1_, i64_w, i32_w]
           rfl
          refine take_ (i := 4) (N := some 70) (v := ?_) (a' := ?_) #[true, false, true, true, true, false, true, false, false, false, false, false, false, false] rfl rfl (take_ofW HT_.out HW_.out (by kernel_rfl)) (fun _ _ _ h => h) (Or.inl ⟨by rfl, ?_⟩) hHeld ?_ ?_
          rotate_left
          ·rintro w' ⟨s0, s1, s2, s3, s4, s5⟩
           go_simp
           with_reducible rfl
          rotate_left
          ·simp only [Act.put, sA_, s0_, s1_, i64_w, i32_w]
           rfl
          refine pure_ (i := 5) (N := some 71) (v := ?_) (a' := ?_) #[true, false, true, true, true, true, true, false, false, false, false, false, false, false] rfl rfl (any_of HT_.out (by kernel_rfl)) (fun _ _ _ h => h) (Or.inl ⟨by rfl, ?_⟩) ?_ ?_
          rotate_left
          ·intro w'
           go_simp
           with_reducible rfl
          rotate_left
          ·simp only [Act.put, sA_, s0_, s1_, i64_w, i32_w]
           rfl
          refine pure_ (i := 7) (N := some 73) (v := ?_) (a' := ?_) #[true, false, true, true, true, true, true, true, false, false, false, false, false, false] rfl rfl (any_of HT_.out (by kernel_rfl)) (fun _ _ _ h => h) (Or.inl ⟨by rfl, ?_⟩) ?_ ?_
          rotate_left
          ·intro w'
           go_simp
           with_reducible rfl
          rotate_left
          ·simp only [Act.put, sA_, s0_, s1_, i64_w, i32_w]
           rfl
          refine one_ (i := 1) (N := some 67) #[true, true, true, true, true, true, true, true, false, false, false, false, false, false] rfl rfl (one_of HT_.out (by kernel_rfl)) (by decide) (fun K hK => ?_)
          refine goes_ Try.func18 (by kernel_rfl) rfl #[.agg #[.int .i64 t370, .int .i64 t371, .int .i64 t372, .int .i64 t373, .slice Ao11 t374.length co11, .slice Ao12 t377.length co12]] (by rfl) rfl rfl (by (try simp only [List.map_toArray, List.map_cons, List.map_nil]); first | done | rfl | (simp only [List.length_drop, List.length_take]; rfl)) ?_
          with_reducible refine (impl_ImageFlip.calls kj6 t370 t371 t372 t373 _ _ t374 _ _ t377 t389 t390 t391 t392 t393 t396 _ ?side1 ?side2 ?side3 ?side4 A22.out).mono ?_
          (case side1 => repeat (first | exact (Kd.R_reads' HO_383004.out).2.2 | (with_reducible refine Kd.C_alloc ?_ _) | (with_reducible refine Kd.C_drewN ?_ _) | (with_reducible refine Kd.C_drew ?_)))
          (case side2 => exact (Kd.R_reads' HO_383004.out).2.1)
          (case side3 => repeat (first | exact (Kd.Q_reads' HO_383005.out).2.2 | (with_reducible refine Kd.C_alloc ?_ _) | (with_reducible refine Kd.C_drewN ?_ _) | (with_reducible refine Kd.C_drew ?_)))
          (case side4 => exact (Kd.Q_reads' HO_383005.out).2.1)
          rintro e w36 ⟨v394, v397, rfl, ho0, ho1, hb⟩
          refine ⟨_, rfl, ?_⟩
          have n0_ := Aside0.mk (Kd.R_mono (Kd.R_told (Kd.R_told (Kd.R_old (by (with_reducible repeat (first | apply Kd.R_alloc | apply Kd.R_drewN | apply Kd.R_drew)); exact HO_383004.out) hb) (Kd.R_base ho0)) (Kd.R_base ho1)) (fun _ h_ => h_.1))
          have n1_ := Aside0.mk (Kd.Q_mono (Kd.Q_told (Kd.Q_told (Kd.Q_old (by (with_reducible repeat (first | apply Kd.Q_alloc | apply Kd.Q_drewN | apply Kd.Q_drew)); exact HO_383005.out) hb) (Kd.R_base ho0)) (Kd.R_base ho1)) (fun _ h_ => h_.1))
          have n2_ := Aside0.mk (Kd.R_lower (Kd.R_new' (Kd.R_new' ho0 (Kd.R_lt (by (with_reducible repeat (first | apply Kd.R_alloc | apply Kd.R_drewN | apply Kd.R_drew)); exact HO_383004.out))) (Kd.Q_lt (by (with_reducible repeat (first | apply Kd.Q_alloc | apply Kd.Q_drewN | apply Kd.Q_drew)); exact HO_383005.out))) (below_size (by repeat (first | (with_reducible first | exact HB.out | apply below_alloc | apply pw_below_drewN | apply below_drew1 | refine below_set ?_ GE382.out) | exact HB.out))))
          have n3_ := Aside0.mk (Kd.R_lower (Kd.R_new' (Kd.R_new' ho1 (Kd.R_lt (by (with_reducible repeat (first | apply Kd.R_alloc | apply Kd.R_drewN | apply Kd.R_drew)); exact HO_383004.out))) (Kd.Q_lt (by (with_reducible repeat (first | apply Kd.Q_alloc | apply Kd.Q_drewN | apply Kd.Q_drew)); exact HO_383005.out))) (below_size (by repeat (first | (with_reducible first | exact HB.out | apply below_alloc | apply pw_below_drewN | apply below_drew1 | refine below_set ?_ GE382.out) | exact HB.out))))
          have n4_ := Aside0.mk (blk_below (g := gb382) (by (with_reducible repeat (first | apply blk_drewN | apply blk_drew | apply blk_alloc)); exact BK382.out) hb)
          have n5_ := Aside0.mk (below_step (by repeat (first | (with_reducible first | exact HB.out | apply below_alloc | apply pw_below_drewN | apply below_drew1 | refine below_set ?_ GE382.out) | exact HB.out)) hb)
          clear HO_383004
          clear HO_383005
          clear BK382
          clear HB
          have HO_383004 := n0_
          have HO_383005 := n1_
          have HO395 := n2_
          have HO398 := n3_
          have BK382 := n4_
          have HB := n5_
          clear n0_ n1_ n2_ n3_ n4_ n5_
          (try clear hb)
          (try clear hb2)
          (try clear hk)
          (try clear hi)
          (try clear ho0)
          (try clear ho1)
          obtain ⟨Ao37, co37, eo37⟩ := Kd.R_slice HO395.out
          (first | subst eo37 | (injection eo37 with f1_ f2_ f3_; have f4_ := f1_.symm; have f5_ := f3_.symm; clear f1_ f2_ f3_; subst f4_; subst f5_))
          obtain ⟨Ao38, co38, eo38⟩ := Kd.R_slice HO398.out
          (first | subst eo38 | (injection eo38 with f1_ f2_ f3_; have f4_ := f1_.symm; have f5_ := f3_.symm; clear f1_ f2_ f3_; subst f4_; subst f5_))
          refine hK.out _ _ (bc6 BK382.out) (fun hHeld => ?_)
          clear hK K
          refine norm_ (a' := ?_) ?_ ?_
          rotate_left
          ·show Act.put _ (some 67) _ = _
           simp only [Act.put, sA_, s0_, s1_, i64_w, i32_w]
           rfl
          refine one_ (i := 8) (N := some 74) #[true, true, true, true, true, true, true, true, true, false, false, false, false, false] rfl rfl (one_of HT_.out (by kernel_rfl)) (by decide) (fun K hK => ?_)
          refine goes_ Try.func15 (by kernel_rfl) rfl #[.agg #[.int .i64 t389, .int .i64 t390, .int .i64 t391, .int .i64 t392, .slice Ao37 t393.length co37, .slice Ao38 t396.length co38], .int .i64 t380, .int .i64 (wrap64 ((wrap64 (t373 - 1)) - t381))] (by rfl) rfl rfl (by (try simp only [List.map_toArray, List.map_cons, List.map_nil]); first | done | rfl | (simp only [List.length_drop, List.length_take]; rfl)) ?_
          with_reducible refine (impl_ImageColor.calls kj6 t389 t390 t391 t392 _ _ t393 _ _ t396 t380 (wrap64 ((wrap64 (t373 - 1)) - t381)) t399 true _ ?side1 ?side2 ?side3 ?side4 A23.out).mono ?_
          (case side1 => repeat (first | exact (Kd.R_reads' HO395.out).2.2 | (with_reducible refine Kd.C_alloc ?_ _) | (with_reducible refine Kd.C_drewN ?_ _) | (with_reducible refine Kd.C_drew ?_)))
          (case side2 => exact (Kd.R_reads' HO395.out).2.1)
          (case side3 => repeat (first | exact (Kd.R_reads' HO398.out).2.2 | (with_reducible refine Kd.C_alloc ?_ _) | (with_reducible refine Kd.C_drewN ?_ _) | (with_reducible refine Kd.C_drew ?_)))
          (case side4 => exact (Kd.R_reads' HO398.out).2.1)
          rintro e w39 ⟨rfl, hb⟩
          refine ⟨_, rfl, ?_⟩
          have n0_ := Aside0.mk (Kd.R_below (by (with_reducible repeat (first | apply Kd.R_alloc | apply Kd.R_drewN | apply Kd.R_drew)); exact HO_383004.out) hb)
          have n1_ := Aside0.mk (Kd.Q_below (by (with_reducible repeat (first | apply Kd.Q_alloc | apply Kd.Q_drewN | apply Kd.Q_drew)); exact HO_383005.out) hb)
          have n2_ := Aside0.mk (Kd.R_below (by (with_reducible repeat (first | apply Kd.R_alloc | apply Kd.R_drewN | apply Kd.R_drew)); exact HO395.out) hb)
          have n3_ := Aside0.mk (Kd.R_below (by (with_reducible repeat (first | apply Kd.R_alloc | apply Kd.R_drewN | apply Kd.R_drew)); exact HO398.out) hb)
          have n4_ := Aside0.mk (blk_below (g := gb382) (by (with_reducible repeat (first | apply blk_drewN | apply blk_drew | apply blk_alloc)); exact BK382.out) hb)
          have n5_ := Aside0.mk (below_step (by repeat (first | (with_reducible first | exact HB.out | apply below_alloc | apply pw_below_drewN | apply below_drew1 | refine below_set ?_ GE382.out) | exact HB.out)) hb)
          clear HO_383004
          clear HO_383005
          clear HO395
          clear HO398
          clear BK382
          clear HB
          have HO_383004 := n0_
          have HO_383005 := n1_
          have HO395 := n2_
          have HO398 := n3_
          have BK382 := n4_
          have HB := n5_
          clear n0_ n1_ n2_ n3_ n4_ n5_
          (try clear hb)
          (try clear hb2)
          (try clear hk)
          (try clear hi)
          refine hK.out _ _ (bc6 BK382.out) (fun hHeld => ?_)
          clear hK K
          refine norm_ (a' := ?_) ?_ ?_
          rotate_left
          ·show Act.put _ (some 74) _ = _
           simp only [Act.put, sA_, s0_, s1_, i64_w, i32_w]
           rfl
          refine pure_ (i := 9) (N := some 65) (v := ?_) (a' := ?_) #[true, true, true, true, true, true, true, true, true, true, false, false, false, false] rfl rfl (any_of HT_.out (by kernel_rfl)) (fun _ _ _ h => h) (Or.inl ⟨by rfl, ?_⟩) ?_ ?_
          rotate_left
          ·intro w'
           go_simp
           with_reducible rfl
          rotate_left
          ·simp only [Act.put, sA_, s0_, s1_, i64_w, i32_w]
           rfl
          refine pure_ (i := 10) (N := some 75) (v := ?_) (a' := ?_) #[true, true, true, true, true, true, true, true, true, true, true, false, false, false] rfl rfl (any_of HT_.out (by kernel_rfl)) (fun _ _ _ h => h) (Or.inl ⟨by rfl, ?_⟩) ?_ ?_
          rotate_left
          ·intro w'
           go_simp
           with_reducible rfl
          rotate_left
          ·simp only [Act.put, sA_, s0_, s1_, i64_w, i32_w]
           rfl
          refine pure_ (i := 11) (N := some 76) (v := ?_) (a' := ?_) #[true, true, true, true, true, true, true, true, true, true, true, true, false, false] rfl rfl (any_of HT_.out (by kernel_rfl)) (fun _ _ _ h => h) (Or.inl ⟨by rfl, ?_⟩) ?_ ?_
          rotate_left
          ·intro w'
           go_simp
           with_reducible rfl
          rotate_left
          ·simp only [Act.put, sA_, s0_, s1_, i64_w, i32_w]
           rfl
          refine pure_ (i := 12) (N := some 12) (v := ?_) (a' := ?_) #[true, true, true, true, true, true, true, true, true, true, true, true, true, false] rfl rfl (any_of HT_.out (by kernel_rfl)) (fun _ _ _ h => h) (Or.inl ⟨by rfl, ?_⟩) ?_ ?_
          rotate_left
          ·intro w'
           go_simp
           with_reducible rfl
          rotate_left
          ·simp only [Act.put, sA_, s0_, s1_, i64_w, i32_w]
           rfl
          refine pure_ (i := 13) (N := some 13) (v := ?_) (a' := ?_) #[true, true, true, true, true, true, true, true, true, true, true, true, true, true] rfl rfl (any_of HT_.out (by kernel_rfl)) (fun _ _ _ h => h) (Or.inl ⟨by rfl, ?_⟩) ?_ ?_
          rotate_left
          ·intro w'
           go_simp
           with_reducible rfl
          rotate_left
          ·simp only [Act.put, sA_, s0_, s1_, i64_w, i32_w]
           rfl
          refine done_ (done_of HT_.out (by kernel_rfl)) ?_
          try go_wp2_with (first | (go_at_call 19; (with_reducible refine (laws_wiIn.calls t383 0 4294967295 true _ A26.out).mono ?_); rintro e w' ⟨rfl, ⟨nd, rfl⟩⟩; obtain ⟨hcz40_0, hcz40_1, hcz40_2, hcz40_3, hcz40_4, hcz40_5⟩ := bc6 BK382.out; obtain ⟨hfz40_0, hfz40_1, hfz40_2, hfz40_3, hfz40_4, hfz40_5⟩ := bf6 BK382.out))
          go_ret
          exact ⟨by first | rfl | (simp [errW_none, errW_some] <;> rfl) | (simp [*, errW_none, errW_some] <;> rfl), by repeat (first | (with_reducible first | exact HB.out | apply below_alloc | apply pw_below_drewN | apply below_drew1 | refine below_set ?_ GE382.out) | exact HB.out)⟩
        ·replace c27 := Bool.eq_false_iff.mpr c27
         subst c27
         have H1 : (some false) = some true := by first | (rw [if_neg (show ¬ (false = true) by decide)] at H; exact H) | rfl
         clear H
         have H := H1
         clear H1
         exact absurd H (by simp)
       ·rw [if_neg c25] at H
        have c25b0 : (t399 == t383) = false := beq_eq_false_iff_ne.mpr c25
        have c25b1 : (t399 != t383) = true := bne_iff_ne.mpr c25
        exact absurd H (by simp)
      ·replace c24 := Bool.eq_false_iff.mpr c24
       subst c24
       have H1 : (some false) = some true := by first | (rw [if_neg (show ¬ (false = true) by decide)] at H; exact H) | rfl
       clear H
       have H := H1
       clear H1
       exact absurd H (by simp)
     ·replace c21 := Bool.eq_false_iff.mpr c21
      subst c21
      have H1 : (if t383 = 0 then (some (t387 == 0)) else (some false)) = some true := by first | (rw [if_neg (show ¬ (false = true) by decide)] at H; exact H) | rfl
      clear H
      have H := H1
      clear H1
      by_cases c41 : t383 = 0
      ·rw [if_pos c41] at H
       have c41b0 : (t383 == 0) = true := beq_iff_eq.mpr c41
       have c41b1 : (t383 != 0) = false := bne_eq_false_iff_eq.mpr c41
       clear c41
       have HX_ := Option.some.inj H
       clear H
       try subst HX_
       go_wp2
       go_ret
       exact ⟨by first | rfl | (simp [errW_none, errW_some] <;> rfl) | (simp [*, errW_none, errW_some] <;> rfl), by repeat (first | (with_reducible first | exact HB.out | apply below_alloc | apply pw_below_drewN | apply below_drew1 | refine below_set ?_ GE382.out) | exact HB.out)⟩
      ·rw [if_neg c41] at H
       have c41b0 : (t383 == 0) = false := beq_eq_false_iff_ne.mpr c41
       have c41b1 : (t383 != 0) = true := bne_iff_ne.mpr c41
       exact absurd H (by simp)

/-- THE ONE PURE STATEMENT of laws_FnImageColor: yours. -/
def laws_FnImageColor.Pure : Prop := ∀ (l0 : List Int), l0.length ≤ maxLen → l0.length * 1 ≤ 140737488351232 → (∀ x ∈ l0, (Lit.int .u8 x).wf = true) → ∃ k, laws_FnImageColor.f k l0 = some true
theorem laws_FnImageColor.walk (P : laws_FnImageColor.Pure) (a0 : Option Addr) (len0 cap0 : Nat) (z0 : List Int) (w : World) (w0 : (a0 = none ∧ len0 = 0 ∧ cap0 = 0 ∧ z0 = []) ∨ ∃ x, a0 = some x ∧ len0 ≤ cap0 ∧ cap0 ≤ maxLen ∧ z0.length = cap0 ∧ (∀ i, i < z0.length → w.cell? (x.add i) = some (.int .u8 (z0.getD i 0))) ∧ ∀ n ∈ z0, (Lit.int .u8 n).wf = true) (y0 : len0 * 1 ≤ 140737488351232) :
  Calls Try.prog 3 #[.slice a0 len0 cap0] w fun e w' => e = .returned (.bool true) ∧ Below w.heap.size w w' := by
 obtain ⟨l0, rfl, hr0, hm0, hw0, hc0⟩ := ReadsInt.ofRowC w0
 obtain ⟨k, h⟩ := P l0 hm0 y0 hw0
 refine (laws_FnImageColor.calls k _ _ l0 w (Kd.C_of_reads (d := (0 : Int)) (h1 := fun _ => rfl) hr0) hc0 h).mono ?_
 rintro e w' ⟨rfl, hd⟩
 exact ⟨rfl, hd⟩

end Go.Proofs.Ytabjhgimeldpeaa.PFnImageColor
