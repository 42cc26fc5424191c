/- What the functions that the law comes to compute, as plain functions, and that the machine's calls come to just that: written by a program for this claim, and turned where Lean did not take it. No condition. -/
import Derived.Test.YtkjfefiphdloiaaHFnExactImagePalx0
import Derived.Test.YtkjfefiphdloiaaHFnExactImagePalx2
import Derived.Test.YtkjfefiphdloiaaHFnExactImagePalx4
namespace Go.Proofs.Ytkjfefiphdloiaa.PFnExactImagePal
open Go.RowKit Go.Proofs.YtkjfefiphdloiaaW.PrintWords Go.Proofs.YtkjfefiphdloiaaW.PrintLast Go.Proofs.YtkjfefiphdloiaaW.PrintMore
attribute [local go_sem] max2_int min2_int max_two min_two max_three min_three max_four min_four   -- for this text's walks alone
set_option linter.unusedVariables false
set_option linter.unusedSimpArgs false

/-! ### spec_ImagePal: function 36 -/
mutual
def spec_ImagePal.l0 : Nat → Int → Int → Int → Int → Int → List Int → List Int → Int → Int → Int → Int → List Int → List Int → Option (Int × Int × Int × Int × List Int × List Int × Bool)
 | 0, _, _, _, _, _, _, _, _, _, _, _, _, _ => none
 | k + 1, x7, x174000, x174001, x174002, x174003, x174004, x174005, x175000, x175001, x175002, x175003, x175004, x175005 => if x7 < (x174005.length : Int) then (if 0 ≤ x7 then ((spec_l8Find.f k x175004 (rd x174005 x7)).bind fun t176 => (if t176 < 0 then (if x175004.length < 17592186044416 then (if x175005.length < 17592186044416 then (spec_ImagePal.l0 k (wrap64 (x7 + 1)) x174000 x174001 x174002 x174003 x174004 x174005 x175000 x175001 x175002 x175003 (x175004 ++ [rd x174005 x7]) (x175005 ++ [(x175004.length : Int)])) else (none)) else (none)) else (if x175005.length < 17592186044416 then (spec_ImagePal.l0 k (wrap64 (x7 + 1)) x174000 x174001 x174002 x174003 x174004 x174005 x175000 x175001 x175002 x175003 x175004 (x175005 ++ [t176])) else (none)))) else (none)) else (spec_ImagePal.l1 k x175000 x175001 x175002 x175003 x175004 x175005)
def spec_ImagePal.l1 : Nat → Int → Int → Int → Int → List Int → List Int → Option (Int × Int × Int × Int × List Int × List Int × Bool)
 | 0, _, _, _, _, _, _ => none
 | k + 1, x175000, x175001, x175002, x175003, x175004, x175005 => (spec_l1Pow.f k x175001).bind fun t187 => (if t187 < (x175004.length : Int) then (spec_ImagePal.l1 k x175000 (wrap64 (x175001 * 2)) x175002 x175003 x175004 x175005) else (if x175001 > 8 then (some (0, 0, 0, 0, ([] : List Int), ([] : List Int), false)) else (some (x175000, x175001, x175002, x175003, x175004, x175005, true))))
end
def spec_ImagePal.f (k : Nat) (a0_0 : Int) (a0_1 : Int) (a0_2 : Int) (a0_3 : Int) (l0_4 : List Int) (l0_5 : List Int) : Option (Int × Int × Int × Int × List Int × List Int × Bool) := (spec_ImageRgb.f k a0_0 a0_1 a0_2 a0_3 l0_4 l0_5).bind fun bt162 => (if bt162.2.2.2.2.2.2 = true then (spec_ImagePal.l0 k 0 bt162.1 bt162.2.1 bt162.2.2.1 bt162.2.2.2.1 bt162.2.2.2.2.1 bt162.2.2.2.2.2.1 4 1 a0_2 a0_3 ([] : List Int) ([] : List Int)) else (some (0, 0, 0, 0, ([] : List Int), ([] : List Int), false)))
theorem spec_ImagePal.mono_l : ∀ k, (∀ y0 y1 y2 y3 y4 y5 y6 y7 y8 y9 y10 y11 y12, LeO (spec_ImagePal.l0 k y0 y1 y2 y3 y4 y5 y6 y7 y8 y9 y10 y11 y12) (spec_ImagePal.l0 (k + 1) y0 y1 y2 y3 y4 y5 y6 y7 y8 y9 y10 y11 y12)) ∧ (∀ y0 y1 y2 y3 y4 y5, LeO (spec_ImagePal.l1 k y0 y1 y2 y3 y4 y5) (spec_ImagePal.l1 (k + 1) y0 y1 y2 y3 y4 y5))
 | 0 => ⟨fun _ _ _ _ _ _ _ _ _ _ _ _ _ r h => by simp [spec_ImagePal.l0] at h, fun _ _ _ _ _ _ r h => by simp [spec_ImagePal.l1] at h⟩
 | k + 1 => by
  obtain ⟨ih0, ih1⟩ := spec_ImagePal.mono_l k
  refine ⟨?_, ?_⟩
  ·intro y0 y1 y2 y3 y4 y5 y6 y7 y8 y9 y10 y11 y12
   unfold spec_ImagePal.l0
   repeat' first
   | (with_reducible exact ih0 _ _ _ _ _ _ _ _ _ _ _ _ _)
   | (with_reducible exact ih1 _ _ _ _ _ _)
   | (with_reducible exact spec_ImageRgb.mono _ _ _ _ _ _ _)
   | (with_reducible exact spec_l1Pow.mono _ _)
   | (with_reducible exact spec_l8Find.mono _ _ _)
   | (with_reducible exact LeO.refl _)
   | (with_reducible exact LeO.none _)
   | (with_reducible refine LeO.ite ?_ ?_)
   | (with_reducible refine LeO.bind ?_ (fun _ => ?_))
  ·intro y0 y1 y2 y3 y4 y5
   unfold spec_ImagePal.l1
   repeat' first
   | (with_reducible exact ih0 _ _ _ _ _ _ _ _ _ _ _ _ _)
   | (with_reducible exact ih1 _ _ _ _ _ _)
   | (with_reducible exact spec_ImageRgb.mono _ _ _ _ _ _ _)
   | (with_reducible exact spec_l1Pow.mono _ _)
   | (with_reducible exact spec_l8Find.mono _ _ _)
   | (with_reducible exact LeO.refl _)
   | (with_reducible exact LeO.none _)
   | (with_reducible refine LeO.ite ?_ ?_)
   | (with_reducible refine LeO.bind ?_ (fun _ => ?_))
theorem spec_ImagePal.mono : ∀ a0 a1 a2 a3 a4 a5 k, LeO (spec_ImagePal.f k a0 a1 a2 a3 a4 a5) (spec_ImagePal.f (k + 1) a0 a1 a2 a3 a4 a5) := by
 intro a0 a1 a2 a3 a4 a5 k
 obtain ⟨ih0, ih1⟩ := spec_ImagePal.mono_l k
 unfold spec_ImagePal.f
 repeat' first
   | (with_reducible exact ih0 _ _ _ _ _ _ _ _ _ _ _ _ _)
   | (with_reducible exact ih1 _ _ _ _ _ _)
   | (with_reducible exact spec_ImageRgb.mono _ _ _ _ _ _ _)
   | (with_reducible exact spec_l1Pow.mono _ _)
   | (with_reducible exact spec_l8Find.mono _ _ _)
   | (with_reducible exact LeO.refl _)
   | (with_reducible exact LeO.none _)
   | (with_reducible refine LeO.ite ?_ ?_)
   | (with_reducible refine LeO.bind ?_ (fun _ => ?_))
def spec_ImagePal.T8 : Bool × List (List Nat × List Nat) := (true, [([], []), ([0], [0]), ([], []), ([2], [2]), ([], []), ([3, 4], [3, 4]), ([5], [5]), ([1, 6], [1, 6]), ([7, 7, 0, 1, 2, 3, 4, 5, 6, 7], [7])])
def spec_ImagePal.B8 : List Nat := [0, 1, 0, 4, 0, 28, 60, 127, 255]
theorem spec_ImagePal.tab8 : rtab .any (opsOf Try.f36 8) = spec_ImagePal.T8 := by kernel_rfl
theorem spec_ImagePal.bits8 : waitsOk spec_ImagePal.T8.2 spec_ImagePal.B8 = true := by kernel_rfl
def spec_ImagePal.T11 : Bool × List (List Nat × List Nat) := (true, [([], []), ([0], [0]), ([], []), ([2], [2]), ([], []), ([3, 4], [3, 4]), ([5], [5]), ([6], [6]), ([1, 7], [1, 7]), ([0, 1, 2, 3, 4, 5, 6, 7, 8], []), ([9, 8, 8, 0, 1, 2, 3, 4, 5, 6, 7, 8], [8, 9])])
def spec_ImagePal.B11 : List Nat := [0, 1, 0, 4, 0, 28, 60, 124, 255, 511, 1023]
theorem spec_ImagePal.tab11 : rtab .any (opsOf Try.f36 11) = spec_ImagePal.T11 := by kernel_rfl
theorem spec_ImagePal.bits11 : waitsOk spec_ImagePal.T11.2 spec_ImagePal.B11 = true := by kernel_rfl
set_option maxHeartbeats 8000000 in
set_option maxRecDepth 100000 in
theorem spec_ImagePal.calls (k : Nat) (a0_0 : Int) (a0_1 : Int) (a0_2 : Int) (a0_3 : Int) (A0_4 : Option Addr) (c0_4 : Nat) (l0_4 : List Int) (A0_5 : Option Addr) (c0_5 : Nat) (l0_5 : List Int) (r1 : Int) (r2 : Int) (r3 : Int) (r4 : Int) (r5 : List Int) (r6 : List Int) (r7 : Bool) (w : World) (hr0_4 : Kd.C (Kd.int .i64) w A0_4 l0_4.length l0_4) (hc0_4 : l0_4.length ≤ c0_4) (hr0_5 : Kd.C (Kd.int .i64) w A0_5 l0_5.length l0_5) (hc0_5 : l0_5.length ≤ c0_5) (h : spec_ImagePal.f k a0_0 a0_1 a0_2 a0_3 l0_4 l0_5 = some (r1, r2, r3, r4, r5, r6, r7)) :
  Calls Try.prog 36 #[.agg #[.int .i64 a0_0, .int .i64 a0_1, .int .i64 a0_2, .int .i64 a0_3, .slice A0_4 l0_4.length c0_4, .slice A0_5 l0_5.length c0_5]] w fun e w' => ∃ v4_ v5_ : Value, e = .returned (.tuple #[.agg #[.int .i64 r1, .int .i64 r2, .int .i64 r3, .int .i64 r4, v4_, v5_], .bool r7]) ∧ Kd.R (Kd.int .i64) 3 w' w.heap.size (fun k_ => some k_ ≠ (v5_ : Value).ownBlock) v4_ r5 ∧ Kd.R (Kd.int .i64) 3 w' w.heap.size (fun k_ => some k_ ≠ (v4_ : Value).ownBlock) v5_ r6 ∧ Below w.heap.size w w' := by
 have hu27 := Try.underlying27
 have HR0_4 := Aside0.mk hr0_4
 have HC0_4 := Aside0.mk hc0_4
 clear hr0_4 hc0_4
 have HR0_5 := Aside0.mk hr0_5
 have HC0_5 := Aside0.mk hc0_5
 clear hr0_5 hc0_5
 have HB := Aside0.mk (Below.refl w.heap.size w)
 have H : ((spec_ImageRgb.f k a0_0 a0_1 a0_2 a0_3 l0_4 l0_5).bind fun bt162 => (if bt162.2.2.2.2.2.2 = true then (spec_ImagePal.l0 k 0 bt162.1 bt162.2.1 bt162.2.2.1 bt162.2.2.2.1 bt162.2.2.2.2.1 bt162.2.2.2.2.2.1 4 1 a0_2 a0_3 ([] : List Int) ([] : List Int)) else (some (0, 0, 0, 0, ([] : List Int), ([] : List Int), false)))) = some (r1, r2, r3, r4, r5, r6, r7) := h
 clear h
 replace H := Option.bind_eq_some_iff.mp H
 obtain ⟨⟨t162, t163, t164, t165, t166, t169, t172⟩, A20, H⟩ := H
 replace H : (if t172 = true then (spec_ImagePal.l0 k 0 t162 t163 t164 t165 t166 t169 4 1 a0_2 a0_3 ([] : List Int) ([] : List Int)) else (some (0, 0, 0, 0, ([] : List Int), ([] : List Int), false))) = some (r1, r2, r3, r4, r5, r6, r7) := H
 have A2 := Aside0.mk A20
 clear A20
 by_cases c3 : t172 = true
 ·subst c3
  have H1 : (spec_ImagePal.l0 k 0 t162 t163 t164 t165 t166 t169 4 1 a0_2 a0_3 ([] : List Int) ([] : List Int)) = some (r1, r2, r3, r4, r5, r6, r7) := by first | (rw [if_pos rfl] at H; exact H) | rfl
  clear H
  have H := H1
  clear H1
  have H' := Aside0.mk H
  clear H
  go_enter Try.func36, Try.ntmps36
  go_wp2_with (first | ((with_reducible refine gate_dst (N := 1) rfl ?_); refine box_event ?hg (N := 1) ?hd (cs := #[.int .i64 a0_0, .int .i64 a0_1, .int .i64 a0_2, .int .i64 a0_3, .slice A0_4 l0_4.length c0_4, .slice A0_5 l0_5.length c0_5]) (t := 27) ?hr ?_; (case hd => rfl); (case hg => rfl); (case hr => first | (go_simp; done) | (go_simp; rfl)); intro gb160 hg w4 hbox hb; have n0_ := Aside0.mk (below_step (by repeat (first | (with_reducible first | exact HB.out | apply below_alloc | apply pw_below_drewN | apply below_drew1) | exact HB.out)) hb); have n1_ := Aside0.mk (hbox); have n2_ := Aside0.mk ((by rw [hg]; exact (below_size (by repeat (first | (with_reducible first | exact HB.out | apply below_alloc | apply pw_below_drewN | apply below_drew1) | exact HB.out))) : w.heap.size ≤ gb160)); have n3_ := Aside0.mk ((by rw [hg]; exact (below_size (by repeat (first | (with_reducible first | exact HB.out | apply below_alloc | apply pw_below_drewN | apply below_drew1) | exact HB.out))) : w.heap.size ≤ gb160)); clear HB; have HB := n0_; have BK160 := n1_; have GW160 := n2_; have GE160 := n3_; clear n0_ n1_ n2_ n3_; clear hb hbox hg) | ((with_reducible refine gate_dst (N := 2) rfl ?_); refine box_event ?hg (N := 2) ?hd (cs := #[.int .i64 0, .int .i64 0, .int .i64 0, .int .i64 0, .slice none 0 0, .slice none 0 0]) (t := 27) ?hr ?_; (case hd => rfl); (case hg => rfl); (case hr => first | (go_simp; done) | (go_simp; rfl)); intro gb161 hg w5 hbox hb; have n0_ := Aside0.mk (blk_below (g := gb160) (by (with_reducible repeat (first | apply blk_drewN | apply blk_drew | apply blk_alloc)); exact BK160.out) hb); have n1_ := Aside0.mk (below_step (by repeat (first | (with_reducible first | exact HB.out | apply below_alloc | apply pw_below_drewN | apply below_drew1 | refine below_set ?_ GE160.out) | exact HB.out)) hb); have n2_ := Aside0.mk (hbox); have n3_ := Aside0.mk ((by rw [hg]; exact (below_size (by repeat (first | (with_reducible first | exact HB.out | apply below_alloc | apply pw_below_drewN | apply below_drew1 | refine below_set ?_ GE160.out) | exact HB.out))) : w.heap.size ≤ gb161)); have n4_ := Aside0.mk ((by rw [hg]; exact (below_size (by repeat (first | (with_reducible first | exact HB.out | apply below_alloc | apply pw_below_drewN | apply below_drew1 | refine below_set ?_ GE160.out) | exact HB.out))) : w.heap.size ≤ gb161)); have n5_ := Aside0.mk ((by rw [hg]; exact Nat.ne_of_lt (blk_lt (g := gb160) (by (with_reducible repeat (first | apply blk_drewN | apply blk_drew | apply blk_alloc)); exact BK160.out)) : gb160 ≠ gb161)); have n6_ := Aside0.mk n5_.out.symm; clear BK160; clear HB; have BK160 := n0_; have HB := n1_; have BK161 := n2_; have GW161 := n3_; have GE161 := n4_; have NB160_161 := n5_; have NB161_160 := n6_; clear n0_ n1_ n2_ n3_ n4_ n5_ n6_; clear hb hbox hg; have hnb6 := NB160_161.out; have hnc6 := NB161_160.out; obtain ⟨hcz7_0, hcz7_1, hcz7_2, hcz7_3, hcz7_4, hcz7_5⟩ := bc6 BK160.out; obtain ⟨hfz7_0, hfz7_1, hfz7_2, hfz7_3, hfz7_4, hfz7_5⟩ := bf6 BK160.out) | ((with_reducible refine gate_callee (f := 34) rfl ?_); refine goesL_ (some 11) rfl rfl Try.func34 (by kernel_rfl) rfl #[.agg #[.int .i64 a0_0, .int .i64 a0_1, .int .i64 a0_2, .int .i64 a0_3, .slice A0_4 l0_4.length c0_4, .slice A0_5 l0_5.length c0_5]] rfl (by (try simp only [List.map_toArray, List.map_cons, List.map_nil]); first | done | rfl | (simp only [List.length_drop, List.length_take]; rfl)) ?_; (with_reducible refine (spec_ImageRgb.calls k a0_0 a0_1 a0_2 a0_3 _ _ l0_4 _ _ l0_5 t162 t163 t164 t165 t166 t169 true _ ?side1 ?side2 ?side3 ?side4 A2.out).mono ?_); (case side1 => repeat (first | exact (Kd.C_below HR0_4.out HB.out) | (with_reducible refine Kd.C_alloc ?_ _) | (with_reducible refine Kd.C_drewN ?_ _) | (with_reducible refine Kd.C_drew ?_))); (case side2 => exact HC0_4.out); (case side3 => repeat (first | exact (Kd.C_below HR0_5.out HB.out) | (with_reducible refine Kd.C_alloc ?_ _) | (with_reducible refine Kd.C_drewN ?_ _) | (with_reducible refine Kd.C_drew ?_))); (case side4 => exact HC0_5.out); rintro e w8 ⟨v167, v170, rfl, ho0, ho1, hb⟩; refine ⟨_, rfl, ?_⟩; have n0_ := Aside0.mk (Kd.R_lower ho0 (below_size (by repeat (first | (with_reducible first | exact HB.out | apply below_alloc | apply pw_below_drewN | apply below_drew1 | refine below_set ?_ GE160.out | refine below_set ?_ GE161.out) | exact HB.out)))); have n1_ := Aside0.mk (Kd.R_lower ho1 (below_size (by repeat (first | (with_reducible first | exact HB.out | apply below_alloc | apply pw_below_drewN | apply below_drew1 | refine below_set ?_ GE160.out | refine below_set ?_ GE161.out) | exact HB.out)))); have n2_ := Aside0.mk (blk_below (g := gb160) (by (with_reducible repeat (first | apply blk_drewN | apply blk_drew | apply blk_alloc)); exact BK160.out) hb); have n3_ := Aside0.mk (blk_below (g := gb161) (by (with_reducible repeat (first | apply blk_drewN | apply blk_drew | apply blk_alloc)); exact BK161.out) hb); have n4_ := Aside0.mk (below_step (by repeat (first | (with_reducible first | exact HB.out | apply below_alloc | apply pw_below_drewN | apply below_drew1 | refine below_set ?_ GE160.out | refine below_set ?_ GE161.out) | exact HB.out)) hb); clear BK160; clear BK161; clear HB; have HO168 := n0_; have HO171 := n1_; have BK160 := n2_; have BK161 := n3_; have HB := n4_; clear n0_ n1_ n2_ n3_ n4_; (try clear hb); (try clear hb2); (try clear hk); (try clear hi); (try clear ho0); (try clear ho1)) | ((with_reducible refine gate_dst (N := 4) rfl ?_); refine box_event ?hg (N := 4) ?hd (cs := #[.int .i64 0, .int .i64 0, .int .i64 0, .int .i64 0, .slice none 0 0, .slice none 0 0]) (t := 27) ?hr ?_; (case hd => rfl); (case hg => rfl); (case hr => first | (go_simp; done) | (go_simp; rfl)); intro gb173 hg w9 hbox hb; have n0_ := Aside0.mk (Kd.R_below (by (with_reducible repeat (first | apply Kd.R_alloc | apply Kd.R_drewN | apply Kd.R_drew)); exact HO168.out) hb); have n1_ := Aside0.mk (Kd.R_below (by (with_reducible repeat (first | apply Kd.R_alloc | apply Kd.R_drewN | apply Kd.R_drew)); exact HO171.out) hb); have n2_ := Aside0.mk (blk_below (g := gb160) (by (with_reducible repeat (first | apply blk_drewN | apply blk_drew | apply blk_alloc)); exact BK160.out) hb); have n3_ := Aside0.mk (blk_below (g := gb161) (by (with_reducible repeat (first | apply blk_drewN | apply blk_drew | apply blk_alloc)); exact BK161.out) hb); have n4_ := Aside0.mk (below_step (by repeat (first | (with_reducible first | exact HB.out | apply below_alloc | apply pw_below_drewN | apply below_drew1 | refine below_set ?_ GE160.out | refine below_set ?_ GE161.out) | exact HB.out)) hb); have n5_ := Aside0.mk (hbox); have n6_ := Aside0.mk ((by rw [hg]; exact (below_size (by repeat (first | (with_reducible first | exact HB.out | apply below_alloc | apply pw_below_drewN | apply below_drew1 | refine below_set ?_ GE160.out | refine below_set ?_ GE161.out) | exact HB.out))) : w.heap.size ≤ gb173)); have n7_ := Aside0.mk ((by rw [hg]; exact (below_size (by repeat (first | (with_reducible first | exact HB.out | apply below_alloc | apply pw_below_drewN | apply below_drew1 | refine below_set ?_ GE160.out | refine below_set ?_ GE161.out) | exact HB.out))) : w.heap.size ≤ gb173)); have n8_ := Aside0.mk ((by rw [hg]; exact Nat.ne_of_lt (blk_lt (g := gb160) (by (with_reducible repeat (first | apply blk_drewN | apply blk_drew | apply blk_alloc)); exact BK160.out)) : gb160 ≠ gb173)); have n9_ := Aside0.mk n8_.out.symm; have n10_ := Aside0.mk ((by rw [hg]; exact Nat.ne_of_lt (blk_lt (g := gb161) (by (with_reducible repeat (first | apply blk_drewN | apply blk_drew | apply blk_alloc)); exact BK161.out)) : gb161 ≠ gb173)); have n11_ := Aside0.mk n10_.out.symm; clear HO168; clear HO171; clear BK160; clear BK161; clear HB; have HO168 := n0_; have HO171 := n1_; have BK160 := n2_; have BK161 := n3_; have HB := n4_; have BK173 := n5_; have GW173 := n6_; have GE173 := n7_; have NB160_173 := n8_; have NB173_160 := n9_; have NB161_173 := n10_; have NB173_161 := n11_; clear n0_ n1_ n2_ n3_ n4_ n5_ n6_ n7_ n8_ n9_ n10_ n11_; clear hb hbox hg; have hnb10 := NB173_160.out; have hnc10 := NB160_173.out; have hnb11 := NB173_161.out; have hnc11 := NB161_173.out; obtain ⟨hcz12_0, hcz12_1, hcz12_2, hcz12_3, hcz12_4, hcz12_5⟩ := bc6 BK173.out; obtain ⟨hfz12_0, hfz12_1, hfz12_2, hfz12_3, hfz12_4, hfz12_5⟩ := bf6 BK173.out; obtain ⟨Ao13, co13, eo13⟩ := Kd.R_slice HO168.out; subst eo13; obtain ⟨Ao14, co14, eo14⟩ := Kd.R_slice HO171.out; subst eo14; obtain ⟨hcz15_0, hcz15_1, hcz15_2, hcz15_3, hcz15_4, hcz15_5⟩ := bc6 BK160.out; obtain ⟨hfz15_0, hfz15_1, hfz15_2, hfz15_3, hfz15_4, hfz15_5⟩ := bf6 BK160.out) | ((with_reducible refine gate_dst (N := 6) rfl ?_); refine box_event ?hg (N := 6) ?hd (cs := #[.int .i64 0, .int .i64 0, .int .i64 0, .int .i64 0, .slice none 0 0, .slice none 0 0]) (t := 27) ?hr ?_; (case hd => rfl); (case hg => rfl); (case hr => first | (go_simp; done) | (go_simp; rfl)); intro gb174 hg w16 hbox hb; have n0_ := Aside0.mk (Kd.R_below (by (with_reducible repeat (first | apply Kd.R_alloc | apply Kd.R_drewN | apply Kd.R_drew)); exact (Kd.R_mono (Kd.R_far (Kd.R_far (Kd.R_far (Kd.R_far (Kd.R_far (Kd.R_far (Kd.R_types HO168.out BK173.out (by decide)) (fun _ hk => hk.2) (.int .i64 t162)) (fun _ hk => hk.2) (.int .i64 t163)) (fun _ hk => hk.2) (.int .i64 t164)) (fun _ hk => hk.2) (.int .i64 t165)) (fun _ hk => hk.2) (.slice Ao13 t166.length co13)) (fun _ hk => hk.2) (.slice Ao14 t169.length co14)) (fun _ h_ => h_.1))) hb); have n1_ := Aside0.mk (Kd.R_below (by (with_reducible repeat (first | apply Kd.R_alloc | apply Kd.R_drewN | apply Kd.R_drew)); exact (Kd.R_mono (Kd.R_far (Kd.R_far (Kd.R_far (Kd.R_far (Kd.R_far (Kd.R_far (Kd.R_types HO171.out BK173.out (by decide)) (fun _ hk => hk.2) (.int .i64 t162)) (fun _ hk => hk.2) (.int .i64 t163)) (fun _ hk => hk.2) (.int .i64 t164)) (fun _ hk => hk.2) (.int .i64 t165)) (fun _ hk => hk.2) (.slice Ao13 t166.length co13)) (fun _ hk => hk.2) (.slice Ao14 t169.length co14)) (fun _ h_ => h_.1))) hb); have n2_ := Aside0.mk (blk_below (g := gb160) (o := .cells #[.int .i64 a0_0, .int .i64 a0_1, .int .i64 a0_2, .int .i64 a0_3, .slice A0_4 l0_4.length c0_4, .slice A0_5 l0_5.length c0_5] 27 (0, 0)) (by (with_reducible repeat (first | apply blk_drewN | apply blk_drew | apply blk_alloc)); refine blk_far ?_ NB160_173.out _; (with_reducible repeat (first | apply blk_drewN | apply blk_drew | apply blk_alloc)); refine blk_far ?_ NB160_173.out _; (with_reducible repeat (first | apply blk_drewN | apply blk_drew | apply blk_alloc)); refine blk_far ?_ NB160_173.out _; (with_reducible repeat (first | apply blk_drewN | apply blk_drew | apply blk_alloc)); refine blk_far ?_ NB160_173.out _; (with_reducible repeat (first | apply blk_drewN | apply blk_drew | apply blk_alloc)); refine blk_far ?_ NB160_173.out _; (with_reducible repeat (first | apply blk_drewN | apply blk_drew | apply blk_alloc)); refine blk_far ?_ NB160_173.out _; (with_reducible repeat (first | apply blk_drewN | apply blk_drew | apply blk_alloc)); exact BK160.out) hb); have n3_ := Aside0.mk (blk_below (g := gb161) (o := .cells #[.int .i64 0, .int .i64 0, .int .i64 0, .int .i64 0, .slice none 0 0, .slice none 0 0] 27 (0, 0)) (by (with_reducible repeat (first | apply blk_drewN | apply blk_drew | apply blk_alloc)); refine blk_far ?_ NB161_173.out _; (with_reducible repeat (first | apply blk_drewN | apply blk_drew | apply blk_alloc)); refine blk_far ?_ NB161_173.out _; (with_reducible repeat (first | apply blk_drewN | apply blk_drew | apply blk_alloc)); refine blk_far ?_ NB161_173.out _; (with_reducible repeat (first | apply blk_drewN | apply blk_drew | apply blk_alloc)); refine blk_far ?_ NB161_173.out _; (with_reducible repeat (first | apply blk_drewN | apply blk_drew | apply blk_alloc)); refine blk_far ?_ NB161_173.out _; (with_reducible repeat (first | apply blk_drewN | apply blk_drew | apply blk_alloc)); refine blk_far ?_ NB161_173.out _; (with_reducible repeat (first | apply blk_drewN | apply blk_drew | apply blk_alloc)); exact BK161.out) hb); have n4_ := Aside0.mk (blk_below (g := gb173) (o := .cells #[.int .i64 t162, .int .i64 t163, .int .i64 t164, .int .i64 t165, .slice Ao13 t166.length co13, .slice Ao14 t169.length co14] 27 (0, 0)) (by (with_reducible repeat (first | apply blk_drewN | apply blk_drew | apply blk_alloc)); refine blk_put (cs := #[.int .i64 t162, .int .i64 t163, .int .i64 t164, .int .i64 t165, .slice Ao13 t166.length co13, .slice none 0 0]) ?_ 5 _ rfl; (with_reducible repeat (first | apply blk_drewN | apply blk_drew | apply blk_alloc)); refine blk_put (cs := #[.int .i64 t162, .int .i64 t163, .int .i64 t164, .int .i64 t165, .slice none 0 0, .slice none 0 0]) ?_ 4 _ rfl; (with_reducible repeat (first | apply blk_drewN | apply blk_drew | apply blk_alloc)); refine blk_put (cs := #[.int .i64 t162, .int .i64 t163, .int .i64 t164, .int .i64 0, .slice none 0 0, .slice none 0 0]) ?_ 3 _ rfl; (with_reducible repeat (first | apply blk_drewN | apply blk_drew | apply blk_alloc)); refine blk_put (cs := #[.int .i64 t162, .int .i64 t163, .int .i64 0, .int .i64 0, .slice none 0 0, .slice none 0 0]) ?_ 2 _ rfl; (with_reducible repeat (first | apply blk_drewN | apply blk_drew | apply blk_alloc)); refine blk_put (cs := #[.int .i64 t162, .int .i64 0, .int .i64 0, .int .i64 0, .slice none 0 0, .slice none 0 0]) ?_ 1 _ rfl; (with_reducible repeat (first | apply blk_drewN | apply blk_drew | apply blk_alloc)); refine blk_put (cs := #[.int .i64 0, .int .i64 0, .int .i64 0, .int .i64 0, .slice none 0 0, .slice none 0 0]) ?_ 0 _ rfl; (with_reducible repeat (first | apply blk_drewN | apply blk_drew | apply blk_alloc)); exact BK173.out) hb); have n5_ := Aside0.mk (below_step (by repeat (first | (with_reducible first | exact HB.out | apply below_alloc | apply pw_below_drewN | apply below_drew1 | refine below_set ?_ GE160.out | refine below_set ?_ GE161.out | refine below_set ?_ GE173.out) | exact HB.out)) hb); have n6_ := Aside0.mk (hbox); have n7_ := Aside0.mk ((by rw [hg]; exact (below_size (by repeat (first | (with_reducible first | exact HB.out | apply below_alloc | apply pw_below_drewN | apply below_drew1 | refine below_set ?_ GE160.out | refine below_set ?_ GE161.out | refine below_set ?_ GE173.out) | exact HB.out))) : w.heap.size ≤ gb174)); have n8_ := Aside0.mk ((by rw [hg]; exact (below_size (by repeat (first | (with_reducible first | exact HB.out | apply below_alloc | apply pw_below_drewN | apply below_drew1 | refine below_set ?_ GE160.out | refine below_set ?_ GE161.out | refine below_set ?_ GE173.out) | exact HB.out))) : w.heap.size ≤ gb174)); have n9_ := Aside0.mk ((by rw [hg]; exact Nat.ne_of_lt (blk_lt (g := gb160) (o := .cells #[.int .i64 a0_0, .int .i64 a0_1, .int .i64 a0_2, .int .i64 a0_3, .slice A0_4 l0_4.length c0_4, .slice A0_5 l0_5.length c0_5] 27 (0, 0)) (by (with_reducible repeat (first | apply blk_drewN | apply blk_drew | apply blk_alloc)); refine blk_far ?_ NB160_173.out _; (with_reducible repeat (first | apply blk_drewN | apply blk_drew | apply blk_alloc)); refine blk_far ?_ NB160_173.out _; (with_reducible repeat (first | apply blk_drewN | apply blk_drew | apply blk_alloc)); refine blk_far ?_ NB160_173.out _; (with_reducible repeat (first | apply blk_drewN | apply blk_drew | apply blk_alloc)); refine blk_far ?_ NB160_173.out _; (with_reducible repeat (first | apply blk_drewN | apply blk_drew | apply blk_alloc)); refine blk_far ?_ NB160_173.out _; (with_reducible repeat (first | apply blk_drewN | apply blk_drew | apply blk_alloc)); refine blk_far ?_ NB160_173.out _; (with_reducible repeat (first | apply blk_drewN | apply blk_drew | apply blk_alloc)); exact BK160.out)) : gb160 ≠ gb174)); have n10_ := Aside0.mk ((by rw [hg]; exact Nat.ne_of_gt (blk_lt (g := gb160) (o := .cells #[.int .i64 a0_0, .int .i64 a0_1, .int .i64 a0_2, .int .i64 a0_3, .slice A0_4 l0_4.length c0_4, .slice A0_5 l0_5.length c0_5] 27 (0, 0)) (by (with_reducible repeat (first | apply blk_drewN | apply blk_drew | apply blk_alloc)); refine blk_far ?_ NB160_173.out _; (with_reducible repeat (first | apply blk_drewN | apply blk_drew | apply blk_alloc)); refine blk_far ?_ NB160_173.out _; (with_reducible repeat (first | apply blk_drewN | apply blk_drew | apply blk_alloc)); refine blk_far ?_ NB160_173.out _; (with_reducible repeat (first | apply blk_drewN | apply blk_drew | apply blk_alloc)); refine blk_far ?_ NB160_173.out _; (with_reducible repeat (first | apply blk_drewN | apply blk_drew | apply blk_alloc)); refine blk_far ?_ NB160_173.out _; (with_reducible repeat (first | apply blk_drewN | apply blk_drew | apply blk_alloc)); refine blk_far ?_ NB160_173.out _; (with_reducible repeat (first | apply blk_drewN | apply blk_drew | apply blk_alloc)); exact BK160.out)) : gb174 ≠ gb160)); have n11_ := Aside0.mk ((by rw [hg]; exact Nat.ne_of_lt (blk_lt (g := gb161) (o := .cells #[.int .i64 0, .int .i64 0, .int .i64 0, .int .i64 0, .slice none 0 0, .slice none 0 0] 27 (0, 0)) (by (with_reducible repeat (first | apply blk_drewN | apply blk_drew | apply blk_alloc)); refine blk_far ?_ NB161_173.out _; (with_reducible repeat (first | apply blk_drewN | apply blk_drew | apply blk_alloc)); refine blk_far ?_ NB161_173.out _; (with_reducible repeat (first | apply blk_drewN | apply blk_drew | apply blk_alloc)); refine blk_far ?_ NB161_173.out _; (with_reducible repeat (first | apply blk_drewN | apply blk_drew | apply blk_alloc)); refine blk_far ?_ NB161_173.out _; (with_reducible repeat (first | apply blk_drewN | apply blk_drew | apply blk_alloc)); refine blk_far ?_ NB161_173.out _; (with_reducible repeat (first | apply blk_drewN | apply blk_drew | apply blk_alloc)); refine blk_far ?_ NB161_173.out _; (with_reducible repeat (first | apply blk_drewN | apply blk_drew | apply blk_alloc)); exact BK161.out)) : gb161 ≠ gb174)); have n12_ := Aside0.mk ((by rw [hg]; exact Nat.ne_of_gt (blk_lt (g := gb161) (o := .cells #[.int .i64 0, .int .i64 0, .int .i64 0, .int .i64 0, .slice none 0 0, .slice none 0 0] 27 (0, 0)) (by (with_reducible repeat (first | apply blk_drewN | apply blk_drew | apply blk_alloc)); refine blk_far ?_ NB161_173.out _; (with_reducible repeat (first | apply blk_drewN | apply blk_drew | apply blk_alloc)); refine blk_far ?_ NB161_173.out _; (with_reducible repeat (first | apply blk_drewN | apply blk_drew | apply blk_alloc)); refine blk_far ?_ NB161_173.out _; (with_reducible repeat (first | apply blk_drewN | apply blk_drew | apply blk_alloc)); refine blk_far ?_ NB161_173.out _; (with_reducible repeat (first | apply blk_drewN | apply blk_drew | apply blk_alloc)); refine blk_far ?_ NB161_173.out _; (with_reducible repeat (first | apply blk_drewN | apply blk_drew | apply blk_alloc)); refine blk_far ?_ NB161_173.out _; (with_reducible repeat (first | apply blk_drewN | apply blk_drew | apply blk_alloc)); exact BK161.out)) : gb174 ≠ gb161)); have n13_ := Aside0.mk ((by rw [hg]; exact Nat.ne_of_lt (blk_lt (g := gb173) (o := .cells #[.int .i64 t162, .int .i64 t163, .int .i64 t164, .int .i64 t165, .slice Ao13 t166.length co13, .slice Ao14 t169.length co14] 27 (0, 0)) (by (with_reducible repeat (first | apply blk_drewN | apply blk_drew | apply blk_alloc)); refine blk_put (cs := #[.int .i64 t162, .int .i64 t163, .int .i64 t164, .int .i64 t165, .slice Ao13 t166.length co13, .slice none 0 0]) ?_ 5 _ rfl; (with_reducible repeat (first | apply blk_drewN | apply blk_drew | apply blk_alloc)); refine blk_put (cs := #[.int .i64 t162, .int .i64 t163, .int .i64 t164, .int .i64 t165, .slice none 0 0, .slice none 0 0]) ?_ 4 _ rfl; (with_reducible repeat (first | apply blk_drewN | apply blk_drew | apply blk_alloc)); refine blk_put (cs := #[.int .i64 t162, .int .i64 t163, .int .i64 t164, .int .i64 0, .slice none 0 0, .slice none 0 0]) ?_ 3 _ rfl; (with_reducible repeat (first | apply blk_drewN | apply blk_drew | apply blk_alloc)); refine blk_put (cs := #[.int .i64 t162, .int .i64 t163, .int .i64 0, .int .i64 0, .slice none 0 0, .slice none 0 0]) ?_ 2 _ rfl; (with_reducible repeat (first | apply blk_drewN | apply blk_drew | apply blk_alloc)); refine blk_put (cs := #[.int .i64 t162, .int .i64 0, .int .i64 0, .int .i64 0, .slice none 0 0, .slice none 0 0]) ?_ 1 _ rfl; (with_reducible repeat (first | apply blk_drewN | apply blk_drew | apply blk_alloc)); refine blk_put (cs := #[.int .i64 0, .int .i64 0, .int .i64 0, .int .i64 0, .slice none 0 0, .slice none 0 0]) ?_ 0 _ rfl; (with_reducible repeat (first | apply blk_drewN | apply blk_drew | apply blk_alloc)); exact BK173.out)) : gb173 ≠ gb174)); have n14_ := Aside0.mk ((by rw [hg]; exact Nat.ne_of_gt (blk_lt (g := gb173) (o := .cells #[.int .i64 t162, .int .i64 t163, .int .i64 t164, .int .i64 t165, .slice Ao13 t166.length co13, .slice Ao14 t169.length co14] 27 (0, 0)) (by (with_reducible repeat (first | apply blk_drewN | apply blk_drew | apply blk_alloc)); refine blk_put (cs := #[.int .i64 t162, .int .i64 t163, .int .i64 t164, .int .i64 t165, .slice Ao13 t166.length co13, .slice none 0 0]) ?_ 5 _ rfl; (with_reducible repeat (first | apply blk_drewN | apply blk_drew | apply blk_alloc)); refine blk_put (cs := #[.int .i64 t162, .int .i64 t163, .int .i64 t164, .int .i64 t165, .slice none 0 0, .slice none 0 0]) ?_ 4 _ rfl; (with_reducible repeat (first | apply blk_drewN | apply blk_drew | apply blk_alloc)); refine blk_put (cs := #[.int .i64 t162, .int .i64 t163, .int .i64 t164, .int .i64 0, .slice none 0 0, .slice none 0 0]) ?_ 3 _ rfl; (with_reducible repeat (first | apply blk_drewN | apply blk_drew | apply blk_alloc)); refine blk_put (cs := #[.int .i64 t162, .int .i64 t163, .int .i64 0, .int .i64 0, .slice none 0 0, .slice none 0 0]) ?_ 2 _ rfl; (with_reducible repeat (first | apply blk_drewN | apply blk_drew | apply blk_alloc)); refine blk_put (cs := #[.int .i64 t162, .int .i64 0, .int .i64 0, .int .i64 0, .slice none 0 0, .slice none 0 0]) ?_ 1 _ rfl; (with_reducible repeat (first | apply blk_drewN | apply blk_drew | apply blk_alloc)); refine blk_put (cs := #[.int .i64 0, .int .i64 0, .int .i64 0, .int .i64 0, .slice none 0 0, .slice none 0 0]) ?_ 0 _ rfl; (with_reducible repeat (first | apply blk_drewN | apply blk_drew | apply blk_alloc)); exact BK173.out)) : gb174 ≠ gb173)); clear HO168; clear HO171; clear BK160; clear BK161; clear BK173; clear HB; have HO168 := n0_; have HO171 := n1_; have BK160 := n2_; have BK161 := n3_; have BK173 := n4_; have HB := n5_; have BK174 := n6_; have GW174 := n7_; have GE174 := n8_; have NB160_174 := n9_; have NB174_160 := n10_; have NB161_174 := n11_; have NB174_161 := n12_; have NB173_174 := n13_; have NB174_173 := n14_; clear n0_ n1_ n2_ n3_ n4_ n5_ n6_ n7_ n8_ n9_ n10_ n11_ n12_ n13_ n14_; clear hb hbox hg; have hnb17 := NB174_160.out; have hnc17 := NB160_174.out; have hnb18 := NB174_161.out; have hnc18 := NB161_174.out; have hnb19 := NB174_173.out; have hnc19 := NB173_174.out; obtain ⟨hcz20_0, hcz20_1, hcz20_2, hcz20_3, hcz20_4, hcz20_5⟩ := bc6 BK174.out; obtain ⟨hfz20_0, hfz20_1, hfz20_2, hfz20_3, hfz20_4, hfz20_5⟩ := bf6 BK174.out))
  go_loopg [7] k (fun kq v7 w' => ∃ (x7_1 : Int) (x175004_1 : List Int) (x175005_1 : List Int) (u175004 : Value) (u175005 : Value), v7 = .int .i64 x7_1 ∧ Aside0 (spec_ImagePal.l0 kq x7_1 t162 t163 t164 t165 t166 t169 4 1 a0_2 a0_3 x175004_1 x175005_1 = some (r1, r2, r3, r4, r5, r6, r7)) ∧ Aside0 (kq ≤ k) ∧ Aside0 (Kd.R (Kd.int .i64) 3 w' w.heap.size (fun k_ => some k_ ≠ ((.slice Ao14 t169.length co14) : Value).ownBlock ∧ some k_ ≠ (u175004 : Value).ownBlock ∧ some k_ ≠ (u175005 : Value).ownBlock) (.slice Ao13 t166.length co13) t166) ∧ Aside0 (Kd.R (Kd.int .i64) 3 w' w.heap.size (fun k_ => some k_ ≠ ((.slice Ao13 t166.length co13) : Value).ownBlock ∧ some k_ ≠ (u175004 : Value).ownBlock ∧ some k_ ≠ (u175005 : Value).ownBlock) (.slice Ao14 t169.length co14) t169) ∧ Aside0 (Kd.R (Kd.int .i64) 3 w' w.heap.size (fun k_ => some k_ ≠ ((.slice Ao13 t166.length co13) : Value).ownBlock ∧ some k_ ≠ ((.slice Ao14 t169.length co14) : Value).ownBlock ∧ some k_ ≠ (u175005 : Value).ownBlock) u175004 x175004_1) ∧ Aside0 (Kd.R (Kd.int .i64) 3 w' w.heap.size (fun k_ => some k_ ≠ ((.slice Ao13 t166.length co13) : Value).ownBlock ∧ some k_ ≠ ((.slice Ao14 t169.length co14) : Value).ownBlock ∧ some k_ ≠ (u175004 : Value).ownBlock) u175005 x175005_1) ∧ Aside0 (w'.heap[gb160]? = some (.cells #[.int .i64 a0_0, .int .i64 a0_1, .int .i64 a0_2, .int .i64 a0_3, (.slice A0_4 l0_4.length c0_4), (.slice A0_5 l0_5.length c0_5)] 27 (0, 0))) ∧ Aside0 (w'.heap[gb161]? = some (.cells #[.int .i64 0, .int .i64 0, .int .i64 0, .int .i64 0, (.slice none 0 0), (.slice none 0 0)] 27 (0, 0))) ∧ Aside0 (w'.heap[gb173]? = some (.cells #[.int .i64 t162, .int .i64 t163, .int .i64 t164, .int .i64 t165, (.slice Ao13 t166.length co13), (.slice Ao14 t169.length co14)] 27 (0, 0))) ∧ Aside0 (w'.heap[gb174]? = some (.cells #[.int .i64 4, .int .i64 1, .int .i64 a0_2, .int .i64 a0_3, u175004, u175005] 27 (0, 0))) ∧ Aside0 (Below w.heap.size w w'))
  case atStart => exact ⟨(0), (([] : List Int)), (([] : List Int)), (.slice none 0 0), (.slice none 0 0), (by first | rfl | (simp; done) | (simp [*]; done)), H', ⟨Nat.le_refl _⟩, ⟨by (with_reducible repeat (first | apply Kd.R_alloc | apply Kd.R_drewN | apply Kd.R_drew)); exact Kd.R_mono (Kd.R_far (Kd.R_far (Kd.R_far (Kd.R_far (Kd.R_far (Kd.R_far (Kd.R_types HO168.out BK174.out (by decide)) (fun _ hk => hk.2) (.int .i64 4)) (fun _ hk => hk.2) (.int .i64 1)) (fun _ hk => hk.2) (.int .i64 a0_2)) (fun _ hk => hk.2) (.int .i64 a0_3)) (fun _ hk => hk.2) (.slice none 0 0)) (fun _ hk => hk.2) (.slice none 0 0)) (fun _ hk => ⟨hk.1, ⟨(by simp [Value.ownBlock]), (by simp [Value.ownBlock])⟩⟩)⟩, ⟨by (with_reducible repeat (first | apply Kd.R_alloc | apply Kd.R_drewN | apply Kd.R_drew)); exact Kd.R_mono (Kd.R_far (Kd.R_far (Kd.R_far (Kd.R_far (Kd.R_far (Kd.R_far (Kd.R_types HO171.out BK174.out (by decide)) (fun _ hk => hk.2) (.int .i64 4)) (fun _ hk => hk.2) (.int .i64 1)) (fun _ hk => hk.2) (.int .i64 a0_2)) (fun _ hk => hk.2) (.int .i64 a0_3)) (fun _ hk => hk.2) (.slice none 0 0)) (fun _ hk => hk.2) (.slice none 0 0)) (fun _ hk => ⟨hk.1, ⟨(by simp [Value.ownBlock]), (by simp [Value.ownBlock])⟩⟩)⟩, ⟨by first | exact Kd.R_nil _ _ _ _ _ | exact Kd.N_nil _ _ _ _ _ | exact Kd.V_nil _ _ _ _ _ | exact Kd.Q_nil _ _ _ _ _ | exact Kd.S_nil _ _ _ _ _⟩, ⟨by first | exact Kd.R_nil _ _ _ _ _ | exact Kd.N_nil _ _ _ _ _ | exact Kd.V_nil _ _ _ _ _ | exact Kd.Q_nil _ _ _ _ _ | exact Kd.S_nil _ _ _ _ _⟩, ⟨by (with_reducible repeat (first | apply blk_drewN | apply blk_drew | apply blk_alloc)); refine blk_far ?_ NB160_174.out _; (with_reducible repeat (first | apply blk_drewN | apply blk_drew | apply blk_alloc)); refine blk_far ?_ NB160_174.out _; (with_reducible repeat (first | apply blk_drewN | apply blk_drew | apply blk_alloc)); refine blk_far ?_ NB160_174.out _; (with_reducible repeat (first | apply blk_drewN | apply blk_drew | apply blk_alloc)); refine blk_far ?_ NB160_174.out _; (with_reducible repeat (first | apply blk_drewN | apply blk_drew | apply blk_alloc)); refine blk_far ?_ NB160_174.out _; (with_reducible repeat (first | apply blk_drewN | apply blk_drew | apply blk_alloc)); refine blk_far ?_ NB160_174.out _; (with_reducible repeat (first | apply blk_drewN | apply blk_drew | apply blk_alloc)); exact BK160.out⟩, ⟨by (with_reducible repeat (first | apply blk_drewN | apply blk_drew | apply blk_alloc)); refine blk_far ?_ NB161_174.out _; (with_reducible repeat (first | apply blk_drewN | apply blk_drew | apply blk_alloc)); refine blk_far ?_ NB161_174.out _; (with_reducible repeat (first | apply blk_drewN | apply blk_drew | apply blk_alloc)); refine blk_far ?_ NB161_174.out _; (with_reducible repeat (first | apply blk_drewN | apply blk_drew | apply blk_alloc)); refine blk_far ?_ NB161_174.out _; (with_reducible repeat (first | apply blk_drewN | apply blk_drew | apply blk_alloc)); refine blk_far ?_ NB161_174.out _; (with_reducible repeat (first | apply blk_drewN | apply blk_drew | apply blk_alloc)); refine blk_far ?_ NB161_174.out _; (with_reducible repeat (first | apply blk_drewN | apply blk_drew | apply blk_alloc)); exact BK161.out⟩, ⟨by (with_reducible repeat (first | apply blk_drewN | apply blk_drew | apply blk_alloc)); refine blk_far ?_ NB173_174.out _; (with_reducible repeat (first | apply blk_drewN | apply blk_drew | apply blk_alloc)); refine blk_far ?_ NB173_174.out _; (with_reducible repeat (first | apply blk_drewN | apply blk_drew | apply blk_alloc)); refine blk_far ?_ NB173_174.out _; (with_reducible repeat (first | apply blk_drewN | apply blk_drew | apply blk_alloc)); refine blk_far ?_ NB173_174.out _; (with_reducible repeat (first | apply blk_drewN | apply blk_drew | apply blk_alloc)); refine blk_far ?_ NB173_174.out _; (with_reducible repeat (first | apply blk_drewN | apply blk_drew | apply blk_alloc)); refine blk_far ?_ NB173_174.out _; (with_reducible repeat (first | apply blk_drewN | apply blk_drew | apply blk_alloc)); exact BK173.out⟩, ⟨by (with_reducible repeat (first | apply blk_drewN | apply blk_drew | apply blk_alloc)); refine blk_put (cs := #[.int .i64 4, .int .i64 1, .int .i64 a0_2, .int .i64 a0_3, .slice none 0 0, .slice none 0 0]) ?_ 5 _ rfl; (with_reducible repeat (first | apply blk_drewN | apply blk_drew | apply blk_alloc)); refine blk_put (cs := #[.int .i64 4, .int .i64 1, .int .i64 a0_2, .int .i64 a0_3, .slice none 0 0, .slice none 0 0]) ?_ 4 _ rfl; (with_reducible repeat (first | apply blk_drewN | apply blk_drew | apply blk_alloc)); refine blk_put (cs := #[.int .i64 4, .int .i64 1, .int .i64 a0_2, .int .i64 0, .slice none 0 0, .slice none 0 0]) ?_ 3 _ rfl; (with_reducible repeat (first | apply blk_drewN | apply blk_drew | apply blk_alloc)); refine blk_put (cs := #[.int .i64 4, .int .i64 1, .int .i64 0, .int .i64 0, .slice none 0 0, .slice none 0 0]) ?_ 2 _ rfl; (with_reducible repeat (first | apply blk_drewN | apply blk_drew | apply blk_alloc)); refine blk_put (cs := #[.int .i64 4, .int .i64 0, .int .i64 0, .int .i64 0, .slice none 0 0, .slice none 0 0]) ?_ 1 _ rfl; (with_reducible repeat (first | apply blk_drewN | apply blk_drew | apply blk_alloc)); refine blk_put (cs := #[.int .i64 0, .int .i64 0, .int .i64 0, .int .i64 0, .slice none 0 0, .slice none 0 0]) ?_ 0 _ rfl; (with_reducible repeat (first | apply blk_drewN | apply blk_drew | apply blk_alloc)); exact BK174.out⟩, ⟨by repeat (first | (with_reducible first | exact HB.out | apply below_alloc | apply pw_below_drewN | apply below_drew1 | refine below_set ?_ GE160.out | refine below_set ?_ GE161.out | refine below_set ?_ GE173.out | refine below_set ?_ GE174.out) | exact HB.out)⟩⟩
  case round =>
   clear H'
   try clear c1
   try clear p2
   try clear c3
   try clear c6
   try clear c10
   try clear c11
   try clear c17
   try clear c18
   try clear c19
   try clear hcz12_0
   try clear hcz12_1
   try clear hcz12_2
   try clear hcz12_3
   try clear hcz12_4
   try clear hcz12_5
   try clear hcz15_0
   try clear hcz15_1
   try clear hcz15_2
   try clear hcz15_3
   try clear hcz15_4
   try clear hcz15_5
   try clear hcz20_0
   try clear hcz20_1
   try clear hcz20_2
   try clear hcz20_3
   try clear hcz20_4
   try clear hcz20_5
   try clear hcz7_0
   try clear hcz7_1
   try clear hcz7_2
   try clear hcz7_3
   try clear hcz7_4
   try clear hcz7_5
   try clear hfz12_0
   try clear hfz12_1
   try clear hfz12_2
   try clear hfz12_3
   try clear hfz12_4
   try clear hfz12_5
   try clear hfz15_0
   try clear hfz15_1
   try clear hfz15_2
   try clear hfz15_3
   try clear hfz15_4
   try clear hfz15_5
   try clear hfz20_0
   try clear hfz20_1
   try clear hfz20_2
   try clear hfz20_3
   try clear hfz20_4
   try clear hfz20_5
   try clear hfz7_0
   try clear hfz7_1
   try clear hfz7_2
   try clear hfz7_3
   try clear hfz7_4
   try clear hfz7_5
   obtain ⟨x7_1, x175004_1, x175005_1, u175004, u175005, rfl, HA, HK1, HO_174004, HO_174005, HO_175004, HO_175005, BK160, BK161, BK173, BK174, HB⟩ := hrel
   cases gk with
   | zero => exact absurd HA.out (by simp [spec_ImagePal.l0])
   | succ k1 =>
    have H := HA.out
    clear HA
    simp only [spec_ImagePal.l0] at H
    by_cases c21 : x7_1 < (t169.length : Int)
    ·rw [if_pos c21] at H
     have c21b0 : decide (x7_1 < (t169.length : Int)) = true := decide_eq_true c21
     clear c21
     by_cases c22 : 0 ≤ x7_1
     ·rw [if_pos c22] at H
      have c22b0 : decide (0 ≤ x7_1) = true := decide_eq_true c22
      clear c22
      replace H := Option.bind_eq_some_iff.mp H
      obtain ⟨t176, A230, H⟩ := H
      replace H : (if t176 < 0 then (if x175004_1.length < 17592186044416 then (if x175005_1.length < 17592186044416 then (spec_ImagePal.l0 k1 (wrap64 (x7_1 + 1)) t162 t163 t164 t165 t166 t169 4 1 a0_2 a0_3 (x175004_1 ++ [rd t169 x7_1]) (x175005_1 ++ [(x175004_1.length : Int)])) else (none)) else (none)) else (if x175005_1.length < 17592186044416 then (spec_ImagePal.l0 k1 (wrap64 (x7_1 + 1)) t162 t163 t164 t165 t166 t169 4 1 a0_2 a0_3 x175004_1 (x175005_1 ++ [t176])) else (none))) = some (r1, r2, r3, r4, r5, r6, r7) := H
      have A23 := Aside0.mk A230
      clear A230
      by_cases c24 : t176 < 0
      ·rw [if_pos c24] at H
       have c24b0 : decide (t176 < 0) = true := decide_eq_true c24
       clear c24
       by_cases c25 : x175004_1.length < 17592186044416
       ·rw [if_pos c25] at H
        have LMc25 := Aside0.mk c25
        clear c25
        obtain ⟨y178, hy178⟩ : ∃ y_ : List Int, y_ = (x175004_1 ++ [rd t169 x7_1]) := ⟨_, rfl⟩
        replace H : (if x175005_1.length < 17592186044416 then (spec_ImagePal.l0 k1 (wrap64 (x7_1 + 1)) t162 t163 t164 t165 t166 t169 4 1 a0_2 a0_3 y178 (x175005_1 ++ [(x175004_1.length : Int)])) else (none)) = some (r1, r2, r3, r4, r5, r6, r7) := by first | (rw [hy178]; with_reducible exact H) | (have H2_ := (Option.bind_some _ _).symm.trans H; rw [hy178]; with_reducible exact H2_) | (have H2_ := (Option.bind_some _ _).symm.trans H; with_reducible exact H2_) | with_reducible exact H | (rw [hy178]; exact H) | exact H
        have Ny178 := Aside0.mk hy178
        clear hy178
        by_cases c26 : x175005_1.length < 17592186044416
        ·rw [if_pos c26] at H
         have LMc26 := Aside0.mk c26
         clear c26
         obtain ⟨y181, hy181⟩ : ∃ y_ : List Int, y_ = (x175005_1 ++ [(x175004_1.length : Int)]) := ⟨_, rfl⟩
         replace H : (spec_ImagePal.l0 k1 (wrap64 (x7_1 + 1)) t162 t163 t164 t165 t166 t169 4 1 a0_2 a0_3 y178 y181) = some (r1, r2, r3, r4, r5, r6, r7) := by first | (rw [hy181]; with_reducible exact H) | (have H2_ := (Option.bind_some _ _).symm.trans H; rw [hy181]; with_reducible exact H2_) | (have H2_ := (Option.bind_some _ _).symm.trans H; with_reducible exact H2_) | with_reducible exact H | (rw [hy181]; exact H) | exact H
         have Ny181 := Aside0.mk hy181
         clear hy181
         have H' := Aside0.mk H
         clear H
         have hnb27 := NB173_160.out
         have hnc27 := NB160_173.out
         have hnb28 := NB173_161.out
         have hnc28 := NB161_173.out
         have hnb29 := NB173_174.out
         have hnc29 := NB174_173.out
         obtain ⟨hcz30_0, hcz30_1, hcz30_2, hcz30_3, hcz30_4, hcz30_5⟩ := bc6 BK173.out
         obtain ⟨hfz30_0, hfz30_1, hfz30_2, hfz30_3, hfz30_4, hfz30_5⟩ := bf6 BK173.out
         try go_wp2
         have n0_ := Aside0.mk (Kd.R_drew HO_174004.out)
         have n1_ := Aside0.mk (Kd.R_drew HO_174005.out)
         have n2_ := Aside0.mk (Kd.R_drew HO_175004.out)
         have n3_ := Aside0.mk (Kd.R_drew HO_175005.out)
         have n4_ := Aside0.mk (blk_drew BK160.out)
         have n5_ := Aside0.mk (blk_drew BK161.out)
         have n6_ := Aside0.mk (blk_drew BK173.out)
         have n7_ := Aside0.mk (blk_drew BK174.out)
         have n8_ := Aside0.mk (below_drew1 HB.out)
         clear HO_174004
         clear HO_174005
         clear HO_175004
         clear HO_175005
         clear BK160
         clear BK161
         clear BK173
         clear BK174
         clear HB
         have HO_174004 := n0_
         have HO_174005 := n1_
         have HO_175004 := n2_
         have HO_175005 := n3_
         have BK160 := n4_
         have BK161 := n5_
         have BK173 := n6_
         have BK174 := n7_
         have HB := n8_
         clear n0_ n1_ n2_ n3_ n4_ n5_ n6_ n7_ n8_
         have p175 : 0 ≤ (x7_1 : Int) := of_decide_eq_true (by first | (with_reducible assumption) | assumption)
         have q175 : x7_1 < (t169.length : Int) := of_decide_eq_true (by first | (with_reducible assumption) | assumption)
         obtain ⟨ad175, e175, hx175_0⟩ := Kd.at_int (Kd.R_reads' HO_174005.out).2.2 x7_1 p175 q175
         cases e175
         replace p175 := eq_true p175
         replace q175 := eq_true q175
         obtain ⟨Ao32, co32, eo32⟩ := Kd.R_slice HO_175004.out
         (first | subst eo32 | (injection eo32 with f1_ f2_ f3_; have f4_ := f1_.symm; have f5_ := f3_.symm; clear f1_ f2_ f3_; subst f4_; subst f5_))
         refine start_ (n := 9) (S := fun w' => w'.cell? ⟨gb174, 0, none⟩ = some (.int .i64 4) ∧ w'.cell? ⟨gb174, 1, none⟩ = some (.int .i64 1) ∧ w'.cell? ⟨gb174, 2, none⟩ = some (.int .i64 a0_2) ∧ w'.cell? ⟨gb174, 3, none⟩ = some (.int .i64 a0_3) ∧ w'.cell? ⟨gb174, 4, none⟩ = some (.slice Ao32 x175004_1.length co32) ∧ w'.cell? ⟨gb174, 5, none⟩ = some (u175005) ∧ w'.cell? ⟨gb173, 0, none⟩ = some (.int .i64 t162) ∧ w'.cell? ⟨gb173, 1, none⟩ = some (.int .i64 t163) ∧ w'.cell? ⟨gb173, 2, none⟩ = some (.int .i64 t164) ∧ w'.cell? ⟨gb173, 3, none⟩ = some (.int .i64 t165) ∧ w'.cell? ⟨gb173, 4, none⟩ = some (.slice Ao13 t166.length co13) ∧ w'.cell? ⟨gb173, 5, none⟩ = some (.slice (some ad175) t169.length co14) ∧ w'.cell? (ad175.add (x7_1).toNat) = some (.int .i64 (rd t169 x7_1))) (ds := []) #[false, false, false, false, false, false, false, false, false] (by kernel_rfl) rfl rfl ⟨(blk_cell BK174.out 0).trans rfl, (blk_cell BK174.out 1).trans rfl, (blk_cell BK174.out 2).trans rfl, (blk_cell BK174.out 3).trans rfl, (blk_cell BK174.out 4).trans rfl, (blk_cell BK174.out 5).trans rfl, (blk_cell BK173.out 0).trans rfl, (blk_cell BK173.out 1).trans rfl, (blk_cell BK173.out 2).trans rfl, (blk_cell BK173.out 3).trans rfl, (blk_cell BK173.out 4).trans rfl, (blk_cell BK173.out 5).trans rfl, hx175_0⟩ (fun hHeld => ?_); refine with_tabW spec_ImagePal.tab8 spec_ImagePal.bits8 (fun HT_ HW_ => ?_)
         generalize wr.drew = w31 at HO_174004 HO_174005 HO_175004 HO_175005 BK160 BK161 BK173 BK174 HB hx175_0 hHeld ⊢
         refine pure_ (i := 0) (N := some 29) (v := ?_) (a' := ?_) #[true, false, false, false, false, false, false, false, false] rfl rfl (any_of HT_.out (by kernel_rfl)) (fun _ _ _ h => h) (Or.inl ⟨by rfl, ?_⟩) ?_ ?_
         rotate_left
         ·intro w'
          go_simp
          with_reducible rfl
         rotate_left
         ·simp only [Act.put, sA_, s0_, s1_, i64_w, i32_w]
          rfl
         refine pure_ (i := 2) (N := some 31) (v := ?_) (a' := ?_) #[true, false, true, false, false, false, false, false, false] rfl rfl (any_of HT_.out (by kernel_rfl)) (fun _ _ _ h => h) (Or.inl ⟨by rfl, ?_⟩) ?_ ?_
         rotate_left
         ·intro w'
          go_simp
          with_reducible rfl
         rotate_left
         ·simp only [Act.put, sA_, s0_, s1_, i64_w, i32_w]
          rfl
         refine pure_ (i := 4) (N := some 33) (v := ?_) (a' := ?_) #[true, false, true, false, true, false, false, false, false] rfl rfl (any_of HT_.out (by kernel_rfl)) (fun _ _ _ h => h) (Or.inl ⟨by rfl, ?_⟩) ?_ ?_
         rotate_left
         ·intro w'
          go_simp
          with_reducible rfl
         rotate_left
         ·simp only [Act.put, sA_, s0_, s1_, i64_w, i32_w]
          rfl
         refine take_ (i := 1) (N := some 30) (v := ?_) (a' := ?_) #[true, true, true, false, true, false, false, false, false] rfl rfl (take_ofW HT_.out HW_.out (by kernel_rfl)) (fun _ _ _ h => h) (Or.inl ⟨by rfl, ?_⟩) hHeld ?_ ?_
         rotate_left
         ·rintro w' ⟨s0, s1, s2, s3, s4, s5, s6, s7, s8, s9, s10, s11, s12⟩
          go_simp
          with_reducible rfl
         rotate_left
         ·simp only [Act.put, sA_, s0_, s1_, i64_w, i32_w]
          rfl
         refine take_ (i := 3) (N := some 32) (v := ?_) (a' := ?_) #[true, true, true, true, true, false, false, false, false] rfl rfl (take_ofW HT_.out HW_.out (by kernel_rfl)) (fun _ _ _ h => h) (Or.inl ⟨by rfl, ?_⟩) hHeld ?_ ?_
         rotate_left
         ·rintro w' ⟨s0, s1, s2, s3, s4, s5, s6, s7, s8, s9, s10, s11, s12⟩
          go_simp
          with_reducible rfl
         rotate_left
         ·simp only [Act.put, sA_, s0_, s1_, i64_w, i32_w]
          rfl
         refine pure_ (i := 5) (N := some 34) (v := ?_) (a' := ?_) #[true, true, true, true, true, true, false, false, false] rfl rfl (any_of HT_.out (by kernel_rfl)) (fun _ _ _ h => h) (Or.inl ⟨by rfl, ?_⟩) ?_ ?_
         rotate_left
         ·intro w'
          go_simp
          with_reducible rfl
         rotate_left
         ·simp only [Act.put, sA_, s0_, s1_, i64_w, i32_w]
          rfl
         refine take_ (i := 6) (N := some 35) (v := ?_) (a' := ?_) #[true, true, true, true, true, true, true, false, false] rfl rfl (take_ofW HT_.out HW_.out (by kernel_rfl)) (fun _ _ _ h => h) (Or.inl ⟨by rfl, ?_⟩) hHeld ?_ ?_
         rotate_left
         ·rintro w' ⟨s0, s1, s2, s3, s4, s5, s6, s7, s8, s9, s10, s11, s12⟩
          go_simp
          with_reducible rfl
         rotate_left
         ·simp only [Act.put, sA_, s0_, s1_, i64_w, i32_w]
          rfl
         refine one_ (i := 7) (N := some 36) #[true, true, true, true, true, true, true, true, false] rfl rfl (one_of HT_.out (by kernel_rfl)) (by decide) (fun K hK => ?_)
         refine goes_ Try.func63 (by kernel_rfl) rfl #[.slice Ao32 x175004_1.length co32, .int .i64 (rd t169 x7_1)] (by rfl) rfl rfl (by (try simp only [List.map_toArray, List.map_cons, List.map_nil]); first | done | rfl | (simp only [List.length_drop, List.length_take]; rfl)) ?_
         with_reducible refine (spec_l8Find.calls k1 _ _ x175004_1 (rd t169 x7_1) t176 _ ?side1 ?side2 A23.out).mono ?_
         (case side1 => repeat (first | exact (Kd.R_reads' HO_175004.out).2.2 | (with_reducible refine Kd.C_alloc ?_ _) | (with_reducible refine Kd.C_drewN ?_ _) | (with_reducible refine Kd.C_drew ?_)))
         (case side2 => exact (Kd.R_reads' HO_175004.out).2.1)
         rintro e w' ⟨rfl, ⟨nd, rfl⟩⟩
         refine ⟨_, rfl, ?_⟩
         refine hK.out _ _ ⟨(blk_cell BK174.out 0).trans rfl, (blk_cell BK174.out 1).trans rfl, (blk_cell BK174.out 2).trans rfl, (blk_cell BK174.out 3).trans rfl, (blk_cell BK174.out 4).trans rfl, (blk_cell BK174.out 5).trans rfl, (blk_cell BK173.out 0).trans rfl, (blk_cell BK173.out 1).trans rfl, (blk_cell BK173.out 2).trans rfl, (blk_cell BK173.out 3).trans rfl, (blk_cell BK173.out 4).trans rfl, (blk_cell BK173.out 5).trans rfl, hHeld.2.2.2.2.2.2.2.2.2.2.2.2⟩ (fun hHeld => ?_)
         clear hK K
         refine norm_ (a' := ?_) ?_ ?_
         rotate_left
         ·show Act.put _ (some 36) _ = _
          simp only [Act.put, sA_, s0_, s1_, i64_w, i32_w]
          rfl
         refine pure_ (i := 8) (N := some 8) (v := ?_) (a' := ?_) #[true, true, true, true, true, true, true, true, true] rfl rfl (any_of HT_.out (by kernel_rfl)) (fun _ _ _ h => h) (Or.inl ⟨by rfl, ?_⟩) ?_ ?_
         rotate_left
         ·intro w'
          go_simp
          with_reducible rfl
         rotate_left
         ·simp only [Act.put, sA_, s0_, s1_, i64_w, i32_w]
          rfl
         refine done_ (done_of HT_.out (by kernel_rfl)) ?_
         have hnb33 := NB174_160.out
         have hnc33 := NB160_174.out
         have hnb34 := NB174_161.out
         have hnc34 := NB161_174.out
         obtain ⟨hcz35_0, hcz35_1, hcz35_2, hcz35_3, hcz35_4, hcz35_5⟩ := bc6 BK174.out
         obtain ⟨hfz35_0, hfz35_1, hfz35_2, hfz35_3, hfz35_4, hfz35_5⟩ := bf6 BK174.out
         try go_wp2
         (try (rw [drewN_self w31]; generalize hq_ : World.drewN w31 _ = w31; have n0_ : Aside0 (Kd.R (Kd.int .i64) 3 w31 w.heap.size (fun k_ => some k_ ≠ (.slice (some ad175) t169.length co14 : Value).ownBlock ∧ some k_ ≠ (.slice Ao32 x175004_1.length co32 : Value).ownBlock ∧ some k_ ≠ (u175005 : Value).ownBlock) (.slice Ao13 t166.length co13) t166) := ⟨by rw [← hq_]; exact (by (with_reducible repeat (first | apply Kd.R_alloc | apply Kd.R_drewN | apply Kd.R_drew)); exact HO_174004.out)⟩; have n1_ : Aside0 (Kd.R (Kd.int .i64) 3 w31 w.heap.size (fun k_ => some k_ ≠ (.slice Ao13 t166.length co13 : Value).ownBlock ∧ some k_ ≠ (.slice Ao32 x175004_1.length co32 : Value).ownBlock ∧ some k_ ≠ (u175005 : Value).ownBlock) (.slice (some ad175) t169.length co14) t169) := ⟨by rw [← hq_]; exact (by (with_reducible repeat (first | apply Kd.R_alloc | apply Kd.R_drewN | apply Kd.R_drew)); exact HO_174005.out)⟩; have n2_ : Aside0 (Kd.R (Kd.int .i64) 3 w31 w.heap.size (fun k_ => some k_ ≠ (.slice Ao13 t166.length co13 : Value).ownBlock ∧ some k_ ≠ (.slice (some ad175) t169.length co14 : Value).ownBlock ∧ some k_ ≠ (u175005 : Value).ownBlock) (.slice Ao32 x175004_1.length co32) x175004_1) := ⟨by rw [← hq_]; exact (by (with_reducible repeat (first | apply Kd.R_alloc | apply Kd.R_drewN | apply Kd.R_drew)); exact HO_175004.out)⟩; have n3_ : Aside0 (Kd.R (Kd.int .i64) 3 w31 w.heap.size (fun k_ => some k_ ≠ (.slice Ao13 t166.length co13 : Value).ownBlock ∧ some k_ ≠ (.slice (some ad175) t169.length co14 : Value).ownBlock ∧ some k_ ≠ (.slice Ao32 x175004_1.length co32 : Value).ownBlock) u175005 x175005_1) := ⟨by rw [← hq_]; exact (by (with_reducible repeat (first | apply Kd.R_alloc | apply Kd.R_drewN | apply Kd.R_drew)); exact HO_175005.out)⟩; have n4_ : Aside0 (w31.heap[gb160]? = some (.cells #[.int .i64 a0_0, .int .i64 a0_1, .int .i64 a0_2, .int .i64 a0_3, .slice A0_4 l0_4.length c0_4, .slice A0_5 l0_5.length c0_5] 27 (0, 0))) := ⟨by rw [← hq_]; exact (by (with_reducible repeat (first | apply blk_drewN | apply blk_drew | apply blk_alloc)); exact BK160.out)⟩; have n5_ : Aside0 (w31.heap[gb161]? = some (.cells #[.int .i64 0, .int .i64 0, .int .i64 0, .int .i64 0, .slice none 0 0, .slice none 0 0] 27 (0, 0))) := ⟨by rw [← hq_]; exact (by (with_reducible repeat (first | apply blk_drewN | apply blk_drew | apply blk_alloc)); exact BK161.out)⟩; have n6_ : Aside0 (w31.heap[gb173]? = some (.cells #[.int .i64 t162, .int .i64 t163, .int .i64 t164, .int .i64 t165, .slice Ao13 t166.length co13, .slice (some ad175) t169.length co14] 27 (0, 0))) := ⟨by rw [← hq_]; exact (by (with_reducible repeat (first | apply blk_drewN | apply blk_drew | apply blk_alloc)); exact BK173.out)⟩; have n7_ : Aside0 (w31.heap[gb174]? = some (.cells #[.int .i64 4, .int .i64 1, .int .i64 a0_2, .int .i64 a0_3, .slice Ao32 x175004_1.length co32, u175005] 27 (0, 0))) := ⟨by rw [← hq_]; exact (by (with_reducible repeat (first | apply blk_drewN | apply blk_drew | apply blk_alloc)); exact BK174.out)⟩; have n8_ : Aside0 (Below w.heap.size w w31) := ⟨by rw [← hq_]; exact (by repeat (first | (with_reducible first | exact HB.out | apply below_alloc | apply pw_below_drewN | apply below_drew1 | refine below_set ?_ GE160.out | refine below_set ?_ GE161.out | refine below_set ?_ GE173.out | refine below_set ?_ GE174.out) | exact HB.out))⟩; clear HO_174004 HO_174005 HO_175004 HO_175005 BK160 BK161 BK173 BK174 HB hq_; have HO_174004 := n0_; have HO_174005 := n1_; have HO_175004 := n2_; have HO_175005 := n3_; have BK160 := n4_; have BK161 := n5_; have BK173 := n6_; have BK174 := n7_; have HB := n8_; clear n0_ n1_ n2_ n3_ n4_ n5_ n6_ n7_ n8_))
         have n0_ := Aside0.mk (Kd.R_drew HO_174004.out)
         have n1_ := Aside0.mk (Kd.R_drew HO_174005.out)
         have n2_ := Aside0.mk (Kd.R_drew HO_175004.out)
         have n3_ := Aside0.mk (Kd.R_drew HO_175005.out)
         have n4_ := Aside0.mk (blk_drew BK160.out)
         have n5_ := Aside0.mk (blk_drew BK161.out)
         have n6_ := Aside0.mk (blk_drew BK173.out)
         have n7_ := Aside0.mk (blk_drew BK174.out)
         have n8_ := Aside0.mk (below_drew1 HB.out)
         clear HO_174004
         clear HO_174005
         clear HO_175004
         clear HO_175005
         clear BK160
         clear BK161
         clear BK173
         clear BK174
         clear HB
         have HO_174004 := n0_
         have HO_174005 := n1_
         have HO_175004 := n2_
         have HO_175005 := n3_
         have BK160 := n4_
         have BK161 := n5_
         have BK173 := n6_
         have BK174 := n7_
         have HB := n8_
         clear n0_ n1_ n2_ n3_ n4_ n5_ n6_ n7_ n8_
         have p177 : 0 ≤ (x7_1 : Int) := of_decide_eq_true (by first | (with_reducible assumption) | assumption)
         have q177 : x7_1 < (t169.length : Int) := of_decide_eq_true (by first | (with_reducible assumption) | assumption)
         obtain ⟨ad177, e177, hx177_0⟩ := Kd.at_int (Kd.R_reads' HO_174005.out).2.2 x7_1 p177 q177
         obtain rfl : ad175 = ad177 := (by injection e177)
         replace p177 := eq_true p177
         replace q177 := eq_true q177
         refine start_ (n := 11) (S := fun w' => w'.cell? ⟨gb174, 0, none⟩ = some (.int .i64 4) ∧ w'.cell? ⟨gb174, 1, none⟩ = some (.int .i64 1) ∧ w'.cell? ⟨gb174, 2, none⟩ = some (.int .i64 a0_2) ∧ w'.cell? ⟨gb174, 3, none⟩ = some (.int .i64 a0_3) ∧ w'.cell? ⟨gb174, 4, none⟩ = some (.slice Ao32 x175004_1.length co32) ∧ w'.cell? ⟨gb174, 5, none⟩ = some (u175005) ∧ w'.cell? ⟨gb173, 0, none⟩ = some (.int .i64 t162) ∧ w'.cell? ⟨gb173, 1, none⟩ = some (.int .i64 t163) ∧ w'.cell? ⟨gb173, 2, none⟩ = some (.int .i64 t164) ∧ w'.cell? ⟨gb173, 3, none⟩ = some (.int .i64 t165) ∧ w'.cell? ⟨gb173, 4, none⟩ = some (.slice Ao13 t166.length co13) ∧ w'.cell? ⟨gb173, 5, none⟩ = some (.slice (some ad175) t169.length co14) ∧ w'.cell? (ad175.add (x7_1).toNat) = some (.int .i64 (rd t169 x7_1))) (ds := [8, 10]) #[false, false, false, false, false, false, false, false, false, false, false] (by kernel_rfl) rfl rfl ⟨(blk_cell BK174.out 0).trans rfl, (blk_cell BK174.out 1).trans rfl, (blk_cell BK174.out 2).trans rfl, (blk_cell BK174.out 3).trans rfl, (blk_cell BK174.out 4).trans rfl, (blk_cell BK174.out 5).trans rfl, (blk_cell BK173.out 0).trans rfl, (blk_cell BK173.out 1).trans rfl, (blk_cell BK173.out 2).trans rfl, (blk_cell BK173.out 3).trans rfl, (blk_cell BK173.out 4).trans rfl, (blk_cell BK173.out 5).trans rfl, hx177_0⟩ (fun hHeld => ?_); refine with_tabW spec_ImagePal.tab11 spec_ImagePal.bits11 (fun HT_ HW_ => ?_)
         generalize w31.drew = w36 at HO_174004 HO_174005 HO_175004 HO_175005 BK160 BK161 BK173 BK174 HB hx177_0 hHeld ⊢
         refine pure_ (i := 0) (N := some 42) (v := ?_) (a' := ?_) #[true, false, false, false, false, false, false, false, false, false, false] rfl rfl (any_of HT_.out (by kernel_rfl)) (fun _ _ _ h => h) (Or.inl ⟨by rfl, ?_⟩) ?_ ?_
         rotate_left
         ·intro w'
          go_simp
          with_reducible rfl
         rotate_left
         ·simp only [Act.put, sA_, s0_, s1_, i64_w, i32_w]
          rfl
         refine pure_ (i := 2) (N := some 44) (v := ?_) (a' := ?_) #[true, false, true, false, false, false, false, false, false, false, false] rfl rfl (any_of HT_.out (by kernel_rfl)) (fun _ _ _ h => h) (Or.inl ⟨by rfl, ?_⟩) ?_ ?_
         rotate_left
         ·intro w'
          go_simp
          with_reducible rfl
         rotate_left
         ·simp only [Act.put, sA_, s0_, s1_, i64_w, i32_w]
          rfl
         refine pure_ (i := 4) (N := some 46) (v := ?_) (a' := ?_) #[true, false, true, false, true, false, false, false, false, false, false] rfl rfl (any_of HT_.out (by kernel_rfl)) (fun _ _ _ h => h) (Or.inl ⟨by rfl, ?_⟩) ?_ ?_
         rotate_left
         ·intro w'
          go_simp
          with_reducible rfl
         rotate_left
         ·simp only [Act.put, sA_, s0_, s1_, i64_w, i32_w]
          rfl
         refine take_ (i := 1) (N := some 43) (v := ?_) (a' := ?_) #[true, true, true, false, true, false, false, false, false, false, false] rfl rfl (take_ofW HT_.out HW_.out (by kernel_rfl)) (fun _ _ _ h => h) (Or.inl ⟨by rfl, ?_⟩) hHeld ?_ ?_
         rotate_left
         ·rintro w' ⟨s0, s1, s2, s3, s4, s5, s6, s7, s8, s9, s10, s11, s12⟩
          go_simp
          with_reducible rfl
         rotate_left
         ·simp only [Act.put, sA_, s0_, s1_, i64_w, i32_w]
          rfl
         refine take_ (i := 3) (N := some 45) (v := ?_) (a' := ?_) #[true, true, true, true, true, false, false, false, false, false, false] rfl rfl (take_ofW HT_.out HW_.out (by kernel_rfl)) (fun _ _ _ h => h) (Or.inl ⟨by rfl, ?_⟩) hHeld ?_ ?_
         rotate_left
         ·rintro w' ⟨s0, s1, s2, s3, s4, s5, s6, s7, s8, s9, s10, s11, s12⟩
          go_simp
          with_reducible rfl
         rotate_left
         ·simp only [Act.put, sA_, s0_, s1_, i64_w, i32_w]
          rfl
         refine pure_ (i := 5) (N := some 47) (v := ?_) (a' := ?_) #[true, true, true, true, true, true, false, false, false, false, false] rfl rfl (any_of HT_.out (by kernel_rfl)) (fun _ _ _ h => h) (Or.inl ⟨by rfl, ?_⟩) ?_ ?_
         rotate_left
         ·intro w'
          go_simp
          with_reducible rfl
         rotate_left
         ·simp only [Act.put, sA_, s0_, s1_, i64_w, i32_w]
          rfl
         refine take_ (i := 6) (N := some 48) (v := ?_) (a' := ?_) #[true, true, true, true, true, true, true, false, false, false, false] rfl rfl (take_ofW HT_.out HW_.out (by kernel_rfl)) (fun _ _ _ h => h) (Or.inl ⟨by rfl, ?_⟩) hHeld ?_ ?_
         rotate_left
         ·rintro w' ⟨s0, s1, s2, s3, s4, s5, s6, s7, s8, s9, s10, s11, s12⟩
          go_simp
          with_reducible rfl
         rotate_left
         ·simp only [Act.put, sA_, s0_, s1_, i64_w, i32_w]
          rfl
         refine one_ (i := 7) (N := some 49) #[true, true, true, true, true, true, true, true, false, false, false] rfl rfl (one_of HT_.out (by kernel_rfl)) (by decide) (fun K hK => ?_)
         refine value_ (w1 := ?_) (v := ?_) (by rfl) rfl ?_ ?_
         rotate_left 2
         ·go_simp
          constructor
          ·rfl
          ·rfl
         refine hK.out _ _ ⟨(blk_cell (blk_alloc BK174.out _) 0).trans rfl, (blk_cell (blk_alloc BK174.out _) 1).trans rfl, (blk_cell (blk_alloc BK174.out _) 2).trans rfl, (blk_cell (blk_alloc BK174.out _) 3).trans rfl, (blk_cell (blk_alloc BK174.out _) 4).trans rfl, (blk_cell (blk_alloc BK174.out _) 5).trans rfl, (blk_cell (blk_alloc BK173.out _) 0).trans rfl, (blk_cell (blk_alloc BK173.out _) 1).trans rfl, (blk_cell (blk_alloc BK173.out _) 2).trans rfl, (blk_cell (blk_alloc BK173.out _) 3).trans rfl, (blk_cell (blk_alloc BK173.out _) 4).trans rfl, (blk_cell (blk_alloc BK173.out _) 5).trans rfl, (World.cell?_alloc_lt _ _ _ (World.block_lt_of_cell? _ _ (hHeld.2.2.2.2.2.2.2.2.2.2.2.2))).trans (hHeld.2.2.2.2.2.2.2.2.2.2.2.2)⟩ (fun hHeld => ?_)
         clear hK K
         refine norm_ (a' := ?_) ?_ ?_
         rotate_left
         ·show Act.put _ (some 49) _ = _
          simp only [Act.put, sA_, s0_, s1_, i64_w, i32_w]
          rfl
         refine last_ (i := 8) (N := some 50) #[true, true, true, true, true, true, true, true, true, false, false] rfl rfl (one_of HT_.out (by kernel_rfl)) (by decide) (fun K hK => ?_)
         refine Kd.R_append_step (Kd.int .i64) (w0 := w) w.heap.size (by rfl) (.tmp 43) (.tmp 49) 22 3 (.int .i64 0) 8 rfl Try.underlying22 info3 rfl (by decide) (by omega) (.slice Ao32 x175004_1.length co32) x175004_1 (rd t169 x7_1) [.int .i64 (rd t169 x7_1)] (fun k_ => some k_ ≠ (.slice Ao13 t166.length co13 : Value).ownBlock ∧ some k_ ≠ (.slice (some ad175) t169.length co14 : Value).ownBlock ∧ some k_ ≠ (u175005 : Value).ownBlock) (fun _ => False) rfl rfl ?aP (fun _ hk => hk.elim) ?aF ?aO ?aB ?aS ?aL ?_
         (case aP => exact rfl)
         (case aB => exact (by repeat (first | (with_reducible first | exact HB.out | apply below_alloc | apply pw_below_drewN | apply below_drew1 | refine below_set ?_ GE160.out | refine below_set ?_ GE161.out | refine below_set ?_ GE173.out | refine below_set ?_ GE174.out) | exact HB.out)))
         (case aF => exact (fun k_ hk => ⟨Kd.fresh' (Kd.R_lt (by (with_reducible repeat (first | apply Kd.R_alloc | apply Kd.R_drewN | apply Kd.R_drew)); exact HO_174004.out)) k_ hk, Kd.fresh' (Kd.R_lt (by (with_reducible repeat (first | apply Kd.R_alloc | apply Kd.R_drewN | apply Kd.R_drew)); exact HO_174005.out)) k_ hk, Kd.fresh' (Kd.R_lt (by (with_reducible repeat (first | apply Kd.R_alloc | apply Kd.R_drewN | apply Kd.R_drew)); exact HO_175005.out)) k_ hk⟩))
         (case aO => exact (by (with_reducible repeat (first | apply Kd.R_alloc | apply Kd.R_drewN | apply Kd.R_drew)); exact HO_175004.out))
         (case aS => exact (below_size (by repeat (first | (with_reducible first | exact HB.out | apply below_alloc | apply pw_below_drewN | apply below_drew1 | refine below_set ?_ GE160.out | refine below_set ?_ GE161.out | refine below_set ?_ GE173.out | refine below_set ?_ GE174.out) | exact HB.out))))
         (case aL => have := LMc25.out; omega)
         intro v179 w37 ho hb hg hat
         rw [← Ny178.out] at ho
         have n0_ := Aside0.mk (Kd.R_after (ok := (fun k_ => some k_ ≠ (.slice (some ad175) t169.length co14 : Value).ownBlock ∧ some k_ ≠ (u175005 : Value).ownBlock)) (by (with_reducible repeat (first | apply Kd.R_alloc | apply Kd.R_drewN | apply Kd.R_drew)); exact Kd.R_mono HO_174004.out (fun _ hk => ⟨⟨hk.1, hk.2.2⟩, hk.2.1⟩)) hg hat)
         have n1_ := Aside0.mk (Kd.R_after (ok := (fun k_ => some k_ ≠ (.slice Ao13 t166.length co13 : Value).ownBlock ∧ some k_ ≠ (u175005 : Value).ownBlock)) (by (with_reducible repeat (first | apply Kd.R_alloc | apply Kd.R_drewN | apply Kd.R_drew)); exact Kd.R_mono HO_174005.out (fun _ hk => ⟨⟨hk.1, hk.2.2⟩, hk.2.1⟩)) hg hat)
         have n2_ := Aside0.mk (Kd.R_after (ok := (fun k_ => some k_ ≠ (.slice Ao13 t166.length co13 : Value).ownBlock ∧ some k_ ≠ (.slice (some ad175) t169.length co14 : Value).ownBlock)) (by (with_reducible repeat (first | apply Kd.R_alloc | apply Kd.R_drewN | apply Kd.R_drew)); exact Kd.R_mono HO_175005.out (fun _ hk => ⟨⟨hk.1, hk.2.1⟩, hk.2.2⟩)) hg hat)
         have n3_ := Aside0.mk (blk_grown (g := gb160) (o := .cells #[.int .i64 a0_0, .int .i64 a0_1, .int .i64 a0_2, .int .i64 a0_3, .slice A0_4 l0_4.length c0_4, .slice A0_5 l0_5.length c0_5] 27 (0, 0)) (by (with_reducible repeat (first | apply blk_drewN | apply blk_drew | apply blk_alloc)); exact BK160.out) hg (Kd.R_ne HO_175004.out BK160.out (by decide)))
         have n4_ := Aside0.mk (blk_grown (g := gb161) (o := .cells #[.int .i64 0, .int .i64 0, .int .i64 0, .int .i64 0, .slice none 0 0, .slice none 0 0] 27 (0, 0)) (by (with_reducible repeat (first | apply blk_drewN | apply blk_drew | apply blk_alloc)); exact BK161.out) hg (Kd.R_ne HO_175004.out BK161.out (by decide)))
         have n5_ := Aside0.mk (blk_grown (g := gb173) (o := .cells #[.int .i64 t162, .int .i64 t163, .int .i64 t164, .int .i64 t165, .slice Ao13 t166.length co13, .slice (some ad175) t169.length co14] 27 (0, 0)) (by (with_reducible repeat (first | apply blk_drewN | apply blk_drew | apply blk_alloc)); exact BK173.out) hg (Kd.R_ne HO_175004.out BK173.out (by decide)))
         have n6_ := Aside0.mk (blk_grown (g := gb174) (o := .cells #[.int .i64 4, .int .i64 1, .int .i64 a0_2, .int .i64 a0_3, .slice Ao32 x175004_1.length co32, u175005] 27 (0, 0)) (by (with_reducible repeat (first | apply blk_drewN | apply blk_drew | apply blk_alloc)); exact BK174.out) hg (Kd.R_ne HO_175004.out BK174.out (by decide)))
         have n7_ := Aside0.mk (hb)
         have n8_ := Aside0.mk (ho)
         clear HO_174004
         clear HO_174005
         clear HO_175005
         clear BK160
         clear BK161
         clear BK173
         clear BK174
         clear HB
         clear HO_175004
         have HO_174004 := n0_
         have HO_174005 := n1_
         have HO_175005 := n2_
         have BK160 := n3_
         have BK161 := n4_
         have BK173 := n5_
         have BK174 := n6_
         have HB := n7_
         have HO180 := n8_
         clear n0_ n1_ n2_ n3_ n4_ n5_ n6_ n7_ n8_
         clear ho hb hg hat
         obtain ⟨Ao38, co38, eo38⟩ := Kd.R_slice HO180.out
         (first | subst eo38 | (injection eo38 with f1_ f2_ f3_; have f4_ := f1_.symm; have f5_ := f3_.symm; clear f1_ f2_ f3_; subst f4_; subst f5_))
         refine hK.out _ _ ?_
         clear hK K
         refine norm_ (a' := ?_) ?_ ?_
         rotate_left
         ·show Act.put _ (some 50) _ = _
          simp only [Act.put, sA_, s0_, s1_, i64_w, i32_w]
          rfl
         refine pure_ (i := 9) (N := some 51) (v := ?_) (a' := ?_) #[true, true, true, true, true, true, true, true, true, true, false] rfl rfl (any_of HT_.out (by kernel_rfl)) (fun _ _ _ h => h) (Or.inl ⟨by rfl, ?_⟩) ?_ ?_
         rotate_left
         ·intro w'
          go_simp
          with_reducible rfl
         rotate_left
         ·simp only [Act.put, sA_, s0_, s1_, i64_w, i32_w]
          rfl
         refine last_ (i := 10) (N := none) #[true, true, true, true, true, true, true, true, true, true, true] rfl rfl (one_of HT_.out (by kernel_rfl)) (by decide) (fun K hK => ?_)
         have hs39 : w37.cell? ⟨gb174, 4, none⟩ = some (.slice Ao32 x175004_1.length co32) := (blk_cell BK174.out 4).trans rfl
         have hfs39 := blk_frozen BK174.out 4
         have hns39_0 := NB160_174.out
         have hns39_1 := NB161_174.out
         have hns39_2 := NB173_174.out
         have hms39_0 := NB174_160.out
         have hms39_1 := NB174_161.out
         have hms39_2 := NB174_173.out
         refine skip_ (w1 := ?_) (by rfl) rfl ?_ ?_
         rotate_left
         ·go_simp
          rfl
         refine hK.out _ _ ?_
         clear hK K
         refine done_ (done_of HT_.out (by kernel_rfl)) ?_
         obtain ⟨hcz40_0, hcz40_1, hcz40_2, hcz40_3, hcz40_4, hcz40_5⟩ := bc6 BK174.out
         obtain ⟨hfz40_0, hfz40_1, hfz40_2, hfz40_3, hfz40_4, hfz40_5⟩ := bf6 BK174.out
         try go_wp2_with (first | ((with_reducible refine gate_builtin (b := .append) (xs := #[.tmp 53, .tmp 55]) rfl ?_); at_builtin; refine Kd.R_append (Kd.int .i64) (w0 := w) w.heap.size rfl (.tmp 53) (.tmp 55) 22 3 (.int .i64 0) 8 rfl Try.underlying22 info3 rfl (by decide) (by omega) u175005 x175005_1 (x175004_1.length : Int) [.int .i64 (x175004_1.length : Int)] (fun k_ => some k_ ≠ (.slice Ao13 t166.length co13 : Value).ownBlock ∧ some k_ ≠ (.slice (some ad175) t169.length co14 : Value).ownBlock ∧ some k_ ≠ (.slice Ao38 y178.length co38 : Value).ownBlock) (fun _ => False) rfl (by first | (go_simp; done) | (go_simp; rfl)) ?aP (fun _ hk => hk.elim) ?aF ?aO ?aB ?aS ?aL ?_; (case aP => exact rfl); (case aB => exact (by repeat (first | (with_reducible first | exact HB.out | apply below_alloc | apply pw_below_drewN | apply below_drew1 | refine below_set ?_ GE160.out | refine below_set ?_ GE161.out | refine below_set ?_ GE173.out | refine below_set ?_ GE174.out) | exact HB.out))); (case aF => exact (fun k_ hk => ⟨Kd.fresh' (Kd.R_lt (by (with_reducible repeat (first | apply Kd.R_alloc | apply Kd.R_drewN | apply Kd.R_drew)); exact (Kd.R_mono (Kd.R_far (Kd.R_types HO_174004.out BK174.out (by decide)) (fun _ hk => hk.2) (.slice Ao38 y178.length co38)) (fun _ h_ => h_.1)))) k_ hk, Kd.fresh' (Kd.R_lt (by (with_reducible repeat (first | apply Kd.R_alloc | apply Kd.R_drewN | apply Kd.R_drew)); exact (Kd.R_mono (Kd.R_far (Kd.R_types HO_174005.out BK174.out (by decide)) (fun _ hk => hk.2) (.slice Ao38 y178.length co38)) (fun _ h_ => h_.1)))) k_ hk, Kd.fresh' (Kd.R_lt (by (with_reducible repeat (first | apply Kd.R_alloc | apply Kd.R_drewN | apply Kd.R_drew)); exact (Kd.R_mono (Kd.R_far (Kd.R_types HO180.out BK174.out (by decide)) (fun _ hk => hk.2) (.slice Ao38 y178.length co38)) (fun _ h_ => h_.1)))) k_ hk⟩)); (case aO => exact (by (with_reducible repeat (first | apply Kd.R_alloc | apply Kd.R_drewN | apply Kd.R_drew)); exact Kd.R_mono (Kd.R_far (Kd.R_types HO_175005.out BK174.out (by decide)) (fun _ hk => hk.2) (.slice Ao38 y178.length co38)) (fun _ hk => ⟨hk.1.1.1, ⟨hk.1.1.2, hk.1.2⟩⟩))); (case aS => exact (below_size (by repeat (first | (with_reducible first | exact HB.out | apply below_alloc | apply pw_below_drewN | apply below_drew1 | refine below_set ?_ GE160.out | refine below_set ?_ GE161.out | refine below_set ?_ GE173.out | refine below_set ?_ GE174.out) | exact HB.out)))); (case aL => have := LMc26.out; omega); intro v182 w41 ho hb hg hat; rw [← Ny181.out] at ho; have n0_ := Aside0.mk (Kd.R_after (ok := (fun k_ => some k_ ≠ (.slice (some ad175) t169.length co14 : Value).ownBlock ∧ some k_ ≠ (.slice Ao38 y178.length co38 : Value).ownBlock)) (by (with_reducible repeat (first | apply Kd.R_alloc | apply Kd.R_drewN | apply Kd.R_drew)); exact Kd.R_mono (Kd.R_far (Kd.R_types HO_174004.out BK174.out (by decide)) (fun _ hk => hk.2) (.slice Ao38 y178.length co38)) (fun _ hk => ⟨⟨hk.1.1.1, hk.1.2⟩, hk.1.1.2⟩)) hg hat); have n1_ := Aside0.mk (Kd.R_after (ok := (fun k_ => some k_ ≠ (.slice Ao13 t166.length co13 : Value).ownBlock ∧ some k_ ≠ (.slice Ao38 y178.length co38 : Value).ownBlock)) (by (with_reducible repeat (first | apply Kd.R_alloc | apply Kd.R_drewN | apply Kd.R_drew)); exact Kd.R_mono (Kd.R_far (Kd.R_types HO_174005.out BK174.out (by decide)) (fun _ hk => hk.2) (.slice Ao38 y178.length co38)) (fun _ hk => ⟨⟨hk.1.1.1, hk.1.2⟩, hk.1.1.2⟩)) hg hat); have n2_ := Aside0.mk (blk_grown (g := gb160) (o := .cells #[.int .i64 a0_0, .int .i64 a0_1, .int .i64 a0_2, .int .i64 a0_3, .slice A0_4 l0_4.length c0_4, .slice A0_5 l0_5.length c0_5] 27 (0, 0)) (by (with_reducible repeat (first | apply blk_drewN | apply blk_drew | apply blk_alloc)); refine blk_far ?_ NB160_174.out _; (with_reducible repeat (first | apply blk_drewN | apply blk_drew | apply blk_alloc)); exact BK160.out) hg (Kd.R_ne HO_175005.out BK160.out (by decide))); have n3_ := Aside0.mk (blk_grown (g := gb161) (o := .cells #[.int .i64 0, .int .i64 0, .int .i64 0, .int .i64 0, .slice none 0 0, .slice none 0 0] 27 (0, 0)) (by (with_reducible repeat (first | apply blk_drewN | apply blk_drew | apply blk_alloc)); refine blk_far ?_ NB161_174.out _; (with_reducible repeat (first | apply blk_drewN | apply blk_drew | apply blk_alloc)); exact BK161.out) hg (Kd.R_ne HO_175005.out BK161.out (by decide))); have n4_ := Aside0.mk (blk_grown (g := gb173) (o := .cells #[.int .i64 t162, .int .i64 t163, .int .i64 t164, .int .i64 t165, .slice Ao13 t166.length co13, .slice (some ad175) t169.length co14] 27 (0, 0)) (by (with_reducible repeat (first | apply blk_drewN | apply blk_drew | apply blk_alloc)); refine blk_far ?_ NB173_174.out _; (with_reducible repeat (first | apply blk_drewN | apply blk_drew | apply blk_alloc)); exact BK173.out) hg (Kd.R_ne HO_175005.out BK173.out (by decide))); have n5_ := Aside0.mk (blk_grown (g := gb174) (o := .cells #[.int .i64 4, .int .i64 1, .int .i64 a0_2, .int .i64 a0_3, .slice Ao38 y178.length co38, u175005] 27 (0, 0)) (by (with_reducible repeat (first | apply blk_drewN | apply blk_drew | apply blk_alloc)); refine blk_put (cs := #[.int .i64 4, .int .i64 1, .int .i64 a0_2, .int .i64 a0_3, .slice Ao32 x175004_1.length co32, u175005]) ?_ 4 _ rfl; (with_reducible repeat (first | apply blk_drewN | apply blk_drew | apply blk_alloc)); exact BK174.out) hg (Kd.R_ne HO_175005.out BK174.out (by decide))); have n6_ := Aside0.mk (Kd.R_after (ok := (fun k_ => some k_ ≠ (.slice Ao13 t166.length co13 : Value).ownBlock ∧ some k_ ≠ (.slice (some ad175) t169.length co14 : Value).ownBlock)) (by (with_reducible repeat (first | apply Kd.R_alloc | apply Kd.R_drewN | apply Kd.R_drew)); exact Kd.R_mono (Kd.R_far (Kd.R_types HO180.out BK174.out (by decide)) (fun _ hk => hk.2) (.slice Ao38 y178.length co38)) (fun _ hk => ⟨⟨hk.1.1, hk.1.2.1⟩, hk.1.2.2⟩)) hg hat); have n7_ := Aside0.mk (hb); have n8_ := Aside0.mk (ho); clear HO_174004; clear HO_174005; clear BK160; clear BK161; clear BK173; clear BK174; clear HO180; clear HB; clear HO_175005; have HO_174004 := n0_; have HO_174005 := n1_; have BK160 := n2_; have BK161 := n3_; have BK173 := n4_; have BK174 := n5_; have HO180 := n6_; have HB := n7_; have HO183 := n8_; clear n0_ n1_ n2_ n3_ n4_ n5_ n6_ n7_ n8_; clear ho hb hg hat; obtain ⟨Ao42, co42, eo42⟩ := Kd.R_slice HO183.out; subst eo42; obtain ⟨hcz43_0, hcz43_1, hcz43_2, hcz43_3, hcz43_4, hcz43_5⟩ := bc6 BK174.out; obtain ⟨hfz43_0, hfz43_1, hfz43_2, hfz43_3, hfz43_4, hfz43_5⟩ := bf6 BK174.out))
         go_roundg k1
         case measure => have := HK1.out; omega
         case rel => exact ⟨(wrap64 (x7_1 + 1)), (y178), (y181), (.slice Ao38 y178.length co38), (.slice Ao42 y181.length co42), (by first | rfl | (simp; done) | (simp [*]; done)), H', ⟨by have := HK1.out; omega⟩, ⟨by (with_reducible repeat (first | apply Kd.R_alloc | apply Kd.R_drewN | apply Kd.R_drew)); exact Kd.R_mono (Kd.R_far (Kd.R_types HO_174004.out BK174.out (by decide)) (fun _ hk => hk.2) (.slice Ao42 y181.length co42)) (fun _ hk => ⟨hk.1.1.1, ⟨hk.1.1.2, hk.1.2⟩⟩)⟩, ⟨by (with_reducible repeat (first | apply Kd.R_alloc | apply Kd.R_drewN | apply Kd.R_drew)); exact Kd.R_mono (Kd.R_far (Kd.R_types HO_174005.out BK174.out (by decide)) (fun _ hk => hk.2) (.slice Ao42 y181.length co42)) (fun _ hk => ⟨hk.1.1.1, ⟨hk.1.1.2, hk.1.2⟩⟩)⟩, ⟨by (with_reducible repeat (first | apply Kd.R_alloc | apply Kd.R_drewN | apply Kd.R_drew)); exact Kd.R_mono (Kd.R_far (Kd.R_types HO180.out BK174.out (by decide)) (fun _ hk => hk.2) (.slice Ao42 y181.length co42)) (fun _ hk => ⟨hk.1.1.1, ⟨hk.1.1.2, hk.1.2⟩⟩)⟩, ⟨by (with_reducible repeat (first | apply Kd.R_alloc | apply Kd.R_drewN | apply Kd.R_drew)); exact Kd.R_mono (Kd.R_far (Kd.R_types HO183.out BK174.out (by decide)) (fun _ hk => hk.2) (.slice Ao42 y181.length co42)) (fun _ hk => ⟨hk.1.1, ⟨hk.1.2.1, hk.1.2.2⟩⟩)⟩, ⟨by (with_reducible repeat (first | apply blk_drewN | apply blk_drew | apply blk_alloc)); refine blk_far ?_ NB160_174.out _; (with_reducible repeat (first | apply blk_drewN | apply blk_drew | apply blk_alloc)); exact BK160.out⟩, ⟨by (with_reducible repeat (first | apply blk_drewN | apply blk_drew | apply blk_alloc)); refine blk_far ?_ NB161_174.out _; (with_reducible repeat (first | apply blk_drewN | apply blk_drew | apply blk_alloc)); exact BK161.out⟩, ⟨by (with_reducible repeat (first | apply blk_drewN | apply blk_drew | apply blk_alloc)); refine blk_far ?_ NB173_174.out _; (with_reducible repeat (first | apply blk_drewN | apply blk_drew | apply blk_alloc)); exact BK173.out⟩, ⟨by (with_reducible repeat (first | apply blk_drewN | apply blk_drew | apply blk_alloc)); refine blk_put (cs := #[.int .i64 4, .int .i64 1, .int .i64 a0_2, .int .i64 a0_3, .slice Ao38 y178.length co38, u175005]) ?_ 5 _ rfl; (with_reducible repeat (first | apply blk_drewN | apply blk_drew | apply blk_alloc)); exact BK174.out⟩, ⟨by repeat (first | (with_reducible first | exact HB.out | apply below_alloc | apply pw_below_drewN | apply below_drew1 | refine below_set ?_ GE160.out | refine below_set ?_ GE161.out | refine below_set ?_ GE173.out | refine below_set ?_ GE174.out) | exact HB.out)⟩⟩
        ·rw [if_neg c26] at H
         exact absurd H (by simp)
       ·rw [if_neg c25] at H
        exact absurd H (by simp)
      ·rw [if_neg c24] at H
       have c24b0 : decide (t176 < 0) = false := decide_eq_false c24
       clear c24
       by_cases c44 : x175005_1.length < 17592186044416
       ·rw [if_pos c44] at H
        have LMc44 := Aside0.mk c44
        clear c44
        obtain ⟨y184, hy184⟩ : ∃ y_ : List Int, y_ = (x175005_1 ++ [t176]) := ⟨_, rfl⟩
        replace H : (spec_ImagePal.l0 k1 (wrap64 (x7_1 + 1)) t162 t163 t164 t165 t166 t169 4 1 a0_2 a0_3 x175004_1 y184) = some (r1, r2, r3, r4, r5, r6, r7) := by first | (rw [hy184]; with_reducible exact H) | (have H2_ := (Option.bind_some _ _).symm.trans H; rw [hy184]; with_reducible exact H2_) | (have H2_ := (Option.bind_some _ _).symm.trans H; with_reducible exact H2_) | with_reducible exact H | (rw [hy184]; exact H) | exact H
        have Ny184 := Aside0.mk hy184
        clear hy184
        have H' := Aside0.mk H
        clear H
        have hnb45 := NB173_160.out
        have hnc45 := NB160_173.out
        have hnb46 := NB173_161.out
        have hnc46 := NB161_173.out
        have hnb47 := NB173_174.out
        have hnc47 := NB174_173.out
        obtain ⟨hcz48_0, hcz48_1, hcz48_2, hcz48_3, hcz48_4, hcz48_5⟩ := bc6 BK173.out
        obtain ⟨hfz48_0, hfz48_1, hfz48_2, hfz48_3, hfz48_4, hfz48_5⟩ := bf6 BK173.out
        try go_wp2
        have n0_ := Aside0.mk (Kd.R_drew HO_174004.out)
        have n1_ := Aside0.mk (Kd.R_drew HO_174005.out)
        have n2_ := Aside0.mk (Kd.R_drew HO_175004.out)
        have n3_ := Aside0.mk (Kd.R_drew HO_175005.out)
        have n4_ := Aside0.mk (blk_drew BK160.out)
        have n5_ := Aside0.mk (blk_drew BK161.out)
        have n6_ := Aside0.mk (blk_drew BK173.out)
        have n7_ := Aside0.mk (blk_drew BK174.out)
        have n8_ := Aside0.mk (below_drew1 HB.out)
        clear HO_174004
        clear HO_174005
        clear HO_175004
        clear HO_175005
        clear BK160
        clear BK161
        clear BK173
        clear BK174
        clear HB
        have HO_174004 := n0_
        have HO_174005 := n1_
        have HO_175004 := n2_
        have HO_175005 := n3_
        have BK160 := n4_
        have BK161 := n5_
        have BK173 := n6_
        have BK174 := n7_
        have HB := n8_
        clear n0_ n1_ n2_ n3_ n4_ n5_ n6_ n7_ n8_
        have p175 : 0 ≤ (x7_1 : Int) := of_decide_eq_true (by first | (with_reducible assumption) | assumption)
        have q175 : x7_1 < (t169.length : Int) := of_decide_eq_true (by first | (with_reducible assumption) | assumption)
        obtain ⟨ad175, e175, hx175_0⟩ := Kd.at_int (Kd.R_reads' HO_174005.out).2.2 x7_1 p175 q175
        cases e175
        replace p175 := eq_true p175
        replace q175 := eq_true q175
        obtain ⟨Ao50, co50, eo50⟩ := Kd.R_slice HO_175004.out
        (first | subst eo50 | (injection eo50 with f1_ f2_ f3_; have f4_ := f1_.symm; have f5_ := f3_.symm; clear f1_ f2_ f3_; subst f4_; subst f5_))
        refine start_ (n := 9) (S := fun w' => w'.cell? ⟨gb174, 0, none⟩ = some (.int .i64 4) ∧ w'.cell? ⟨gb174, 1, none⟩ = some (.int .i64 1) ∧ w'.cell? ⟨gb174, 2, none⟩ = some (.int .i64 a0_2) ∧ w'.cell? ⟨gb174, 3, none⟩ = some (.int .i64 a0_3) ∧ w'.cell? ⟨gb174, 4, none⟩ = some (.slice Ao50 x175004_1.length co50) ∧ w'.cell? ⟨gb174, 5, none⟩ = some (u175005) ∧ w'.cell? ⟨gb173, 0, none⟩ = some (.int .i64 t162) ∧ w'.cell? ⟨gb173, 1, none⟩ = some (.int .i64 t163) ∧ w'.cell? ⟨gb173, 2, none⟩ = some (.int .i64 t164) ∧ w'.cell? ⟨gb173, 3, none⟩ = some (.int .i64 t165) ∧ w'.cell? ⟨gb173, 4, none⟩ = some (.slice Ao13 t166.length co13) ∧ w'.cell? ⟨gb173, 5, none⟩ = some (.slice (some ad175) t169.length co14) ∧ w'.cell? (ad175.add (x7_1).toNat) = some (.int .i64 (rd t169 x7_1))) (ds := []) #[false, false, false, false, false, false, false, false, false] (by kernel_rfl) rfl rfl ⟨(blk_cell BK174.out 0).trans rfl, (blk_cell BK174.out 1).trans rfl, (blk_cell BK174.out 2).trans rfl, (blk_cell BK174.out 3).trans rfl, (blk_cell BK174.out 4).trans rfl, (blk_cell BK174.out 5).trans rfl, (blk_cell BK173.out 0).trans rfl, (blk_cell BK173.out 1).trans rfl, (blk_cell BK173.out 2).trans rfl, (blk_cell BK173.out 3).trans rfl, (blk_cell BK173.out 4).trans rfl, (blk_cell BK173.out 5).trans rfl, hx175_0⟩ (fun hHeld => ?_); refine with_tabW spec_ImagePal.tab8 spec_ImagePal.bits8 (fun HT_ HW_ => ?_)
        generalize wr.drew = w49 at HO_174004 HO_174005 HO_175004 HO_175005 BK160 BK161 BK173 BK174 HB hx175_0 hHeld ⊢
        refine pure_ (i := 0) (N := some 29) (v := ?_) (a' := ?_) #[true, false, false, false, false, false, false, false, false] rfl rfl (any_of HT_.out (by kernel_rfl)) (fun _ _ _ h => h) (Or.inl ⟨by rfl, ?_⟩) ?_ ?_
        rotate_left
        ·intro w'
         go_simp
         with_reducible rfl
        rotate_left
        ·simp only [Act.put, sA_, s0_, s1_, i64_w, i32_w]
         rfl
        refine pure_ (i := 2) (N := some 31) (v := ?_) (a' := ?_) #[true, false, true, false, false, false, false, false, false] rfl rfl (any_of HT_.out (by kernel_rfl)) (fun _ _ _ h => h) (Or.inl ⟨by rfl, ?_⟩) ?_ ?_
        rotate_left
        ·intro w'
         go_simp
         with_reducible rfl
        rotate_left
        ·simp only [Act.put, sA_, s0_, s1_, i64_w, i32_w]
         rfl
        refine pure_ (i := 4) (N := some 33) (v := ?_) (a' := ?_) #[true, false, true, false, true, false, false, false, false] rfl rfl (any_of HT_.out (by kernel_rfl)) (fun _ _ _ h => h) (Or.inl ⟨by rfl, ?_⟩) ?_ ?_
        rotate_left
        ·intro w'
         go_simp
         with_reducible rfl
        rotate_left
        ·simp only [Act.put, sA_, s0_, s1_, i64_w, i32_w]
         rfl
        refine take_ (i := 1) (N := some 30) (v := ?_) (a' := ?_) #[true, true, true, false, true, false, false, false, false] rfl rfl (take_ofW HT_.out HW_.out (by kernel_rfl)) (fun _ _ _ h => h) (Or.inl ⟨by rfl, ?_⟩) hHeld ?_ ?_
        rotate_left
        ·rintro w' ⟨s0, s1, s2, s3, s4, s5, s6, s7, s8, s9, s10, s11, s12⟩
         go_simp
         with_reducible rfl
        rotate_left
        ·simp only [Act.put, sA_, s0_, s1_, i64_w, i32_w]
         rfl
        refine take_ (i := 3) (N := some 32) (v := ?_) (a' := ?_) #[true, true, true, true, true, false, false, false, false] rfl rfl (take_ofW HT_.out HW_.out (by kernel_rfl)) (fun _ _ _ h => h) (Or.inl ⟨by rfl, ?_⟩) hHeld ?_ ?_
        rotate_left
        ·rintro w' ⟨s0, s1, s2, s3, s4, s5, s6, s7, s8, s9, s10, s11, s12⟩
         go_simp
         with_reducible rfl
        rotate_left
        ·simp only [Act.put, sA_, s0_, s1_, i64_w, i32_w]
         rfl
        refine pure_ (i := 5) (N := some 34) (v := ?_) (a' := ?_) #[true, true, true, true, true, true, false, false, false] rfl rfl (any_of HT_.out (by kernel_rfl)) (fun _ _ _ h => h) (Or.inl ⟨by rfl, ?_⟩) ?_ ?_
        rotate_left
        ·intro w'
         go_simp
         with_reducible rfl
        rotate_left
        ·simp only [Act.put, sA_, s0_, s1_, i64_w, i32_w]
         rfl
        refine take_ (i := 6) (N := some 35) (v := ?_) (a' := ?_) #[true, true, true, true, true, true, true, false, false] rfl rfl (take_ofW HT_.out HW_.out (by kernel_rfl)) (fun _ _ _ h => h) (Or.inl ⟨by rfl, ?_⟩) hHeld ?_ ?_
        rotate_left
        ·rintro w' ⟨s0, s1, s2, s3, s4, s5, s6, s7, s8, s9, s10, s11, s12⟩
         go_simp
         with_reducible rfl
        rotate_left
        ·simp only [Act.put, sA_, s0_, s1_, i64_w, i32_w]
         rfl
        refine one_ (i := 7) (N := some 36) #[true, true, true, true, true, true, true, true, false] rfl rfl (one_of HT_.out (by kernel_rfl)) (by decide) (fun K hK => ?_)
        refine goes_ Try.func63 (by kernel_rfl) rfl #[.slice Ao50 x175004_1.length co50, .int .i64 (rd t169 x7_1)] (by rfl) rfl rfl (by (try simp only [List.map_toArray, List.map_cons, List.map_nil]); first | done | rfl | (simp only [List.length_drop, List.length_take]; rfl)) ?_
        with_reducible refine (spec_l8Find.calls k1 _ _ x175004_1 (rd t169 x7_1) t176 _ ?side1 ?side2 A23.out).mono ?_
        (case side1 => repeat (first | exact (Kd.R_reads' HO_175004.out).2.2 | (with_reducible refine Kd.C_alloc ?_ _) | (with_reducible refine Kd.C_drewN ?_ _) | (with_reducible refine Kd.C_drew ?_)))
        (case side2 => exact (Kd.R_reads' HO_175004.out).2.1)
        rintro e w' ⟨rfl, ⟨nd, rfl⟩⟩
        refine ⟨_, rfl, ?_⟩
        refine hK.out _ _ ⟨(blk_cell BK174.out 0).trans rfl, (blk_cell BK174.out 1).trans rfl, (blk_cell BK174.out 2).trans rfl, (blk_cell BK174.out 3).trans rfl, (blk_cell BK174.out 4).trans rfl, (blk_cell BK174.out 5).trans rfl, (blk_cell BK173.out 0).trans rfl, (blk_cell BK173.out 1).trans rfl, (blk_cell BK173.out 2).trans rfl, (blk_cell BK173.out 3).trans rfl, (blk_cell BK173.out 4).trans rfl, (blk_cell BK173.out 5).trans rfl, hHeld.2.2.2.2.2.2.2.2.2.2.2.2⟩ (fun hHeld => ?_)
        clear hK K
        refine norm_ (a' := ?_) ?_ ?_
        rotate_left
        ·show Act.put _ (some 36) _ = _
         simp only [Act.put, sA_, s0_, s1_, i64_w, i32_w]
         rfl
        refine pure_ (i := 8) (N := some 8) (v := ?_) (a' := ?_) #[true, true, true, true, true, true, true, true, true] rfl rfl (any_of HT_.out (by kernel_rfl)) (fun _ _ _ h => h) (Or.inl ⟨by rfl, ?_⟩) ?_ ?_
        rotate_left
        ·intro w'
         go_simp
         with_reducible rfl
        rotate_left
        ·simp only [Act.put, sA_, s0_, s1_, i64_w, i32_w]
         rfl
        refine done_ (done_of HT_.out (by kernel_rfl)) ?_
        have hnb51 := NB174_160.out
        have hnc51 := NB160_174.out
        have hnb52 := NB174_161.out
        have hnc52 := NB161_174.out
        obtain ⟨hcz53_0, hcz53_1, hcz53_2, hcz53_3, hcz53_4, hcz53_5⟩ := bc6 BK174.out
        obtain ⟨hfz53_0, hfz53_1, hfz53_2, hfz53_3, hfz53_4, hfz53_5⟩ := bf6 BK174.out
        try go_wp2_with (first | ((with_reducible refine gate_builtin (b := .append) (xs := #[.tmp 53, .tmp 55]) rfl ?_); at_builtin; refine Kd.R_append (Kd.int .i64) (w0 := w) w.heap.size rfl (.tmp 53) (.tmp 55) 22 3 (.int .i64 0) 8 rfl Try.underlying22 info3 rfl (by decide) (by omega) u175005 x175005_1 t176 [.int .i64 t176] (fun k_ => some k_ ≠ (.slice Ao13 t166.length co13 : Value).ownBlock ∧ some k_ ≠ (.slice (some ad175) t169.length co14 : Value).ownBlock ∧ some k_ ≠ (.slice Ao50 x175004_1.length co50 : Value).ownBlock) (fun _ => False) rfl rfl ?aP (fun _ hk => hk.elim) ?aF ?aO ?aB ?aS ?aL ?_; (case aP => exact rfl); (case aB => exact (by repeat (first | (with_reducible first | exact HB.out | apply below_alloc | apply pw_below_drewN | apply below_drew1 | refine below_set ?_ GE160.out | refine below_set ?_ GE161.out | refine below_set ?_ GE173.out | refine below_set ?_ GE174.out) | exact HB.out))); (case aF => exact (fun k_ hk => ⟨Kd.fresh' (Kd.R_lt (by (with_reducible repeat (first | apply Kd.R_alloc | apply Kd.R_drewN | apply Kd.R_drew)); exact HO_174004.out)) k_ hk, Kd.fresh' (Kd.R_lt (by (with_reducible repeat (first | apply Kd.R_alloc | apply Kd.R_drewN | apply Kd.R_drew)); exact HO_174005.out)) k_ hk, Kd.fresh' (Kd.R_lt (by (with_reducible repeat (first | apply Kd.R_alloc | apply Kd.R_drewN | apply Kd.R_drew)); exact HO_175004.out)) k_ hk⟩)); (case aO => exact (by (with_reducible repeat (first | apply Kd.R_alloc | apply Kd.R_drewN | apply Kd.R_drew)); exact HO_175005.out)); (case aS => exact (below_size (by repeat (first | (with_reducible first | exact HB.out | apply below_alloc | apply pw_below_drewN | apply below_drew1 | refine below_set ?_ GE160.out | refine below_set ?_ GE161.out | refine below_set ?_ GE173.out | refine below_set ?_ GE174.out) | exact HB.out)))); (case aL => have := LMc44.out; omega); intro v185 w54 ho hb hg hat; rw [← Ny184.out] at ho; have n0_ := Aside0.mk (Kd.R_after (ok := (fun k_ => some k_ ≠ (.slice (some ad175) t169.length co14 : Value).ownBlock ∧ some k_ ≠ (.slice Ao50 x175004_1.length co50 : Value).ownBlock)) (by (with_reducible repeat (first | apply Kd.R_alloc | apply Kd.R_drewN | apply Kd.R_drew)); exact Kd.R_mono HO_174004.out (fun _ hk => ⟨⟨hk.1, hk.2.1⟩, hk.2.2⟩)) hg hat); have n1_ := Aside0.mk (Kd.R_after (ok := (fun k_ => some k_ ≠ (.slice Ao13 t166.length co13 : Value).ownBlock ∧ some k_ ≠ (.slice Ao50 x175004_1.length co50 : Value).ownBlock)) (by (with_reducible repeat (first | apply Kd.R_alloc | apply Kd.R_drewN | apply Kd.R_drew)); exact Kd.R_mono HO_174005.out (fun _ hk => ⟨⟨hk.1, hk.2.1⟩, hk.2.2⟩)) hg hat); have n2_ := Aside0.mk (Kd.R_after (ok := (fun k_ => some k_ ≠ (.slice Ao13 t166.length co13 : Value).ownBlock ∧ some k_ ≠ (.slice (some ad175) t169.length co14 : Value).ownBlock)) (by (with_reducible repeat (first | apply Kd.R_alloc | apply Kd.R_drewN | apply Kd.R_drew)); exact Kd.R_mono HO_175004.out (fun _ hk => ⟨⟨hk.1, hk.2.1⟩, hk.2.2⟩)) hg hat); have n3_ := Aside0.mk (blk_grown (g := gb160) (o := .cells #[.int .i64 a0_0, .int .i64 a0_1, .int .i64 a0_2, .int .i64 a0_3, .slice A0_4 l0_4.length c0_4, .slice A0_5 l0_5.length c0_5] 27 (0, 0)) (by (with_reducible repeat (first | apply blk_drewN | apply blk_drew | apply blk_alloc)); exact BK160.out) hg (Kd.R_ne HO_175005.out BK160.out (by decide))); have n4_ := Aside0.mk (blk_grown (g := gb161) (o := .cells #[.int .i64 0, .int .i64 0, .int .i64 0, .int .i64 0, .slice none 0 0, .slice none 0 0] 27 (0, 0)) (by (with_reducible repeat (first | apply blk_drewN | apply blk_drew | apply blk_alloc)); exact BK161.out) hg (Kd.R_ne HO_175005.out BK161.out (by decide))); have n5_ := Aside0.mk (blk_grown (g := gb173) (o := .cells #[.int .i64 t162, .int .i64 t163, .int .i64 t164, .int .i64 t165, .slice Ao13 t166.length co13, .slice (some ad175) t169.length co14] 27 (0, 0)) (by (with_reducible repeat (first | apply blk_drewN | apply blk_drew | apply blk_alloc)); exact BK173.out) hg (Kd.R_ne HO_175005.out BK173.out (by decide))); have n6_ := Aside0.mk (blk_grown (g := gb174) (o := .cells #[.int .i64 4, .int .i64 1, .int .i64 a0_2, .int .i64 a0_3, .slice Ao50 x175004_1.length co50, u175005] 27 (0, 0)) (by (with_reducible repeat (first | apply blk_drewN | apply blk_drew | apply blk_alloc)); exact BK174.out) hg (Kd.R_ne HO_175005.out BK174.out (by decide))); have n7_ := Aside0.mk (hb); have n8_ := Aside0.mk (ho); clear HO_174004; clear HO_174005; clear HO_175004; clear BK160; clear BK161; clear BK173; clear BK174; clear HB; clear HO_175005; have HO_174004 := n0_; have HO_174005 := n1_; have HO_175004 := n2_; have BK160 := n3_; have BK161 := n4_; have BK173 := n5_; have BK174 := n6_; have HB := n7_; have HO186 := n8_; clear n0_ n1_ n2_ n3_ n4_ n5_ n6_ n7_ n8_; clear ho hb hg hat; obtain ⟨Ao55, co55, eo55⟩ := Kd.R_slice HO186.out; subst eo55; obtain ⟨hcz56_0, hcz56_1, hcz56_2, hcz56_3, hcz56_4, hcz56_5⟩ := bc6 BK174.out; obtain ⟨hfz56_0, hfz56_1, hfz56_2, hfz56_3, hfz56_4, hfz56_5⟩ := bf6 BK174.out))
        go_roundg k1
        case measure => have := HK1.out; omega
        case rel => exact ⟨(wrap64 (x7_1 + 1)), (x175004_1), (y184), (.slice Ao50 x175004_1.length co50), (.slice Ao55 y184.length co55), (by first | rfl | (simp; done) | (simp [*]; done)), H', ⟨by have := HK1.out; omega⟩, ⟨by (with_reducible repeat (first | apply Kd.R_alloc | apply Kd.R_drewN | apply Kd.R_drew)); exact Kd.R_mono (Kd.R_far (Kd.R_types HO_174004.out BK174.out (by decide)) (fun _ hk => hk.2) (.slice Ao55 y184.length co55)) (fun _ hk => ⟨hk.1.1.1, ⟨hk.1.1.2, hk.1.2⟩⟩)⟩, ⟨by (with_reducible repeat (first | apply Kd.R_alloc | apply Kd.R_drewN | apply Kd.R_drew)); exact Kd.R_mono (Kd.R_far (Kd.R_types HO_174005.out BK174.out (by decide)) (fun _ hk => hk.2) (.slice Ao55 y184.length co55)) (fun _ hk => ⟨hk.1.1.1, ⟨hk.1.1.2, hk.1.2⟩⟩)⟩, ⟨by (with_reducible repeat (first | apply Kd.R_alloc | apply Kd.R_drewN | apply Kd.R_drew)); exact Kd.R_mono (Kd.R_far (Kd.R_types HO_175004.out BK174.out (by decide)) (fun _ hk => hk.2) (.slice Ao55 y184.length co55)) (fun _ hk => ⟨hk.1.1.1, ⟨hk.1.1.2, hk.1.2⟩⟩)⟩, ⟨by (with_reducible repeat (first | apply Kd.R_alloc | apply Kd.R_drewN | apply Kd.R_drew)); exact Kd.R_mono (Kd.R_far (Kd.R_types HO186.out BK174.out (by decide)) (fun _ hk => hk.2) (.slice Ao55 y184.length co55)) (fun _ hk => ⟨hk.1.1, ⟨hk.1.2.1, hk.1.2.2⟩⟩)⟩, ⟨by (with_reducible repeat (first | apply blk_drewN | apply blk_drew | apply blk_alloc)); refine blk_far ?_ NB160_174.out _; (with_reducible repeat (first | apply blk_drewN | apply blk_drew | apply blk_alloc)); exact BK160.out⟩, ⟨by (with_reducible repeat (first | apply blk_drewN | apply blk_drew | apply blk_alloc)); refine blk_far ?_ NB161_174.out _; (with_reducible repeat (first | apply blk_drewN | apply blk_drew | apply blk_alloc)); exact BK161.out⟩, ⟨by (with_reducible repeat (first | apply blk_drewN | apply blk_drew | apply blk_alloc)); refine blk_far ?_ NB173_174.out _; (with_reducible repeat (first | apply blk_drewN | apply blk_drew | apply blk_alloc)); exact BK173.out⟩, ⟨by (with_reducible repeat (first | apply blk_drewN | apply blk_drew | apply blk_alloc)); refine blk_put (cs := #[.int .i64 4, .int .i64 1, .int .i64 a0_2, .int .i64 a0_3, .slice Ao50 x175004_1.length co50, u175005]) ?_ 5 _ rfl; (with_reducible repeat (first | apply blk_drewN | apply blk_drew | apply blk_alloc)); exact BK174.out⟩, ⟨by repeat (first | (with_reducible first | exact HB.out | apply below_alloc | apply pw_below_drewN | apply below_drew1 | refine below_set ?_ GE160.out | refine below_set ?_ GE161.out | refine below_set ?_ GE173.out | refine below_set ?_ GE174.out) | exact HB.out)⟩⟩
       ·rw [if_neg c44] at H
        exact absurd H (by simp)
     ·rw [if_neg c22] at H
      exact absurd H (by simp)
    ·rw [if_neg c21] at H
     have c21b0 : decide (x7_1 < (t169.length : Int)) = false := decide_eq_false c21
     clear c21
     have H' := Aside0.mk H
     clear H
     have hnb57 := NB173_160.out
     have hnc57 := NB160_173.out
     have hnb58 := NB173_161.out
     have hnc58 := NB161_173.out
     have hnb59 := NB173_174.out
     have hnc59 := NB174_173.out
     obtain ⟨hcz60_0, hcz60_1, hcz60_2, hcz60_3, hcz60_4, hcz60_5⟩ := bc6 BK173.out
     obtain ⟨hfz60_0, hfz60_1, hfz60_2, hfz60_3, hfz60_4, hfz60_5⟩ := bf6 BK173.out
     go_wp2
     go_loopg [] k1 (fun kq w' => ∃ (x175001_2 : Int), Aside0 (spec_ImagePal.l1 kq 4 x175001_2 a0_2 a0_3 x175004_1 x175005_1 = some (r1, r2, r3, r4, r5, r6, r7)) ∧ Aside0 (kq ≤ k1) ∧ Aside0 (Kd.R (Kd.int .i64) 3 w' w.heap.size (fun k_ => some k_ ≠ ((.slice Ao14 t169.length co14) : Value).ownBlock ∧ some k_ ≠ (u175004 : Value).ownBlock ∧ some k_ ≠ (u175005 : Value).ownBlock) (.slice Ao13 t166.length co13) t166) ∧ Aside0 (Kd.R (Kd.int .i64) 3 w' w.heap.size (fun k_ => some k_ ≠ ((.slice Ao13 t166.length co13) : Value).ownBlock ∧ some k_ ≠ (u175004 : Value).ownBlock ∧ some k_ ≠ (u175005 : Value).ownBlock) (.slice Ao14 t169.length co14) t169) ∧ Aside0 (Kd.R (Kd.int .i64) 3 w' w.heap.size (fun k_ => some k_ ≠ ((.slice Ao13 t166.length co13) : Value).ownBlock ∧ some k_ ≠ ((.slice Ao14 t169.length co14) : Value).ownBlock ∧ some k_ ≠ (u175005 : Value).ownBlock) u175004 x175004_1) ∧ Aside0 (Kd.R (Kd.int .i64) 3 w' w.heap.size (fun k_ => some k_ ≠ ((.slice Ao13 t166.length co13) : Value).ownBlock ∧ some k_ ≠ ((.slice Ao14 t169.length co14) : Value).ownBlock ∧ some k_ ≠ (u175004 : Value).ownBlock) u175005 x175005_1) ∧ Aside0 (w'.heap[gb160]? = some (.cells #[.int .i64 a0_0, .int .i64 a0_1, .int .i64 a0_2, .int .i64 a0_3, (.slice A0_4 l0_4.length c0_4), (.slice A0_5 l0_5.length c0_5)] 27 (0, 0))) ∧ Aside0 (w'.heap[gb161]? = some (.cells #[.int .i64 0, .int .i64 0, .int .i64 0, .int .i64 0, (.slice none 0 0), (.slice none 0 0)] 27 (0, 0))) ∧ Aside0 (w'.heap[gb173]? = some (.cells #[.int .i64 t162, .int .i64 t163, .int .i64 t164, .int .i64 t165, (.slice Ao13 t166.length co13), (.slice Ao14 t169.length co14)] 27 (0, 0))) ∧ Aside0 (w'.heap[gb174]? = some (.cells #[.int .i64 4, .int .i64 x175001_2, .int .i64 a0_2, .int .i64 a0_3, u175004, u175005] 27 (0, 0))) ∧ Aside0 (Below w.heap.size w w'))
     case atStart => exact ⟨(1), H', ⟨Nat.le_refl _⟩, ⟨by (with_reducible repeat (first | apply Kd.R_alloc | apply Kd.R_drewN | apply Kd.R_drew)); exact HO_174004.out⟩, ⟨by (with_reducible repeat (first | apply Kd.R_alloc | apply Kd.R_drewN | apply Kd.R_drew)); exact HO_174005.out⟩, ⟨by (with_reducible repeat (first | apply Kd.R_alloc | apply Kd.R_drewN | apply Kd.R_drew)); exact HO_175004.out⟩, ⟨by (with_reducible repeat (first | apply Kd.R_alloc | apply Kd.R_drewN | apply Kd.R_drew)); exact HO_175005.out⟩, ⟨by (with_reducible repeat (first | apply blk_drewN | apply blk_drew | apply blk_alloc)); exact BK160.out⟩, ⟨by (with_reducible repeat (first | apply blk_drewN | apply blk_drew | apply blk_alloc)); exact BK161.out⟩, ⟨by (with_reducible repeat (first | apply blk_drewN | apply blk_drew | apply blk_alloc)); exact BK173.out⟩, ⟨by (with_reducible repeat (first | apply blk_drewN | apply blk_drew | apply blk_alloc)); exact BK174.out⟩, ⟨by repeat (first | (with_reducible first | exact HB.out | apply below_alloc | apply pw_below_drewN | apply below_drew1 | refine below_set ?_ GE160.out | refine below_set ?_ GE161.out | refine below_set ?_ GE173.out | refine below_set ?_ GE174.out) | exact HB.out)⟩⟩
     case round =>
      clear H'
      try clear p1
      try clear q1
      try clear hx1
      try clear c2
      try clear p2
      try clear c3
      try clear c4
      try clear c5
      try clear c6
      try clear p6
      try clear p17
      try clear q17
      try clear hx17
      try clear c21
      try clear c21b0
      try clear c22
      try clear c22b0
      try clear c24
      try clear c24b0
      try clear c25
      try clear c26
      try clear c27
      try clear c28
      try clear c29
      try clear c33
      try clear c34
      try clear c44
      try clear c45
      try clear c46
      try clear c47
      try clear c51
      try clear c52
      try clear c57
      try clear c58
      try clear c59
      try clear hcz30_0
      try clear hcz30_1
      try clear hcz30_2
      try clear hcz30_3
      try clear hcz30_4
      try clear hcz30_5
      try clear hcz35_0
      try clear hcz35_1
      try clear hcz35_2
      try clear hcz35_3
      try clear hcz35_4
      try clear hcz35_5
      try clear hcz40_0
      try clear hcz40_1
      try clear hcz40_2
      try clear hcz40_3
      try clear hcz40_4
      try clear hcz40_5
      try clear hcz43_0
      try clear hcz43_1
      try clear hcz43_2
      try clear hcz43_3
      try clear hcz43_4
      try clear hcz43_5
      try clear hcz48_0
      try clear hcz48_1
      try clear hcz48_2
      try clear hcz48_3
      try clear hcz48_4
      try clear hcz48_5
      try clear hcz53_0
      try clear hcz53_1
      try clear hcz53_2
      try clear hcz53_3
      try clear hcz53_4
      try clear hcz53_5
      try clear hcz56_0
      try clear hcz56_1
      try clear hcz56_2
      try clear hcz56_3
      try clear hcz56_4
      try clear hcz56_5
      try clear hcz60_0
      try clear hcz60_1
      try clear hcz60_2
      try clear hcz60_3
      try clear hcz60_4
      try clear hcz60_5
      try clear hfz30_0
      try clear hfz30_1
      try clear hfz30_2
      try clear hfz30_3
      try clear hfz30_4
      try clear hfz30_5
      try clear hfz35_0
      try clear hfz35_1
      try clear hfz35_2
      try clear hfz35_3
      try clear hfz35_4
      try clear hfz35_5
      try clear hfz40_0
      try clear hfz40_1
      try clear hfz40_2
      try clear hfz40_3
      try clear hfz40_4
      try clear hfz40_5
      try clear hfz43_0
      try clear hfz43_1
      try clear hfz43_2
      try clear hfz43_3
      try clear hfz43_4
      try clear hfz43_5
      try clear hfz48_0
      try clear hfz48_1
      try clear hfz48_2
      try clear hfz48_3
      try clear hfz48_4
      try clear hfz48_5
      try clear hfz53_0
      try clear hfz53_1
      try clear hfz53_2
      try clear hfz53_3
      try clear hfz53_4
      try clear hfz53_5
      try clear hfz56_0
      try clear hfz56_1
      try clear hfz56_2
      try clear hfz56_3
      try clear hfz56_4
      try clear hfz56_5
      try clear hfz60_0
      try clear hfz60_1
      try clear hfz60_2
      try clear hfz60_3
      try clear hfz60_4
      try clear hfz60_5
      try clear hfz7_1
      try clear hfz7_2
      try clear hfz7_3
      try clear hfz7_4
      try clear hfz7_5
      try clear hx175_0
      try clear hx177_0
      try clear p175
      try clear p177
      try clear q175
      try clear q177
      obtain ⟨x175001_2, HA, HK2, HO_174004, HO_174005, HO_175004, HO_175005, BK160, BK161, BK173, BK174, HB⟩ := hrel
      cases gk with
      | zero => exact absurd HA.out (by simp [spec_ImagePal.l1])
      | succ k2 =>
       have H := HA.out
       clear HA
       simp only [spec_ImagePal.l1] at H
       replace H := Option.bind_eq_some_iff.mp H
       obtain ⟨t187, A610, H⟩ := H
       replace H : (if t187 < (x175004_1.length : Int) then (spec_ImagePal.l1 k2 4 (wrap64 (x175001_2 * 2)) a0_2 a0_3 x175004_1 x175005_1) else (if x175001_2 > 8 then (some (0, 0, 0, 0, ([] : List Int), ([] : List Int), false)) else (some (4, x175001_2, a0_2, a0_3, x175004_1, x175005_1, true)))) = some (r1, r2, r3, r4, r5, r6, r7) := H
       have A61 := Aside0.mk A610
       clear A610
       by_cases c62 : t187 < (x175004_1.length : Int)
       ·rw [if_pos c62] at H
        have c62b0 : decide (t187 < (x175004_1.length : Int)) = true := decide_eq_true c62
        clear c62
        have H' := Aside0.mk H
        clear H
        try go_wp2
        have n0_ := Aside0.mk (Kd.R_drew HO_174004.out)
        have n1_ := Aside0.mk (Kd.R_drew HO_174005.out)
        have n2_ := Aside0.mk (Kd.R_drew HO_175004.out)
        have n3_ := Aside0.mk (Kd.R_drew HO_175005.out)
        have n4_ := Aside0.mk (blk_drew BK160.out)
        have n5_ := Aside0.mk (blk_drew BK161.out)
        have n6_ := Aside0.mk (blk_drew BK173.out)
        have n7_ := Aside0.mk (blk_drew BK174.out)
        have n8_ := Aside0.mk (below_drew1 HB.out)
        clear HO_174004
        clear HO_174005
        clear HO_175004
        clear HO_175005
        clear BK160
        clear BK161
        clear BK173
        clear BK174
        clear HB
        have HO_174004 := n0_
        have HO_174005 := n1_
        have HO_175004 := n2_
        have HO_175005 := n3_
        have BK160 := n4_
        have BK161 := n5_
        have BK173 := n6_
        have BK174 := n7_
        have HB := n8_
        clear n0_ n1_ n2_ n3_ n4_ n5_ n6_ n7_ n8_
        obtain ⟨Ao64, co64, eo64⟩ := Kd.R_slice HO_175004.out
        (first | subst eo64 | (injection eo64 with f1_ f2_ f3_; have f4_ := f1_.symm; have f5_ := f3_.symm; clear f1_ f2_ f3_; subst f4_; subst f5_))
        refine start_ (n := 7) (S := fun w' => w'.cell? ⟨gb174, 0, none⟩ = some (.int .i64 4) ∧ w'.cell? ⟨gb174, 1, none⟩ = some (.int .i64 x175001_2) ∧ w'.cell? ⟨gb174, 2, none⟩ = some (.int .i64 a0_2) ∧ w'.cell? ⟨gb174, 3, none⟩ = some (.int .i64 a0_3) ∧ w'.cell? ⟨gb174, 4, none⟩ = some (.slice Ao64 x175004_1.length co64) ∧ w'.cell? ⟨gb174, 5, none⟩ = some (u175005)) (ds := []) #[false, false, false, false, false, false, false] (by kernel_rfl) rfl rfl (bc6 BK174.out) (fun hHeld => ?_)
        generalize wr.drew = w63 at HO_174004 HO_174005 HO_175004 HO_175005 BK160 BK161 BK173 BK174 HB hHeld ⊢
        refine pure_ (i := 0) (N := some 58) (v := ?_) (a' := ?_) #[true, false, false, false, false, false, false] rfl rfl (by kernel_rfl) (fun _ _ _ h => h) (Or.inl ⟨by rfl, ?_⟩) ?_ ?_
        rotate_left
        ·intro w'
         go_simp
         with_reducible rfl
        rotate_left
        ·simp only [Act.put, sA_, s0_, s1_, i64_w, i32_w]
         rfl
        refine pure_ (i := 3) (N := some 61) (v := ?_) (a' := ?_) #[true, false, false, true, false, false, false] rfl rfl (by kernel_rfl) (fun _ _ _ h => h) (Or.inl ⟨by rfl, ?_⟩) ?_ ?_
        rotate_left
        ·intro w'
         go_simp
         with_reducible rfl
        rotate_left
        ·simp only [Act.put, sA_, s0_, s1_, i64_w, i32_w]
         rfl
        refine take_ (i := 1) (N := some 59) (v := ?_) (a' := ?_) #[true, true, false, true, false, false, false] rfl rfl (by kernel_rfl) (fun _ _ _ h => h) (Or.inl ⟨by rfl, ?_⟩) hHeld ?_ ?_
        rotate_left
        ·rintro w' ⟨s0, s1, s2, s3, s4, s5⟩
         go_simp
         with_reducible rfl
        rotate_left
        ·simp only [Act.put, sA_, s0_, s1_, i64_w, i32_w]
         rfl
        refine take_ (i := 4) (N := some 62) (v := ?_) (a' := ?_) #[true, true, false, true, true, false, false] rfl rfl (by kernel_rfl) (fun _ _ _ h => h) (Or.inl ⟨by rfl, ?_⟩) hHeld ?_ ?_
        rotate_left
        ·rintro w' ⟨s0, s1, s2, s3, s4, s5⟩
         go_simp
         with_reducible rfl
        rotate_left
        ·simp only [Act.put, sA_, s0_, s1_, i64_w, i32_w]
         rfl
        refine pure_ (i := 5) (N := some 63) (v := ?_) (a' := ?_) #[true, true, false, true, true, true, false] rfl rfl (by kernel_rfl) (fun _ _ _ h => h) (Or.inl ⟨by rfl, ?_⟩) ?_ ?_
        rotate_left
        ·intro w'
         go_simp
         with_reducible rfl
        rotate_left
        ·simp only [Act.put, sA_, s0_, s1_, i64_w, i32_w]
         rfl
        refine one_ (i := 2) (N := some 60) #[true, true, true, true, true, true, false] rfl rfl (by kernel_rfl) (by decide) (fun K hK => ?_)
        refine goes_ Try.func46 (by kernel_rfl) rfl #[.int .i64 x175001_2] (by rfl) rfl rfl (by (try simp only [List.map_toArray, List.map_cons, List.map_nil]); first | done | rfl | (simp only [List.length_drop, List.length_take]; rfl)) ?_
        with_reducible refine (spec_l1Pow.calls k2 x175001_2 t187 _ A61.out).mono ?_
        rintro e w' ⟨rfl, ⟨nd, rfl⟩⟩
        refine ⟨_, rfl, ?_⟩
        refine hK.out _ _ (bc6 BK174.out) (fun hHeld => ?_)
        clear hK K
        refine norm_ (a' := ?_) ?_ ?_
        rotate_left
        ·show Act.put _ (some 60) _ = _
         simp only [Act.put, sA_, s0_, s1_, i64_w, i32_w]
         rfl
        refine pure_ (i := 6) (N := some 64) (v := ?_) (a' := ?_) #[true, true, true, true, true, true, true] rfl rfl (by kernel_rfl) (fun _ _ _ h => h) (Or.inl ⟨by rfl, ?_⟩) ?_ ?_
        rotate_left
        ·intro w'
         go_simp
         with_reducible rfl
        rotate_left
        ·simp only [Act.put, sA_, s0_, s1_, i64_w, i32_w]
         rfl
        refine done_ (by kernel_rfl) ?_
        have hnb65 := NB174_160.out
        have hnc65 := NB160_174.out
        have hnb66 := NB174_161.out
        have hnc66 := NB161_174.out
        have hnb67 := NB174_173.out
        have hnc67 := NB173_174.out
        obtain ⟨hcz68_0, hcz68_1, hcz68_2, hcz68_3, hcz68_4, hcz68_5⟩ := bc6 BK174.out
        obtain ⟨hfz68_0, hfz68_1, hfz68_2, hfz68_3, hfz68_4, hfz68_5⟩ := bf6 BK174.out
        try go_wp2
        go_roundg k2
        case measure => have := HK1.out; have := HK2.out; omega
        case rel => exact ⟨(wrap64 (x175001_2 * 2)), H', ⟨by have := HK1.out; have := HK2.out; omega⟩, ⟨by (with_reducible repeat (first | apply Kd.R_alloc | apply Kd.R_drewN | apply Kd.R_drew)); exact Kd.R_mono (Kd.R_far (Kd.R_types HO_174004.out BK174.out (by decide)) (fun _ hk => hk.2) (.int .i64 (wrap64 (x175001_2 * 2)))) (fun _ hk => ⟨hk.1.1, ⟨hk.1.2.1, hk.1.2.2⟩⟩)⟩, ⟨by (with_reducible repeat (first | apply Kd.R_alloc | apply Kd.R_drewN | apply Kd.R_drew)); exact Kd.R_mono (Kd.R_far (Kd.R_types HO_174005.out BK174.out (by decide)) (fun _ hk => hk.2) (.int .i64 (wrap64 (x175001_2 * 2)))) (fun _ hk => ⟨hk.1.1, ⟨hk.1.2.1, hk.1.2.2⟩⟩)⟩, ⟨by (with_reducible repeat (first | apply Kd.R_alloc | apply Kd.R_drewN | apply Kd.R_drew)); exact Kd.R_mono (Kd.R_far (Kd.R_types HO_175004.out BK174.out (by decide)) (fun _ hk => hk.2) (.int .i64 (wrap64 (x175001_2 * 2)))) (fun _ hk => ⟨hk.1.1, ⟨hk.1.2.1, hk.1.2.2⟩⟩)⟩, ⟨by (with_reducible repeat (first | apply Kd.R_alloc | apply Kd.R_drewN | apply Kd.R_drew)); exact Kd.R_mono (Kd.R_far (Kd.R_types HO_175005.out BK174.out (by decide)) (fun _ hk => hk.2) (.int .i64 (wrap64 (x175001_2 * 2)))) (fun _ hk => ⟨hk.1.1, ⟨hk.1.2.1, hk.1.2.2⟩⟩)⟩, ⟨by (with_reducible repeat (first | apply blk_drewN | apply blk_drew | apply blk_alloc)); refine blk_far ?_ NB160_174.out _; (with_reducible repeat (first | apply blk_drewN | apply blk_drew | apply blk_alloc)); exact BK160.out⟩, ⟨by (with_reducible repeat (first | apply blk_drewN | apply blk_drew | apply blk_alloc)); refine blk_far ?_ NB161_174.out _; (with_reducible repeat (first | apply blk_drewN | apply blk_drew | apply blk_alloc)); exact BK161.out⟩, ⟨by (with_reducible repeat (first | apply blk_drewN | apply blk_drew | apply blk_alloc)); refine blk_far ?_ NB173_174.out _; (with_reducible repeat (first | apply blk_drewN | apply blk_drew | apply blk_alloc)); exact BK173.out⟩, ⟨by (with_reducible repeat (first | apply blk_drewN | apply blk_drew | apply blk_alloc)); refine blk_put (cs := #[.int .i64 4, .int .i64 x175001_2, .int .i64 a0_2, .int .i64 a0_3, .slice Ao64 x175004_1.length co64, u175005]) ?_ 1 _ rfl; (with_reducible repeat (first | apply blk_drewN | apply blk_drew | apply blk_alloc)); exact BK174.out⟩, ⟨by repeat (first | (with_reducible first | exact HB.out | apply below_alloc | apply pw_below_drewN | apply below_drew1 | refine below_set ?_ GE160.out | refine below_set ?_ GE161.out | refine below_set ?_ GE173.out | refine below_set ?_ GE174.out) | exact HB.out)⟩⟩
       ·rw [if_neg c62] at H
        have c62b0 : decide (t187 < (x175004_1.length : Int)) = false := decide_eq_false c62
        clear c62
        by_cases c69 : x175001_2 > 8
        ·rw [if_pos c69] at H
         have c69b0 : decide (8 < x175001_2) = true := decide_eq_true c69
         clear c69
         simp only [Option.some.injEq, Prod.mk.injEq] at H
         obtain ⟨rfl, rfl, rfl, rfl, rfl, rfl, rfl⟩ := H
         try go_wp2
         have n0_ := Aside0.mk (Kd.R_drew HO_174004.out)
         have n1_ := Aside0.mk (Kd.R_drew HO_174005.out)
         have n2_ := Aside0.mk (Kd.R_drew HO_175004.out)
         have n3_ := Aside0.mk (Kd.R_drew HO_175005.out)
         have n4_ := Aside0.mk (blk_drew BK160.out)
         have n5_ := Aside0.mk (blk_drew BK161.out)
         have n6_ := Aside0.mk (blk_drew BK173.out)
         have n7_ := Aside0.mk (blk_drew BK174.out)
         have n8_ := Aside0.mk (below_drew1 HB.out)
         clear HO_174004
         clear HO_174005
         clear HO_175004
         clear HO_175005
         clear BK160
         clear BK161
         clear BK173
         clear BK174
         clear HB
         have HO_174004 := n0_
         have HO_174005 := n1_
         have HO_175004 := n2_
         have HO_175005 := n3_
         have BK160 := n4_
         have BK161 := n5_
         have BK173 := n6_
         have BK174 := n7_
         have HB := n8_
         clear n0_ n1_ n2_ n3_ n4_ n5_ n6_ n7_ n8_
         obtain ⟨Ao71, co71, eo71⟩ := Kd.R_slice HO_175004.out
         (first | subst eo71 | (injection eo71 with f1_ f2_ f3_; have f4_ := f1_.symm; have f5_ := f3_.symm; clear f1_ f2_ f3_; subst f4_; subst f5_))
         refine start_ (n := 7) (S := fun w' => w'.cell? ⟨gb174, 0, none⟩ = some (.int .i64 4) ∧ w'.cell? ⟨gb174, 1, none⟩ = some (.int .i64 x175001_2) ∧ w'.cell? ⟨gb174, 2, none⟩ = some (.int .i64 a0_2) ∧ w'.cell? ⟨gb174, 3, none⟩ = some (.int .i64 a0_3) ∧ w'.cell? ⟨gb174, 4, none⟩ = some (.slice Ao71 x175004_1.length co71) ∧ w'.cell? ⟨gb174, 5, none⟩ = some (u175005)) (ds := []) #[false, false, false, false, false, false, false] (by kernel_rfl) rfl rfl (bc6 BK174.out) (fun hHeld => ?_)
         generalize wr.drew = w70 at HO_174004 HO_174005 HO_175004 HO_175005 BK160 BK161 BK173 BK174 HB hHeld ⊢
         refine pure_ (i := 0) (N := some 58) (v := ?_) (a' := ?_) #[true, false, false, false, false, false, false] rfl rfl (by kernel_rfl) (fun _ _ _ h => h) (Or.inl ⟨by rfl, ?_⟩) ?_ ?_
         rotate_left
         ·intro w'
          go_simp
          with_reducible rfl
         rotate_left
         ·simp only [Act.put, sA_, s0_, s1_, i64_w, i32_w]
          rfl
         refine pure_ (i := 3) (N := some 61) (v := ?_) (a' := ?_) #[true, false, false, true, false, false, false] rfl rfl (by kernel_rfl) (fun _ _ _ h => h) (Or.inl ⟨by rfl, ?_⟩) ?_ ?_
         rotate_left
         ·intro w'
          go_simp
          with_reducible rfl
         rotate_left
         ·simp only [Act.put, sA_, s0_, s1_, i64_w, i32_w]
          rfl
         refine take_ (i := 1) (N := some 59) (v := ?_) (a' := ?_) #[true, true, false, true, false, false, false] rfl rfl (by kernel_rfl) (fun _ _ _ h => h) (Or.inl ⟨by rfl, ?_⟩) hHeld ?_ ?_
         rotate_left
         ·rintro w' ⟨s0, s1, s2, s3, s4, s5⟩
          go_simp
          with_reducible rfl
         rotate_left
         ·simp only [Act.put, sA_, s0_, s1_, i64_w, i32_w]
          rfl
         refine take_ (i := 4) (N := some 62) (v := ?_) (a' := ?_) #[true, true, false, true, true, false, false] rfl rfl (by kernel_rfl) (fun _ _ _ h => h) (Or.inl ⟨by rfl, ?_⟩) hHeld ?_ ?_
         rotate_left
         ·rintro w' ⟨s0, s1, s2, s3, s4, s5⟩
          go_simp
          with_reducible rfl
         rotate_left
         ·simp only [Act.put, sA_, s0_, s1_, i64_w, i32_w]
          rfl
         refine pure_ (i := 5) (N := some 63) (v := ?_) (a' := ?_) #[true, true, false, true, true, true, false] rfl rfl (by kernel_rfl) (fun _ _ _ h => h) (Or.inl ⟨by rfl, ?_⟩) ?_ ?_
         rotate_left
         ·intro w'
          go_simp
          with_reducible rfl
         rotate_left
         ·simp only [Act.put, sA_, s0_, s1_, i64_w, i32_w]
          rfl
         refine one_ (i := 2) (N := some 60) #[true, true, true, true, true, true, false] rfl rfl (by kernel_rfl) (by decide) (fun K hK => ?_)
         refine goes_ Try.func46 (by kernel_rfl) rfl #[.int .i64 x175001_2] (by rfl) rfl rfl (by (try simp only [List.map_toArray, List.map_cons, List.map_nil]); first | done | rfl | (simp only [List.length_drop, List.length_take]; rfl)) ?_
         with_reducible refine (spec_l1Pow.calls k2 x175001_2 t187 _ A61.out).mono ?_
         rintro e w' ⟨rfl, ⟨nd, rfl⟩⟩
         refine ⟨_, rfl, ?_⟩
         refine hK.out _ _ (bc6 BK174.out) (fun hHeld => ?_)
         clear hK K
         refine norm_ (a' := ?_) ?_ ?_
         rotate_left
         ·show Act.put _ (some 60) _ = _
          simp only [Act.put, sA_, s0_, s1_, i64_w, i32_w]
          rfl
         refine pure_ (i := 6) (N := some 64) (v := ?_) (a' := ?_) #[true, true, true, true, true, true, true] rfl rfl (by kernel_rfl) (fun _ _ _ h => h) (Or.inl ⟨by rfl, ?_⟩) ?_ ?_
         rotate_left
         ·intro w'
          go_simp
          with_reducible rfl
         rotate_left
         ·simp only [Act.put, sA_, s0_, s1_, i64_w, i32_w]
          rfl
         refine done_ (by kernel_rfl) ?_
         have hnb72 := NB174_160.out
         have hnc72 := NB160_174.out
         have hnb73 := NB174_161.out
         have hnc73 := NB161_174.out
         have hnb74 := NB174_173.out
         have hnc74 := NB173_174.out
         obtain ⟨hcz75_0, hcz75_1, hcz75_2, hcz75_3, hcz75_4, hcz75_5⟩ := bc6 BK174.out
         obtain ⟨hfz75_0, hfz75_1, hfz75_2, hfz75_3, hfz75_4, hfz75_5⟩ := bf6 BK174.out
         have hnb76 := NB161_160.out
         have hnc76 := NB160_161.out
         have hnb77 := NB161_173.out
         have hnc77 := NB173_161.out
         obtain ⟨hcz78_0, hcz78_1, hcz78_2, hcz78_3, hcz78_4, hcz78_5⟩ := bc6 BK161.out
         obtain ⟨hfz78_0, hfz78_1, hfz78_2, hfz78_3, hfz78_4, hfz78_5⟩ := bf6 BK161.out
         try go_wp2
         refine bodyPost_ret (results_ct rfl _ _ gb161 27 #[.int .i64 0, .int .i64 0, .int .i64 0, .int .i64 0, .slice none 0 0, .slice none 0 0] (0, 0) _ rfl (by (with_reducible repeat (first | apply blk_drewN | apply blk_drew | apply blk_alloc)); refine blk_put (cs := #[.int .i64 0, .int .i64 0, .int .i64 0, .int .i64 0, .slice none 0 0, .slice none 0 0]) ?_ 5 _ rfl; (with_reducible repeat (first | apply blk_drewN | apply blk_drew | apply blk_alloc)); refine blk_put (cs := #[.int .i64 0, .int .i64 0, .int .i64 0, .int .i64 0, .slice none 0 0, .slice none 0 0]) ?_ 4 _ rfl; (with_reducible repeat (first | apply blk_drewN | apply blk_drew | apply blk_alloc)); refine blk_put (cs := #[.int .i64 0, .int .i64 0, .int .i64 0, .int .i64 0, .slice none 0 0, .slice none 0 0]) ?_ 3 _ rfl; (with_reducible repeat (first | apply blk_drewN | apply blk_drew | apply blk_alloc)); refine blk_put (cs := #[.int .i64 0, .int .i64 0, .int .i64 0, .int .i64 0, .slice none 0 0, .slice none 0 0]) ?_ 2 _ rfl; (with_reducible repeat (first | apply blk_drewN | apply blk_drew | apply blk_alloc)); refine blk_put (cs := #[.int .i64 0, .int .i64 0, .int .i64 0, .int .i64 0, .slice none 0 0, .slice none 0 0]) ?_ 1 _ rfl; (with_reducible repeat (first | apply blk_drewN | apply blk_drew | apply blk_alloc)); refine blk_put (cs := #[.int .i64 0, .int .i64 0, .int .i64 0, .int .i64 0, .slice none 0 0, .slice none 0 0]) ?_ 0 _ rfl; (with_reducible repeat (first | apply blk_drewN | apply blk_drew | apply blk_alloc)); exact BK161.out) Try.underlying27 rfl (by kernel_rfl)) rfl ?_
         exact ⟨_, _, by first | rfl | (simp [errW_none, errW_some] <;> rfl) | (simp [*, errW_none, errW_some] <;> rfl), by first | exact Kd.R_nil _ _ _ _ _ | exact Kd.N_nil _ _ _ _ _ | exact Kd.V_nil _ _ _ _ _ | exact Kd.Q_nil _ _ _ _ _ | exact Kd.S_nil _ _ _ _ _, by first | exact Kd.R_nil _ _ _ _ _ | exact Kd.N_nil _ _ _ _ _ | exact Kd.V_nil _ _ _ _ _ | exact Kd.Q_nil _ _ _ _ _ | exact Kd.S_nil _ _ _ _ _, by repeat (first | (with_reducible first | exact HB.out | apply below_alloc | apply pw_below_drewN | apply below_drew1 | refine below_set ?_ GE160.out | refine below_set ?_ GE161.out | refine below_set ?_ GE173.out | refine below_set ?_ GE174.out) | exact HB.out)⟩
        ·rw [if_neg c69] at H
         have c69b0 : decide (8 < x175001_2) = false := decide_eq_false c69
         clear c69
         simp only [Option.some.injEq, Prod.mk.injEq] at H
         obtain ⟨rfl, rfl, rfl, rfl, rfl, rfl, rfl⟩ := H
         try go_wp2
         have n0_ := Aside0.mk (Kd.R_drew HO_174004.out)
         have n1_ := Aside0.mk (Kd.R_drew HO_174005.out)
         have n2_ := Aside0.mk (Kd.R_drew HO_175004.out)
         have n3_ := Aside0.mk (Kd.R_drew HO_175005.out)
         have n4_ := Aside0.mk (blk_drew BK160.out)
         have n5_ := Aside0.mk (blk_drew BK161.out)
         have n6_ := Aside0.mk (blk_drew BK173.out)
         have n7_ := Aside0.mk (blk_drew BK174.out)
         have n8_ := Aside0.mk (below_drew1 HB.out)
         clear HO_174004
         clear HO_174005
         clear HO_175004
         clear HO_175005
         clear BK160
         clear BK161
         clear BK173
         clear BK174
         clear HB
         have HO_174004 := n0_
         have HO_174005 := n1_
         have HO_175004 := n2_
         have HO_175005 := n3_
         have BK160 := n4_
         have BK161 := n5_
         have BK173 := n6_
         have BK174 := n7_
         have HB := n8_
         clear n0_ n1_ n2_ n3_ n4_ n5_ n6_ n7_ n8_
         obtain ⟨Ao80, co80, eo80⟩ := Kd.R_slice HO_175004.out
         (first | subst eo80 | (injection eo80 with f1_ f2_ f3_; have f4_ := f1_.symm; have f5_ := f3_.symm; clear f1_ f2_ f3_; subst f4_; subst f5_))
         refine start_ (n := 7) (S := fun w' => w'.cell? ⟨gb174, 0, none⟩ = some (.int .i64 4) ∧ w'.cell? ⟨gb174, 1, none⟩ = some (.int .i64 x175001_2) ∧ w'.cell? ⟨gb174, 2, none⟩ = some (.int .i64 a0_2) ∧ w'.cell? ⟨gb174, 3, none⟩ = some (.int .i64 a0_3) ∧ w'.cell? ⟨gb174, 4, none⟩ = some (.slice Ao80 x175004_1.length co80) ∧ w'.cell? ⟨gb174, 5, none⟩ = some (u175005)) (ds := []) #[false, false, false, false, false, false, false] (by kernel_rfl) rfl rfl (bc6 BK174.out) (fun hHeld => ?_)
         generalize wr.drew = w79 at HO_174004 HO_174005 HO_175004 HO_175005 BK160 BK161 BK173 BK174 HB hHeld ⊢
         refine pure_ (i := 0) (N := some 58) (v := ?_) (a' := ?_) #[true, false, false, false, false, false, false] rfl rfl (by kernel_rfl) (fun _ _ _ h => h) (Or.inl ⟨by rfl, ?_⟩) ?_ ?_
         rotate_left
         ·intro w'
          go_simp
          with_reducible rfl
         rotate_left
         ·simp only [Act.put, sA_, s0_, s1_, i64_w, i32_w]
          rfl
         refine pure_ (i := 3) (N := some 61) (v := ?_) (a' := ?_) #[true, false, false, true, false, false, false] rfl rfl (by kernel_rfl) (fun _ _ _ h => h) (Or.inl ⟨by rfl, ?_⟩) ?_ ?_
         rotate_left
         ·intro w'
          go_simp
          with_reducible rfl
         rotate_left
         ·simp only [Act.put, sA_, s0_, s1_, i64_w, i32_w]
          rfl
         refine take_ (i := 1) (N := some 59) (v := ?_) (a' := ?_) #[true, true, false, true, false, false, false] rfl rfl (by kernel_rfl) (fun _ _ _ h => h) (Or.inl ⟨by rfl, ?_⟩) hHeld ?_ ?_
         rotate_left
         ·rintro w' ⟨s0, s1, s2, s3, s4, s5⟩
          go_simp
          with_reducible rfl
         rotate_left
         ·simp only [Act.put, sA_, s0_, s1_, i64_w, i32_w]
          rfl
         refine take_ (i := 4) (N := some 62) (v := ?_) (a' := ?_) #[true, true, false, true, true, false, false] rfl rfl (by kernel_rfl) (fun _ _ _ h => h) (Or.inl ⟨by rfl, ?_⟩) hHeld ?_ ?_
         rotate_left
         ·rintro w' ⟨s0, s1, s2, s3, s4, s5⟩
          go_simp
          with_reducible rfl
         rotate_left
         ·simp only [Act.put, sA_, s0_, s1_, i64_w, i32_w]
          rfl
         refine pure_ (i := 5) (N := some 63) (v := ?_) (a' := ?_) #[true, true, false, true, true, true, false] rfl rfl (by kernel_rfl) (fun _ _ _ h => h) (Or.inl ⟨by rfl, ?_⟩) ?_ ?_
         rotate_left
         ·intro w'
          go_simp
          with_reducible rfl
         rotate_left
         ·simp only [Act.put, sA_, s0_, s1_, i64_w, i32_w]
          rfl
         refine one_ (i := 2) (N := some 60) #[true, true, true, true, true, true, false] rfl rfl (by kernel_rfl) (by decide) (fun K hK => ?_)
         refine goes_ Try.func46 (by kernel_rfl) rfl #[.int .i64 x175001_2] (by rfl) rfl rfl (by (try simp only [List.map_toArray, List.map_cons, List.map_nil]); first | done | rfl | (simp only [List.length_drop, List.length_take]; rfl)) ?_
         with_reducible refine (spec_l1Pow.calls k2 x175001_2 t187 _ A61.out).mono ?_
         rintro e w' ⟨rfl, ⟨nd, rfl⟩⟩
         refine ⟨_, rfl, ?_⟩
         refine hK.out _ _ (bc6 BK174.out) (fun hHeld => ?_)
         clear hK K
         refine norm_ (a' := ?_) ?_ ?_
         rotate_left
         ·show Act.put _ (some 60) _ = _
          simp only [Act.put, sA_, s0_, s1_, i64_w, i32_w]
          rfl
         refine pure_ (i := 6) (N := some 64) (v := ?_) (a' := ?_) #[true, true, true, true, true, true, true] rfl rfl (by kernel_rfl) (fun _ _ _ h => h) (Or.inl ⟨by rfl, ?_⟩) ?_ ?_
         rotate_left
         ·intro w'
          go_simp
          with_reducible rfl
         rotate_left
         ·simp only [Act.put, sA_, s0_, s1_, i64_w, i32_w]
          rfl
         refine done_ (by kernel_rfl) ?_
         have hnb81 := NB174_160.out
         have hnc81 := NB160_174.out
         have hnb82 := NB174_161.out
         have hnc82 := NB161_174.out
         have hnb83 := NB174_173.out
         have hnc83 := NB173_174.out
         obtain ⟨hcz84_0, hcz84_1, hcz84_2, hcz84_3, hcz84_4, hcz84_5⟩ := bc6 BK174.out
         obtain ⟨hfz84_0, hfz84_1, hfz84_2, hfz84_3, hfz84_4, hfz84_5⟩ := bf6 BK174.out
         have hnb85 := NB161_160.out
         have hnc85 := NB160_161.out
         have hnb86 := NB161_173.out
         have hnc86 := NB173_161.out
         obtain ⟨hcz87_0, hcz87_1, hcz87_2, hcz87_3, hcz87_4, hcz87_5⟩ := bc6 BK161.out
         obtain ⟨hfz87_0, hfz87_1, hfz87_2, hfz87_3, hfz87_4, hfz87_5⟩ := bf6 BK161.out
         obtain ⟨Ao88, co88, eo88⟩ := Kd.R_slice HO_175005.out
         subst eo88
         try go_wp2
         refine bodyPost_ret (results_ct rfl _ _ gb161 27 #[.int .i64 4, .int .i64 x175001_2, .int .i64 a0_2, .int .i64 a0_3, .slice Ao80 x175004_1.length co80, .slice Ao88 x175005_1.length co88] (0, 0) _ rfl (by (with_reducible repeat (first | apply blk_drewN | apply blk_drew | apply blk_alloc)); refine blk_put (cs := #[.int .i64 4, .int .i64 x175001_2, .int .i64 a0_2, .int .i64 a0_3, .slice Ao80 x175004_1.length co80, .slice none 0 0]) ?_ 5 _ rfl; (with_reducible repeat (first | apply blk_drewN | apply blk_drew | apply blk_alloc)); refine blk_put (cs := #[.int .i64 4, .int .i64 x175001_2, .int .i64 a0_2, .int .i64 a0_3, .slice none 0 0, .slice none 0 0]) ?_ 4 _ rfl; (with_reducible repeat (first | apply blk_drewN | apply blk_drew | apply blk_alloc)); refine blk_put (cs := #[.int .i64 4, .int .i64 x175001_2, .int .i64 a0_2, .int .i64 0, .slice none 0 0, .slice none 0 0]) ?_ 3 _ rfl; (with_reducible repeat (first | apply blk_drewN | apply blk_drew | apply blk_alloc)); refine blk_put (cs := #[.int .i64 4, .int .i64 x175001_2, .int .i64 0, .int .i64 0, .slice none 0 0, .slice none 0 0]) ?_ 2 _ rfl; (with_reducible repeat (first | apply blk_drewN | apply blk_drew | apply blk_alloc)); refine blk_put (cs := #[.int .i64 4, .int .i64 0, .int .i64 0, .int .i64 0, .slice none 0 0, .slice none 0 0]) ?_ 1 _ rfl; (with_reducible repeat (first | apply blk_drewN | apply blk_drew | apply blk_alloc)); refine blk_put (cs := #[.int .i64 0, .int .i64 0, .int .i64 0, .int .i64 0, .slice none 0 0, .slice none 0 0]) ?_ 0 _ rfl; (with_reducible repeat (first | apply blk_drewN | apply blk_drew | apply blk_alloc)); exact BK161.out) Try.underlying27 rfl (by kernel_rfl)) rfl ?_
         exact ⟨_, _, by first | rfl | (simp [errW_none, errW_some] <;> rfl) | (simp [*, errW_none, errW_some] <;> rfl), by (with_reducible repeat (first | apply Kd.R_alloc | apply Kd.R_drewN | apply Kd.R_drew)); exact Kd.R_mono (Kd.R_far (Kd.R_far (Kd.R_far (Kd.R_far (Kd.R_far (Kd.R_far (Kd.R_types HO_175004.out BK161.out (by decide)) (fun _ hk => hk.2) (.int .i64 4)) (fun _ hk => hk.2) (.int .i64 x175001_2)) (fun _ hk => hk.2) (.int .i64 a0_2)) (fun _ hk => hk.2) (.int .i64 a0_3)) (fun _ hk => hk.2) (.slice Ao80 x175004_1.length co80)) (fun _ hk => hk.2) (.slice Ao88 x175005_1.length co88)) (fun _ hk => hk.1.2.2), by (with_reducible repeat (first | apply Kd.R_alloc | apply Kd.R_drewN | apply Kd.R_drew)); exact Kd.R_mono (Kd.R_far (Kd.R_far (Kd.R_far (Kd.R_far (Kd.R_far (Kd.R_far (Kd.R_types HO_175005.out BK161.out (by decide)) (fun _ hk => hk.2) (.int .i64 4)) (fun _ hk => hk.2) (.int .i64 x175001_2)) (fun _ hk => hk.2) (.int .i64 a0_2)) (fun _ hk => hk.2) (.int .i64 a0_3)) (fun _ hk => hk.2) (.slice Ao80 x175004_1.length co80)) (fun _ hk => hk.2) (.slice Ao88 x175005_1.length co88)) (fun _ hk => hk.1.2.2), by repeat (first | (with_reducible first | exact HB.out | apply below_alloc | apply pw_below_drewN | apply below_drew1 | refine below_set ?_ GE160.out | refine below_set ?_ GE161.out | refine below_set ?_ GE173.out | refine below_set ?_ GE174.out) | exact HB.out)⟩
 ·replace c3 := Bool.eq_false_iff.mpr c3
  subst c3
  have H1 : (some (0, 0, 0, 0, ([] : List Int), ([] : List Int), false)) = some (r1, r2, r3, r4, r5, r6, r7) := by first | (rw [if_neg (show ¬ (false = true) by decide)] at H; exact H) | rfl
  clear H
  have H := H1
  clear H1
  simp only [Option.some.injEq, Prod.mk.injEq] at H
  obtain ⟨rfl, rfl, rfl, rfl, rfl, rfl, rfl⟩ := H
  go_enter Try.func36, Try.ntmps36
  go_wp2_with (first | ((with_reducible refine gate_dst (N := 1) rfl ?_); refine box_event ?hg (N := 1) ?hd (cs := #[.int .i64 a0_0, .int .i64 a0_1, .int .i64 a0_2, .int .i64 a0_3, .slice A0_4 l0_4.length c0_4, .slice A0_5 l0_5.length c0_5]) (t := 27) ?hr ?_; (case hd => rfl); (case hg => rfl); (case hr => first | (go_simp; done) | (go_simp; rfl)); intro gb160 hg w89 hbox hb; have n0_ := Aside0.mk (below_step (by repeat (first | (with_reducible first | exact HB.out | apply below_alloc | apply pw_below_drewN | apply below_drew1) | exact HB.out)) hb); have n1_ := Aside0.mk (hbox); have n2_ := Aside0.mk ((by rw [hg]; exact (below_size (by repeat (first | (with_reducible first | exact HB.out | apply below_alloc | apply pw_below_drewN | apply below_drew1) | exact HB.out))) : w.heap.size ≤ gb160)); have n3_ := Aside0.mk ((by rw [hg]; exact (below_size (by repeat (first | (with_reducible first | exact HB.out | apply below_alloc | apply pw_below_drewN | apply below_drew1) | exact HB.out))) : w.heap.size ≤ gb160)); clear HB; have HB := n0_; have BK160 := n1_; have GW160 := n2_; have GE160 := n3_; clear n0_ n1_ n2_ n3_; clear hb hbox hg) | ((with_reducible refine gate_dst (N := 2) rfl ?_); refine box_event ?hg (N := 2) ?hd (cs := #[.int .i64 0, .int .i64 0, .int .i64 0, .int .i64 0, .slice none 0 0, .slice none 0 0]) (t := 27) ?hr ?_; (case hd => rfl); (case hg => rfl); (case hr => first | (go_simp; done) | (go_simp; rfl)); intro gb161 hg w90 hbox hb; have n0_ := Aside0.mk (blk_below (g := gb160) (by (with_reducible repeat (first | apply blk_drewN | apply blk_drew | apply blk_alloc)); exact BK160.out) hb); have n1_ := Aside0.mk (below_step (by repeat (first | (with_reducible first | exact HB.out | apply below_alloc | apply pw_below_drewN | apply below_drew1 | refine below_set ?_ GE160.out) | exact HB.out)) hb); have n2_ := Aside0.mk (hbox); have n3_ := Aside0.mk ((by rw [hg]; exact (below_size (by repeat (first | (with_reducible first | exact HB.out | apply below_alloc | apply pw_below_drewN | apply below_drew1 | refine below_set ?_ GE160.out) | exact HB.out))) : w.heap.size ≤ gb161)); have n4_ := Aside0.mk ((by rw [hg]; exact (below_size (by repeat (first | (with_reducible first | exact HB.out | apply below_alloc | apply pw_below_drewN | apply below_drew1 | refine below_set ?_ GE160.out) | exact HB.out))) : w.heap.size ≤ gb161)); have n5_ := Aside0.mk ((by rw [hg]; exact Nat.ne_of_lt (blk_lt (g := gb160) (by (with_reducible repeat (first | apply blk_drewN | apply blk_drew | apply blk_alloc)); exact BK160.out)) : gb160 ≠ gb161)); have n6_ := Aside0.mk n5_.out.symm; clear BK160; clear HB; have BK160 := n0_; have HB := n1_; have BK161 := n2_; have GW161 := n3_; have GE161 := n4_; have NB160_161 := n5_; have NB161_160 := n6_; clear n0_ n1_ n2_ n3_ n4_ n5_ n6_; clear hb hbox hg; have hnb91 := NB160_161.out; have hnc91 := NB161_160.out; obtain ⟨hcz92_0, hcz92_1, hcz92_2, hcz92_3, hcz92_4, hcz92_5⟩ := bc6 BK160.out; obtain ⟨hfz92_0, hfz92_1, hfz92_2, hfz92_3, hfz92_4, hfz92_5⟩ := bf6 BK160.out) | ((with_reducible refine gate_callee (f := 34) rfl ?_); refine goesL_ (some 11) rfl rfl Try.func34 (by kernel_rfl) rfl #[.agg #[.int .i64 a0_0, .int .i64 a0_1, .int .i64 a0_2, .int .i64 a0_3, .slice A0_4 l0_4.length c0_4, .slice A0_5 l0_5.length c0_5]] rfl (by (try simp only [List.map_toArray, List.map_cons, List.map_nil]); first | done | rfl | (simp only [List.length_drop, List.length_take]; rfl)) ?_; (with_reducible refine (spec_ImageRgb.calls k a0_0 a0_1 a0_2 a0_3 _ _ l0_4 _ _ l0_5 t162 t163 t164 t165 t166 t169 false _ ?side1 ?side2 ?side3 ?side4 A2.out).mono ?_); (case side1 => repeat (first | exact (Kd.C_below HR0_4.out HB.out) | (with_reducible refine Kd.C_alloc ?_ _) | (with_reducible refine Kd.C_drewN ?_ _) | (with_reducible refine Kd.C_drew ?_))); (case side2 => exact HC0_4.out); (case side3 => repeat (first | exact (Kd.C_below HR0_5.out HB.out) | (with_reducible refine Kd.C_alloc ?_ _) | (with_reducible refine Kd.C_drewN ?_ _) | (with_reducible refine Kd.C_drew ?_))); (case side4 => exact HC0_5.out); rintro e w93 ⟨v167, v170, rfl, ho0, ho1, hb⟩; refine ⟨_, rfl, ?_⟩; have n0_ := Aside0.mk (Kd.R_lower ho0 (below_size (by repeat (first | (with_reducible first | exact HB.out | apply below_alloc | apply pw_below_drewN | apply below_drew1 | refine below_set ?_ GE160.out | refine below_set ?_ GE161.out) | exact HB.out)))); have n1_ := Aside0.mk (Kd.R_lower ho1 (below_size (by repeat (first | (with_reducible first | exact HB.out | apply below_alloc | apply pw_below_drewN | apply below_drew1 | refine below_set ?_ GE160.out | refine below_set ?_ GE161.out) | exact HB.out)))); have n2_ := Aside0.mk (blk_below (g := gb160) (by (with_reducible repeat (first | apply blk_drewN | apply blk_drew | apply blk_alloc)); exact BK160.out) hb); have n3_ := Aside0.mk (blk_below (g := gb161) (by (with_reducible repeat (first | apply blk_drewN | apply blk_drew | apply blk_alloc)); exact BK161.out) hb); have n4_ := Aside0.mk (below_step (by repeat (first | (with_reducible first | exact HB.out | apply below_alloc | apply pw_below_drewN | apply below_drew1 | refine below_set ?_ GE160.out | refine below_set ?_ GE161.out) | exact HB.out)) hb); clear BK160; clear BK161; clear HB; have HO168 := n0_; have HO171 := n1_; have BK160 := n2_; have BK161 := n3_; have HB := n4_; clear n0_ n1_ n2_ n3_ n4_; (try clear hb); (try clear hb2); (try clear hk); (try clear hi); (try clear ho0); (try clear ho1)) | ((with_reducible refine gate_dst (N := 4) rfl ?_); refine box_event ?hg (N := 4) ?hd (cs := #[.int .i64 0, .int .i64 0, .int .i64 0, .int .i64 0, .slice none 0 0, .slice none 0 0]) (t := 27) ?hr ?_; (case hd => rfl); (case hg => rfl); (case hr => first | (go_simp; done) | (go_simp; rfl)); intro gb173 hg w94 hbox hb; have n0_ := Aside0.mk (Kd.R_below (by (with_reducible repeat (first | apply Kd.R_alloc | apply Kd.R_drewN | apply Kd.R_drew)); exact HO168.out) hb); have n1_ := Aside0.mk (Kd.R_below (by (with_reducible repeat (first | apply Kd.R_alloc | apply Kd.R_drewN | apply Kd.R_drew)); exact HO171.out) hb); have n2_ := Aside0.mk (blk_below (g := gb160) (by (with_reducible repeat (first | apply blk_drewN | apply blk_drew | apply blk_alloc)); exact BK160.out) hb); have n3_ := Aside0.mk (blk_below (g := gb161) (by (with_reducible repeat (first | apply blk_drewN | apply blk_drew | apply blk_alloc)); exact BK161.out) hb); have n4_ := Aside0.mk (below_step (by repeat (first | (with_reducible first | exact HB.out | apply below_alloc | apply pw_below_drewN | apply below_drew1 | refine below_set ?_ GE160.out | refine below_set ?_ GE161.out) | exact HB.out)) hb); have n5_ := Aside0.mk (hbox); have n6_ := Aside0.mk ((by rw [hg]; exact (below_size (by repeat (first | (with_reducible first | exact HB.out | apply below_alloc | apply pw_below_drewN | apply below_drew1 | refine below_set ?_ GE160.out | refine below_set ?_ GE161.out) | exact HB.out))) : w.heap.size ≤ gb173)); have n7_ := Aside0.mk ((by rw [hg]; exact (below_size (by repeat (first | (with_reducible first | exact HB.out | apply below_alloc | apply pw_below_drewN | apply below_drew1 | refine below_set ?_ GE160.out | refine below_set ?_ GE161.out) | exact HB.out))) : w.heap.size ≤ gb173)); have n8_ := Aside0.mk ((by rw [hg]; exact Nat.ne_of_lt (blk_lt (g := gb160) (by (with_reducible repeat (first | apply blk_drewN | apply blk_drew | apply blk_alloc)); exact BK160.out)) : gb160 ≠ gb173)); have n9_ := Aside0.mk n8_.out.symm; have n10_ := Aside0.mk ((by rw [hg]; exact Nat.ne_of_lt (blk_lt (g := gb161) (by (with_reducible repeat (first | apply blk_drewN | apply blk_drew | apply blk_alloc)); exact BK161.out)) : gb161 ≠ gb173)); have n11_ := Aside0.mk n10_.out.symm; clear HO168; clear HO171; clear BK160; clear BK161; clear HB; have HO168 := n0_; have HO171 := n1_; have BK160 := n2_; have BK161 := n3_; have HB := n4_; have BK173 := n5_; have GW173 := n6_; have GE173 := n7_; have NB160_173 := n8_; have NB173_160 := n9_; have NB161_173 := n10_; have NB173_161 := n11_; clear n0_ n1_ n2_ n3_ n4_ n5_ n6_ n7_ n8_ n9_ n10_ n11_; clear hb hbox hg; have hnb95 := NB173_160.out; have hnc95 := NB160_173.out; have hnb96 := NB173_161.out; have hnc96 := NB161_173.out; obtain ⟨hcz97_0, hcz97_1, hcz97_2, hcz97_3, hcz97_4, hcz97_5⟩ := bc6 BK173.out; obtain ⟨hfz97_0, hfz97_1, hfz97_2, hfz97_3, hfz97_4, hfz97_5⟩ := bf6 BK173.out; obtain ⟨Ao98, co98, eo98⟩ := Kd.R_slice HO168.out; subst eo98; obtain ⟨Ao99, co99, eo99⟩ := Kd.R_slice HO171.out; subst eo99; obtain ⟨hcz100_0, hcz100_1, hcz100_2, hcz100_3, hcz100_4, hcz100_5⟩ := bc6 BK161.out; obtain ⟨hfz100_0, hfz100_1, hfz100_2, hfz100_3, hfz100_4, hfz100_5⟩ := bf6 BK161.out))
  refine bodyPost_ret (results_ct rfl _ _ gb161 27 #[.int .i64 0, .int .i64 0, .int .i64 0, .int .i64 0, .slice none 0 0, .slice none 0 0] (0, 0) _ rfl (by (with_reducible repeat (first | apply blk_drewN | apply blk_drew | apply blk_alloc)); refine blk_put (cs := #[.int .i64 0, .int .i64 0, .int .i64 0, .int .i64 0, .slice none 0 0, .slice none 0 0]) ?_ 5 _ rfl; (with_reducible repeat (first | apply blk_drewN | apply blk_drew | apply blk_alloc)); refine blk_put (cs := #[.int .i64 0, .int .i64 0, .int .i64 0, .int .i64 0, .slice none 0 0, .slice none 0 0]) ?_ 4 _ rfl; (with_reducible repeat (first | apply blk_drewN | apply blk_drew | apply blk_alloc)); refine blk_put (cs := #[.int .i64 0, .int .i64 0, .int .i64 0, .int .i64 0, .slice none 0 0, .slice none 0 0]) ?_ 3 _ rfl; (with_reducible repeat (first | apply blk_drewN | apply blk_drew | apply blk_alloc)); refine blk_put (cs := #[.int .i64 0, .int .i64 0, .int .i64 0, .int .i64 0, .slice none 0 0, .slice none 0 0]) ?_ 2 _ rfl; (with_reducible repeat (first | apply blk_drewN | apply blk_drew | apply blk_alloc)); refine blk_put (cs := #[.int .i64 0, .int .i64 0, .int .i64 0, .int .i64 0, .slice none 0 0, .slice none 0 0]) ?_ 1 _ rfl; (with_reducible repeat (first | apply blk_drewN | apply blk_drew | apply blk_alloc)); refine blk_put (cs := #[.int .i64 0, .int .i64 0, .int .i64 0, .int .i64 0, .slice none 0 0, .slice none 0 0]) ?_ 0 _ rfl; (with_reducible repeat (first | apply blk_drewN | apply blk_drew | apply blk_alloc)); refine blk_far ?_ NB161_173.out _; (with_reducible repeat (first | apply blk_drewN | apply blk_drew | apply blk_alloc)); refine blk_far ?_ NB161_173.out _; (with_reducible repeat (first | apply blk_drewN | apply blk_drew | apply blk_alloc)); refine blk_far ?_ NB161_173.out _; (with_reducible repeat (first | apply blk_drewN | apply blk_drew | apply blk_alloc)); refine blk_far ?_ NB161_173.out _; (with_reducible repeat (first | apply blk_drewN | apply blk_drew | apply blk_alloc)); refine blk_far ?_ NB161_173.out _; (with_reducible repeat (first | apply blk_drewN | apply blk_drew | apply blk_alloc)); refine blk_far ?_ NB161_173.out _; (with_reducible repeat (first | apply blk_drewN | apply blk_drew | apply blk_alloc)); exact BK161.out) Try.underlying27 rfl (by kernel_rfl)) rfl ?_
  exact ⟨_, _, by first | rfl | (simp [errW_none, errW_some] <;> rfl) | (simp [*, errW_none, errW_some] <;> rfl), by first | exact Kd.R_nil _ _ _ _ _ | exact Kd.N_nil _ _ _ _ _ | exact Kd.V_nil _ _ _ _ _ | exact Kd.Q_nil _ _ _ _ _ | exact Kd.S_nil _ _ _ _ _, by first | exact Kd.R_nil _ _ _ _ _ | exact Kd.N_nil _ _ _ _ _ | exact Kd.V_nil _ _ _ _ _ | exact Kd.Q_nil _ _ _ _ _ | exact Kd.S_nil _ _ _ _ _, by repeat (first | (with_reducible first | exact HB.out | apply below_alloc | apply pw_below_drewN | apply below_drew1 | refine below_set ?_ GE160.out | refine below_set ?_ GE161.out | refine below_set ?_ GE173.out) | exact HB.out)⟩

end Go.Proofs.Ytkjfefiphdloiaa.PFnExactImagePal
