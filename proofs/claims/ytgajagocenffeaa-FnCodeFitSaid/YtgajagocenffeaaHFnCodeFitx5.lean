/- What the functions that the law comes to compute, as plain functions, and that the machine's calls come to just that: written by a program for this claim, and turned where Lean did not take it. No condition. -/
import Derived.Test.YtgajagocenffeaaHFnCodeFitx0
import Derived.Test.YtgajagocenffeaaHFnCodeFitx1
import Derived.Test.YtgajagocenffeaaHFnCodeFitx3
import Derived.Test.YtgajagocenffeaaHFnCodeFitx4
namespace Go.Proofs.Ytgajagocenffeaa.PFnCodeFit
open Go.RowKit Go.Proofs.YtgajagocenffeaaW.PrintWords Go.Proofs.YtgajagocenffeaaW.PrintLast Go.Proofs.YtgajagocenffeaaW.PrintMore
attribute [local go_sem] max2_int min2_int max_two min_two max_three min_three max_four min_four   -- for this text's walks alone
set_option linter.unusedVariables false
set_option linter.unusedSimpArgs false

/-! ### spec_l14Often: function 45 -/
def spec_l14Often.l0 : Nat → List Int → Int → List Int → Int → Option (List Int × Int)
  | 0, _, _, _, _ => none
  | k + 1, x3, x4, x1000, x1001 => if x4 > 0 then ((spec_l1Rd_pick.f k x1000 x1001 5).bind fun bt162 => ((spec_l1Rd_pick.f k x1000 bt162.2 90).bind fun bt164 => ((spec_l1Rd_pick.f k x1000 bt164.2 12).bind fun bt166 => ((spec_l1Pow.f k bt166.1).bind fun t168 => ((some (([0, 1, bt162.1, bt164.1, t168] : List Int) : List Int)).bind fun y169 => ((spec_l1Rd_pick.f k x1000 bt166.2 5).bind fun bt172 => (if 0 ≤ bt172.1 then (if bt172.1 < (y169.length : Int) then (if x3.length < 17592186044416 then (spec_l14Often.l0 k (x3 ++ [rd y169 bt172.1]) (wrap64 (x4 - 1)) x1000 bt172.2) else (none)) else (none)) else (none)))))))) else ((spec_l1Rd_pick.f k x1000 x1001 20).bind fun bt178 => (if bt178.1 = 0 then ((some (([(-1), 9001] : List Int) : List Int)).bind fun y180 => ((spec_l1Rd_pick.f k x1000 bt178.2 2).bind fun bt183 => (if 0 ≤ bt183.1 then (if bt183.1 < (y180.length : Int) then (if x3.length < 17592186044416 then (some ((x3 ++ [rd y180 bt183.1]), bt183.2)) else (none)) else (none)) else (none)))) else (some (x3, bt178.2))))
def spec_l14Often.f (k : Nat) (s0_0 : List Int) (s0_1 : Int) : Option (List Int × Int) := (spec_l1Rd_pick.f k s0_0 s0_1 80).bind fun bt153 => (if bt153.1 = 0 then ((spec_l1Rd_pick.f k s0_0 bt153.2 2).bind fun bt155 => ((spec_l4Same.f k 1 (wrap64 (300 + bt155.1))).bind fun t157 => (some (t157, bt155.2)))) else ((spec_l1Rd_pick.f k s0_0 bt153.2 14).bind fun bt160 => (spec_l14Often.l0 k (([] : List Int)) bt160.1 s0_0 bt160.2)))
theorem spec_l14Often.mono_l : ∀ k, (∀ y0 y1 y2 y3, LeO (spec_l14Often.l0 k y0 y1 y2 y3) (spec_l14Often.l0 (k + 1) y0 y1 y2 y3))
  | 0 => fun _ _ _ _ r h => by simp [spec_l14Often.l0] at h
  | k + 1 => by
    have ih0 := spec_l14Often.mono_l k
    · intro y0 y1 y2 y3
      unfold spec_l14Often.l0
      repeat' first
      | (with_reducible exact ih0 _ _ _ _)
      | (with_reducible exact spec_l1Pow.mono _ _)
      | (with_reducible exact spec_l1Rd_pick.mono _ _ _ _)
      | (with_reducible exact spec_l4Same.mono _ _ _)
      | (with_reducible exact LeO.refl _)
      | (with_reducible exact LeO.none _)
      | (with_reducible refine LeO.ite ?_ ?_)
      | (with_reducible refine LeO.bind ?_ (fun _ => ?_))
      | exact ih0 _ _ _ _
      | exact spec_l1Pow.mono _ _
      | exact spec_l1Rd_pick.mono _ _ _ _
      | exact spec_l4Same.mono _ _ _
      | exact LeO.none _
      | refine LeO.ite ?_ ?_
      | refine LeO.bind ?_ (fun _ => ?_)
theorem spec_l14Often.mono : ∀ a0 a1 k, LeO (spec_l14Often.f k a0 a1) (spec_l14Often.f (k + 1) a0 a1) := by
  intro a0 a1 k
  have ih0 := spec_l14Often.mono_l k
  unfold spec_l14Often.f
  repeat' first
      | (with_reducible exact ih0 _ _ _ _)
      | (with_reducible exact spec_l1Pow.mono _ _)
      | (with_reducible exact spec_l1Rd_pick.mono _ _ _ _)
      | (with_reducible exact spec_l4Same.mono _ _ _)
      | (with_reducible exact LeO.refl _)
      | (with_reducible exact LeO.none _)
      | (with_reducible refine LeO.ite ?_ ?_)
      | (with_reducible refine LeO.bind ?_ (fun _ => ?_))
      | exact ih0 _ _ _ _
      | exact spec_l1Pow.mono _ _
      | exact spec_l1Rd_pick.mono _ _ _ _
      | exact spec_l4Same.mono _ _ _
      | exact LeO.none _
      | refine LeO.ite ?_ ?_
      | refine LeO.bind ?_ (fun _ => ?_)
set_option maxHeartbeats 8000000 in
set_option maxRecDepth 100000 in
theorem spec_l14Often.calls (k : Nat) (g : Nat) (s0_0 : List Int) (s0_1 : Int) (r1 : List Int) (r2 : Int) (w0 w : World) (hI : IsS75 w0 w g s0_0 s0_1) (hB : Below w0.heap.size w0 w) (h : spec_l14Often.f k s0_0 s0_1 = some (r1, r2)) :
    Calls Try.prog 45 #[.pointer (some ⟨g, 0, none⟩)] w fun e w' => ∃ v0_ : Value, e = .returned (v0_) ∧ Kd.R (Kd.int .i64) 3 w' w.heap.size (fun _ => True) v0_ r1 ∧ IsS75 w0 w' g s0_0 r2 ∧ Below w0.heap.size w0 w' ∧ KeepBut w w' g none := by
  have HI0 := Aside0.mk hI
  have HK := Aside0.mk (KeepBut.refl w g none)
  have HL := Aside0.mk hB.size
  clear hI
  have HW0 := Aside0.mk hB.size
  have HB := Aside0.mk hB
  clear hB
  have H : ((spec_l1Rd_pick.f k s0_0 s0_1 80).bind fun bt153 => (if bt153.1 = 0 then ((spec_l1Rd_pick.f k s0_0 bt153.2 2).bind fun bt155 => ((spec_l4Same.f k 1 (wrap64 (300 + bt155.1))).bind fun t157 => (some (t157, bt155.2)))) else ((spec_l1Rd_pick.f k s0_0 bt153.2 14).bind fun bt160 => (spec_l14Often.l0 k (([] : List Int)) bt160.1 s0_0 bt160.2)))) = some (r1, r2) := h
  clear h
  obtain ⟨y150, hy150⟩ : ∃ y_ : List Int, y_ = (([] : List Int)) := ⟨_, rfl⟩
  replace H : ((spec_l1Rd_pick.f k s0_0 s0_1 80).bind fun bt153 => (if bt153.1 = 0 then ((spec_l1Rd_pick.f k s0_0 bt153.2 2).bind fun bt155 => ((spec_l4Same.f k 1 (wrap64 (300 + bt155.1))).bind fun t157 => (some (t157, bt155.2)))) else ((spec_l1Rd_pick.f k s0_0 bt153.2 14).bind fun bt160 => (spec_l14Often.l0 k y150 bt160.1 s0_0 bt160.2)))) = some (r1, r2) := by first | (rw [hy150]; with_reducible exact H) | (have H2_ := (Option.bind_some _ _).symm.trans H; rw [hy150]; with_reducible exact H2_) | (have H2_ := (Option.bind_some _ _).symm.trans H; with_reducible exact H2_) | with_reducible exact H | (rw [hy150]; exact H) | exact H
  have Ny150 := Aside0.mk hy150
  clear hy150
  replace H := Option.bind_eq_some_iff.mp H
  obtain ⟨⟨t153, t154⟩, A20, H⟩ := H
  replace H : (if t153 = 0 then ((spec_l1Rd_pick.f k s0_0 t154 2).bind fun bt155 => ((spec_l4Same.f k 1 (wrap64 (300 + bt155.1))).bind fun t157 => (some (t157, bt155.2)))) else ((spec_l1Rd_pick.f k s0_0 t154 14).bind fun bt160 => (spec_l14Often.l0 k y150 bt160.1 s0_0 bt160.2))) = some (r1, r2) := H
  have A2 := Aside0.mk A20
  clear A20
  by_cases c3 : t153 = 0
  · rw [if_pos c3] at H
    have c3b0 : (t153 == 0) = true := beq_iff_eq.mpr c3
    have c3b1 : (t153 != 0) = false := bne_eq_false_iff_eq.mpr c3
    clear c3
    replace H := Option.bind_eq_some_iff.mp H
    obtain ⟨⟨t155, t156⟩, A40, H⟩ := H
    replace H : ((spec_l4Same.f k 1 (wrap64 (300 + t155))).bind fun t157 => (some (t157, t156))) = some (r1, r2) := H
    have A4 := Aside0.mk A40
    clear A40
    replace H := Option.bind_eq_some_iff.mp H
    obtain ⟨t157, A50, H⟩ := H
    replace H : (some (t157, t156)) = some (r1, r2) := H
    have A5 := Aside0.mk A50
    clear A50
    simp only [Option.some.injEq, Prod.mk.injEq] at H
    obtain ⟨rfl, rfl⟩ := H
    go_enter Try.func45, Try.ntmps45
    go_wp2_with (first | ((with_reducible refine gate_dst (N := 5) rfl ?_); refine Kd.R_lit (Kd.int .i64) _ 3 ?hg (N := 5) ?hd (xs := ([] : List Int)) (inner := []) (ok := fun _ => True) (okp := fun _ => True) ?hr ?hp (fun _ hk => hk) trivial (Below.refl _ _) (Nat.le_refl _) (by simp) ?_; (case hd => rfl); (case hg => rfl); (case hr => first | (go_simp; done) | (go_simp; rfl)); (case hp => exact (Reps.none _ _)); intro v151 w6 ho7 hb hg_ hnew_; clear hg_ hnew_; (first | rw [← Ny150.out] at ho7 | (simp only [Int.reduceToNat] at ho7; rw [← Ny150.out] at ho7)); have n0_ := Aside0.mk (Kd.R_lower ho7 (keep_size (w := w) (g := g) (row := none) (by repeat (first | (with_reducible first | exact HK.out | apply KeepBut.set_ | apply keep_drewN | apply keep_drew | apply keep_alloc) | exact HK.out)))); have n1_ := Aside0.mk (IsS75.below (by repeat (first | (with_reducible first | exact HI0.out | apply IsS75.alloc | apply IsS75.drewN | apply IsS75.drew | apply IsS75.set_1) | exact HI0.out)) hb); have n2_ := Aside0.mk (KeepBut.trans (by repeat (first | (with_reducible first | exact HK.out | apply KeepBut.set_ | apply keep_drewN | apply keep_drew | apply keep_alloc) | exact HK.out)) (KeepBut.of_below hb g none) (.inl rfl)); have n3_ := Aside0.mk (below_step (by repeat (first | (with_reducible first | exact HB.out | apply below_alloc | apply pw_below_drewN | apply below_drew1 | refine below_set ?_ (IsS75.ge HI0.out)) | exact HB.out)) hb); clear HI0; clear HK; clear HB; have HO152 := n0_; have HI0 := n1_; have HK := n2_; have HB := n3_; clear n0_ n1_ n2_ n3_; clear hb ho7) | ((with_reducible refine gate_callee (f := 46) rfl ?_); refine goesL_ (some 7) rfl rfl Try.func46 (by kernel_rfl) rfl #[.pointer (some ⟨g, 0, none⟩), .int .i64 80] rfl (by (try simp only [List.map_toArray, List.map_cons, List.map_nil]); first | done | rfl | (simp only [List.length_drop, List.length_take]; rfl)) ?_; (with_reducible refine (spec_l1Rd_pick.calls k g s0_0 s0_1 80 t153 t154 w0 _ ?side1 ?side2 A2.out).mono ?_); (case side1 => repeat (first | (with_reducible first | exact HI0.out | apply IsS75.alloc | apply IsS75.drewN | apply IsS75.drew | apply IsS75.set_1) | exact HI0.out)); (case side2 => repeat (first | (with_reducible first | exact HB.out | apply below_alloc | apply pw_below_drewN | apply below_drew1 | refine below_set ?_ (IsS75.ge HI0.out)) | exact HB.out)); rintro e w8 ⟨rfl, hi, hb, hk⟩; refine ⟨_, rfl, ?_⟩; have n0_ := Aside0.mk (Kd.R_mono (Kd.R_keep (IsS75.apart (show IsS75 w0 _ g s0_0 s0_1 from by repeat (first | (with_reducible first | exact HI0.out | apply IsS75.alloc | apply IsS75.drewN | apply IsS75.drew | apply IsS75.set_1) | exact HI0.out)) (by (with_reducible repeat (first | apply Kd.R_alloc | apply Kd.R_drewN | apply Kd.R_drew)); exact HO152.out) (by decide)) hk (fun _ h => h.2)) (fun _ h => h.1)); have n1_ := Aside0.mk (KeepBut.trans (by repeat (first | (with_reducible first | exact HK.out | apply KeepBut.set_ | apply keep_drewN | apply keep_drew | apply keep_alloc) | exact HK.out)) hk (.inl rfl)); have n2_ := Aside0.mk (hb); have n3_ := Aside0.mk (hi); clear HO152; clear HK; clear HB; clear HI0; have HO152 := n0_; have HK := n1_; have HB := n2_; have HI0 := n3_; clear n0_ n1_ n2_ n3_; (try clear hb); (try clear hb2); (try clear hk); (try clear hi)) | ((with_reducible refine gate_callee (f := 46) rfl ?_); refine goesL_ (some 10) rfl rfl Try.func46 (by kernel_rfl) rfl #[.pointer (some ⟨g, 0, none⟩), .int .i64 2] rfl (by (try simp only [List.map_toArray, List.map_cons, List.map_nil]); first | done | rfl | (simp only [List.length_drop, List.length_take]; rfl)) ?_; (with_reducible refine (spec_l1Rd_pick.calls k g s0_0 t154 2 t155 t156 w0 _ ?side1 ?side2 A4.out).mono ?_); (case side1 => repeat (first | (with_reducible first | exact HI0.out | apply IsS75.alloc | apply IsS75.drewN | apply IsS75.drew | apply IsS75.set_1) | exact HI0.out)); (case side2 => repeat (first | (with_reducible first | exact HB.out | apply below_alloc | apply pw_below_drewN | apply below_drew1 | refine below_set ?_ (IsS75.ge HI0.out)) | exact HB.out)); rintro e w9 ⟨rfl, hi, hb, hk⟩; refine ⟨_, rfl, ?_⟩; have n0_ := Aside0.mk (Kd.R_mono (Kd.R_keep (IsS75.apart (show IsS75 w0 _ g s0_0 t154 from by repeat (first | (with_reducible first | exact HI0.out | apply IsS75.alloc | apply IsS75.drewN | apply IsS75.drew | apply IsS75.set_1) | exact HI0.out)) (by (with_reducible repeat (first | apply Kd.R_alloc | apply Kd.R_drewN | apply Kd.R_drew)); exact HO152.out) (by decide)) hk (fun _ h => h.2)) (fun _ h => h.1)); have n1_ := Aside0.mk (KeepBut.trans (by repeat (first | (with_reducible first | exact HK.out | apply KeepBut.set_ | apply keep_drewN | apply keep_drew | apply keep_alloc) | exact HK.out)) hk (.inl rfl)); have n2_ := Aside0.mk (hb); have n3_ := Aside0.mk (hi); clear HO152; clear HK; clear HB; clear HI0; have HO152 := n0_; have HK := n1_; have HB := n2_; have HI0 := n3_; clear n0_ n1_ n2_ n3_; (try clear hb); (try clear hb2); (try clear hk); (try clear hi)) | ((with_reducible refine gate_callee (f := 66) rfl ?_); refine goesL_ (some 12) rfl rfl Try.func66 (by kernel_rfl) rfl #[.int .i64 1, .int .i64 (wrap64 (300 + t155))] rfl (by (try simp only [List.map_toArray, List.map_cons, List.map_nil]); first | done | rfl | (simp only [List.length_drop, List.length_take]; rfl)) ?_; (with_reducible refine (spec_l4Same.calls k 1 (wrap64 (300 + t155)) t157 _ A5.out).mono ?_); rintro e w10 ⟨v158, rfl, ho0, hb⟩; refine ⟨_, rfl, ?_⟩; have n0_ := Aside0.mk (Kd.R_elder' (by (with_reducible repeat (first | apply Kd.R_alloc | apply Kd.R_drewN | apply Kd.R_drew)); exact HO152.out) (Kd.R_base ho0) hb); have n1_ := Aside0.mk (Kd.R_lower (Kd.R_new' ho0 (Kd.R_lt (by (with_reducible repeat (first | apply Kd.R_alloc | apply Kd.R_drewN | apply Kd.R_drew)); exact HO152.out))) (keep_size (w := w) (g := g) (row := none) (by repeat (first | (with_reducible first | exact HK.out | apply KeepBut.set_ | apply keep_drewN | apply keep_drew | apply keep_alloc) | exact HK.out)))); have n2_ := Aside0.mk (IsS75.below (by repeat (first | (with_reducible first | exact HI0.out | apply IsS75.alloc | apply IsS75.drewN | apply IsS75.drew | apply IsS75.set_1) | exact HI0.out)) hb); have n3_ := Aside0.mk (KeepBut.trans (by repeat (first | (with_reducible first | exact HK.out | apply KeepBut.set_ | apply keep_drewN | apply keep_drew | apply keep_alloc) | exact HK.out)) (KeepBut.of_below hb g none) (.inl rfl)); have n4_ := Aside0.mk (below_step (by repeat (first | (with_reducible first | exact HB.out | apply below_alloc | apply pw_below_drewN | apply below_drew1 | refine below_set ?_ (IsS75.ge HI0.out)) | exact HB.out)) hb); clear HO152; clear HI0; clear HK; clear HB; have HO152 := n0_; have HO159 := n1_; have HI0 := n2_; have HK := n3_; have HB := n4_; clear n0_ n1_ n2_ n3_ n4_; (try clear hb); (try clear hb2); (try clear hk); (try clear hi); (try clear ho0)))
    go_ret
    exact ⟨_, by first | rfl | (simp [errW_none, errW_some] <;> rfl) | (simp [*, errW_none, errW_some] <;> rfl), by (with_reducible repeat (first | apply Kd.R_alloc | apply Kd.R_drewN | apply Kd.R_drew)); exact Kd.R_mono HO159.out (fun _ hk => trivial), by repeat (first | (with_reducible first | exact HI0.out | apply IsS75.alloc | apply IsS75.drewN | apply IsS75.drew | apply IsS75.set_1) | exact HI0.out), by repeat (first | (with_reducible first | exact HB.out | apply below_alloc | apply pw_below_drewN | apply below_drew1 | refine below_set ?_ (IsS75.ge HI0.out)) | exact HB.out), by repeat (first | (with_reducible first | exact HK.out | apply KeepBut.set_ | apply keep_drewN | apply keep_drew | apply keep_alloc) | exact HK.out)⟩
  · rw [if_neg c3] at H
    have c3b0 : (t153 == 0) = false := beq_eq_false_iff_ne.mpr c3
    have c3b1 : (t153 != 0) = true := bne_iff_ne.mpr c3
    replace H := Option.bind_eq_some_iff.mp H
    obtain ⟨⟨t160, t161⟩, A110, H⟩ := H
    replace H : (spec_l14Often.l0 k y150 t160 s0_0 t161) = some (r1, r2) := H
    have A11 := Aside0.mk A110
    clear A110
    have H' := Aside0.mk H
    clear H
    go_enter Try.func45, Try.ntmps45
    go_wp2_with (first | ((with_reducible refine gate_dst (N := 5) rfl ?_); refine Kd.R_lit (Kd.int .i64) _ 3 ?hg (N := 5) ?hd (xs := ([] : List Int)) (inner := []) (ok := fun _ => True) (okp := fun _ => True) ?hr ?hp (fun _ hk => hk) trivial (Below.refl _ _) (Nat.le_refl _) (by simp) ?_; (case hd => rfl); (case hg => rfl); (case hr => first | (go_simp; done) | (go_simp; rfl)); (case hp => exact (Reps.none _ _)); intro v151 w12 ho13 hb hg_ hnew_; clear hg_ hnew_; (first | rw [← Ny150.out] at ho13 | (simp only [Int.reduceToNat] at ho13; rw [← Ny150.out] at ho13)); have n0_ := Aside0.mk (Kd.R_lower ho13 (keep_size (w := w) (g := g) (row := none) (by repeat (first | (with_reducible first | exact HK.out | apply KeepBut.set_ | apply keep_drewN | apply keep_drew | apply keep_alloc) | exact HK.out)))); have n1_ := Aside0.mk (IsS75.below (by repeat (first | (with_reducible first | exact HI0.out | apply IsS75.alloc | apply IsS75.drewN | apply IsS75.drew | apply IsS75.set_1) | exact HI0.out)) hb); have n2_ := Aside0.mk (KeepBut.trans (by repeat (first | (with_reducible first | exact HK.out | apply KeepBut.set_ | apply keep_drewN | apply keep_drew | apply keep_alloc) | exact HK.out)) (KeepBut.of_below hb g none) (.inl rfl)); have n3_ := Aside0.mk (below_step (by repeat (first | (with_reducible first | exact HB.out | apply below_alloc | apply pw_below_drewN | apply below_drew1 | refine below_set ?_ (IsS75.ge HI0.out)) | exact HB.out)) hb); clear HI0; clear HK; clear HB; have HO152 := n0_; have HI0 := n1_; have HK := n2_; have HB := n3_; clear n0_ n1_ n2_ n3_; clear hb ho13) | ((with_reducible refine gate_callee (f := 46) rfl ?_); refine goesL_ (some 7) rfl rfl Try.func46 (by kernel_rfl) rfl #[.pointer (some ⟨g, 0, none⟩), .int .i64 80] rfl (by (try simp only [List.map_toArray, List.map_cons, List.map_nil]); first | done | rfl | (simp only [List.length_drop, List.length_take]; rfl)) ?_; (with_reducible refine (spec_l1Rd_pick.calls k g s0_0 s0_1 80 t153 t154 w0 _ ?side1 ?side2 A2.out).mono ?_); (case side1 => repeat (first | (with_reducible first | exact HI0.out | apply IsS75.alloc | apply IsS75.drewN | apply IsS75.drew | apply IsS75.set_1) | exact HI0.out)); (case side2 => repeat (first | (with_reducible first | exact HB.out | apply below_alloc | apply pw_below_drewN | apply below_drew1 | refine below_set ?_ (IsS75.ge HI0.out)) | exact HB.out)); rintro e w14 ⟨rfl, hi, hb, hk⟩; refine ⟨_, rfl, ?_⟩; have n0_ := Aside0.mk (Kd.R_mono (Kd.R_keep (IsS75.apart (show IsS75 w0 _ g s0_0 s0_1 from by repeat (first | (with_reducible first | exact HI0.out | apply IsS75.alloc | apply IsS75.drewN | apply IsS75.drew | apply IsS75.set_1) | exact HI0.out)) (by (with_reducible repeat (first | apply Kd.R_alloc | apply Kd.R_drewN | apply Kd.R_drew)); exact HO152.out) (by decide)) hk (fun _ h => h.2)) (fun _ h => h.1)); have n1_ := Aside0.mk (KeepBut.trans (by repeat (first | (with_reducible first | exact HK.out | apply KeepBut.set_ | apply keep_drewN | apply keep_drew | apply keep_alloc) | exact HK.out)) hk (.inl rfl)); have n2_ := Aside0.mk (hb); have n3_ := Aside0.mk (hi); clear HO152; clear HK; clear HB; clear HI0; have HO152 := n0_; have HK := n1_; have HB := n2_; have HI0 := n3_; clear n0_ n1_ n2_ n3_; (try clear hb); (try clear hb2); (try clear hk); (try clear hi)) | ((with_reducible refine gate_callee (f := 46) rfl ?_); refine goesL_ (some 14) rfl rfl Try.func46 (by kernel_rfl) rfl #[.pointer (some ⟨g, 0, none⟩), .int .i64 14] rfl (by (try simp only [List.map_toArray, List.map_cons, List.map_nil]); first | done | rfl | (simp only [List.length_drop, List.length_take]; rfl)) ?_; (with_reducible refine (spec_l1Rd_pick.calls k g s0_0 t154 14 t160 t161 w0 _ ?side1 ?side2 A11.out).mono ?_); (case side1 => repeat (first | (with_reducible first | exact HI0.out | apply IsS75.alloc | apply IsS75.drewN | apply IsS75.drew | apply IsS75.set_1) | exact HI0.out)); (case side2 => repeat (first | (with_reducible first | exact HB.out | apply below_alloc | apply pw_below_drewN | apply below_drew1 | refine below_set ?_ (IsS75.ge HI0.out)) | exact HB.out)); rintro e w15 ⟨rfl, hi, hb, hk⟩; refine ⟨_, rfl, ?_⟩; have n0_ := Aside0.mk (Kd.R_mono (Kd.R_keep (IsS75.apart (show IsS75 w0 _ g s0_0 t154 from by repeat (first | (with_reducible first | exact HI0.out | apply IsS75.alloc | apply IsS75.drewN | apply IsS75.drew | apply IsS75.set_1) | exact HI0.out)) (by (with_reducible repeat (first | apply Kd.R_alloc | apply Kd.R_drewN | apply Kd.R_drew)); exact HO152.out) (by decide)) hk (fun _ h => h.2)) (fun _ h => h.1)); have n1_ := Aside0.mk (KeepBut.trans (by repeat (first | (with_reducible first | exact HK.out | apply KeepBut.set_ | apply keep_drewN | apply keep_drew | apply keep_alloc) | exact HK.out)) hk (.inl rfl)); have n2_ := Aside0.mk (hb); have n3_ := Aside0.mk (hi); clear HO152; clear HK; clear HB; clear HI0; have HO152 := n0_; have HK := n1_; have HB := n2_; have HI0 := n3_; clear n0_ n1_ n2_ n3_; (try clear hb); (try clear hb2); (try clear hk); (try clear hi)))
    go_loopg [3, 4] k (fun kq v3 v4 w' => ∃ (x3_1 : List Int) (x4_1 : Int) (x1001_1 : Int), v4 = .int .i64 x4_1 ∧ Aside0 (spec_l14Often.l0 kq x3_1 x4_1 s0_0 x1001_1 = some (r1, r2)) ∧ Aside0 (kq ≤ k) ∧ Aside0 (Kd.R (Kd.int .i64) 3 w' w.heap.size (fun _ => True) v3 x3_1) ∧ Aside0 (IsS75 w0 w' g s0_0 x1001_1) ∧ Aside0 (KeepBut w w' g none) ∧ Aside0 (Below w0.heap.size w0 w'))
    case atStart => exact ⟨(y150), (t160), (t161), (by first | rfl | (simp; done) | (simp [*]; done)), H', ⟨Nat.le_refl _⟩, ⟨by (with_reducible repeat (first | apply Kd.R_alloc | apply Kd.R_drewN | apply Kd.R_drew)); exact HO152.out⟩, ⟨by repeat (first | (with_reducible first | exact HI0.out | apply IsS75.alloc | apply IsS75.drewN | apply IsS75.drew | apply IsS75.set_1) | exact HI0.out)⟩, ⟨by repeat (first | (with_reducible first | exact HK.out | apply KeepBut.set_ | apply keep_drewN | apply keep_drew | apply keep_alloc) | exact HK.out)⟩, ⟨by repeat (first | (with_reducible first | exact HB.out | apply below_alloc | apply pw_below_drewN | apply below_drew1 | refine below_set ?_ (IsS75.ge HI0.out)) | exact HB.out)⟩⟩
    case round =>
      clear H'
      try clear p2
      try clear c3
      try clear c3b0
      try clear c3b1
      try clear c4
      try clear c6
      try clear p6
      obtain ⟨x3_1, x4_1, x1001_1, rfl, HA, HK1, HO_3, HI0, HK, HB⟩ := hrel
      cases gk with
      | zero => exact absurd HA.out (by simp [spec_l14Often.l0])
      | succ k1 =>
        have H := HA.out
        clear HA
        simp only [spec_l14Often.l0] at H
        by_cases c16 : x4_1 > 0
        · rw [if_pos c16] at H
          have c16b0 : decide (0 < x4_1) = true := decide_eq_true c16
          clear c16
          replace H := Option.bind_eq_some_iff.mp H
          obtain ⟨⟨t162, t163⟩, A170, H⟩ := H
          replace H : ((spec_l1Rd_pick.f k1 s0_0 t163 90).bind fun bt164 => ((spec_l1Rd_pick.f k1 s0_0 bt164.2 12).bind fun bt166 => ((spec_l1Pow.f k1 bt166.1).bind fun t168 => ((some (([0, 1, t162, bt164.1, t168] : List Int) : List Int)).bind fun y169 => ((spec_l1Rd_pick.f k1 s0_0 bt166.2 5).bind fun bt172 => (if 0 ≤ bt172.1 then (if bt172.1 < (y169.length : Int) then (if x3_1.length < 17592186044416 then (spec_l14Often.l0 k1 (x3_1 ++ [rd y169 bt172.1]) (wrap64 (x4_1 - 1)) s0_0 bt172.2) else (none)) else (none)) else (none))))))) = some (r1, r2) := H
          have A17 := Aside0.mk A170
          clear A170
          replace H := Option.bind_eq_some_iff.mp H
          obtain ⟨⟨t164, t165⟩, A180, H⟩ := H
          replace H : ((spec_l1Rd_pick.f k1 s0_0 t165 12).bind fun bt166 => ((spec_l1Pow.f k1 bt166.1).bind fun t168 => ((some (([0, 1, t162, t164, t168] : List Int) : List Int)).bind fun y169 => ((spec_l1Rd_pick.f k1 s0_0 bt166.2 5).bind fun bt172 => (if 0 ≤ bt172.1 then (if bt172.1 < (y169.length : Int) then (if x3_1.length < 17592186044416 then (spec_l14Often.l0 k1 (x3_1 ++ [rd y169 bt172.1]) (wrap64 (x4_1 - 1)) s0_0 bt172.2) else (none)) else (none)) else (none)))))) = some (r1, r2) := H
          have A18 := Aside0.mk A180
          clear A180
          replace H := Option.bind_eq_some_iff.mp H
          obtain ⟨⟨t166, t167⟩, A190, H⟩ := H
          replace H : ((spec_l1Pow.f k1 t166).bind fun t168 => ((some (([0, 1, t162, t164, t168] : List Int) : List Int)).bind fun y169 => ((spec_l1Rd_pick.f k1 s0_0 t167 5).bind fun bt172 => (if 0 ≤ bt172.1 then (if bt172.1 < (y169.length : Int) then (if x3_1.length < 17592186044416 then (spec_l14Often.l0 k1 (x3_1 ++ [rd y169 bt172.1]) (wrap64 (x4_1 - 1)) s0_0 bt172.2) else (none)) else (none)) else (none))))) = some (r1, r2) := H
          have A19 := Aside0.mk A190
          clear A190
          replace H := Option.bind_eq_some_iff.mp H
          obtain ⟨t168, A200, H⟩ := H
          replace H : ((some (([0, 1, t162, t164, t168] : List Int) : List Int)).bind fun y169 => ((spec_l1Rd_pick.f k1 s0_0 t167 5).bind fun bt172 => (if 0 ≤ bt172.1 then (if bt172.1 < (y169.length : Int) then (if x3_1.length < 17592186044416 then (spec_l14Often.l0 k1 (x3_1 ++ [rd y169 bt172.1]) (wrap64 (x4_1 - 1)) s0_0 bt172.2) else (none)) else (none)) else (none)))) = some (r1, r2) := H
          have A20 := Aside0.mk A200
          clear A200
          obtain ⟨y169, hy169⟩ : ∃ y_ : List Int, y_ = (([0, 1, t162, t164, t168] : List Int)) := ⟨_, rfl⟩
          replace H : ((spec_l1Rd_pick.f k1 s0_0 t167 5).bind fun bt172 => (if 0 ≤ bt172.1 then (if bt172.1 < (y169.length : Int) then (if x3_1.length < 17592186044416 then (spec_l14Often.l0 k1 (x3_1 ++ [rd y169 bt172.1]) (wrap64 (x4_1 - 1)) s0_0 bt172.2) else (none)) else (none)) else (none))) = some (r1, r2) := by first | (rw [hy169]; with_reducible exact H) | (have H2_ := (Option.bind_some _ _).symm.trans H; rw [hy169]; with_reducible exact H2_) | (have H2_ := (Option.bind_some _ _).symm.trans H; with_reducible exact H2_) | with_reducible exact H | (rw [hy169]; exact H) | exact H
          have Ny169 := Aside0.mk hy169
          clear hy169
          replace H := Option.bind_eq_some_iff.mp H
          obtain ⟨⟨t172, t173⟩, A210, H⟩ := H
          replace H : (if 0 ≤ t172 then (if t172 < (y169.length : Int) then (if x3_1.length < 17592186044416 then (spec_l14Often.l0 k1 (x3_1 ++ [rd y169 t172]) (wrap64 (x4_1 - 1)) s0_0 t173) else (none)) else (none)) else (none)) = some (r1, r2) := H
          have A21 := Aside0.mk A210
          clear A210
          by_cases c22 : 0 ≤ t172
          · rw [if_pos c22] at H
            have c22b0 : decide (0 ≤ t172) = true := decide_eq_true c22
            clear c22
            by_cases c23 : t172 < (y169.length : Int)
            · rw [if_pos c23] at H
              have c23b0 : decide (t172 < (y169.length : Int)) = true := decide_eq_true c23
              clear c23
              by_cases c24 : x3_1.length < 17592186044416
              · rw [if_pos c24] at H
                have LMc24 := Aside0.mk c24
                clear c24
                obtain ⟨y175, hy175⟩ : ∃ y_ : List Int, y_ = (x3_1 ++ [rd y169 t172]) := ⟨_, rfl⟩
                replace H : (spec_l14Often.l0 k1 y175 (wrap64 (x4_1 - 1)) s0_0 t173) = some (r1, r2) := by first | (rw [hy175]; with_reducible exact H) | (have H2_ := (Option.bind_some _ _).symm.trans H; rw [hy175]; with_reducible exact H2_) | (have H2_ := (Option.bind_some _ _).symm.trans H; with_reducible exact H2_) | with_reducible exact H | (rw [hy175]; exact H) | exact H
                have Ny175 := Aside0.mk hy175
                clear hy175
                have H' := Aside0.mk H
                clear H
                go_wp2_with (first | ((with_reducible refine gate_callee (f := 46) rfl ?_); refine goesL_ (some 21) rfl rfl Try.func46 (by kernel_rfl) rfl #[.pointer (some ⟨g, 0, none⟩), .int .i64 5] rfl (by (try simp only [List.map_toArray, List.map_cons, List.map_nil]); first | done | rfl | (simp only [List.length_drop, List.length_take]; rfl)) ?_; (with_reducible refine (spec_l1Rd_pick.calls k1 g s0_0 x1001_1 5 t162 t163 w0 _ ?side1 ?side2 A17.out).mono ?_); (case side1 => repeat (first | (with_reducible first | exact HI0.out | apply IsS75.alloc | apply IsS75.drewN | apply IsS75.drew | apply IsS75.set_1) | exact HI0.out)); (case side2 => repeat (first | (with_reducible first | exact HB.out | apply below_alloc | apply pw_below_drewN | apply below_drew1 | refine below_set ?_ (IsS75.ge HI0.out)) | exact HB.out)); rintro e w25 ⟨rfl, hi, hb, hk⟩; refine ⟨_, rfl, ?_⟩; have n0_ := Aside0.mk (Kd.R_mono (Kd.R_keep (IsS75.apart (show IsS75 w0 _ g s0_0 x1001_1 from by repeat (first | (with_reducible first | exact HI0.out | apply IsS75.alloc | apply IsS75.drewN | apply IsS75.drew | apply IsS75.set_1) | exact HI0.out)) (by (with_reducible repeat (first | apply Kd.R_alloc | apply Kd.R_drewN | apply Kd.R_drew)); exact HO_3.out) (by decide)) hk (fun _ h => h.2)) (fun _ h => h.1)); have n1_ := Aside0.mk (KeepBut.trans (by repeat (first | (with_reducible first | exact HK.out | apply KeepBut.set_ | apply keep_drewN | apply keep_drew | apply keep_alloc) | exact HK.out)) hk (.inl rfl)); have n2_ := Aside0.mk (hb); have n3_ := Aside0.mk (hi); clear HO_3; clear HK; clear HB; clear HI0; have HO_3 := n0_; have HK := n1_; have HB := n2_; have HI0 := n3_; clear n0_ n1_ n2_ n3_; (try clear hb); (try clear hb2); (try clear hk); (try clear hi)) | ((with_reducible refine gate_callee (f := 46) rfl ?_); refine goesL_ (some 23) rfl rfl Try.func46 (by kernel_rfl) rfl #[.pointer (some ⟨g, 0, none⟩), .int .i64 90] rfl (by (try simp only [List.map_toArray, List.map_cons, List.map_nil]); first | done | rfl | (simp only [List.length_drop, List.length_take]; rfl)) ?_; (with_reducible refine (spec_l1Rd_pick.calls k1 g s0_0 t163 90 t164 t165 w0 _ ?side1 ?side2 A18.out).mono ?_); (case side1 => repeat (first | (with_reducible first | exact HI0.out | apply IsS75.alloc | apply IsS75.drewN | apply IsS75.drew | apply IsS75.set_1) | exact HI0.out)); (case side2 => repeat (first | (with_reducible first | exact HB.out | apply below_alloc | apply pw_below_drewN | apply below_drew1 | refine below_set ?_ (IsS75.ge HI0.out)) | exact HB.out)); rintro e w26 ⟨rfl, hi, hb, hk⟩; refine ⟨_, rfl, ?_⟩; have n0_ := Aside0.mk (Kd.R_mono (Kd.R_keep (IsS75.apart (show IsS75 w0 _ g s0_0 t163 from by repeat (first | (with_reducible first | exact HI0.out | apply IsS75.alloc | apply IsS75.drewN | apply IsS75.drew | apply IsS75.set_1) | exact HI0.out)) (by (with_reducible repeat (first | apply Kd.R_alloc | apply Kd.R_drewN | apply Kd.R_drew)); exact HO_3.out) (by decide)) hk (fun _ h => h.2)) (fun _ h => h.1)); have n1_ := Aside0.mk (KeepBut.trans (by repeat (first | (with_reducible first | exact HK.out | apply KeepBut.set_ | apply keep_drewN | apply keep_drew | apply keep_alloc) | exact HK.out)) hk (.inl rfl)); have n2_ := Aside0.mk (hb); have n3_ := Aside0.mk (hi); clear HO_3; clear HK; clear HB; clear HI0; have HO_3 := n0_; have HK := n1_; have HB := n2_; have HI0 := n3_; clear n0_ n1_ n2_ n3_; (try clear hb); (try clear hb2); (try clear hk); (try clear hi)) | ((with_reducible refine gate_callee (f := 46) rfl ?_); refine goesL_ (some 25) rfl rfl Try.func46 (by kernel_rfl) rfl #[.pointer (some ⟨g, 0, none⟩), .int .i64 12] rfl (by (try simp only [List.map_toArray, List.map_cons, List.map_nil]); first | done | rfl | (simp only [List.length_drop, List.length_take]; rfl)) ?_; (with_reducible refine (spec_l1Rd_pick.calls k1 g s0_0 t165 12 t166 t167 w0 _ ?side1 ?side2 A19.out).mono ?_); (case side1 => repeat (first | (with_reducible first | exact HI0.out | apply IsS75.alloc | apply IsS75.drewN | apply IsS75.drew | apply IsS75.set_1) | exact HI0.out)); (case side2 => repeat (first | (with_reducible first | exact HB.out | apply below_alloc | apply pw_below_drewN | apply below_drew1 | refine below_set ?_ (IsS75.ge HI0.out)) | exact HB.out)); rintro e w27 ⟨rfl, hi, hb, hk⟩; refine ⟨_, rfl, ?_⟩; have n0_ := Aside0.mk (Kd.R_mono (Kd.R_keep (IsS75.apart (show IsS75 w0 _ g s0_0 t165 from by repeat (first | (with_reducible first | exact HI0.out | apply IsS75.alloc | apply IsS75.drewN | apply IsS75.drew | apply IsS75.set_1) | exact HI0.out)) (by (with_reducible repeat (first | apply Kd.R_alloc | apply Kd.R_drewN | apply Kd.R_drew)); exact HO_3.out) (by decide)) hk (fun _ h => h.2)) (fun _ h => h.1)); have n1_ := Aside0.mk (KeepBut.trans (by repeat (first | (with_reducible first | exact HK.out | apply KeepBut.set_ | apply keep_drewN | apply keep_drew | apply keep_alloc) | exact HK.out)) hk (.inl rfl)); have n2_ := Aside0.mk (hb); have n3_ := Aside0.mk (hi); clear HO_3; clear HK; clear HB; clear HI0; have HO_3 := n0_; have HK := n1_; have HB := n2_; have HI0 := n3_; clear n0_ n1_ n2_ n3_; (try clear hb); (try clear hb2); (try clear hk); (try clear hi)) | ((with_reducible refine gate_callee (f := 60) rfl ?_); refine goesL_ (some 26) rfl rfl Try.func60 (by kernel_rfl) rfl #[.int .i64 t166] rfl (by (try simp only [List.map_toArray, List.map_cons, List.map_nil]); first | done | rfl | (simp only [List.length_drop, List.length_take]; rfl)) ?_; (with_reducible refine (spec_l1Pow.calls k1 t166 t168 _ A20.out).mono ?_); rintro e w' ⟨rfl, ⟨nd, rfl⟩⟩; refine ⟨_, rfl, ?_⟩) | ((with_reducible refine gate_dst (N := 27) rfl ?_); refine Kd.R_lit (Kd.int .i64) _ 3 ?hg (N := 27) ?hd (xs := ([0, 1, t162, t164, t168] : List Int)) (inner := [.int .i64 0, .int .i64 1, .int .i64 t162, .int .i64 t164, .int .i64 t168]) (ok := fun _ => True) (okp := fun _ => True) ?hr ?hp (fun _ hk => hk) trivial (Below.refl _ _) (Nat.le_refl _) (by simp) ?_; (case hd => rfl); (case hg => rfl); (case hr => first | (go_simp; done) | (go_simp; rfl)); (case hp => exact (Reps.one (show Kd.M (Kd.int .i64) _ _ _ 0 [.int .i64 0] from rfl) (Reps.one (show Kd.M (Kd.int .i64) _ _ _ 1 [.int .i64 1] from rfl) (Reps.one (show Kd.M (Kd.int .i64) _ _ _ t162 [.int .i64 t162] from rfl) (Reps.one (show Kd.M (Kd.int .i64) _ _ _ t164 [.int .i64 t164] from rfl) (Reps.one (show Kd.M (Kd.int .i64) _ _ _ t168 [.int .i64 t168] from rfl) (Reps.none _ _))))))); intro v170 w28 ho29 hb hg_ hnew_; clear hg_ hnew_; (first | rw [← Ny169.out] at ho29 | (simp only [Int.reduceToNat] at ho29; rw [← Ny169.out] at ho29)); have n0_ := Aside0.mk (Kd.R_elder' (by (with_reducible repeat (first | apply Kd.R_alloc | apply Kd.R_drewN | apply Kd.R_drew)); exact HO_3.out) (Kd.R_base ho29) hb); have n1_ := Aside0.mk (Kd.R_lower (Kd.R_new' ho29 (Kd.R_lt (by (with_reducible repeat (first | apply Kd.R_alloc | apply Kd.R_drewN | apply Kd.R_drew)); exact HO_3.out))) (keep_size (w := w) (g := g) (row := none) (by repeat (first | (with_reducible first | exact HK.out | apply KeepBut.set_ | apply keep_drewN | apply keep_drew | apply keep_alloc) | exact HK.out)))); have n2_ := Aside0.mk (IsS75.below (by repeat (first | (with_reducible first | exact HI0.out | apply IsS75.alloc | apply IsS75.drewN | apply IsS75.drew | apply IsS75.set_1) | exact HI0.out)) hb); have n3_ := Aside0.mk (KeepBut.trans (by repeat (first | (with_reducible first | exact HK.out | apply KeepBut.set_ | apply keep_drewN | apply keep_drew | apply keep_alloc) | exact HK.out)) (KeepBut.of_below hb g none) (.inl rfl)); have n4_ := Aside0.mk (below_step (by repeat (first | (with_reducible first | exact HB.out | apply below_alloc | apply pw_below_drewN | apply below_drew1 | refine below_set ?_ (IsS75.ge HI0.out)) | exact HB.out)) hb); clear HO_3; clear HI0; clear HK; clear HB; have HO_3 := n0_; have HO171 := n1_; have HI0 := n2_; have HK := n3_; have HB := n4_; clear n0_ n1_ n2_ n3_ n4_; clear hb ho29) | ((with_reducible refine gate_callee (f := 46) rfl ?_); refine goesL_ (some 29) rfl rfl Try.func46 (by kernel_rfl) rfl #[.pointer (some ⟨g, 0, none⟩), .int .i64 5] rfl (by (try simp only [List.map_toArray, List.map_cons, List.map_nil]); first | done | rfl | (simp only [List.length_drop, List.length_take]; rfl)) ?_; (with_reducible refine (spec_l1Rd_pick.calls k1 g s0_0 t167 5 t172 t173 w0 _ ?side1 ?side2 A21.out).mono ?_); (case side1 => repeat (first | (with_reducible first | exact HI0.out | apply IsS75.alloc | apply IsS75.drewN | apply IsS75.drew | apply IsS75.set_1) | exact HI0.out)); (case side2 => repeat (first | (with_reducible first | exact HB.out | apply below_alloc | apply pw_below_drewN | apply below_drew1 | refine below_set ?_ (IsS75.ge HI0.out)) | exact HB.out)); rintro e w30 ⟨rfl, hi, hb, hk⟩; refine ⟨_, rfl, ?_⟩; have n0_ := Aside0.mk (Kd.R_mono (Kd.R_keep (IsS75.apart (show IsS75 w0 _ g s0_0 t167 from by repeat (first | (with_reducible first | exact HI0.out | apply IsS75.alloc | apply IsS75.drewN | apply IsS75.drew | apply IsS75.set_1) | exact HI0.out)) (by (with_reducible repeat (first | apply Kd.R_alloc | apply Kd.R_drewN | apply Kd.R_drew)); exact HO_3.out) (by decide)) hk (fun _ h => h.2)) (fun _ h => h.1)); have n1_ := Aside0.mk (Kd.R_mono (Kd.R_keep (IsS75.apart (show IsS75 w0 _ g s0_0 t167 from by repeat (first | (with_reducible first | exact HI0.out | apply IsS75.alloc | apply IsS75.drewN | apply IsS75.drew | apply IsS75.set_1) | exact HI0.out)) (by (with_reducible repeat (first | apply Kd.R_alloc | apply Kd.R_drewN | apply Kd.R_drew)); exact HO171.out) (by decide)) hk (fun _ h => h.2)) (fun _ h => h.1)); have n2_ := Aside0.mk (KeepBut.trans (by repeat (first | (with_reducible first | exact HK.out | apply KeepBut.set_ | apply keep_drewN | apply keep_drew | apply keep_alloc) | exact HK.out)) hk (.inl rfl)); have n3_ := Aside0.mk (hb); have n4_ := Aside0.mk (hi); clear HO_3; clear HO171; clear HK; clear HB; clear HI0; have HO_3 := n0_; have HO171 := n1_; have HK := n2_; have HB := n3_; have HI0 := n4_; clear n0_ n1_ n2_ n3_ n4_; (try clear hb); (try clear hb2); (try clear hk); (try clear hi); obtain ⟨Ao31, co31, eo31⟩ := Kd.R_slice HO171.out; subst eo31; have p174 : 0 ≤ (t172 : Int) := of_decide_eq_true (by first | (with_reducible assumption) | assumption); have q174 : t172 < (y169.length : Int) := of_decide_eq_true (by first | (with_reducible assumption) | assumption); obtain ⟨ad174, e174, hx174_0⟩ := Kd.at_int (Kd.R_reads' HO171.out).2.2 t172 p174 q174; cases e174; replace p174 := eq_true p174; replace q174 := eq_true q174) | ((with_reducible refine gate_builtin (b := .append) (xs := #[.tmp 19, .tmp 32]) rfl ?_); at_builtin; refine Kd.R_append (Kd.int .i64) w.heap.size rfl (.tmp 19) (.tmp 32) 22 3 (.int .i64 0) 8 rfl Try.underlying22 info3 rfl (by decide) (by omega) u3 x3_1 (rd y169 t172) [.int .i64 (rd y169 t172)] (fun k_ => some k_ ≠ (.slice (some ad174) y169.length co31 : Value).ownBlock) (fun _ => False) rfl rfl ?aP (fun _ hk => hk.elim) ?aF ?aO (Below.refl _ _) ?aS ?aL ?_; (case aP => exact rfl); (case aF => exact (fun k_ hk => Kd.fresh' (Kd.R_lt (by (with_reducible repeat (first | apply Kd.R_alloc | apply Kd.R_drewN | apply Kd.R_drew)); exact HO171.out)) k_ hk)); (case aO => exact (by (with_reducible repeat (first | apply Kd.R_alloc | apply Kd.R_drewN | apply Kd.R_drew)); exact Kd.R_mono HO_3.out (fun _ hk => hk.2))); (case aS => exact (keep_size (w := w) (g := g) (row := none) (by repeat (first | (with_reducible first | exact HK.out | apply KeepBut.set_ | apply keep_drewN | apply keep_drew | apply keep_alloc) | exact HK.out)))); (case aL => have := LMc24.out; omega); intro v176 w32 ho hb hg hat; rw [← Ny175.out] at ho; have n0_ := Aside0.mk (IsS75.grown (by repeat (first | (with_reducible first | exact HI0.out | apply IsS75.alloc | apply IsS75.drewN | apply IsS75.drew | apply IsS75.set_1) | exact HI0.out)) hg (IsS75.own_ne HI0.out HO_3.out (by decide))); have n1_ := Aside0.mk (Kd.R_after (ok := (fun _ => True)) (by (with_reducible repeat (first | apply Kd.R_alloc | apply Kd.R_drewN | apply Kd.R_drew)); exact HO171.out) hg hat); have n2_ := Aside0.mk (below_weaken (by repeat (first | (with_reducible first | exact HB.out | apply below_alloc | apply pw_below_drewN | apply below_drew1 | refine below_set ?_ (IsS75.ge HI0.out)) | exact HB.out)) HL.out hb); have n3_ := Aside0.mk (KeepBut.trans (by repeat (first | (with_reducible first | exact HK.out | apply KeepBut.set_ | apply keep_drewN | apply keep_drew | apply keep_alloc) | exact HK.out)) (KeepBut.of_grown hg g) (Kd.R_base2 HO_3.out)); have n4_ := Aside0.mk (ho); clear HI0; clear HO171; clear HB; clear HK; clear HO_3; have HI0 := n0_; have HO171 := n1_; have HB := n2_; have HK := n3_; have HO177 := n4_; clear n0_ n1_ n2_ n3_ n4_; clear ho hb hg hat))
                go_roundg k1
                case measure => have := HK1.out; omega
                case rel => exact ⟨(y175), (wrap64 (x4_1 - 1)), (t173), (by first | rfl | (simp; done) | (simp [*]; done)), H', ⟨by have := HK1.out; omega⟩, ⟨by (with_reducible repeat (first | apply Kd.R_alloc | apply Kd.R_drewN | apply Kd.R_drew)); exact Kd.R_mono HO177.out (fun _ hk => trivial)⟩, ⟨by repeat (first | (with_reducible first | exact HI0.out | apply IsS75.alloc | apply IsS75.drewN | apply IsS75.drew | apply IsS75.set_1) | exact HI0.out)⟩, ⟨by repeat (first | (with_reducible first | exact HK.out | apply KeepBut.set_ | apply keep_drewN | apply keep_drew | apply keep_alloc) | exact HK.out)⟩, ⟨by repeat (first | (with_reducible first | exact HB.out | apply below_alloc | apply pw_below_drewN | apply below_drew1 | refine below_set ?_ (IsS75.ge HI0.out)) | exact HB.out)⟩⟩
              · rw [if_neg c24] at H
                exact absurd H (by simp)
            · rw [if_neg c23] at H
              exact absurd H (by simp)
          · rw [if_neg c22] at H
            exact absurd H (by simp)
        · rw [if_neg c16] at H
          have c16b0 : decide (0 < x4_1) = false := decide_eq_false c16
          clear c16
          replace H := Option.bind_eq_some_iff.mp H
          obtain ⟨⟨t178, t179⟩, A330, H⟩ := H
          replace H : (if t178 = 0 then ((some (([(-1), 9001] : List Int) : List Int)).bind fun y180 => ((spec_l1Rd_pick.f k1 s0_0 t179 2).bind fun bt183 => (if 0 ≤ bt183.1 then (if bt183.1 < (y180.length : Int) then (if x3_1.length < 17592186044416 then (some ((x3_1 ++ [rd y180 bt183.1]), bt183.2)) else (none)) else (none)) else (none)))) else (some (x3_1, t179))) = some (r1, r2) := H
          have A33 := Aside0.mk A330
          clear A330
          by_cases c34 : t178 = 0
          · rw [if_pos c34] at H
            have c34b0 : (t178 == 0) = true := beq_iff_eq.mpr c34
            have c34b1 : (t178 != 0) = false := bne_eq_false_iff_eq.mpr c34
            clear c34
            obtain ⟨y180, hy180⟩ : ∃ y_ : List Int, y_ = (([(-1), 9001] : List Int)) := ⟨_, rfl⟩
            replace H : ((spec_l1Rd_pick.f k1 s0_0 t179 2).bind fun bt183 => (if 0 ≤ bt183.1 then (if bt183.1 < (y180.length : Int) then (if x3_1.length < 17592186044416 then (some ((x3_1 ++ [rd y180 bt183.1]), bt183.2)) else (none)) else (none)) else (none))) = some (r1, r2) := by first | (rw [hy180]; with_reducible exact H) | (have H2_ := (Option.bind_some _ _).symm.trans H; rw [hy180]; with_reducible exact H2_) | (have H2_ := (Option.bind_some _ _).symm.trans H; with_reducible exact H2_) | with_reducible exact H | (rw [hy180]; exact H) | exact H
            have Ny180 := Aside0.mk hy180
            clear hy180
            replace H := Option.bind_eq_some_iff.mp H
            obtain ⟨⟨t183, t184⟩, A350, H⟩ := H
            replace H : (if 0 ≤ t183 then (if t183 < (y180.length : Int) then (if x3_1.length < 17592186044416 then (some ((x3_1 ++ [rd y180 t183]), t184)) else (none)) else (none)) else (none)) = some (r1, r2) := H
            have A35 := Aside0.mk A350
            clear A350
            by_cases c36 : 0 ≤ t183
            · rw [if_pos c36] at H
              have c36b0 : decide (0 ≤ t183) = true := decide_eq_true c36
              clear c36
              by_cases c37 : t183 < (y180.length : Int)
              · rw [if_pos c37] at H
                have c37b0 : decide (t183 < (y180.length : Int)) = true := decide_eq_true c37
                clear c37
                by_cases c38 : x3_1.length < 17592186044416
                · rw [if_pos c38] at H
                  have LMc38 := Aside0.mk c38
                  clear c38
                  obtain ⟨y186, hy186⟩ : ∃ y_ : List Int, y_ = (x3_1 ++ [rd y180 t183]) := ⟨_, rfl⟩
                  replace H : (some (y186, t184)) = some (r1, r2) := by first | (rw [hy186]; with_reducible exact H) | (have H2_ := (Option.bind_some _ _).symm.trans H; rw [hy186]; with_reducible exact H2_) | (have H2_ := (Option.bind_some _ _).symm.trans H; with_reducible exact H2_) | with_reducible exact H | (rw [hy186]; exact H) | exact H
                  have Ny186 := Aside0.mk hy186
                  clear hy186
                  simp only [Option.some.injEq, Prod.mk.injEq] at H
                  obtain ⟨rfl, rfl⟩ := H
                  go_wp2_with (first | ((with_reducible refine gate_callee (f := 46) rfl ?_); refine goesL_ (some 35) rfl rfl Try.func46 (by kernel_rfl) rfl #[.pointer (some ⟨g, 0, none⟩), .int .i64 20] rfl (by (try simp only [List.map_toArray, List.map_cons, List.map_nil]); first | done | rfl | (simp only [List.length_drop, List.length_take]; rfl)) ?_; (with_reducible refine (spec_l1Rd_pick.calls k1 g s0_0 x1001_1 20 t178 t179 w0 _ ?side1 ?side2 A33.out).mono ?_); (case side1 => repeat (first | (with_reducible first | exact HI0.out | apply IsS75.alloc | apply IsS75.drewN | apply IsS75.drew | apply IsS75.set_1) | exact HI0.out)); (case side2 => repeat (first | (with_reducible first | exact HB.out | apply below_alloc | apply pw_below_drewN | apply below_drew1 | refine below_set ?_ (IsS75.ge HI0.out)) | exact HB.out)); rintro e w39 ⟨rfl, hi, hb, hk⟩; refine ⟨_, rfl, ?_⟩; have n0_ := Aside0.mk (Kd.R_mono (Kd.R_keep (IsS75.apart (show IsS75 w0 _ g s0_0 x1001_1 from by repeat (first | (with_reducible first | exact HI0.out | apply IsS75.alloc | apply IsS75.drewN | apply IsS75.drew | apply IsS75.set_1) | exact HI0.out)) (by (with_reducible repeat (first | apply Kd.R_alloc | apply Kd.R_drewN | apply Kd.R_drew)); exact HO_3.out) (by decide)) hk (fun _ h => h.2)) (fun _ h => h.1)); have n1_ := Aside0.mk (KeepBut.trans (by repeat (first | (with_reducible first | exact HK.out | apply KeepBut.set_ | apply keep_drewN | apply keep_drew | apply keep_alloc) | exact HK.out)) hk (.inl rfl)); have n2_ := Aside0.mk (hb); have n3_ := Aside0.mk (hi); clear HO_3; clear HK; clear HB; clear HI0; have HO_3 := n0_; have HK := n1_; have HB := n2_; have HI0 := n3_; clear n0_ n1_ n2_ n3_; (try clear hb); (try clear hb2); (try clear hk); (try clear hi)) | ((with_reducible refine gate_dst (N := 38) rfl ?_); refine Kd.R_lit (Kd.int .i64) _ 3 ?hg (N := 38) ?hd (xs := ([(-1), 9001] : List Int)) (inner := [.int .i64 (-1), .int .i64 9001]) (ok := fun _ => True) (okp := fun _ => True) ?hr ?hp (fun _ hk => hk) trivial (Below.refl _ _) (Nat.le_refl _) (by simp) ?_; (case hd => rfl); (case hg => rfl); (case hr => first | (go_simp; done) | (go_simp; rfl)); (case hp => exact (Reps.one (show Kd.M (Kd.int .i64) _ _ _ (-1) [.int .i64 (-1)] from rfl) (Reps.one (show Kd.M (Kd.int .i64) _ _ _ 9001 [.int .i64 9001] from rfl) (Reps.none _ _)))); intro v181 w40 ho41 hb hg_ hnew_; clear hg_ hnew_; (first | rw [← Ny180.out] at ho41 | (simp only [Int.reduceToNat] at ho41; rw [← Ny180.out] at ho41)); have n0_ := Aside0.mk (Kd.R_elder' (by (with_reducible repeat (first | apply Kd.R_alloc | apply Kd.R_drewN | apply Kd.R_drew)); exact HO_3.out) (Kd.R_base ho41) hb); have n1_ := Aside0.mk (Kd.R_lower (Kd.R_new' ho41 (Kd.R_lt (by (with_reducible repeat (first | apply Kd.R_alloc | apply Kd.R_drewN | apply Kd.R_drew)); exact HO_3.out))) (keep_size (w := w) (g := g) (row := none) (by repeat (first | (with_reducible first | exact HK.out | apply KeepBut.set_ | apply keep_drewN | apply keep_drew | apply keep_alloc) | exact HK.out)))); have n2_ := Aside0.mk (IsS75.below (by repeat (first | (with_reducible first | exact HI0.out | apply IsS75.alloc | apply IsS75.drewN | apply IsS75.drew | apply IsS75.set_1) | exact HI0.out)) hb); have n3_ := Aside0.mk (KeepBut.trans (by repeat (first | (with_reducible first | exact HK.out | apply KeepBut.set_ | apply keep_drewN | apply keep_drew | apply keep_alloc) | exact HK.out)) (KeepBut.of_below hb g none) (.inl rfl)); have n4_ := Aside0.mk (below_step (by repeat (first | (with_reducible first | exact HB.out | apply below_alloc | apply pw_below_drewN | apply below_drew1 | refine below_set ?_ (IsS75.ge HI0.out)) | exact HB.out)) hb); clear HO_3; clear HI0; clear HK; clear HB; have HO_3 := n0_; have HO182 := n1_; have HI0 := n2_; have HK := n3_; have HB := n4_; clear n0_ n1_ n2_ n3_ n4_; clear hb ho41) | ((with_reducible refine gate_callee (f := 46) rfl ?_); refine goesL_ (some 40) rfl rfl Try.func46 (by kernel_rfl) rfl #[.pointer (some ⟨g, 0, none⟩), .int .i64 2] rfl (by (try simp only [List.map_toArray, List.map_cons, List.map_nil]); first | done | rfl | (simp only [List.length_drop, List.length_take]; rfl)) ?_; (with_reducible refine (spec_l1Rd_pick.calls k1 g s0_0 t179 2 t183 t184 w0 _ ?side1 ?side2 A35.out).mono ?_); (case side1 => repeat (first | (with_reducible first | exact HI0.out | apply IsS75.alloc | apply IsS75.drewN | apply IsS75.drew | apply IsS75.set_1) | exact HI0.out)); (case side2 => repeat (first | (with_reducible first | exact HB.out | apply below_alloc | apply pw_below_drewN | apply below_drew1 | refine below_set ?_ (IsS75.ge HI0.out)) | exact HB.out)); rintro e w42 ⟨rfl, hi, hb, hk⟩; refine ⟨_, rfl, ?_⟩; have n0_ := Aside0.mk (Kd.R_mono (Kd.R_keep (IsS75.apart (show IsS75 w0 _ g s0_0 t179 from by repeat (first | (with_reducible first | exact HI0.out | apply IsS75.alloc | apply IsS75.drewN | apply IsS75.drew | apply IsS75.set_1) | exact HI0.out)) (by (with_reducible repeat (first | apply Kd.R_alloc | apply Kd.R_drewN | apply Kd.R_drew)); exact HO_3.out) (by decide)) hk (fun _ h => h.2)) (fun _ h => h.1)); have n1_ := Aside0.mk (Kd.R_mono (Kd.R_keep (IsS75.apart (show IsS75 w0 _ g s0_0 t179 from by repeat (first | (with_reducible first | exact HI0.out | apply IsS75.alloc | apply IsS75.drewN | apply IsS75.drew | apply IsS75.set_1) | exact HI0.out)) (by (with_reducible repeat (first | apply Kd.R_alloc | apply Kd.R_drewN | apply Kd.R_drew)); exact HO182.out) (by decide)) hk (fun _ h => h.2)) (fun _ h => h.1)); have n2_ := Aside0.mk (KeepBut.trans (by repeat (first | (with_reducible first | exact HK.out | apply KeepBut.set_ | apply keep_drewN | apply keep_drew | apply keep_alloc) | exact HK.out)) hk (.inl rfl)); have n3_ := Aside0.mk (hb); have n4_ := Aside0.mk (hi); clear HO_3; clear HO182; clear HK; clear HB; clear HI0; have HO_3 := n0_; have HO182 := n1_; have HK := n2_; have HB := n3_; have HI0 := n4_; clear n0_ n1_ n2_ n3_ n4_; (try clear hb); (try clear hb2); (try clear hk); (try clear hi); obtain ⟨Ao43, co43, eo43⟩ := Kd.R_slice HO182.out; subst eo43; have p185 : 0 ≤ (t183 : Int) := of_decide_eq_true (by first | (with_reducible assumption) | assumption); have q185 : t183 < (y180.length : Int) := of_decide_eq_true (by first | (with_reducible assumption) | assumption); obtain ⟨ad185, e185, hx185_0⟩ := Kd.at_int (Kd.R_reads' HO182.out).2.2 t183 p185 q185; cases e185; replace p185 := eq_true p185; replace q185 := eq_true q185) | ((with_reducible refine gate_builtin (b := .append) (xs := #[.tmp 37, .tmp 43]) rfl ?_); at_builtin; refine Kd.R_append (Kd.int .i64) w.heap.size rfl (.tmp 37) (.tmp 43) 22 3 (.int .i64 0) 8 rfl Try.underlying22 info3 rfl (by decide) (by omega) u3 x3_1 (rd y180 t183) [.int .i64 (rd y180 t183)] (fun k_ => some k_ ≠ (.slice (some ad185) y180.length co43 : Value).ownBlock) (fun _ => False) rfl rfl ?aP (fun _ hk => hk.elim) ?aF ?aO (Below.refl _ _) ?aS ?aL ?_; (case aP => exact rfl); (case aF => exact (fun k_ hk => Kd.fresh' (Kd.R_lt (by (with_reducible repeat (first | apply Kd.R_alloc | apply Kd.R_drewN | apply Kd.R_drew)); exact HO182.out)) k_ hk)); (case aO => exact (by (with_reducible repeat (first | apply Kd.R_alloc | apply Kd.R_drewN | apply Kd.R_drew)); exact Kd.R_mono HO_3.out (fun _ hk => hk.2))); (case aS => exact (keep_size (w := w) (g := g) (row := none) (by repeat (first | (with_reducible first | exact HK.out | apply KeepBut.set_ | apply keep_drewN | apply keep_drew | apply keep_alloc) | exact HK.out)))); (case aL => have := LMc38.out; omega); intro v187 w44 ho hb hg hat; rw [← Ny186.out] at ho; have n0_ := Aside0.mk (IsS75.grown (by repeat (first | (with_reducible first | exact HI0.out | apply IsS75.alloc | apply IsS75.drewN | apply IsS75.drew | apply IsS75.set_1) | exact HI0.out)) hg (IsS75.own_ne HI0.out HO_3.out (by decide))); have n1_ := Aside0.mk (Kd.R_after (ok := (fun _ => True)) (by (with_reducible repeat (first | apply Kd.R_alloc | apply Kd.R_drewN | apply Kd.R_drew)); exact HO182.out) hg hat); have n2_ := Aside0.mk (below_weaken (by repeat (first | (with_reducible first | exact HB.out | apply below_alloc | apply pw_below_drewN | apply below_drew1 | refine below_set ?_ (IsS75.ge HI0.out)) | exact HB.out)) HL.out hb); have n3_ := Aside0.mk (KeepBut.trans (by repeat (first | (with_reducible first | exact HK.out | apply KeepBut.set_ | apply keep_drewN | apply keep_drew | apply keep_alloc) | exact HK.out)) (KeepBut.of_grown hg g) (Kd.R_base2 HO_3.out)); have n4_ := Aside0.mk (ho); clear HI0; clear HO182; clear HB; clear HK; clear HO_3; have HI0 := n0_; have HO182 := n1_; have HB := n2_; have HK := n3_; have HO188 := n4_; clear n0_ n1_ n2_ n3_ n4_; clear ho hb hg hat))
                  go_ret
                  exact ⟨_, by first | rfl | (simp [errW_none, errW_some] <;> rfl) | (simp [*, errW_none, errW_some] <;> rfl), by (with_reducible repeat (first | apply Kd.R_alloc | apply Kd.R_drewN | apply Kd.R_drew)); exact Kd.R_mono HO188.out (fun _ hk => trivial), by repeat (first | (with_reducible first | exact HI0.out | apply IsS75.alloc | apply IsS75.drewN | apply IsS75.drew | apply IsS75.set_1) | exact HI0.out), by repeat (first | (with_reducible first | exact HB.out | apply below_alloc | apply pw_below_drewN | apply below_drew1 | refine below_set ?_ (IsS75.ge HI0.out)) | exact HB.out), by repeat (first | (with_reducible first | exact HK.out | apply KeepBut.set_ | apply keep_drewN | apply keep_drew | apply keep_alloc) | exact HK.out)⟩
                · rw [if_neg c38] at H
                  exact absurd H (by simp)
              · rw [if_neg c37] at H
                exact absurd H (by simp)
            · rw [if_neg c36] at H
              exact absurd H (by simp)
          · rw [if_neg c34] at H
            have c34b0 : (t178 == 0) = false := beq_eq_false_iff_ne.mpr c34
            have c34b1 : (t178 != 0) = true := bne_iff_ne.mpr c34
            simp only [Option.some.injEq, Prod.mk.injEq] at H
            obtain ⟨rfl, rfl⟩ := H
            go_wp2_with (first | ((with_reducible refine gate_callee (f := 46) rfl ?_); refine goesL_ (some 35) rfl rfl Try.func46 (by kernel_rfl) rfl #[.pointer (some ⟨g, 0, none⟩), .int .i64 20] rfl (by (try simp only [List.map_toArray, List.map_cons, List.map_nil]); first | done | rfl | (simp only [List.length_drop, List.length_take]; rfl)) ?_; (with_reducible refine (spec_l1Rd_pick.calls k1 g s0_0 x1001_1 20 t178 t179 w0 _ ?side1 ?side2 A33.out).mono ?_); (case side1 => repeat (first | (with_reducible first | exact HI0.out | apply IsS75.alloc | apply IsS75.drewN | apply IsS75.drew | apply IsS75.set_1) | exact HI0.out)); (case side2 => repeat (first | (with_reducible first | exact HB.out | apply below_alloc | apply pw_below_drewN | apply below_drew1 | refine below_set ?_ (IsS75.ge HI0.out)) | exact HB.out)); rintro e w45 ⟨rfl, hi, hb, hk⟩; refine ⟨_, rfl, ?_⟩; have n0_ := Aside0.mk (Kd.R_mono (Kd.R_keep (IsS75.apart (show IsS75 w0 _ g s0_0 x1001_1 from by repeat (first | (with_reducible first | exact HI0.out | apply IsS75.alloc | apply IsS75.drewN | apply IsS75.drew | apply IsS75.set_1) | exact HI0.out)) (by (with_reducible repeat (first | apply Kd.R_alloc | apply Kd.R_drewN | apply Kd.R_drew)); exact HO_3.out) (by decide)) hk (fun _ h => h.2)) (fun _ h => h.1)); have n1_ := Aside0.mk (KeepBut.trans (by repeat (first | (with_reducible first | exact HK.out | apply KeepBut.set_ | apply keep_drewN | apply keep_drew | apply keep_alloc) | exact HK.out)) hk (.inl rfl)); have n2_ := Aside0.mk (hb); have n3_ := Aside0.mk (hi); clear HO_3; clear HK; clear HB; clear HI0; have HO_3 := n0_; have HK := n1_; have HB := n2_; have HI0 := n3_; clear n0_ n1_ n2_ n3_; (try clear hb); (try clear hb2); (try clear hk); (try clear hi)))
            go_ret
            exact ⟨_, by first | rfl | (simp [errW_none, errW_some] <;> rfl) | (simp [*, errW_none, errW_some] <;> rfl), by (with_reducible repeat (first | apply Kd.R_alloc | apply Kd.R_drewN | apply Kd.R_drew)); exact HO_3.out, by repeat (first | (with_reducible first | exact HI0.out | apply IsS75.alloc | apply IsS75.drewN | apply IsS75.drew | apply IsS75.set_1) | exact HI0.out), by repeat (first | (with_reducible first | exact HB.out | apply below_alloc | apply pw_below_drewN | apply below_drew1 | refine below_set ?_ (IsS75.ge HI0.out)) | exact HB.out), by repeat (first | (with_reducible first | exact HK.out | apply KeepBut.set_ | apply keep_drewN | apply keep_drew | apply keep_alloc) | exact HK.out)⟩

/-! ### spec_DrawCodeFit: function 16 -/
def spec_DrawCodeFit.f (k : Nat) (l0 : List Int) : Option (List Int × Int) := (spec_l1Open.f l0).bind fun bt189 => ((spec_l14Often.f k bt189.1 bt189.2).bind fun bt192 => ((some (([15, 7, 4, 3, 0, 16] : List Int) : List Int)).bind fun y196 => ((spec_l1Rd_pick.f k bt189.1 bt192.2 14).bind fun bt199 => (if 0 ≤ (wrap64 (Int.tdiv (wrap64 (bt199.1 * 6)) 14)) then (if (wrap64 (Int.tdiv (wrap64 (bt199.1 * 6)) 14)) < (y196.length : Int) then (some (bt192.1, rd y196 (wrap64 (Int.tdiv (wrap64 (bt199.1 * 6)) 14)))) else (none)) else (none)))))
theorem spec_DrawCodeFit.mono : ∀ a0 k, LeO (spec_DrawCodeFit.f k a0) (spec_DrawCodeFit.f (k + 1) a0) := by
  intro a0 k
  unfold spec_DrawCodeFit.f
  repeat' first
      | (with_reducible exact spec_l14Often.mono _ _ _)
      | (with_reducible exact spec_l1Rd_pick.mono _ _ _ _)
      | (with_reducible exact LeO.refl _)
      | (with_reducible exact LeO.none _)
      | (with_reducible refine LeO.ite ?_ ?_)
      | (with_reducible refine LeO.bind ?_ (fun _ => ?_))
      | exact spec_l14Often.mono _ _ _
      | exact spec_l1Rd_pick.mono _ _ _ _
      | exact LeO.none _
      | refine LeO.ite ?_ ?_
      | refine LeO.bind ?_ (fun _ => ?_)
def spec_DrawCodeFit.T2 : Bool × List (List Nat × List Nat) := (true, [([], []), ([0], [0]), ([], []), ([], []), ([3, 1], [3]), ([4], [4]), ([5], [5]), ([2, 6], [2, 6]), ([7], [7]), ([1, 4, 0, 1], [1]), ([8, 9, 0, 1, 2, 3, 4, 5, 6, 7, 8, 9], [8])])
def spec_DrawCodeFit.B2 : List Nat := [0, 1, 0, 0, 11, 27, 59, 127, 255, 27, 1023]
theorem spec_DrawCodeFit.tab2 : rtab .any (opsOf Try.f16 2) = spec_DrawCodeFit.T2 := by kernel_rfl
theorem spec_DrawCodeFit.bits2 : waitsOk spec_DrawCodeFit.T2.2 spec_DrawCodeFit.B2 = true := by kernel_rfl
set_option maxHeartbeats 8000000 in
set_option maxRecDepth 100000 in
theorem spec_DrawCodeFit.calls (k : Nat) (A0 : Option Addr) (c0 : Nat) (l0 : List Int) (r1 : List Int) (r2 : Int) (w : World) (hr0 : Kd.C (Kd.int .u8) w A0 l0.length l0) (hc0 : l0.length ≤ c0) (h : spec_DrawCodeFit.f k l0 = some (r1, r2)) :
    Calls Try.prog 16 #[.slice A0 l0.length c0] w fun e w' => ∃ v0_ : Value, e = .returned (.tuple #[v0_, .int .i64 r2]) ∧ Kd.R (Kd.int .i64) 3 w' w.heap.size (fun _ => True) v0_ r1 ∧ Below w.heap.size w w' := by
  have HR0 := Aside0.mk hr0
  have HC0 := Aside0.mk hc0
  clear hr0 hc0
  have HB := Aside0.mk (Below.refl w.heap.size w)
  have H : ((spec_l1Open.f l0).bind fun bt189 => ((spec_l14Often.f k bt189.1 bt189.2).bind fun bt192 => ((some (([15, 7, 4, 3, 0, 16] : List Int) : List Int)).bind fun y196 => ((spec_l1Rd_pick.f k bt189.1 bt192.2 14).bind fun bt199 => (if 0 ≤ (wrap64 (Int.tdiv (wrap64 (bt199.1 * 6)) 14)) then (if (wrap64 (Int.tdiv (wrap64 (bt199.1 * 6)) 14)) < (y196.length : Int) then (some (bt192.1, rd y196 (wrap64 (Int.tdiv (wrap64 (bt199.1 * 6)) 14)))) else (none)) else (none)))))) = some (r1, r2) := h
  clear h
  replace H := Option.bind_eq_some_iff.mp H
  obtain ⟨⟨t189, t190⟩, A20, H⟩ := H
  replace H : ((spec_l14Often.f k t189 t190).bind fun bt192 => ((some (([15, 7, 4, 3, 0, 16] : List Int) : List Int)).bind fun y196 => ((spec_l1Rd_pick.f k t189 bt192.2 14).bind fun bt199 => (if 0 ≤ (wrap64 (Int.tdiv (wrap64 (bt199.1 * 6)) 14)) then (if (wrap64 (Int.tdiv (wrap64 (bt199.1 * 6)) 14)) < (y196.length : Int) then (some (bt192.1, rd y196 (wrap64 (Int.tdiv (wrap64 (bt199.1 * 6)) 14)))) else (none)) else (none))))) = some (r1, r2) := H
  have A2 := Aside0.mk A20
  clear A20
  replace H := Option.bind_eq_some_iff.mp H
  obtain ⟨⟨t192, t195⟩, A30, H⟩ := H
  replace H : ((some (([15, 7, 4, 3, 0, 16] : List Int) : List Int)).bind fun y196 => ((spec_l1Rd_pick.f k t189 t195 14).bind fun bt199 => (if 0 ≤ (wrap64 (Int.tdiv (wrap64 (bt199.1 * 6)) 14)) then (if (wrap64 (Int.tdiv (wrap64 (bt199.1 * 6)) 14)) < (y196.length : Int) then (some (t192, rd y196 (wrap64 (Int.tdiv (wrap64 (bt199.1 * 6)) 14)))) else (none)) else (none)))) = some (r1, r2) := H
  have A3 := Aside0.mk A30
  clear A30
  obtain ⟨y196, hy196⟩ : ∃ y_ : List Int, y_ = (([15, 7, 4, 3, 0, 16] : List Int)) := ⟨_, rfl⟩
  replace H : ((spec_l1Rd_pick.f k t189 t195 14).bind fun bt199 => (if 0 ≤ (wrap64 (Int.tdiv (wrap64 (bt199.1 * 6)) 14)) then (if (wrap64 (Int.tdiv (wrap64 (bt199.1 * 6)) 14)) < (y196.length : Int) then (some (t192, rd y196 (wrap64 (Int.tdiv (wrap64 (bt199.1 * 6)) 14)))) else (none)) else (none))) = some (r1, r2) := by first | (rw [hy196]; with_reducible exact H) | (have H2_ := (Option.bind_some _ _).symm.trans H; rw [hy196]; with_reducible exact H2_) | (have H2_ := (Option.bind_some _ _).symm.trans H; with_reducible exact H2_) | with_reducible exact H | (rw [hy196]; exact H) | exact H
  have Ny196 := Aside0.mk hy196
  clear hy196
  replace H := Option.bind_eq_some_iff.mp H
  obtain ⟨⟨t199, t200⟩, A40, H⟩ := H
  replace H : (if 0 ≤ (wrap64 (Int.tdiv (wrap64 (t199 * 6)) 14)) then (if (wrap64 (Int.tdiv (wrap64 (t199 * 6)) 14)) < (y196.length : Int) then (some (t192, rd y196 (wrap64 (Int.tdiv (wrap64 (t199 * 6)) 14)))) else (none)) else (none)) = some (r1, r2) := H
  have A4 := Aside0.mk A40
  clear A40
  obtain ⟨ji5, hji5⟩ : ∃ j_ : Int, (wrap64 (Int.tdiv (wrap64 (t199 * 6)) 14)) = j_ := ⟨_, rfl⟩
  replace H : (if 0 ≤ (ji5) then (if (ji5) < (y196.length : Int) then (some (t192, rd y196 (ji5))) else (none)) else (none)) = some (r1, r2) := by first | (rw [hji5] at H; exact H) | (simp only [hji5] at H ⊢; exact H)
  (try rw [hji5] at A2)
  (try rw [hji5] at A3)
  (try rw [hji5] at A4)
  have hji5w : (IntKind.i64.wrap (Int.tdiv (wrap64 (t199 * 6)) 14)) = ji5 := (i64_w _).trans hji5
  by_cases c6 : 0 ≤ (ji5)
  · rw [if_pos c6] at H
    have c6b0 : decide (0 ≤ (ji5)) = true := decide_eq_true c6
    clear c6
    by_cases c7 : (ji5) < (y196.length : Int)
    · rw [if_pos c7] at H
      have c7b0 : decide ((ji5) < (y196.length : Int)) = true := decide_eq_true c7
      clear c7
      simp only [Option.some.injEq, Prod.mk.injEq] at H
      obtain ⟨rfl, rfl⟩ := H
      go_enter Try.func16, Try.ntmps16
      try go_wp2_with (first | ((with_reducible refine gate_callee (f := 44) rfl ?_); refine goesL_ (some 6) rfl rfl Try.func44 (by kernel_rfl) rfl #[.slice A0 l0.length c0] rfl (by (try simp only [List.map_toArray, List.map_cons, List.map_nil]); first | done | rfl | (simp only [List.length_drop, List.length_take]; rfl)) ?_; (with_reducible refine (spec_l1Open.calls _ _ l0 t189 t190 w _ ?side1 ?side2 ?side3 A2.out).mono ?_); (case side1 => repeat (first | (with_reducible first | exact HB.out | apply below_alloc | apply pw_below_drewN | apply below_drew1) | exact HB.out)); (case side2 => exact HR0.out); (case side3 => exact HC0.out); rintro e w8 ⟨g191, rfl, hi, hb, hb2⟩; refine ⟨_, rfl, ?_⟩; have n0_ := Aside0.mk (hb); have n1_ := Aside0.mk (hi); clear HB; have HB := n0_; have HI191 := n1_; clear n0_ n1_; (try clear hb); (try clear hb2); (try clear hk); (try clear hi)))
      have pi201 : (0 ≤ ((ji5) : Int)) = True := eq_true (of_decide_eq_true (by first | (with_reducible assumption) | assumption))
      have qi201 : ((ji5) < (y196.length : Int)) = True := eq_true (of_decide_eq_true (by first | (with_reducible assumption) | assumption))
      have n0_ := Aside0.mk (IsS75.drew HI191.out)
      have n1_ := Aside0.mk (below_drew1 HB.out)
      clear HI191
      clear HB
      have HI191 := n0_
      have HB := n1_
      clear n0_ n1_
      refine start_ (n := 11) (S := fun w' => True) (ds := []) #[false, false, false, false, false, false, false, false, false, false, false] (by kernel_rfl) rfl rfl trivial (fun hHeld => ?_); refine with_tabW spec_DrawCodeFit.tab2 spec_DrawCodeFit.bits2 (fun HT_ HW_ => ?_)
      generalize w8.drew = w9 at HI191 HB hHeld ⊢
      refine pure_ (i := 0) (N := some 7) (v := ?_) (a' := ?_) #[true, false, false, false, false, false, false, false, false, false, false] rfl rfl (any_of HT_.out (by kernel_rfl)) (fun _ _ _ h => h) (Or.inl ⟨by rfl, ?_⟩) ?_ ?_
      rotate_left
      · intro w'
        go_simp
        with_reducible rfl
      rotate_left
      · simp only [Act.put, List.setIfInBounds_toArray, List.set_cons_zero, List.set_cons_succ, i64_w, i32_w]
        rfl
      refine pure_ (i := 3) (N := some 10) (v := ?_) (a' := ?_) #[true, false, false, true, false, false, false, false, false, false, false] rfl rfl (any_of HT_.out (by kernel_rfl)) (fun _ _ _ h => h) (Or.inl ⟨by rfl, ?_⟩) ?_ ?_
      rotate_left
      · intro w'
        go_simp
        with_reducible rfl
      rotate_left
      · simp only [Act.put, List.setIfInBounds_toArray, List.set_cons_zero, List.set_cons_succ, i64_w, i32_w]
        rfl
      refine inv_at [1, 2, 4, 5, 6, 7, 8, 9, 10] (fun a0_ b a w' => ∃ (v193 : Value) (v197 : Value) (adz_v197 : Addr) (m7_ : Value) (m9_ : Value), a = putSel a0_ b [(1, 8, v193), (2, 9, v197), (4, 11, .int .i64 t199), (5, 12, .int .i64 (wrap64 (t199 * 6))), (6, 13, .int .i64 ji5), (7, 14, m7_), (8, 15, .int .i64 (rd y196 (ji5))), (9, 2, m9_), (10, 3, .int .i64 (rd y196 (ji5)))] ∧ (b 1 = false → IsS75 w w' g191 t189 t190) ∧ (Below w.heap.size w w') ∧ (b 1 = true → Kd.R (Kd.int .i64) 3 w' w.heap.size (fun _ => True) v193 t192) ∧ (b 1 = true → b 4 = false → IsS75 w w' g191 t189 t195) ∧ (b 2 = true → Kd.R (Kd.int .i64) 3 w' w.heap.size (fun _ => True) v197 y196) ∧ (b 2 = true → ∃ c_, (v197 : Value) = .slice (some adz_v197) y196.length c_) ∧ (b 4 = true → IsS75 w w' g191 t189 t200) ∧ (b 7 = true → (m7_ : Value) = .pointer (some (adz_v197.add ((ji5)).toNat))) ∧ (b 9 = true → (m9_ : Value) = v193)) HT_.out HW_.out (by kernel_rfl) (by kernel_rfl) ?_ ?_ ?_
      · exact ⟨.bool false, .bool false, ⟨0, 0, none⟩, .bool false, .bool false, by simp only [putSel, Bool.false_eq_true, if_false], fun _ => HI191.out, HB.out, fun h_ => absurd h_ (by decide), fun h_ => absurd h_ (by decide), fun h_ => absurd h_ (by decide), fun h_ => absurd h_ (by decide), fun h_ => absurd h_ (by decide), fun h_ => absurd h_ (by decide), fun h_ => absurd h_ (by decide)⟩
      · skip
        clear HB HI191
        refine steps_cons ?_ ?_
        · rintro b a w' ⟨v193, v197, adz_v197, m7_, m9_, ha, Q_HI191, Q_HB, Q_HO194, Q_HI191_e1, Q_HO198, Q_HA_HO198, Q_HI191_e4, Q_X7_, Q_X9_⟩ hb_ hon hoff
          refine ⟨_, rfl, fun K hK => ?_⟩
          have e7 : a.tmps[7]? = some (.pointer (some ⟨g191, 0, none⟩)) := by rw [ha]; exact (putSel_off rfl).trans rfl
          replace ha := Aside0.mk ha
          have HI191 := Aside0.mk (Q_HI191 hb_)
          have HB := Aside0.mk Q_HB
          refine goes_ Try.func45 (by kernel_rfl) rfl #[.pointer (some ⟨g191, 0, none⟩)] (by rfl) rfl rfl (by first | (simp only [List.map_toArray, List.map_cons, List.map_nil, Act.eval, Array.getD_eq_getD_getElem?, Option.getD_some, e7]; done) | (simp only [List.map_toArray, List.map_cons, List.map_nil, Act.eval, Array.getD_eq_getD_getElem?, Option.getD_some, e7]; rfl)) ?_
          with_reducible refine (spec_l14Often.calls k g191 t189 t190 t192 t195 w _ ?side1 ?side2 A3.out).mono ?_
          (case side1 => repeat (first | (with_reducible first | exact HI191.out | apply IsS75.alloc | apply IsS75.drewN | apply IsS75.drew | apply IsS75.set_1) | exact HI191.out))
          (case side2 => repeat (first | (with_reducible first | exact HB.out | apply below_alloc | apply pw_below_drewN | apply below_drew1 | refine below_set ?_ (IsS75.ge HI191.out)) | exact HB.out))
          rintro e w10 ⟨v193, rfl, ho0, hi, hb, hk⟩
          refine ⟨_, rfl, ?_⟩
          have n0_ := Aside0.mk (Kd.R_lower ho0 (below_size (by repeat (first | (with_reducible first | exact HB.out | apply below_alloc | apply pw_below_drewN | apply below_drew1 | refine below_set ?_ (IsS75.ge HI191.out)) | exact HB.out))))
          have n1_ := Aside0.mk (hb)
          have n2_ := Aside0.mk (hi)
          have z_HO198 := fun (h0_ : b 2 = true) => (show Kd.R (Kd.int .i64) 3 w10 w.heap.size (fun _ => True) v197 y196 from by first | exact (Kd.R_mono (Kd.R_told (Kd.R_oldK (IsS75.apart (show IsS75 w _ g191 t189 t190 from by repeat (first | (with_reducible first | exact HI191.out | apply IsS75.alloc | apply IsS75.drewN | apply IsS75.drew | apply IsS75.set_1) | exact HI191.out)) (by (with_reducible repeat (first | apply Kd.R_alloc | apply Kd.R_drewN | apply Kd.R_drew)); exact (Q_HO198 h0_)) (by decide)) hk) (Kd.R_base ho0)) (fun _ h_ => h_.1)) | exact Kd.R_mono (Kd.R_mono (Kd.R_told (Kd.R_oldK (IsS75.apart (show IsS75 w _ g191 t189 t190 from by repeat (first | (with_reducible first | exact HI191.out | apply IsS75.alloc | apply IsS75.drewN | apply IsS75.drew | apply IsS75.set_1) | exact HI191.out)) (by (with_reducible repeat (first | apply Kd.R_alloc | apply Kd.R_drewN | apply Kd.R_drew)); exact (Q_HO198 h0_)) (by decide)) hk) (Kd.R_base ho0)) (fun _ h_ => h_.1)) (fun _ h_ => by first | trivial | exact h_ | exact h_.1))
          clear HB
          clear HI191
          have HO194 := n0_
          have HB := n1_
          have HI191 := n2_
          clear n0_ n1_ n2_
          (try clear hb)
          (try clear hb2)
          (try clear hk)
          (try clear hi)
          (try clear ho0)
          refine hK.out _ _ ⟨v193, v197, adz_v197, m7_, m9_, (by rw [ha.out]; exact putSel_upk 0 hb_ rfl rfl rfl), fun h0_ => absurd ((up_self b 1).symm.trans h0_) (by decide), (by repeat (first | (with_reducible first | exact HB.out | apply below_alloc | apply pw_below_drewN | apply below_drew1 | refine below_set ?_ (IsS75.ge HI191.out)) | exact HB.out)), fun _ => (by (with_reducible repeat (first | apply Kd.R_alloc | apply Kd.R_drewN | apply Kd.R_drew)); exact HO194.out), fun _ _ => (by repeat (first | (with_reducible first | exact HI191.out | apply IsS75.alloc | apply IsS75.drewN | apply IsS75.drew | apply IsS75.set_1) | exact HI191.out)), z_HO198, Q_HA_HO198, fun h0_ => absurd ((hoff 4 (by kernel_rfl)).symm.trans h0_) (by decide), fun h0_ => absurd ((hoff 7 (by kernel_rfl)).symm.trans h0_) (by decide), fun h0_ => absurd ((hoff 9 (by kernel_rfl)).symm.trans h0_) (by decide)⟩
        refine steps_cons ?_ ?_
        · rintro b a w' ⟨v193, v197, adz_v197, m7_, m9_, ha, Q_HI191, Q_HB, Q_HO194, Q_HI191_e1, Q_HO198, Q_HA_HO198, Q_HI191_e4, Q_X7_, Q_X9_⟩ hb_ hon hoff
          refine ⟨_, rfl, fun K hK => ?_⟩
          replace ha := Aside0.mk ha
          have HB := Aside0.mk Q_HB
          refine Kd.R_lit_step (Kd.int .i64) _ 3 ?hg (N := 9) ?hd (xs := ([15, 7, 4, 3, 0, 16] : List Int)) (inner := [.int .i64 15, .int .i64 7, .int .i64 4, .int .i64 3, .int .i64 0, .int .i64 16]) (ok := fun _ => True) (okp := fun _ => True) ?hr ?hp (fun _ hk => hk) trivial (Below.refl _ _) (Nat.le_refl _) (by simp) ?_; (case hd => rfl); (case hg => rfl); (case hr => first | (go_simp; done) | (go_simp; rfl)); (case hp => exact (Reps.one (show Kd.M (Kd.int .i64) _ _ _ 15 [.int .i64 15] from rfl) (Reps.one (show Kd.M (Kd.int .i64) _ _ _ 7 [.int .i64 7] from rfl) (Reps.one (show Kd.M (Kd.int .i64) _ _ _ 4 [.int .i64 4] from rfl) (Reps.one (show Kd.M (Kd.int .i64) _ _ _ 3 [.int .i64 3] from rfl) (Reps.one (show Kd.M (Kd.int .i64) _ _ _ 0 [.int .i64 0] from rfl) (Reps.one (show Kd.M (Kd.int .i64) _ _ _ 16 [.int .i64 16] from rfl) (Reps.none _ _))))))))
          intro v197 w10 ho11 hb hg_ hnew_
          clear hg_ hnew_
          (first | rw [← Ny196.out] at ho11 | (simp only [Int.reduceToNat] at ho11; rw [← Ny196.out] at ho11))
          have n0_ := Aside0.mk (Kd.R_lower ho11 (below_size (by repeat (first | (with_reducible first | exact HB.out | apply below_alloc | apply pw_below_drewN | apply below_drew1) | exact HB.out))))
          have n2_ := Aside0.mk (below_step (by repeat (first | (with_reducible first | exact HB.out | apply below_alloc | apply pw_below_drewN | apply below_drew1) | exact HB.out)) hb)
          have z_HI191 := fun (h0_ : b 1 = false) => (show IsS75 w w10 g191 t189 t190 from by first | exact (IsS75.below (by repeat (first | (with_reducible first | exact (Q_HI191 h0_) | apply IsS75.alloc | apply IsS75.drewN | apply IsS75.drew | apply IsS75.set_1) | exact (Q_HI191 h0_))) hb))
          have z_HO194 := fun (h0_ : b 1 = true) => (show Kd.R (Kd.int .i64) 3 w10 w.heap.size (fun _ => True) v193 t192 from by first | exact (Kd.R_elder' (by (with_reducible repeat (first | apply Kd.R_alloc | apply Kd.R_drewN | apply Kd.R_drew)); exact (Q_HO194 h0_)) (Kd.R_base ho11) hb) | exact Kd.R_mono (Kd.R_elder' (by (with_reducible repeat (first | apply Kd.R_alloc | apply Kd.R_drewN | apply Kd.R_drew)); exact (Q_HO194 h0_)) (Kd.R_base ho11) hb) (fun _ h_ => by first | trivial | exact h_ | exact h_.1))
          have z_HI191_e1 := fun (h0_ : b 1 = true) (h1_ : b 4 = false) => (show IsS75 w w10 g191 t189 t195 from by first | exact (IsS75.below (by repeat (first | (with_reducible first | exact (Q_HI191_e1 h0_ h1_) | apply IsS75.alloc | apply IsS75.drewN | apply IsS75.drew | apply IsS75.set_1) | exact (Q_HI191_e1 h0_ h1_))) hb))
          have z_HI191_e4 := fun (h0_ : b 4 = true) => (show IsS75 w w10 g191 t189 t200 from by first | exact (IsS75.below (by repeat (first | (with_reducible first | exact (Q_HI191_e4 h0_) | apply IsS75.alloc | apply IsS75.drewN | apply IsS75.drew | apply IsS75.set_1) | exact (Q_HI191_e4 h0_))) hb))
          clear HB
          have HO198 := n0_
          have HB := n2_
          clear n0_ n2_
          clear hb ho11
          obtain ⟨Ao12, co12, eo12⟩ := Kd.R_slice HO198.out
          subst eo12
          obtain ⟨ado12, fo12, _⟩ := Kd.at_int (Kd.R_reads' HO198.out).2.2 0 (by decide) (by rw [Ny196.out]; simp)
          cases fo12
          refine hK.out _ _ ⟨v193, .slice (some ado12) y196.length co12, ado12, m7_, m9_, (by rw [ha.out]; exact putSel_upk 1 hb_ rfl rfl rfl), z_HI191, (by repeat (first | (with_reducible first | exact HB.out | apply below_alloc | apply pw_below_drewN | apply below_drew1) | exact HB.out)), z_HO194, z_HI191_e1, fun _ => (by (with_reducible repeat (first | apply Kd.R_alloc | apply Kd.R_drewN | apply Kd.R_drew)); exact HO198.out), fun _ => ⟨_, rfl⟩, z_HI191_e4, fun h0_ => absurd ((hoff 7 (by kernel_rfl)).symm.trans h0_) (by decide), Q_X9_⟩
        refine steps_cons ?_ ?_
        · rintro b a w' ⟨v193, v197, adz_v197, m7_, m9_, ha, Q_HI191, Q_HB, Q_HO194, Q_HI191_e1, Q_HO198, Q_HA_HO198, Q_HI191_e4, Q_X7_, Q_X9_⟩ hb_ hon hoff
          refine ⟨_, rfl, fun K hK => ?_⟩
          have e10 : a.tmps[10]? = some (.pointer (some ⟨g191, 0, none⟩)) := by rw [ha]; exact (putSel_off rfl).trans rfl
          replace ha := Aside0.mk ha
          have HB := Aside0.mk Q_HB
          have HO194 := Aside0.mk (Q_HO194 (hon 1 (by kernel_rfl)))
          have HI191 := Aside0.mk (Q_HI191_e1 (hon 1 (by kernel_rfl)) hb_)
          refine goes_ Try.func46 (by kernel_rfl) rfl #[.pointer (some ⟨g191, 0, none⟩), .int .i64 14] (by rfl) rfl rfl (by first | (simp only [List.map_toArray, List.map_cons, List.map_nil, Act.eval, Array.getD_eq_getD_getElem?, Option.getD_some, e10]; done) | (simp only [List.map_toArray, List.map_cons, List.map_nil, Act.eval, Array.getD_eq_getD_getElem?, Option.getD_some, e10]; rfl)) ?_
          with_reducible refine (spec_l1Rd_pick.calls k g191 t189 t195 14 t199 t200 w _ ?side1 ?side2 A4.out).mono ?_
          (case side1 => repeat (first | (with_reducible first | exact HI191.out | apply IsS75.alloc | apply IsS75.drewN | apply IsS75.drew | apply IsS75.set_1) | exact HI191.out))
          (case side2 => repeat (first | (with_reducible first | exact HB.out | apply below_alloc | apply pw_below_drewN | apply below_drew1 | refine below_set ?_ (IsS75.ge HI191.out)) | exact HB.out))
          rintro e w12 ⟨rfl, hi, hb, hk⟩
          refine ⟨_, rfl, ?_⟩
          have n0_ := Aside0.mk (Kd.R_mono (Kd.R_keep (IsS75.apart (show IsS75 w _ g191 t189 t195 from by repeat (first | (with_reducible first | exact HI191.out | apply IsS75.alloc | apply IsS75.drewN | apply IsS75.drew | apply IsS75.set_1) | exact HI191.out)) (by (with_reducible repeat (first | apply Kd.R_alloc | apply Kd.R_drewN | apply Kd.R_drew)); exact HO194.out) (by decide)) hk (fun _ h => h.2)) (fun _ h => h.1))
          have n1_ := Aside0.mk (hb)
          have n2_ := Aside0.mk (hi)
          have z_HO198 := fun (h0_ : b 2 = true) => (show Kd.R (Kd.int .i64) 3 w12 w.heap.size (fun _ => True) v197 y196 from by first | exact (Kd.R_mono (Kd.R_keep (IsS75.apart (show IsS75 w _ g191 t189 t195 from by repeat (first | (with_reducible first | exact HI191.out | apply IsS75.alloc | apply IsS75.drewN | apply IsS75.drew | apply IsS75.set_1) | exact HI191.out)) (by (with_reducible repeat (first | apply Kd.R_alloc | apply Kd.R_drewN | apply Kd.R_drew)); exact (Q_HO198 h0_)) (by decide)) hk (fun _ h => h.2)) (fun _ h => h.1)) | exact Kd.R_mono (Kd.R_mono (Kd.R_keep (IsS75.apart (show IsS75 w _ g191 t189 t195 from by repeat (first | (with_reducible first | exact HI191.out | apply IsS75.alloc | apply IsS75.drewN | apply IsS75.drew | apply IsS75.set_1) | exact HI191.out)) (by (with_reducible repeat (first | apply Kd.R_alloc | apply Kd.R_drewN | apply Kd.R_drew)); exact (Q_HO198 h0_)) (by decide)) hk (fun _ h => h.2)) (fun _ h => h.1)) (fun _ h_ => by first | trivial | exact h_ | exact h_.1))
          clear HO194
          clear HB
          clear HI191
          have HO194 := n0_
          have HB := n1_
          have HI191 := n2_
          clear n0_ n1_ n2_
          (try clear hb)
          (try clear hb2)
          (try clear hk)
          (try clear hi)
          refine hK.out _ _ ⟨v193, v197, adz_v197, m7_, m9_, (by rw [ha.out]; exact putSel_upk 2 hb_ rfl rfl rfl), fun h0_ => absurd ((hon 1 (by kernel_rfl)).symm.trans h0_) (by decide), (by repeat (first | (with_reducible first | exact HB.out | apply below_alloc | apply pw_below_drewN | apply below_drew1 | refine below_set ?_ (IsS75.ge HI191.out)) | exact HB.out)), fun _ => (by (with_reducible repeat (first | apply Kd.R_alloc | apply Kd.R_drewN | apply Kd.R_drew)); exact HO194.out), fun _ h1_ => absurd ((up_self b 4).symm.trans h1_) (by decide), z_HO198, Q_HA_HO198, fun _ => (by repeat (first | (with_reducible first | exact HI191.out | apply IsS75.alloc | apply IsS75.drewN | apply IsS75.drew | apply IsS75.set_1) | exact HI191.out)), fun h0_ => absurd ((hoff 7 (by kernel_rfl)).symm.trans h0_) (by decide), fun h0_ => absurd ((hoff 9 (by kernel_rfl)).symm.trans h0_) (by decide)⟩
        refine steps_cons ?_ ?_
        · rintro b a w' ⟨v193, v197, adz_v197, m7_, m9_, ha, Q_HI191, Q_HB, Q_HO194, Q_HI191_e1, Q_HO198, Q_HA_HO198, Q_HI191_e4, Q_X7_, Q_X9_⟩ hb_ hon hoff
          refine ⟨_, rfl, fun K hK => ?_⟩
          have e11 : a.tmps[11]? = some (.int .i64 t199) := by rw [ha]; exact putSel_on (e := (4, 11, .int .i64 t199)) 2 rfl rfl (hon 4 (by kernel_rfl)) rfl
          replace ha := Aside0.mk ha
          have HB := Aside0.mk Q_HB
          have HO194 := Aside0.mk (Q_HO194 (hon 1 (by kernel_rfl)))
          have HI191 := Aside0.mk (Q_HI191_e4 (hon 4 (by kernel_rfl)))
          refine value_ (w1 := w') (v := .int .i64 (wrap64 (t199 * 6))) (by rfl) rfl ?_ ?_
          · go_simp
            (try simp only [i64_w])
            try rfl
          refine hK.out _ _ ⟨v193, v197, adz_v197, m7_, m9_, (by rw [ha.out]; exact putSel_upk 3 hb_ rfl rfl rfl), fun h0_ => absurd ((hon 1 (by kernel_rfl)).symm.trans h0_) (by decide), Q_HB, Q_HO194, fun _ h1_ => absurd ((hon 4 (by kernel_rfl)).symm.trans h1_) (by decide), Q_HO198, Q_HA_HO198, Q_HI191_e4, fun h0_ => absurd ((hoff 7 (by kernel_rfl)).symm.trans h0_) (by decide), Q_X9_⟩
        refine steps_cons ?_ ?_
        · rintro b a w' ⟨v193, v197, adz_v197, m7_, m9_, ha, Q_HI191, Q_HB, Q_HO194, Q_HI191_e1, Q_HO198, Q_HA_HO198, Q_HI191_e4, Q_X7_, Q_X9_⟩ hb_ hon hoff
          refine ⟨_, rfl, fun K hK => ?_⟩
          have e12 : a.tmps[12]? = some (.int .i64 (wrap64 (t199 * 6))) := by rw [ha]; exact putSel_on (e := (5, 12, .int .i64 (wrap64 (t199 * 6)))) 3 rfl rfl (hon 5 (by kernel_rfl)) rfl
          replace ha := Aside0.mk ha
          have HB := Aside0.mk Q_HB
          have HO194 := Aside0.mk (Q_HO194 (hon 1 (by kernel_rfl)))
          have HI191 := Aside0.mk (Q_HI191_e4 (hon 4 (by kernel_rfl)))
          refine value_ (w1 := w') (v := .int .i64 ji5) (by rfl) rfl ?_ ?_
          · go_simp
            (try simp only [i64_w])
            try rfl
          refine hK.out _ _ ⟨v193, v197, adz_v197, m7_, m9_, (by rw [ha.out]; exact putSel_upk 4 hb_ rfl rfl rfl), fun h0_ => absurd ((hon 1 (by kernel_rfl)).symm.trans h0_) (by decide), Q_HB, Q_HO194, fun _ h1_ => absurd ((hon 4 (by kernel_rfl)).symm.trans h1_) (by decide), Q_HO198, Q_HA_HO198, Q_HI191_e4, fun h0_ => absurd ((hoff 7 (by kernel_rfl)).symm.trans h0_) (by decide), Q_X9_⟩
        refine steps_cons ?_ ?_
        · rintro b a w' ⟨v193, v197, adz_v197, m7_, m9_, ha, Q_HI191, Q_HB, Q_HO194, Q_HI191_e1, Q_HO198, Q_HA_HO198, Q_HI191_e4, Q_X7_, Q_X9_⟩ hb_ hon hoff
          refine ⟨_, rfl, fun K hK => ?_⟩
          have e9 : a.tmps[9]? = some (v197) := by rw [ha]; exact putSel_on (e := (2, 9, v197)) 1 rfl rfl (hon 2 (by kernel_rfl)) rfl
          have e13 : a.tmps[13]? = some (.int .i64 ji5) := by rw [ha]; exact putSel_on (e := (6, 13, .int .i64 ji5)) 4 rfl rfl (hon 6 (by kernel_rfl)) rfl
          replace ha := Aside0.mk ha
          have HB := Aside0.mk Q_HB
          have HO194 := Aside0.mk (Q_HO194 (hon 1 (by kernel_rfl)))
          have HO198 := Aside0.mk (Q_HO198 (hon 2 (by kernel_rfl)))
          have HA_HO198 := Aside0.mk (Q_HA_HO198 (hon 2 (by kernel_rfl)))
          have HI191 := Aside0.mk (Q_HI191_e4 (hon 4 (by kernel_rfl)))
          obtain ⟨c_, hv_⟩ := HA_HO198.out
          rw [hv_] at e9
          refine value_ (w1 := w') (v := .pointer (some (adz_v197.add ((ji5)).toNat))) (by rfl) rfl ?_ ?_
          · go_simp
            (try simp only [i64_w])
            try rfl
          refine hK.out _ _ ⟨v193, v197, adz_v197, (.pointer (some (adz_v197.add ((ji5)).toNat))), m9_, (by rw [ha.out]; exact putSel_upk 5 hb_ rfl rfl rfl), fun h0_ => absurd ((hon 1 (by kernel_rfl)).symm.trans h0_) (by decide), Q_HB, Q_HO194, fun _ h1_ => absurd ((hon 4 (by kernel_rfl)).symm.trans h1_) (by decide), Q_HO198, Q_HA_HO198, Q_HI191_e4, fun _ => rfl, Q_X9_⟩
        refine steps_cons ?_ ?_
        · rintro b a w' ⟨v193, v197, adz_v197, m7_, m9_, ha, Q_HI191, Q_HB, Q_HO194, Q_HI191_e1, Q_HO198, Q_HA_HO198, Q_HI191_e4, Q_X7_, Q_X9_⟩ hb_ hon hoff
          refine ⟨_, rfl, fun K hK => ?_⟩
          have e14 : a.tmps[14]? = some (m7_) := by rw [ha]; exact putSel_on (e := (7, 14, m7_)) 5 rfl rfl (hon 7 (by kernel_rfl)) rfl
          rw [Q_X7_ (hon 7 (by kernel_rfl))] at e14
          replace ha := Aside0.mk ha
          have HB := Aside0.mk Q_HB
          have HO194 := Aside0.mk (Q_HO194 (hon 1 (by kernel_rfl)))
          have HO198 := Aside0.mk (Q_HO198 (hon 2 (by kernel_rfl)))
          have HA_HO198 := Aside0.mk (Q_HA_HO198 (hon 2 (by kernel_rfl)))
          have HI191 := Aside0.mk (Q_HI191_e4 (hon 4 (by kernel_rfl)))
          obtain ⟨c_, hv_⟩ := HA_HO198.out
          have hF_ := HO198.out
          rw [hv_] at hF_
          obtain ⟨ad_, ea_, hx_⟩ := Kd.at_int (Kd.R_reads' hF_).2.2 (ji5) (of_eq_true pi201) (of_eq_true qi201)
          cases ea_
          refine value_ (w1 := w') (v := .int .i64 (rd y196 (ji5))) (by rfl) rfl ?_ ?_
          · go_simp
            (try simp only [i64_w])
            try rfl
          refine hK.out _ _ ⟨v193, v197, adz_v197, m7_, m9_, (by rw [ha.out]; exact putSel_upk 6 hb_ rfl rfl rfl), fun h0_ => absurd ((hon 1 (by kernel_rfl)).symm.trans h0_) (by decide), Q_HB, Q_HO194, fun _ h1_ => absurd ((hon 4 (by kernel_rfl)).symm.trans h1_) (by decide), Q_HO198, Q_HA_HO198, Q_HI191_e4, Q_X7_, Q_X9_⟩
        refine steps_cons ?_ ?_
        · rintro b a w' ⟨v193, v197, adz_v197, m7_, m9_, ha, Q_HI191, Q_HB, Q_HO194, Q_HI191_e1, Q_HO198, Q_HA_HO198, Q_HI191_e4, Q_X7_, Q_X9_⟩ hb_ hon hoff
          refine ⟨_, rfl, fun K hK => ?_⟩
          have e8 : a.tmps[8]? = some (v193) := by rw [ha]; exact putSel_on (e := (1, 8, v193)) 0 rfl rfl (hon 1 (by kernel_rfl)) rfl
          replace ha := Aside0.mk ha
          have HB := Aside0.mk Q_HB
          have HO194 := Aside0.mk (Q_HO194 (hon 1 (by kernel_rfl)))
          have HI191 := Aside0.mk (Q_HI191_e4 (hon 4 (by kernel_rfl)))
          refine value_ (w1 := w') (v := v193) (by rfl) rfl ?_ ?_
          · go_simp
            (try simp only [i64_w])
            try rfl
          refine hK.out _ _ ⟨v193, v197, adz_v197, m7_, (v193), (by rw [ha.out]; exact putSel_upk 7 hb_ rfl rfl rfl), fun h0_ => absurd ((hon 1 (by kernel_rfl)).symm.trans h0_) (by decide), Q_HB, Q_HO194, fun _ h1_ => absurd ((hon 4 (by kernel_rfl)).symm.trans h1_) (by decide), Q_HO198, Q_HA_HO198, Q_HI191_e4, Q_X7_, fun _ => rfl⟩
        refine steps_cons ?_ ?_
        · rintro b a w' ⟨v193, v197, adz_v197, m7_, m9_, ha, Q_HI191, Q_HB, Q_HO194, Q_HI191_e1, Q_HO198, Q_HA_HO198, Q_HI191_e4, Q_X7_, Q_X9_⟩ hb_ hon hoff
          refine ⟨_, rfl, fun K hK => ?_⟩
          have e15 : a.tmps[15]? = some (.int .i64 (rd y196 (ji5))) := by rw [ha]; exact putSel_on (e := (8, 15, .int .i64 (rd y196 (ji5)))) 6 rfl rfl (hon 8 (by kernel_rfl)) rfl
          replace ha := Aside0.mk ha
          have HB := Aside0.mk Q_HB
          have HO194 := Aside0.mk (Q_HO194 (hon 1 (by kernel_rfl)))
          have HO198 := Aside0.mk (Q_HO198 (hon 2 (by kernel_rfl)))
          have HA_HO198 := Aside0.mk (Q_HA_HO198 (hon 2 (by kernel_rfl)))
          have HI191 := Aside0.mk (Q_HI191_e4 (hon 4 (by kernel_rfl)))
          refine value_ (w1 := w') (v := .int .i64 (rd y196 (ji5))) (by rfl) rfl ?_ ?_
          · go_simp
            (try simp only [i64_w])
            try rfl
          refine hK.out _ _ ⟨v193, v197, adz_v197, m7_, m9_, (by rw [ha.out]; exact putSel_upk 8 hb_ rfl rfl rfl), fun h0_ => absurd ((hon 1 (by kernel_rfl)).symm.trans h0_) (by decide), Q_HB, Q_HO194, fun _ h1_ => absurd ((hon 4 (by kernel_rfl)).symm.trans h1_) (by decide), Q_HO198, Q_HA_HO198, Q_HI191_e4, Q_X7_, Q_X9_⟩
        exact steps_nil
      rintro b a w15 hall ⟨v193, v197, adz_v197, m7_, m9_, ha, Q_HI191, Q_HB, Q_HO194, Q_HI191_e1, Q_HO198, Q_HA_HO198, Q_HI191_e4, Q_X7_, Q_X9_⟩
      clear HB HI191
      have hb1_ := hall 1 (by kernel_rfl)
      have hb2_ := hall 2 (by kernel_rfl)
      have hb4_ := hall 4 (by kernel_rfl)
      have hb5_ := hall 5 (by kernel_rfl)
      have hb6_ := hall 6 (by kernel_rfl)
      have hb7_ := hall 7 (by kernel_rfl)
      have hb8_ := hall 8 (by kernel_rfl)
      have hb9_ := hall 9 (by kernel_rfl)
      have hb10_ := hall 10 (by kernel_rfl)
      subst ha
      obtain rfl := Q_X7_ hb7_
      obtain rfl := Q_X9_ hb9_
      simp only [putSel, hb1_, hb2_, hb4_, hb5_, hb6_, hb7_, hb8_, hb9_, hb10_, if_true, Act.put, List.setIfInBounds_toArray, List.set_cons_zero, List.set_cons_succ]
      clear Q_HI191
      have HB := Aside0.mk Q_HB
      clear Q_HB
      have HO194 := Aside0.mk (Q_HO194 hb1_)
      clear Q_HO194
      clear Q_HI191_e1
      have HO198 := Aside0.mk (Q_HO198 hb2_)
      clear Q_HO198
      have HA_HO198 := Aside0.mk (Q_HA_HO198 hb2_)
      clear Q_HA_HO198
      have HI191 := Aside0.mk (Q_HI191_e4 hb4_)
      clear Q_HI191_e4
      clear hall hb1_ hb2_ hb4_ hb5_ hb6_ hb7_ hb8_ hb9_ hb10_
      obtain ⟨co16, eo16⟩ := HA_HO198.out
      clear HA_HO198
      subst eo16
      try go_wp2
      go_ret2
      exact ⟨_, by first | rfl | (simp [errW_none, errW_some] <;> rfl) | (simp only [← hji5]; first | rfl | (simp [errW_none, errW_some] <;> rfl)) | (simp [*, errW_none, errW_some] <;> rfl), by (with_reducible repeat (first | apply Kd.R_alloc | apply Kd.R_drewN | apply Kd.R_drew)); exact Kd.R_mono HO194.out (fun _ hk => trivial), by repeat (first | (with_reducible first | exact HB.out | apply below_alloc | apply pw_below_drewN | apply below_drew1 | refine below_set ?_ (IsS75.ge HI191.out)) | exact HB.out)⟩
    · rw [if_neg c7] at H
      exact absurd H (by simp)
  · rw [if_neg c6] at H
    exact absurd H (by simp)

/-! ### laws_wiInts: function 17 -/
def laws_wiInts.l0 : Nat → List Int → List Int → Int → Option (Bool)
  | 0, _, _, _ => none
  | k + 1, x0, x1, x5 => if x5 < (x0.length : Int) then (if 0 ≤ x5 then (if x5 < (x1.length : Int) then (if (rd x0 x5) = (rd x1 x5) then (laws_wiInts.l0 k x0 x1 (wrap64 (x5 + 1))) else (some false)) else (none)) else (none)) else (some true)
def laws_wiInts.f (k : Nat) (l0 : List Int) (l1 : List Int) : Option (Bool) := if (l0.length : Int) = (l1.length : Int) then (laws_wiInts.l0 k l0 l1 0) else (some false)
theorem laws_wiInts.mono_l : ∀ k, (∀ y0 y1 y2, LeO (laws_wiInts.l0 k y0 y1 y2) (laws_wiInts.l0 (k + 1) y0 y1 y2))
  | 0 => fun _ _ _ r h => by simp [laws_wiInts.l0] at h
  | k + 1 => by
    have ih0 := laws_wiInts.mono_l k
    · intro y0 y1 y2
      unfold laws_wiInts.l0
      repeat' first
      | (with_reducible exact ih0 _ _ _)
      | (with_reducible exact LeO.refl _)
      | (with_reducible exact LeO.none _)
      | (with_reducible refine LeO.ite ?_ ?_)
      | (with_reducible refine LeO.bind ?_ (fun _ => ?_))
      | exact ih0 _ _ _
      | exact LeO.none _
      | refine LeO.ite ?_ ?_
      | refine LeO.bind ?_ (fun _ => ?_)
theorem laws_wiInts.mono : ∀ a0 a1 k, LeO (laws_wiInts.f k a0 a1) (laws_wiInts.f (k + 1) a0 a1) := by
  intro a0 a1 k
  have ih0 := laws_wiInts.mono_l k
  unfold laws_wiInts.f
  repeat' first
      | (with_reducible exact ih0 _ _ _)
      | (with_reducible exact LeO.refl _)
      | (with_reducible exact LeO.none _)
      | (with_reducible refine LeO.ite ?_ ?_)
      | (with_reducible refine LeO.bind ?_ (fun _ => ?_))
      | exact ih0 _ _ _
      | exact LeO.none _
      | refine LeO.ite ?_ ?_
      | refine LeO.bind ?_ (fun _ => ?_)
set_option maxHeartbeats 8000000 in
set_option maxRecDepth 100000 in
theorem laws_wiInts.calls (k : Nat) (A0 : Option Addr) (c0 : Nat) (l0 : List Int) (A1 : Option Addr) (c1 : Nat) (l1 : List Int) (r : Bool) (w : World) (hr0 : Kd.C (Kd.int .i64) w A0 l0.length l0) (hc0 : l0.length ≤ c0) (hr1 : Kd.C (Kd.int .i64) w A1 l1.length l1) (hc1 : l1.length ≤ c1) (h : laws_wiInts.f k l0 l1 = some r) :
    Calls Try.prog 17 #[.slice A0 l0.length c0, .slice A1 l1.length c1] w fun e w' => e = .returned (.bool r) ∧ Drawn0 w w' := by
  have HR0 := Aside0.mk hr0
  have HC0 := Aside0.mk hc0
  clear hr0 hc0
  have HR1 := Aside0.mk hr1
  have HC1 := Aside0.mk hc1
  clear hr1 hc1
  have H : (if (l0.length : Int) = (l1.length : Int) then (laws_wiInts.l0 k l0 l1 0) else (some false)) = some r := h
  clear h
  by_cases c3 : (l0.length : Int) = (l1.length : Int)
  · rw [if_pos c3] at H
    have c3b0 : ((l0.length : Int) == (l1.length : Int)) = true := beq_iff_eq.mpr c3
    have c3b1 : ((l0.length : Int) != (l1.length : Int)) = false := bne_eq_false_iff_eq.mpr c3
    have c3b2 : (l0.length == l1.length) = true := by first | simpa using c3 | (simp at c3 ⊢; omega)
    clear c3
    have H' := Aside0.mk H
    clear H
    go_enter Try.func17, Try.ntmps17
    go_wp2
    repeat (go_quiet (fail); try go_wp2)
    go_loopg [5] k (fun kq v5 w' => ∃ (x5_1 : Int), v5 = .int .i64 x5_1 ∧ Aside0 (laws_wiInts.l0 kq l0 l1 x5_1 = some r) ∧ Aside0 (kq ≤ k) ∧ Drawn0 w w')
    case atStart => exact ⟨(0), (by first | rfl | (simp; done) | (simp [*]; done)), H', ⟨Nat.le_refl _⟩, by repeat (first | exact Drawn0.refl _ | apply Drawn0.step)⟩
    case round =>
      clear H'
      try clear c1
      try clear p2
      try clear c3
      try clear c3b0
      try clear c3b1
      try clear c3b2
      obtain ⟨x5_1, rfl, HA, HK1, ⟨m1, rfl⟩⟩ := hrel
      cases gk with
      | zero => exact absurd HA.out (by simp [laws_wiInts.l0])
      | succ k1 =>
        have H := HA.out
        clear HA
        simp only [laws_wiInts.l0] at H
        by_cases c4 : x5_1 < (l0.length : Int)
        · rw [if_pos c4] at H
          have c4b0 : decide (x5_1 < (l0.length : Int)) = true := decide_eq_true c4
          clear c4
          by_cases c5 : 0 ≤ x5_1
          · rw [if_pos c5] at H
            have c5b0 : decide (0 ≤ x5_1) = true := decide_eq_true c5
            clear c5
            by_cases c6 : x5_1 < (l1.length : Int)
            · rw [if_pos c6] at H
              have c6b0 : decide (x5_1 < (l1.length : Int)) = true := decide_eq_true c6
              clear c6
              by_cases c7 : (rd l0 x5_1) = (rd l1 x5_1)
              · rw [if_pos c7] at H
                have c7b0 : ((rd l0 x5_1) == (rd l1 x5_1)) = true := beq_iff_eq.mpr c7
                have c7b1 : ((rd l0 x5_1) != (rd l1 x5_1)) = false := bne_eq_false_iff_eq.mpr c7
                clear c7
                have H' := Aside0.mk H
                clear H
                have p202 : 0 ≤ (x5_1 : Int) := of_decide_eq_true (by first | (with_reducible assumption) | assumption)
                have q202 : x5_1 < (l0.length : Int) := of_decide_eq_true (by first | (with_reducible assumption) | assumption)
                obtain ⟨ad202, e202, hx202_0⟩ := Kd.at_int HR0.out x5_1 p202 q202
                cases e202
                replace p202 := eq_true p202
                replace q202 := eq_true q202
                have p203 : 0 ≤ (x5_1 : Int) := of_decide_eq_true (by first | (with_reducible assumption) | assumption)
                have q203 : x5_1 < (l1.length : Int) := of_decide_eq_true (by first | (with_reducible assumption) | assumption)
                obtain ⟨ad203, e203, hx203_0⟩ := Kd.at_int HR1.out x5_1 p203 q203
                cases e203
                replace p203 := eq_true p203
                replace q203 := eq_true q203
                go_wp2
                repeat (go_quiet (fail); try go_wp2)
                go_roundg k1
                case measure => have := HK1.out; omega
                case rel => exact ⟨(wrap64 (x5_1 + 1)), (by first | rfl | (simp; done) | (simp [*]; done)), H', ⟨by have := HK1.out; omega⟩, by repeat (first | exact Drawn0.refl _ | apply Drawn0.step)⟩
              · rw [if_neg c7] at H
                have c7b0 : ((rd l0 x5_1) == (rd l1 x5_1)) = false := beq_eq_false_iff_ne.mpr c7
                have c7b1 : ((rd l0 x5_1) != (rd l1 x5_1)) = true := bne_iff_ne.mpr c7
                obtain rfl := Option.some.inj H
                have p202 : 0 ≤ (x5_1 : Int) := of_decide_eq_true (by first | (with_reducible assumption) | assumption)
                have q202 : x5_1 < (l0.length : Int) := of_decide_eq_true (by first | (with_reducible assumption) | assumption)
                obtain ⟨ad202, e202, hx202_0⟩ := Kd.at_int HR0.out x5_1 p202 q202
                cases e202
                replace p202 := eq_true p202
                replace q202 := eq_true q202
                have p203 : 0 ≤ (x5_1 : Int) := of_decide_eq_true (by first | (with_reducible assumption) | assumption)
                have q203 : x5_1 < (l1.length : Int) := of_decide_eq_true (by first | (with_reducible assumption) | assumption)
                obtain ⟨ad203, e203, hx203_0⟩ := Kd.at_int HR1.out x5_1 p203 q203
                cases e203
                replace p203 := eq_true p203
                replace q203 := eq_true q203
                go_wp2
                repeat (go_quiet (fail); try go_wp2)
                go_ret
                exact ⟨by first | rfl | (simp; done) | (simp [*]; done), by repeat (first | exact Drawn0.refl _ | apply Drawn0.step)⟩
            · rw [if_neg c6] at H
              exact absurd H (by simp)
          · rw [if_neg c5] at H
            exact absurd H (by simp)
        · rw [if_neg c4] at H
          have c4b0 : decide (x5_1 < (l0.length : Int)) = false := decide_eq_false c4
          clear c4
          obtain rfl := Option.some.inj H
          go_wp2
          repeat (go_quiet (fail); try go_wp2)
          go_ret
          exact ⟨by first | rfl | (simp; done) | (simp [*]; done), by repeat (first | exact Drawn0.refl _ | apply Drawn0.step)⟩
  · rw [if_neg c3] at H
    have c3b0 : ((l0.length : Int) == (l1.length : Int)) = false := beq_eq_false_iff_ne.mpr c3
    have c3b1 : ((l0.length : Int) != (l1.length : Int)) = true := bne_iff_ne.mpr c3
    have c3b2 : (l0.length == l1.length) = false := by first | simpa using c3 | (simp at c3 ⊢; omega)
    obtain rfl := Option.some.inj H
    go_enter Try.func17, Try.ntmps17
    go_wp2
    repeat (go_quiet (fail); try go_wp2)
    go_ret
    exact ⟨by first | rfl | (simp; done) | (simp [*]; done), by repeat (first | exact Drawn0.refl _ | apply Drawn0.step)⟩

/-! ### impl_filled: function 47 -/
def impl_filled.l0 : Nat → List Int → Int → List Int → Int → Int → Option (Int)
  | 0, _, _, _, _, _ => none
  | k + 1, x0, x3, x6, x7, x8 => if x8 < x7 then (if 0 ≤ x8 then (if x8 < (x6.length : Int) then ((impl_in.f (rd x6 x8) 0 15).bind fun t205 => (if t205 = true then (if (rd x6 x8) > 0 then (if 0 ≤ (wrap64 (15 - (rd x6 x8))) then (impl_filled.l0 k x0 (wrap64 (x3 + (shl .i64 1 (wrap64 (15 - (rd x6 x8)))))) x6 x7 (wrap64 (x8 + 1))) else (none)) else (impl_filled.l0 k x0 x3 x6 x7 (wrap64 (x8 + 1)))) else (some (-1)))) else (none)) else (none)) else (if (x0.length : Int) > 300 then (some (-1)) else (if x3 > 32768 then (some (-1)) else (some x3)))
def impl_filled.f (k : Nat) (l0 : List Int) : Option (Int) := impl_filled.l0 k l0 0 l0 (l0.length : Int) 0
theorem impl_filled.mono_l : ∀ k, (∀ y0 y1 y2 y3 y4, LeO (impl_filled.l0 k y0 y1 y2 y3 y4) (impl_filled.l0 (k + 1) y0 y1 y2 y3 y4))
  | 0 => fun _ _ _ _ _ r h => by simp [impl_filled.l0] at h
  | k + 1 => by
    have ih0 := impl_filled.mono_l k
    · intro y0 y1 y2 y3 y4
      unfold impl_filled.l0
      repeat' first
      | (with_reducible exact ih0 _ _ _ _ _)
      | (with_reducible exact LeO.refl _)
      | (with_reducible exact LeO.none _)
      | (with_reducible refine LeO.ite ?_ ?_)
      | (with_reducible refine LeO.bind ?_ (fun _ => ?_))
      | exact ih0 _ _ _ _ _
      | exact LeO.none _
      | refine LeO.ite ?_ ?_
      | refine LeO.bind ?_ (fun _ => ?_)
theorem impl_filled.mono : ∀ a0 k, LeO (impl_filled.f k a0) (impl_filled.f (k + 1) a0) := by
  intro a0 k
  have ih0 := impl_filled.mono_l k
  unfold impl_filled.f
  repeat' first
      | (with_reducible exact ih0 _ _ _ _ _)
      | (with_reducible exact LeO.refl _)
      | (with_reducible exact LeO.none _)
      | (with_reducible refine LeO.ite ?_ ?_)
      | (with_reducible refine LeO.bind ?_ (fun _ => ?_))
      | exact ih0 _ _ _ _ _
      | exact LeO.none _
      | refine LeO.ite ?_ ?_
      | refine LeO.bind ?_ (fun _ => ?_)
set_option maxHeartbeats 8000000 in
set_option maxRecDepth 100000 in
theorem impl_filled.calls (k : Nat) (A0 : Option Addr) (c0 : Nat) (l0 : List Int) (r : Int) (w : World) (hr0 : Kd.C (Kd.int .i64) w A0 l0.length l0) (hc0 : l0.length ≤ c0) (h : impl_filled.f k l0 = some r) :
    Calls Try.prog 47 #[.slice A0 l0.length c0] w fun e w' => e = .returned (.int .i64 r) ∧ Drawn0 w w' := by
  have HR0 := Aside0.mk hr0
  have HC0 := Aside0.mk hc0
  clear hr0 hc0
  have H : (impl_filled.l0 k l0 0 l0 (l0.length : Int) 0) = some r := h
  clear h
  have H' := Aside0.mk H
  clear H
  go_enter Try.func47, Try.ntmps47
  go_wp2
  go_loopg [3, 8] k (fun kq v3 v8 w' => ∃ (x3_1 : Int) (x8_1 : Int), v3 = .int .i64 x3_1 ∧ v8 = .int .i64 x8_1 ∧ Aside0 (impl_filled.l0 kq l0 x3_1 l0 (l0.length : Int) x8_1 = some r) ∧ Aside0 (kq ≤ k) ∧ Drawn0 w w')
  case atStart => exact ⟨(0), (0), (by first | rfl | (simp; done) | (simp [*]; done)), (by first | rfl | (simp; done) | (simp [*]; done)), H', ⟨Nat.le_refl _⟩, by repeat (first | exact Drawn0.refl _ | apply Drawn0.step)⟩
  case round =>
    clear H'
    obtain ⟨x3_1, x8_1, rfl, rfl, HA, HK1, ⟨m1, rfl⟩⟩ := hrel
    cases gk with
    | zero => exact absurd HA.out (by simp [impl_filled.l0])
    | succ k1 =>
      have H := HA.out
      clear HA
      simp only [impl_filled.l0] at H
      by_cases c2 : x8_1 < (l0.length : Int)
      · rw [if_pos c2] at H
        have c2b0 : decide (x8_1 < (l0.length : Int)) = true := decide_eq_true c2
        clear c2
        by_cases c3 : 0 ≤ x8_1
        · rw [if_pos c3] at H
          have c3b0 : decide (0 ≤ x8_1) = true := decide_eq_true c3
          clear c3
          by_cases c4 : x8_1 < (l0.length : Int)
          · rw [if_pos c4] at H
            have c4b0 : decide (x8_1 < (l0.length : Int)) = true := decide_eq_true c4
            clear c4
            replace H := Option.bind_eq_some_iff.mp H
            obtain ⟨t205, A50, H⟩ := H
            replace H : (if t205 = true then (if (rd l0 x8_1) > 0 then (if 0 ≤ (wrap64 (15 - (rd l0 x8_1))) then (impl_filled.l0 k1 l0 (wrap64 (x3_1 + (shl .i64 1 (wrap64 (15 - (rd l0 x8_1)))))) l0 (l0.length : Int) (wrap64 (x8_1 + 1))) else (none)) else (impl_filled.l0 k1 l0 x3_1 l0 (l0.length : Int) (wrap64 (x8_1 + 1)))) else (some (-1))) = some r := H
            have A5 := Aside0.mk A50
            clear A50
            by_cases c6 : t205 = true
            · subst c6
              have H1 : (if (rd l0 x8_1) > 0 then (if 0 ≤ (wrap64 (15 - (rd l0 x8_1))) then (impl_filled.l0 k1 l0 (wrap64 (x3_1 + (shl .i64 1 (wrap64 (15 - (rd l0 x8_1)))))) l0 (l0.length : Int) (wrap64 (x8_1 + 1))) else (none)) else (impl_filled.l0 k1 l0 x3_1 l0 (l0.length : Int) (wrap64 (x8_1 + 1)))) = some r := by first | (rw [if_pos rfl] at H; exact H) | rfl
              clear H
              have H := H1
              clear H1
              by_cases c7 : (rd l0 x8_1) > 0
              · rw [if_pos c7] at H
                have c7b0 : decide (0 < (rd l0 x8_1)) = true := decide_eq_true c7
                clear c7
                obtain ⟨ji8, hji8⟩ : ∃ j_ : Int, (wrap64 (15 - (rd l0 x8_1))) = j_ := ⟨_, rfl⟩
                replace H : (if 0 ≤ (ji8) then (impl_filled.l0 k1 l0 (wrap64 (x3_1 + (shl .i64 1 (ji8)))) l0 (l0.length : Int) (wrap64 (x8_1 + 1))) else (none)) = some r := by first | (rw [hji8] at H; exact H) | (simp only [hji8] at H ⊢; exact H)
                (try rw [hji8] at A5)
                have hji8w : (IntKind.i64.wrap (15 - (rd l0 x8_1))) = ji8 := (i64_w _).trans hji8
                by_cases c9 : 0 ≤ (ji8)
                · rw [if_pos c9] at H
                  have c9b0 := eq_true c9
                  have c9b1 : decide (0 ≤ (ji8)) = true := decide_eq_true c9
                  clear c9
                  obtain ⟨ji10, hji10⟩ : ∃ j_ : Int, (shl .i64 1 (ji8)) = j_ := ⟨_, rfl⟩
                  replace H : (impl_filled.l0 k1 l0 (wrap64 (x3_1 + (ji10))) l0 (l0.length : Int) (wrap64 (x8_1 + 1))) = some r := by first | (rw [hji10] at H; exact H) | (simp only [hji10] at H ⊢; exact H)
                  (try rw [hji10] at A5)
                  have hji10_ : (IntKind.i64.wrap (1 * 2 ^ min (ji8).toNat 64)) = ji10 := hji10
                  have hji10z : (ji8) ≤ 64 → (IntKind.i64.wrap (1 * 2 ^ (ji8).toNat)) = ji10 := shl_small hji10
                  have hji10u : (IntKind.i64.wrap (2 ^ min (ji8).toNat 64)) = ji10 := by have h_ := hji10_; rw [Int.one_mul] at h_; exact h_
                  have hji10v : (ji8) ≤ 64 → (IntKind.i64.wrap (2 ^ (ji8).toNat)) = ji10 := fun hle_ => by have h_ := hji10z hle_; rw [Int.one_mul] at h_; exact h_
                  have hji10y : (wrap64 (1 * 2 ^ min (ji8).toNat 64)) = ji10 := (i64_w _).symm.trans hji10_
                  have hji10x : (ji8) ≤ 64 → (wrap64 (1 * 2 ^ (ji8).toNat)) = ji10 := fun h_ => (i64_w _).symm.trans (hji10z h_)
                  have H' := Aside0.mk H
                  clear H
                  have p204 : 0 ≤ (x8_1 : Int) := of_decide_eq_true (by first | (with_reducible assumption) | assumption)
                  have q204 : x8_1 < (l0.length : Int) := of_decide_eq_true (by first | (with_reducible assumption) | assumption)
                  obtain ⟨ad204, e204, hx204_0⟩ := Kd.at_int HR0.out x8_1 p204 q204
                  cases e204
                  replace p204 := eq_true p204
                  replace q204 := eq_true q204
                  go_wp2_with (first | ((with_reducible refine gate_callee (f := 39) rfl ?_); refine goesL_ (some 13) rfl rfl Try.func39 (by kernel_rfl) rfl #[.int .i64 (rd l0 x8_1), .int .i64 0, .int .i64 15] rfl (by (try simp only [List.map_toArray, List.map_cons, List.map_nil]); first | done | rfl | (simp only [List.length_drop, List.length_take]; rfl)) ?_; (with_reducible refine (impl_in.calls (rd l0 x8_1) 0 15 true _ A5.out).mono ?_); rintro e w' ⟨rfl, ⟨nd, rfl⟩⟩; refine ⟨_, rfl, ?_⟩))
                  go_roundg k1
                  case measure => have := HK1.out; omega
                  case rel => exact ⟨(wrap64 (x3_1 + (ji10))), (wrap64 (x8_1 + 1)), (by first | rfl | (simp; done) | (simp only [← hji10] <;> (first | rfl | simp)) | (simp [*]; done)), (by first | rfl | (simp; done) | (simp [*]; done)), H', ⟨by have := HK1.out; omega⟩, by repeat (first | exact Drawn0.refl _ | apply Drawn0.step)⟩
                · rw [if_neg c9] at H
                  exact absurd H (by simp)
              · rw [if_neg c7] at H
                have c7b0 : decide (0 < (rd l0 x8_1)) = false := decide_eq_false c7
                clear c7
                have H' := Aside0.mk H
                clear H
                have p204 : 0 ≤ (x8_1 : Int) := of_decide_eq_true (by first | (with_reducible assumption) | assumption)
                have q204 : x8_1 < (l0.length : Int) := of_decide_eq_true (by first | (with_reducible assumption) | assumption)
                obtain ⟨ad204, e204, hx204_0⟩ := Kd.at_int HR0.out x8_1 p204 q204
                cases e204
                replace p204 := eq_true p204
                replace q204 := eq_true q204
                go_wp2_with (first | ((with_reducible refine gate_callee (f := 39) rfl ?_); refine goesL_ (some 13) rfl rfl Try.func39 (by kernel_rfl) rfl #[.int .i64 (rd l0 x8_1), .int .i64 0, .int .i64 15] rfl (by (try simp only [List.map_toArray, List.map_cons, List.map_nil]); first | done | rfl | (simp only [List.length_drop, List.length_take]; rfl)) ?_; (with_reducible refine (impl_in.calls (rd l0 x8_1) 0 15 true _ A5.out).mono ?_); rintro e w' ⟨rfl, ⟨nd, rfl⟩⟩; refine ⟨_, rfl, ?_⟩))
                go_roundg k1
                case measure => have := HK1.out; omega
                case rel => exact ⟨(x3_1), (wrap64 (x8_1 + 1)), (by first | rfl | (simp; done) | (simp [*]; done)), (by first | rfl | (simp; done) | (simp [*]; done)), H', ⟨by have := HK1.out; omega⟩, by repeat (first | exact Drawn0.refl _ | apply Drawn0.step)⟩
            · replace c6 := Bool.eq_false_iff.mpr c6
              subst c6
              have H1 : (some (-1)) = some r := by first | (rw [if_neg (show ¬ (false = true) by decide)] at H; exact H) | rfl
              clear H
              have H := H1
              clear H1
              obtain rfl := Option.some.inj H
              have p204 : 0 ≤ (x8_1 : Int) := of_decide_eq_true (by first | (with_reducible assumption) | assumption)
              have q204 : x8_1 < (l0.length : Int) := of_decide_eq_true (by first | (with_reducible assumption) | assumption)
              obtain ⟨ad204, e204, hx204_0⟩ := Kd.at_int HR0.out x8_1 p204 q204
              cases e204
              replace p204 := eq_true p204
              replace q204 := eq_true q204
              go_wp2_with (first | ((with_reducible refine gate_callee (f := 39) rfl ?_); refine goesL_ (some 13) rfl rfl Try.func39 (by kernel_rfl) rfl #[.int .i64 (rd l0 x8_1), .int .i64 0, .int .i64 15] rfl (by (try simp only [List.map_toArray, List.map_cons, List.map_nil]); first | done | rfl | (simp only [List.length_drop, List.length_take]; rfl)) ?_; (with_reducible refine (impl_in.calls (rd l0 x8_1) 0 15 false _ A5.out).mono ?_); rintro e w' ⟨rfl, ⟨nd, rfl⟩⟩; refine ⟨_, rfl, ?_⟩))
              go_ret
              exact ⟨by first | rfl | (simp; done) | (simp [*]; done), by repeat (first | exact Drawn0.refl _ | apply Drawn0.step)⟩
          · rw [if_neg c4] at H
            exact absurd H (by simp)
        · rw [if_neg c3] at H
          exact absurd H (by simp)
      · rw [if_neg c2] at H
        have c2b0 : decide (x8_1 < (l0.length : Int)) = false := decide_eq_false c2
        clear c2
        by_cases c11 : (l0.length : Int) > 300
        · rw [if_pos c11] at H
          have c11b0 : decide (300 < (l0.length : Int)) = true := decide_eq_true c11
          have c11b1 : decide (300 < l0.length) = true := decide_eq_true (by omega)
          clear c11
          obtain rfl := Option.some.inj H
          go_wp2
          go_ret
          exact ⟨by first | rfl | (simp; done) | (simp [*]; done), by repeat (first | exact Drawn0.refl _ | apply Drawn0.step)⟩
        · rw [if_neg c11] at H
          have c11b0 : decide (300 < (l0.length : Int)) = false := decide_eq_false c11
          have c11b1 : decide (300 < l0.length) = false := decide_eq_false (by omega)
          clear c11
          by_cases c12 : x3_1 > 32768
          · rw [if_pos c12] at H
            have c12b0 : decide (32768 < x3_1) = true := decide_eq_true c12
            clear c12
            obtain rfl := Option.some.inj H
            go_wp2
            go_ret
            exact ⟨by first | rfl | (simp; done) | (simp [*]; done), by repeat (first | exact Drawn0.refl _ | apply Drawn0.step)⟩
          · rw [if_neg c12] at H
            have c12b0 : decide (32768 < x3_1) = false := decide_eq_false c12
            clear c12
            obtain rfl := Option.some.inj H
            go_wp2
            go_ret
            exact ⟨by first | rfl | (simp; done) | (simp [*]; done), by repeat (first | exact Drawn0.refl _ | apply Drawn0.step)⟩

end Go.Proofs.Ytgajagocenffeaa.PFnCodeFit
