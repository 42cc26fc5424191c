/- What the functions that the law comes to compute, as plain functions, and that the machine's calls come to just that: written by a program for this claim, and turned where Lean did not take it. No condition. -/
import Derived.Test.YtgajagocenffeaaHFnCodeBestx0
import Derived.Test.YtgajagocenffeaaHFnCodeBestx1
import Derived.Test.YtgajagocenffeaaHFnCodeBestx3
import Derived.Test.YtgajagocenffeaaHFnCodeBestx4
import Derived.Test.YtgajagocenffeaaHFnCodeBestx5
namespace Go.Proofs.Ytgajagocenffeaa.PFnCodeBest
open Go.RowKit Go.Proofs.YtgajagocenffeaaW.PrintWords Go.Proofs.YtgajagocenffeaaW.PrintLast Go.Proofs.YtgajagocenffeaaW.PrintMore
attribute [local go_sem] max2_int min2_int max_two min_two max_three min_three max_four min_four   -- for this text's walks alone
set_option linter.unusedVariables false
set_option linter.unusedSimpArgs false

/-! ### spec_l14Lengths: function 48 -/
mutual
def spec_l14Lengths.j0 : Nat → List Int → Bool → List Int → Int → Option (List Int × Int)
  | 0, _, _, _, _ => none
  | k + 1, x3, x20, x1000, x1001 => if x20 = true then ((spec_l1Rd_pick.f k x1000 x1001 (x3.length : Int)).bind fun bt220 => ((spec_l1Rd_pick.f k x1000 bt220.2 6).bind fun bt222 => (if 0 ≤ bt220.1 then (if bt220.1 < (x3.length : Int) then (some ((x3.set (bt220.1 : Int).toNat bt222.1), bt222.2)) else (none)) else (none)))) else (some (x3, x1001))
def spec_l14Lengths.l0 : Nat → List Int → Int → List Int → Int → Option (List Int × Int)
  | 0, _, _, _, _ => none
  | k + 1, x5, x6, x1000, x1001 => if x6 > 0 then ((spec_l1Rd_pick.f k x1000 x1001 5).bind fun bt230 => (if x5.length < 17592186044416 then (spec_l14Lengths.l0 k (x5 ++ [bt230.1]) (wrap64 (x6 - 1)) x1000 bt230.2) else (none))) else (if (x5.length : Int) > 0 then ((spec_l1Rd_pick.f k x1000 x1001 8).bind fun bt235 => (if bt235.1 = 0 then ((some (([(-1), 16] : List Int) : List Int)).bind fun y237 => ((spec_l1Rd_pick.f k x1000 bt235.2 2).bind fun bt240 => (if 0 ≤ bt240.1 then (if bt240.1 < (y237.length : Int) then (if 0 < (x5.length : Int) then (some ((x5.set (0 : Int).toNat (rd y237 bt240.1)), bt240.2)) else (none)) else (none)) else (none)))) else (some (x5, bt235.2)))) else (some (x5, x1001)))
end
def spec_l14Lengths.f (k : Nat) (s0_0 : List Int) (s0_1 : Int) : Option (List Int × Int) := (spec_l1Rd_pick.f k s0_0 s0_1 3).bind fun bt209 => (if bt209.1 > 0 then ((spec_l14Often.f k s0_0 bt209.2).bind fun bt211 => ((spec_CodeFit.f k bt211.1 15).bind fun t215 => (if (t215.length : Int) > 0 then ((spec_l1Rd_pick.f k s0_0 bt211.2 4).bind fun bt218 => (spec_l14Lengths.j0 k t215 (bt218.1 == 0) s0_0 bt218.2)) else (spec_l14Lengths.j0 k t215 false s0_0 bt211.2)))) else ((spec_l1Rd_pick.f k s0_0 bt209.2 7).bind fun bt228 => (spec_l14Lengths.l0 k (([] : List Int)) bt228.1 s0_0 bt228.2)))
theorem spec_l14Lengths.mono_l : ∀ k, (∀ y0 y1 y2 y3, LeO (spec_l14Lengths.j0 k y0 y1 y2 y3) (spec_l14Lengths.j0 (k + 1) y0 y1 y2 y3)) ∧ (∀ y0 y1 y2 y3, LeO (spec_l14Lengths.l0 k y0 y1 y2 y3) (spec_l14Lengths.l0 (k + 1) y0 y1 y2 y3))
  | 0 => ⟨fun _ _ _ _ r h => by simp [spec_l14Lengths.j0] at h, fun _ _ _ _ r h => by simp [spec_l14Lengths.l0] at h⟩
  | k + 1 => by
    obtain ⟨ih0, ih1⟩ := spec_l14Lengths.mono_l k
    refine ⟨?_, ?_⟩
    · intro y0 y1 y2 y3
      unfold spec_l14Lengths.j0
      repeat' first
      | (with_reducible exact ih0 _ _ _ _)
      | (with_reducible exact ih1 _ _ _ _)
      | (with_reducible exact spec_CodeFit.mono _ _ _)
      | (with_reducible exact spec_l14Often.mono _ _ _)
      | (with_reducible exact spec_l1Rd_pick.mono _ _ _ _)
      | (with_reducible exact LeO.refl _)
      | (with_reducible exact LeO.none _)
      | (with_reducible refine LeO.ite ?_ ?_)
      | (with_reducible refine LeO.bind ?_ (fun _ => ?_))
      | exact ih0 _ _ _ _
      | exact ih1 _ _ _ _
      | exact spec_CodeFit.mono _ _ _
      | exact spec_l14Often.mono _ _ _
      | exact spec_l1Rd_pick.mono _ _ _ _
      | exact LeO.none _
      | refine LeO.ite ?_ ?_
      | refine LeO.bind ?_ (fun _ => ?_)
    · intro y0 y1 y2 y3
      unfold spec_l14Lengths.l0
      repeat' first
      | (with_reducible exact ih0 _ _ _ _)
      | (with_reducible exact ih1 _ _ _ _)
      | (with_reducible exact spec_CodeFit.mono _ _ _)
      | (with_reducible exact spec_l14Often.mono _ _ _)
      | (with_reducible exact spec_l1Rd_pick.mono _ _ _ _)
      | (with_reducible exact LeO.refl _)
      | (with_reducible exact LeO.none _)
      | (with_reducible refine LeO.ite ?_ ?_)
      | (with_reducible refine LeO.bind ?_ (fun _ => ?_))
      | exact ih0 _ _ _ _
      | exact ih1 _ _ _ _
      | exact spec_CodeFit.mono _ _ _
      | exact spec_l14Often.mono _ _ _
      | exact spec_l1Rd_pick.mono _ _ _ _
      | exact LeO.none _
      | refine LeO.ite ?_ ?_
      | refine LeO.bind ?_ (fun _ => ?_)
theorem spec_l14Lengths.mono : ∀ a0 a1 k, LeO (spec_l14Lengths.f k a0 a1) (spec_l14Lengths.f (k + 1) a0 a1) := by
  intro a0 a1 k
  obtain ⟨ih0, ih1⟩ := spec_l14Lengths.mono_l k
  unfold spec_l14Lengths.f
  repeat' first
      | (with_reducible exact ih0 _ _ _ _)
      | (with_reducible exact ih1 _ _ _ _)
      | (with_reducible exact spec_CodeFit.mono _ _ _)
      | (with_reducible exact spec_l14Often.mono _ _ _)
      | (with_reducible exact spec_l1Rd_pick.mono _ _ _ _)
      | (with_reducible exact LeO.refl _)
      | (with_reducible exact LeO.none _)
      | (with_reducible refine LeO.ite ?_ ?_)
      | (with_reducible refine LeO.bind ?_ (fun _ => ?_))
      | exact ih0 _ _ _ _
      | exact ih1 _ _ _ _
      | exact spec_CodeFit.mono _ _ _
      | exact spec_l14Often.mono _ _ _
      | exact spec_l1Rd_pick.mono _ _ _ _
      | exact LeO.none _
      | refine LeO.ite ?_ ?_
      | refine LeO.bind ?_ (fun _ => ?_)
set_option maxHeartbeats 8000000 in
set_option maxRecDepth 100000 in
theorem spec_l14Lengths.calls (k : Nat) (g : Nat) (s0_0 : List Int) (s0_1 : Int) (r1 : List Int) (r2 : Int) (w0 w : World) (hI : IsS75 w0 w g s0_0 s0_1) (hB : Below w0.heap.size w0 w) (h : spec_l14Lengths.f k s0_0 s0_1 = some (r1, r2)) :
    Calls Try.prog 48 #[.pointer (some ⟨g, 0, none⟩)] w fun e w' => ∃ v0_ : Value, e = .returned (v0_) ∧ Kd.R (Kd.int .i64) 3 w' w.heap.size (fun _ => True) v0_ r1 ∧ IsS75 w0 w' g s0_0 r2 ∧ Below w0.heap.size w0 w' ∧ KeepBut w w' g none := by
  have HI0 := Aside0.mk hI
  have HK := Aside0.mk (KeepBut.refl w g none)
  have HL := Aside0.mk hB.size
  clear hI
  have HW0 := Aside0.mk hB.size
  have HB := Aside0.mk hB
  clear hB
  have H : ((spec_l1Rd_pick.f k s0_0 s0_1 3).bind fun bt209 => (if bt209.1 > 0 then ((spec_l14Often.f k s0_0 bt209.2).bind fun bt211 => ((spec_CodeFit.f k bt211.1 15).bind fun t215 => (if (t215.length : Int) > 0 then ((spec_l1Rd_pick.f k s0_0 bt211.2 4).bind fun bt218 => (spec_l14Lengths.j0 k t215 (bt218.1 == 0) s0_0 bt218.2)) else (spec_l14Lengths.j0 k t215 false s0_0 bt211.2)))) else ((spec_l1Rd_pick.f k s0_0 bt209.2 7).bind fun bt228 => (spec_l14Lengths.l0 k (([] : List Int)) bt228.1 s0_0 bt228.2)))) = some (r1, r2) := h
  clear h
  replace H := Option.bind_eq_some_iff.mp H
  obtain ⟨⟨t209, t210⟩, A20, H⟩ := H
  replace H : (if t209 > 0 then ((spec_l14Often.f k s0_0 t210).bind fun bt211 => ((spec_CodeFit.f k bt211.1 15).bind fun t215 => (if (t215.length : Int) > 0 then ((spec_l1Rd_pick.f k s0_0 bt211.2 4).bind fun bt218 => (spec_l14Lengths.j0 k t215 (bt218.1 == 0) s0_0 bt218.2)) else (spec_l14Lengths.j0 k t215 false s0_0 bt211.2)))) else ((spec_l1Rd_pick.f k s0_0 t210 7).bind fun bt228 => (spec_l14Lengths.l0 k (([] : List Int)) bt228.1 s0_0 bt228.2))) = some (r1, r2) := H
  have A2 := Aside0.mk A20
  clear A20
  by_cases c3 : t209 > 0
  · rw [if_pos c3] at H
    have c3b0 : decide (0 < t209) = true := decide_eq_true c3
    clear c3
    replace H := Option.bind_eq_some_iff.mp H
    obtain ⟨⟨t211, t214⟩, A40, H⟩ := H
    replace H : ((spec_CodeFit.f k t211 15).bind fun t215 => (if (t215.length : Int) > 0 then ((spec_l1Rd_pick.f k s0_0 t214 4).bind fun bt218 => (spec_l14Lengths.j0 k t215 (bt218.1 == 0) s0_0 bt218.2)) else (spec_l14Lengths.j0 k t215 false s0_0 t214))) = some (r1, r2) := H
    have A4 := Aside0.mk A40
    clear A40
    replace H := Option.bind_eq_some_iff.mp H
    obtain ⟨t215, A50, H⟩ := H
    replace H : (if (t215.length : Int) > 0 then ((spec_l1Rd_pick.f k s0_0 t214 4).bind fun bt218 => (spec_l14Lengths.j0 k t215 (bt218.1 == 0) s0_0 bt218.2)) else (spec_l14Lengths.j0 k t215 false s0_0 t214)) = some (r1, r2) := H
    have A5 := Aside0.mk A50
    clear A50
    have HC6 := Aside0.mk H
    clear H
    go_enter Try.func48, Try.ntmps48
    go_upto_region 3 with (first | ((with_reducible refine gate_callee (f := 46) rfl ?_); refine goesL_ (some 8) rfl rfl Try.func46 (by kernel_rfl) rfl #[.pointer (some ⟨g, 0, none⟩), .int .i64 3] rfl (by (try simp only [List.map_toArray, List.map_cons, List.map_nil]); first | done | rfl | (simp only [List.length_drop, List.length_take]; rfl)) ?_; (with_reducible refine (spec_l1Rd_pick.calls k g s0_0 s0_1 3 t209 t210 w0 _ ?side1 ?side2 A2.out).mono ?_); (case side1 => repeat (first | (with_reducible first | exact HI0.out | apply IsS75.alloc | apply IsS75.drewN | apply IsS75.drew | apply IsS75.set_1) | exact HI0.out)); (case side2 => repeat (first | (with_reducible first | exact HB.out | apply below_alloc | apply pw_below_drewN | apply below_drew1 | refine below_set ?_ (IsS75.ge HI0.out)) | exact HB.out)); rintro e w7 ⟨rfl, hi, hb, hk⟩; refine ⟨_, rfl, ?_⟩; have n0_ := Aside0.mk (KeepBut.trans (by repeat (first | (with_reducible first | exact HK.out | apply KeepBut.set_ | apply keep_drewN | apply keep_drew | apply keep_alloc) | exact HK.out)) hk (.inl rfl)); have n1_ := Aside0.mk (hb); have n2_ := Aside0.mk (hi); clear HK; clear HB; clear HI0; have HK := n0_; have HB := n1_; have HI0 := n2_; clear n0_ n1_ n2_; (try clear hb); (try clear hb2); (try clear hk); (try clear hi)) | ((with_reducible refine gate_callee (f := 45) rfl ?_); refine goesL_ (some 11) rfl rfl Try.func45 (by kernel_rfl) rfl #[.pointer (some ⟨g, 0, none⟩)] rfl (by (try simp only [List.map_toArray, List.map_cons, List.map_nil]); first | done | rfl | (simp only [List.length_drop, List.length_take]; rfl)) ?_; (with_reducible refine (spec_l14Often.calls k g s0_0 t210 t211 t214 w0 _ ?side1 ?side2 A4.out).mono ?_); (case side1 => repeat (first | (with_reducible first | exact HI0.out | apply IsS75.alloc | apply IsS75.drewN | apply IsS75.drew | apply IsS75.set_1) | exact HI0.out)); (case side2 => repeat (first | (with_reducible first | exact HB.out | apply below_alloc | apply pw_below_drewN | apply below_drew1 | refine below_set ?_ (IsS75.ge HI0.out)) | exact HB.out)); rintro e w8 ⟨v212, rfl, ho0, hi, hb, hk⟩; refine ⟨_, rfl, ?_⟩; have n0_ := Aside0.mk (Kd.R_lower ho0 (keep_size (w := w) (g := g) (row := none) (by repeat (first | (with_reducible first | exact HK.out | apply KeepBut.set_ | apply keep_drewN | apply keep_drew | apply keep_alloc) | exact HK.out)))); have n1_ := Aside0.mk (KeepBut.trans (by repeat (first | (with_reducible first | exact HK.out | apply KeepBut.set_ | apply keep_drewN | apply keep_drew | apply keep_alloc) | exact HK.out)) hk (.inl rfl)); have n2_ := Aside0.mk (hb); have n3_ := Aside0.mk (hi); clear HK; clear HB; clear HI0; have HO213 := n0_; have HK := n1_; have HB := n2_; have HI0 := n3_; clear n0_ n1_ n2_ n3_; (try clear hb); (try clear hb2); (try clear hk); (try clear hi); (try clear ho0); obtain ⟨Ao9, co9, eo9⟩ := Kd.R_slice HO213.out; subst eo9) | ((with_reducible refine gate_callee (f := 10) rfl ?_); refine goesL_ (some 12) rfl rfl Try.func10 (by kernel_rfl) rfl #[.slice Ao9 t211.length co9, .int .i64 15] rfl (by (try simp only [List.map_toArray, List.map_cons, List.map_nil]); first | done | rfl | (simp only [List.length_drop, List.length_take]; rfl)) ?_; (with_reducible refine (spec_CodeFit.calls k _ _ t211 15 t215 _ ?side1 ?side2 A5.out).mono ?_); (case side1 => repeat (first | exact (Kd.R_reads' HO213.out).2.2 | (with_reducible refine Kd.C_alloc ?_ _) | (with_reducible refine Kd.C_drewN ?_ _) | (with_reducible refine Kd.C_drew ?_))); (case side2 => exact (Kd.R_reads' HO213.out).2.1); rintro e w10 ⟨v216, rfl, ho0, hb⟩; refine ⟨_, rfl, ?_⟩; have n0_ := Aside0.mk (Kd.R_elder' (by (with_reducible repeat (first | apply Kd.R_alloc | apply Kd.R_drewN | apply Kd.R_drew)); exact HO213.out) (Kd.R_base ho0) hb); have n1_ := Aside0.mk (Kd.R_lower (Kd.R_new' ho0 (Kd.R_lt (by (with_reducible repeat (first | apply Kd.R_alloc | apply Kd.R_drewN | apply Kd.R_drew)); exact HO213.out))) (keep_size (w := w) (g := g) (row := none) (by repeat (first | (with_reducible first | exact HK.out | apply KeepBut.set_ | apply keep_drewN | apply keep_drew | apply keep_alloc) | exact HK.out)))); have n2_ := Aside0.mk (IsS75.below (by repeat (first | (with_reducible first | exact HI0.out | apply IsS75.alloc | apply IsS75.drewN | apply IsS75.drew | apply IsS75.set_1) | exact HI0.out)) hb); have n3_ := Aside0.mk (KeepBut.trans (by repeat (first | (with_reducible first | exact HK.out | apply KeepBut.set_ | apply keep_drewN | apply keep_drew | apply keep_alloc) | exact HK.out)) (KeepBut.of_below hb g none) (.inl rfl)); have n4_ := Aside0.mk (below_step (by repeat (first | (with_reducible first | exact HB.out | apply below_alloc | apply pw_below_drewN | apply below_drew1 | refine below_set ?_ (IsS75.ge HI0.out)) | exact HB.out)) hb); clear HO213; clear HI0; clear HK; clear HB; have HO213 := n0_; have HO217 := n1_; have HI0 := n2_; have HK := n3_; have HB := n4_; clear n0_ n1_ n2_ n3_ n4_; (try clear hb); (try clear hb2); (try clear hk); (try clear hi); (try clear ho0)))
    (try simp only [Act.put, List.setIfInBounds_toArray, List.set_cons_zero, List.set_cons_succ])
    go_cut [20] (fun v20 wc => ∃ (kq : Nat) (x20_5 : Bool) (x1001_5 : Int), v20 = .bool x20_5 ∧ Aside0 (spec_l14Lengths.j0 kq t215 x20_5 s0_0 x1001_5 = some (r1, r2)) ∧ Aside0 (kq ≤ k) ∧ Aside0 (Kd.R (Kd.int .i64) 3 wc w.heap.size (fun _ => True) v216 t215) ∧ Aside0 (IsS75 w0 wc g s0_0 x1001_5) ∧ Aside0 (KeepBut w wc g none) ∧ Aside0 (Below w0.heap.size w0 wc))
    case first =>
      have H := HC6.out
      clear HC6
      by_cases c11 : (t215.length : Int) > 0
      · rw [if_pos c11] at H
        have c11b0 : decide (0 < (t215.length : Int)) = true := decide_eq_true c11
        have c11b1 : decide (0 < t215.length) = true := decide_eq_true (by omega)
        clear c11
        (first | rw [c11b0] | (simp only [i64_w, i32_w]; rw [c11b0]) | skip)
        replace H := Option.bind_eq_some_iff.mp H
        obtain ⟨⟨t218, t219⟩, A120, H⟩ := H
        replace H : (spec_l14Lengths.j0 k t215 (t218 == 0) s0_0 t219) = some (r1, r2) := H
        have A12 := Aside0.mk A120
        clear A120
        have H' := Aside0.mk H
        clear H
        obtain ⟨Ao13, co13, eo13⟩ := Kd.R_slice HO217.out
        subst eo13
        go_wp2_with (first | (go_at_call 46; (with_reducible refine (spec_l1Rd_pick.calls k g s0_0 t214 4 t218 t219 w0 _ ?side1 ?side2 A12.out).mono ?_); (case side1 => repeat (first | (with_reducible first | exact HI0.out | apply IsS75.alloc | apply IsS75.drewN | apply IsS75.drew | apply IsS75.set_1) | exact HI0.out)); (case side2 => repeat (first | (with_reducible first | exact HB.out | apply below_alloc | apply pw_below_drewN | apply below_drew1 | refine below_set ?_ (IsS75.ge HI0.out)) | exact HB.out)); rintro e w14 ⟨rfl, hi, hb, hk⟩; have n0_ := Aside0.mk (Kd.R_mono (Kd.R_keep (IsS75.apart (show IsS75 w0 _ g s0_0 t214 from by repeat (first | (with_reducible first | exact HI0.out | apply IsS75.alloc | apply IsS75.drewN | apply IsS75.drew | apply IsS75.set_1) | exact HI0.out)) (by (with_reducible repeat (first | apply Kd.R_alloc | apply Kd.R_drewN | apply Kd.R_drew)); exact HO213.out) (by decide)) hk (fun _ h => h.2)) (fun _ h => h.1)); have n1_ := Aside0.mk (Kd.R_mono (Kd.R_keep (IsS75.apart (show IsS75 w0 _ g s0_0 t214 from by repeat (first | (with_reducible first | exact HI0.out | apply IsS75.alloc | apply IsS75.drewN | apply IsS75.drew | apply IsS75.set_1) | exact HI0.out)) (by (with_reducible repeat (first | apply Kd.R_alloc | apply Kd.R_drewN | apply Kd.R_drew)); exact HO217.out) (by decide)) hk (fun _ h => h.2)) (fun _ h => h.1)); have n2_ := Aside0.mk (KeepBut.trans (by repeat (first | (with_reducible first | exact HK.out | apply KeepBut.set_ | apply keep_drewN | apply keep_drew | apply keep_alloc) | exact HK.out)) hk (.inl rfl)); have n3_ := Aside0.mk (hb); have n4_ := Aside0.mk (hi); clear HO213; clear HO217; clear HK; clear HB; clear HI0; have HO213 := n0_; have HO217 := n1_; have HK := n2_; have HB := n3_; have HI0 := n4_; clear n0_ n1_ n2_ n3_ n4_; (try clear hb); (try clear hb2); (try clear hk); (try clear hi)))
        go_meet
        case rel => exact ⟨_, ((t218 == 0)), (t219), (by first | rfl | (simp; done) | (simp [*]; done)), H', ⟨by first | omega | exact Nat.le_refl _⟩, ⟨by (with_reducible repeat (first | apply Kd.R_alloc | apply Kd.R_drewN | apply Kd.R_drew)); exact Kd.R_mono HO217.out (fun _ hk => trivial)⟩, ⟨by repeat (first | (with_reducible first | exact HI0.out | apply IsS75.alloc | apply IsS75.drewN | apply IsS75.drew | apply IsS75.set_1) | exact HI0.out)⟩, ⟨by repeat (first | (with_reducible first | exact HK.out | apply KeepBut.set_ | apply keep_drewN | apply keep_drew | apply keep_alloc) | exact HK.out)⟩, ⟨by repeat (first | (with_reducible first | exact HB.out | apply below_alloc | apply pw_below_drewN | apply below_drew1 | refine below_set ?_ (IsS75.ge HI0.out)) | exact HB.out)⟩⟩
      · rw [if_neg c11] at H
        have c11b0 : decide (0 < (t215.length : Int)) = false := decide_eq_false c11
        have c11b1 : decide (0 < t215.length) = false := decide_eq_false (by omega)
        clear c11
        (first | rw [c11b0] | (simp only [i64_w, i32_w]; rw [c11b0]) | skip)
        have H' := Aside0.mk H
        clear H
        obtain ⟨Ao15, co15, eo15⟩ := Kd.R_slice HO217.out
        subst eo15
        go_wp2
        go_meet
        case rel => exact ⟨_, (false), (t214), (by first | rfl | (simp; done) | (simp [*]; done)), H', ⟨by first | omega | exact Nat.le_refl _⟩, ⟨by (with_reducible repeat (first | apply Kd.R_alloc | apply Kd.R_drewN | apply Kd.R_drew)); exact Kd.R_mono HO217.out (fun _ hk => trivial)⟩, ⟨by repeat (first | (with_reducible first | exact HI0.out | apply IsS75.alloc | apply IsS75.drewN | apply IsS75.drew | apply IsS75.set_1) | exact HI0.out)⟩, ⟨by repeat (first | (with_reducible first | exact HK.out | apply KeepBut.set_ | apply keep_drewN | apply keep_drew | apply keep_alloc) | exact HK.out)⟩, ⟨by repeat (first | (with_reducible first | exact HB.out | apply below_alloc | apply pw_below_drewN | apply below_drew1 | refine below_set ?_ (IsS75.ge HI0.out)) | exact HB.out)⟩⟩
    case rest =>
      clear HC6
      try clear c1
      try clear p2
      try clear c3
      try clear c3b0
      try clear c4
      try clear c10
      try clear c11
      try clear c11b0
      try clear c11b1
      obtain ⟨kq, x20_5, x1001_5, rfl, HA, HJ5, HO_3, HI0, HK, HB⟩ := hcut
      cases kq with
      | zero => exact absurd HA.out (by simp [spec_l14Lengths.j0])
      | succ kj5 =>
        have H := HA.out
        clear HA
        simp only [spec_l14Lengths.j0] at H
        by_cases c16 : x20_5 = true
        · subst c16
          have H1 : ((spec_l1Rd_pick.f kj5 s0_0 x1001_5 (t215.length : Int)).bind fun bt220 => ((spec_l1Rd_pick.f kj5 s0_0 bt220.2 6).bind fun bt222 => (if 0 ≤ bt220.1 then (if bt220.1 < (t215.length : Int) then (some ((t215.set (bt220.1 : Int).toNat bt222.1), bt222.2)) else (none)) else (none)))) = some (r1, r2) := by first | (rw [if_pos rfl] at H; exact H) | rfl
          clear H
          have H := H1
          clear H1
          replace H := Option.bind_eq_some_iff.mp H
          obtain ⟨⟨t220, t221⟩, A170, H⟩ := H
          replace H : ((spec_l1Rd_pick.f kj5 s0_0 t221 6).bind fun bt222 => (if 0 ≤ t220 then (if t220 < (t215.length : Int) then (some ((t215.set (t220 : Int).toNat bt222.1), bt222.2)) else (none)) else (none))) = some (r1, r2) := H
          have A17 := Aside0.mk A170
          clear A170
          replace H := Option.bind_eq_some_iff.mp H
          obtain ⟨⟨t222, t223⟩, A180, H⟩ := H
          replace H : (if 0 ≤ t220 then (if t220 < (t215.length : Int) then (some ((t215.set (t220 : Int).toNat t222), t223)) else (none)) else (none)) = some (r1, r2) := H
          have A18 := Aside0.mk A180
          clear A180
          by_cases c19 : 0 ≤ t220
          · rw [if_pos c19] at H
            have c19b0 : decide (0 ≤ t220) = true := decide_eq_true c19
            clear c19
            by_cases c20 : t220 < (t215.length : Int)
            · rw [if_pos c20] at H
              have c20b0 : decide (t220 < (t215.length : Int)) = true := decide_eq_true c20
              clear c20
              obtain ⟨y224, hy224⟩ : ∃ y_ : List Int, y_ = (t215.set (t220 : Int).toNat t222) := ⟨_, rfl⟩
              replace H : (some (y224, t223)) = some (r1, r2) := by first | (rw [hy224]; with_reducible exact H) | (have H2_ := (Option.bind_some _ _).symm.trans H; rw [hy224]; with_reducible exact H2_) | (have H2_ := (Option.bind_some _ _).symm.trans H; with_reducible exact H2_) | with_reducible exact H | (rw [hy224]; exact H) | exact H
              have Ny224 := Aside0.mk hy224
              clear hy224
              simp only [Option.some.injEq, Prod.mk.injEq] at H
              obtain ⟨rfl, rfl⟩ := H
              obtain ⟨Ao22, co22, eo22⟩ := Kd.R_slice HO_3.out
              subst eo22
              go_wp2_with (first | ((with_reducible refine gate_callee (f := 46) rfl ?_); refine goesL_ (some 24) rfl rfl Try.func46 (by kernel_rfl) rfl #[.pointer (some ⟨g, 0, none⟩), .int .i64 (t215.length : Int)] rfl (by (try simp only [List.map_toArray, List.map_cons, List.map_nil]); first | done | rfl | (simp only [List.length_drop, List.length_take]; rfl)) ?_; (with_reducible refine (spec_l1Rd_pick.calls kj5 g s0_0 x1001_5 (t215.length : Int) t220 t221 w0 _ ?side1 ?side2 A17.out).mono ?_); (case side1 => repeat (first | (with_reducible first | exact HI0.out | apply IsS75.alloc | apply IsS75.drewN | apply IsS75.drew | apply IsS75.set_1) | exact HI0.out)); (case side2 => repeat (first | (with_reducible first | exact HB.out | apply below_alloc | apply pw_below_drewN | apply below_drew1 | refine below_set ?_ (IsS75.ge HI0.out)) | exact HB.out)); rintro e w23 ⟨rfl, hi, hb, hk⟩; refine ⟨_, rfl, ?_⟩; have n0_ := Aside0.mk (Kd.R_mono (Kd.R_keep (IsS75.apart (show IsS75 w0 _ g s0_0 x1001_5 from by repeat (first | (with_reducible first | exact HI0.out | apply IsS75.alloc | apply IsS75.drewN | apply IsS75.drew | apply IsS75.set_1) | exact HI0.out)) (by (with_reducible repeat (first | apply Kd.R_alloc | apply Kd.R_drewN | apply Kd.R_drew)); exact HO_3.out) (by decide)) hk (fun _ h => h.2)) (fun _ h => h.1)); have n1_ := Aside0.mk (KeepBut.trans (by repeat (first | (with_reducible first | exact HK.out | apply KeepBut.set_ | apply keep_drewN | apply keep_drew | apply keep_alloc) | exact HK.out)) hk (.inl rfl)); have n2_ := Aside0.mk (hb); have n3_ := Aside0.mk (hi); clear HO_3; clear HK; clear HB; clear HI0; have HO_3 := n0_; have HK := n1_; have HB := n2_; have HI0 := n3_; clear n0_ n1_ n2_ n3_; (try clear hb); (try clear hb2); (try clear hk); (try clear hi)) | ((with_reducible refine gate_callee (f := 46) rfl ?_); refine goesL_ (some 28) rfl rfl Try.func46 (by kernel_rfl) rfl #[.pointer (some ⟨g, 0, none⟩), .int .i64 6] rfl (by (try simp only [List.map_toArray, List.map_cons, List.map_nil]); first | done | rfl | (simp only [List.length_drop, List.length_take]; rfl)) ?_; (with_reducible refine (spec_l1Rd_pick.calls kj5 g s0_0 t221 6 t222 t223 w0 _ ?side1 ?side2 A18.out).mono ?_); (case side1 => repeat (first | (with_reducible first | exact HI0.out | apply IsS75.alloc | apply IsS75.drewN | apply IsS75.drew | apply IsS75.set_1) | exact HI0.out)); (case side2 => repeat (first | (with_reducible first | exact HB.out | apply below_alloc | apply pw_below_drewN | apply below_drew1 | refine below_set ?_ (IsS75.ge HI0.out)) | exact HB.out)); rintro e w24 ⟨rfl, hi, hb, hk⟩; refine ⟨_, rfl, ?_⟩; have n0_ := Aside0.mk (Kd.R_mono (Kd.R_keep (IsS75.apart (show IsS75 w0 _ g s0_0 t221 from by repeat (first | (with_reducible first | exact HI0.out | apply IsS75.alloc | apply IsS75.drewN | apply IsS75.drew | apply IsS75.set_1) | exact HI0.out)) (by (with_reducible repeat (first | apply Kd.R_alloc | apply Kd.R_drewN | apply Kd.R_drew)); exact HO_3.out) (by decide)) hk (fun _ h => h.2)) (fun _ h => h.1)); have n1_ := Aside0.mk (KeepBut.trans (by repeat (first | (with_reducible first | exact HK.out | apply KeepBut.set_ | apply keep_drewN | apply keep_drew | apply keep_alloc) | exact HK.out)) hk (.inl rfl)); have n2_ := Aside0.mk (hb); have n3_ := Aside0.mk (hi); clear HO_3; clear HK; clear HB; clear HI0; have HO_3 := n0_; have HK := n1_; have HB := n2_; have HI0 := n3_; clear n0_ n1_ n2_ n3_; (try clear hb); (try clear hb2); (try clear hk); (try clear hi); have p21 : 0 ≤ (t220 : Int) := of_decide_eq_true (by first | (with_reducible assumption) | assumption); have q21 : (t220 : Int) < ((t215.length : Int) : Int) := of_decide_eq_true (by first | (with_reducible assumption) | assumption); obtain ⟨go21, co21, eo21, gb21, gl21, cl21, HG21⟩ := Kd.R_form HO_3.out (by omega); (first | cases eo21 | (injection eo21 with ea_ en_ ec_; (first | subst ea_ | (injection ea_ with ea_; subst ea_)); subst ec_; clear en_)); have GB21 := Aside0.mk gb21; have GG21 := Aside0.mk HG21; clear gb21 gl21 HG21; obtain ⟨hx21_0, hf21_0⟩ := Kd.R_celln 0 HO_3.out (t220 : Int) p21 q21; replace p21 := eq_true p21; replace q21 := eq_true q21; obtain ⟨hy25_, hz25_⟩ := Kd.R_celln 0 HO_3.out (t220 : Int) (of_decide_eq_true (by first | (with_reducible assumption) | assumption)) (of_decide_eq_true (by first | (with_reducible assumption) | assumption)); have HP25 := Kd.R_putg HO_3.out (t220 : Int) t222) | ((with_reducible refine gate_store (t := 3) (p := 29) rfl ?_); refine store_event (t := 3) (p := 29) (v := ?vo_w26) (w1 := (w24.setCell ⟨go21, (t220 : Int).toNat, none⟩ (.int .i64 t222))) ?hg ?ho ?hn ?hr ?_; (case ho => rfl); (case hg => rfl); (case hn => rfl); (case hr => first | (go_simp; done) | (go_simp; rfl)); intro w26 hw; have hg : w24.grownBy w26 (some go21) := (by rw [hw]; exact HP25.2); have hp_ : Kd.R (Kd.int .i64) 3 w26 w.heap.size (fun _ => True) (.slice (some ⟨go21, 0, none⟩) t215.length co22) y224 := (by rw [hw, Ny224.out]; exact HP25.1); clear HP25; have n0_ := Aside0.mk (hp_); have n1_ := Aside0.mk (IsS75.grown (by repeat (first | (with_reducible first | exact HI0.out | apply IsS75.alloc | apply IsS75.drewN | apply IsS75.drew | apply IsS75.set_1) | exact HI0.out)) hg (IsS75.own_ne HI0.out HO_3.out (by decide))); have n2_ := Aside0.mk ((by rw [hw]; exact below_set (HB.out) (Nat.le_trans HL.out GB21.out) : Below w0.heap.size w0 w26)); have n3_ := Aside0.mk (KeepBut.trans (by repeat (first | (with_reducible first | exact HK.out | apply KeepBut.set_ | apply keep_drewN | apply keep_drew | apply keep_alloc) | exact HK.out)) (KeepBut.of_grown hg g) (Kd.R_base2 HO_3.out)); clear HO_3; clear HI0; clear HB; clear HK; have HO_3 := n0_; have HI0 := n1_; have HB := n2_; have HK := n3_; clear n0_ n1_ n2_ n3_; clear hg hw hp_))
              go_ret
              exact ⟨_, by first | rfl | (simp [errW_none, errW_some] <;> rfl) | (simp [*, errW_none, errW_some] <;> rfl), by (with_reducible repeat (first | apply Kd.R_alloc | apply Kd.R_drewN | apply Kd.R_drew)); exact HO_3.out, by repeat (first | (with_reducible first | exact HI0.out | apply IsS75.alloc | apply IsS75.drewN | apply IsS75.drew | apply IsS75.set_1) | exact HI0.out), by repeat (first | (with_reducible first | exact HB.out | apply below_alloc | apply pw_below_drewN | apply below_drew1 | refine below_set ?_ (IsS75.ge HI0.out)) | exact HB.out), by repeat (first | (with_reducible first | exact HK.out | apply KeepBut.set_ | apply keep_drewN | apply keep_drew | apply keep_alloc) | exact HK.out)⟩
            · rw [if_neg c20] at H
              exact absurd H (by simp)
          · rw [if_neg c19] at H
            exact absurd H (by simp)
        · replace c16 := Bool.eq_false_iff.mpr c16
          subst c16
          have H1 : (some (t215, x1001_5)) = some (r1, r2) := by first | (rw [if_neg (show ¬ (false = true) by decide)] at H; exact H) | rfl
          clear H
          have H := H1
          clear H1
          simp only [Option.some.injEq, Prod.mk.injEq] at H
          obtain ⟨rfl, rfl⟩ := H
          go_wp2
          go_ret
          exact ⟨_, by first | rfl | (simp [errW_none, errW_some] <;> rfl) | (simp [*, errW_none, errW_some] <;> rfl), by (with_reducible repeat (first | apply Kd.R_alloc | apply Kd.R_drewN | apply Kd.R_drew)); exact HO_3.out, by repeat (first | (with_reducible first | exact HI0.out | apply IsS75.alloc | apply IsS75.drewN | apply IsS75.drew | apply IsS75.set_1) | exact HI0.out), by repeat (first | (with_reducible first | exact HB.out | apply below_alloc | apply pw_below_drewN | apply below_drew1 | refine below_set ?_ (IsS75.ge HI0.out)) | exact HB.out), by repeat (first | (with_reducible first | exact HK.out | apply KeepBut.set_ | apply keep_drewN | apply keep_drew | apply keep_alloc) | exact HK.out)⟩
  · rw [if_neg c3] at H
    have c3b0 : decide (0 < t209) = false := decide_eq_false c3
    clear c3
    obtain ⟨y225, hy225⟩ : ∃ y_ : List Int, y_ = (([] : List Int)) := ⟨_, rfl⟩
    replace H : ((spec_l1Rd_pick.f k s0_0 t210 7).bind fun bt228 => (spec_l14Lengths.l0 k y225 bt228.1 s0_0 bt228.2)) = some (r1, r2) := by first | (rw [hy225]; with_reducible exact H) | (have H2_ := (Option.bind_some _ _).symm.trans H; rw [hy225]; with_reducible exact H2_) | (have H2_ := (Option.bind_some _ _).symm.trans H; with_reducible exact H2_) | with_reducible exact H | (rw [hy225]; exact H) | exact H
    have Ny225 := Aside0.mk hy225
    clear hy225
    replace H := Option.bind_eq_some_iff.mp H
    obtain ⟨⟨t228, t229⟩, A270, H⟩ := H
    replace H : (spec_l14Lengths.l0 k y225 t228 s0_0 t229) = some (r1, r2) := H
    have A27 := Aside0.mk A270
    clear A270
    have H' := Aside0.mk H
    clear H
    go_enter Try.func48, Try.ntmps48
    go_wp2_with (first | ((with_reducible refine gate_callee (f := 46) rfl ?_); refine goesL_ (some 8) rfl rfl Try.func46 (by kernel_rfl) rfl #[.pointer (some ⟨g, 0, none⟩), .int .i64 3] rfl (by (try simp only [List.map_toArray, List.map_cons, List.map_nil]); first | done | rfl | (simp only [List.length_drop, List.length_take]; rfl)) ?_; (with_reducible refine (spec_l1Rd_pick.calls k g s0_0 s0_1 3 t209 t210 w0 _ ?side1 ?side2 A2.out).mono ?_); (case side1 => repeat (first | (with_reducible first | exact HI0.out | apply IsS75.alloc | apply IsS75.drewN | apply IsS75.drew | apply IsS75.set_1) | exact HI0.out)); (case side2 => repeat (first | (with_reducible first | exact HB.out | apply below_alloc | apply pw_below_drewN | apply below_drew1 | refine below_set ?_ (IsS75.ge HI0.out)) | exact HB.out)); rintro e w28 ⟨rfl, hi, hb, hk⟩; refine ⟨_, rfl, ?_⟩; have n0_ := Aside0.mk (KeepBut.trans (by repeat (first | (with_reducible first | exact HK.out | apply KeepBut.set_ | apply keep_drewN | apply keep_drew | apply keep_alloc) | exact HK.out)) hk (.inl rfl)); have n1_ := Aside0.mk (hb); have n2_ := Aside0.mk (hi); clear HK; clear HB; clear HI0; have HK := n0_; have HB := n1_; have HI0 := n2_; clear n0_ n1_ n2_; (try clear hb); (try clear hb2); (try clear hk); (try clear hi)) | ((with_reducible refine gate_dst (N := 31) rfl ?_); refine Kd.R_lit (Kd.int .i64) _ 3 ?hg (N := 31) ?hd (xs := ([] : List Int)) (inner := []) (ok := fun _ => True) (okp := fun _ => True) ?hr ?hp (fun _ hk => hk) trivial (Below.refl _ _) (Nat.le_refl _) (by simp) ?_; (case hd => rfl); (case hg => rfl); (case hr => first | (go_simp; done) | (go_simp; rfl)); (case hp => exact (Reps.none _ _)); intro v226 w29 ho30 hb hg_ hnew_; clear hg_ hnew_; (first | rw [← Ny225.out] at ho30 | (simp only [Int.reduceToNat] at ho30; rw [← Ny225.out] at ho30)); have n0_ := Aside0.mk (Kd.R_lower ho30 (keep_size (w := w) (g := g) (row := none) (by repeat (first | (with_reducible first | exact HK.out | apply KeepBut.set_ | apply keep_drewN | apply keep_drew | apply keep_alloc) | exact HK.out)))); have n1_ := Aside0.mk (IsS75.below (by repeat (first | (with_reducible first | exact HI0.out | apply IsS75.alloc | apply IsS75.drewN | apply IsS75.drew | apply IsS75.set_1) | exact HI0.out)) hb); have n2_ := Aside0.mk (KeepBut.trans (by repeat (first | (with_reducible first | exact HK.out | apply KeepBut.set_ | apply keep_drewN | apply keep_drew | apply keep_alloc) | exact HK.out)) (KeepBut.of_below hb g none) (.inl rfl)); have n3_ := Aside0.mk (below_step (by repeat (first | (with_reducible first | exact HB.out | apply below_alloc | apply pw_below_drewN | apply below_drew1 | refine below_set ?_ (IsS75.ge HI0.out)) | exact HB.out)) hb); clear HI0; clear HK; clear HB; have HO227 := n0_; have HI0 := n1_; have HK := n2_; have HB := n3_; clear n0_ n1_ n2_ n3_; clear hb ho30) | ((with_reducible refine gate_callee (f := 46) rfl ?_); refine goesL_ (some 33) rfl rfl Try.func46 (by kernel_rfl) rfl #[.pointer (some ⟨g, 0, none⟩), .int .i64 7] rfl (by (try simp only [List.map_toArray, List.map_cons, List.map_nil]); first | done | rfl | (simp only [List.length_drop, List.length_take]; rfl)) ?_; (with_reducible refine (spec_l1Rd_pick.calls k g s0_0 t210 7 t228 t229 w0 _ ?side1 ?side2 A27.out).mono ?_); (case side1 => repeat (first | (with_reducible first | exact HI0.out | apply IsS75.alloc | apply IsS75.drewN | apply IsS75.drew | apply IsS75.set_1) | exact HI0.out)); (case side2 => repeat (first | (with_reducible first | exact HB.out | apply below_alloc | apply pw_below_drewN | apply below_drew1 | refine below_set ?_ (IsS75.ge HI0.out)) | exact HB.out)); rintro e w31 ⟨rfl, hi, hb, hk⟩; refine ⟨_, rfl, ?_⟩; have n0_ := Aside0.mk (Kd.R_mono (Kd.R_keep (IsS75.apart (show IsS75 w0 _ g s0_0 t210 from by repeat (first | (with_reducible first | exact HI0.out | apply IsS75.alloc | apply IsS75.drewN | apply IsS75.drew | apply IsS75.set_1) | exact HI0.out)) (by (with_reducible repeat (first | apply Kd.R_alloc | apply Kd.R_drewN | apply Kd.R_drew)); exact HO227.out) (by decide)) hk (fun _ h => h.2)) (fun _ h => h.1)); have n1_ := Aside0.mk (KeepBut.trans (by repeat (first | (with_reducible first | exact HK.out | apply KeepBut.set_ | apply keep_drewN | apply keep_drew | apply keep_alloc) | exact HK.out)) hk (.inl rfl)); have n2_ := Aside0.mk (hb); have n3_ := Aside0.mk (hi); clear HO227; clear HK; clear HB; clear HI0; have HO227 := n0_; have HK := n1_; have HB := n2_; have HI0 := n3_; clear n0_ n1_ n2_ n3_; (try clear hb); (try clear hb2); (try clear hk); (try clear hi)))
    go_loopg [5, 6] k (fun kq v5 v6 w' => ∃ (x5_1 : List Int) (x6_1 : Int) (x1001_1 : Int), v6 = .int .i64 x6_1 ∧ Aside0 (spec_l14Lengths.l0 kq x5_1 x6_1 s0_0 x1001_1 = some (r1, r2)) ∧ Aside0 (kq ≤ k) ∧ Aside0 (Kd.R (Kd.int .i64) 3 w' w.heap.size (fun _ => True) v5 x5_1) ∧ Aside0 (IsS75 w0 w' g s0_0 x1001_1) ∧ Aside0 (KeepBut w w' g none) ∧ Aside0 (Below w0.heap.size w0 w'))
    case atStart => exact ⟨(y225), (t228), (t229), (by first | rfl | (simp; done) | (simp [*]; done)), H', ⟨Nat.le_refl _⟩, ⟨by (with_reducible repeat (first | apply Kd.R_alloc | apply Kd.R_drewN | apply Kd.R_drew)); exact HO227.out⟩, ⟨by repeat (first | (with_reducible first | exact HI0.out | apply IsS75.alloc | apply IsS75.drewN | apply IsS75.drew | apply IsS75.set_1) | exact HI0.out)⟩, ⟨by repeat (first | (with_reducible first | exact HK.out | apply KeepBut.set_ | apply keep_drewN | apply keep_drew | apply keep_alloc) | exact HK.out)⟩, ⟨by repeat (first | (with_reducible first | exact HB.out | apply below_alloc | apply pw_below_drewN | apply below_drew1 | refine below_set ?_ (IsS75.ge HI0.out)) | exact HB.out)⟩⟩
    case round =>
      clear H'
      try clear c1
      try clear c2
      try clear p2
      try clear q2
      try clear hx2
      try clear hf2
      try clear c3
      try clear c3b0
      try clear c4
      try clear c10
      try clear c11
      try clear c11b0
      try clear c11b1
      try clear c16
      try clear c19
      try clear c19b0
      try clear c20
      try clear c20b0
      try clear p21
      try clear q21
      try clear hx21
      try clear hf21
      try clear hx21_0
      try clear p2
      try clear p21
      try clear q21
      obtain ⟨x5_1, x6_1, x1001_1, rfl, HA, HK1, HO_5, HI0, HK, HB⟩ := hrel
      cases gk with
      | zero => exact absurd HA.out (by simp [spec_l14Lengths.l0])
      | succ k1 =>
        have H := HA.out
        clear HA
        simp only [spec_l14Lengths.l0] at H
        by_cases c32 : x6_1 > 0
        · rw [if_pos c32] at H
          have c32b0 : decide (0 < x6_1) = true := decide_eq_true c32
          clear c32
          replace H := Option.bind_eq_some_iff.mp H
          obtain ⟨⟨t230, t231⟩, A330, H⟩ := H
          replace H : (if x5_1.length < 17592186044416 then (spec_l14Lengths.l0 k1 (x5_1 ++ [t230]) (wrap64 (x6_1 - 1)) s0_0 t231) else (none)) = some (r1, r2) := H
          have A33 := Aside0.mk A330
          clear A330
          by_cases c34 : x5_1.length < 17592186044416
          · rw [if_pos c34] at H
            have LMc34 := Aside0.mk c34
            clear c34
            obtain ⟨y232, hy232⟩ : ∃ y_ : List Int, y_ = (x5_1 ++ [t230]) := ⟨_, rfl⟩
            replace H : (spec_l14Lengths.l0 k1 y232 (wrap64 (x6_1 - 1)) s0_0 t231) = some (r1, r2) := by first | (rw [hy232]; with_reducible exact H) | (have H2_ := (Option.bind_some _ _).symm.trans H; rw [hy232]; with_reducible exact H2_) | (have H2_ := (Option.bind_some _ _).symm.trans H; with_reducible exact H2_) | with_reducible exact H | (rw [hy232]; exact H) | exact H
            have Ny232 := Aside0.mk hy232
            clear hy232
            have H' := Aside0.mk H
            clear H
            go_wp2_with (first | ((with_reducible refine gate_callee (f := 46) rfl ?_); refine goesL_ (some 40) rfl rfl Try.func46 (by kernel_rfl) rfl #[.pointer (some ⟨g, 0, none⟩), .int .i64 5] rfl (by (try simp only [List.map_toArray, List.map_cons, List.map_nil]); first | done | rfl | (simp only [List.length_drop, List.length_take]; rfl)) ?_; (with_reducible refine (spec_l1Rd_pick.calls k1 g s0_0 x1001_1 5 t230 t231 w0 _ ?side1 ?side2 A33.out).mono ?_); (case side1 => repeat (first | (with_reducible first | exact HI0.out | apply IsS75.alloc | apply IsS75.drewN | apply IsS75.drew | apply IsS75.set_1) | exact HI0.out)); (case side2 => repeat (first | (with_reducible first | exact HB.out | apply below_alloc | apply pw_below_drewN | apply below_drew1 | refine below_set ?_ (IsS75.ge HI0.out)) | exact HB.out)); rintro e w35 ⟨rfl, hi, hb, hk⟩; refine ⟨_, rfl, ?_⟩; have n0_ := Aside0.mk (Kd.R_mono (Kd.R_keep (IsS75.apart (show IsS75 w0 _ g s0_0 x1001_1 from by repeat (first | (with_reducible first | exact HI0.out | apply IsS75.alloc | apply IsS75.drewN | apply IsS75.drew | apply IsS75.set_1) | exact HI0.out)) (by (with_reducible repeat (first | apply Kd.R_alloc | apply Kd.R_drewN | apply Kd.R_drew)); exact HO_5.out) (by decide)) hk (fun _ h => h.2)) (fun _ h => h.1)); have n1_ := Aside0.mk (KeepBut.trans (by repeat (first | (with_reducible first | exact HK.out | apply KeepBut.set_ | apply keep_drewN | apply keep_drew | apply keep_alloc) | exact HK.out)) hk (.inl rfl)); have n2_ := Aside0.mk (hb); have n3_ := Aside0.mk (hi); clear HO_5; clear HK; clear HB; clear HI0; have HO_5 := n0_; have HK := n1_; have HB := n2_; have HI0 := n3_; clear n0_ n1_ n2_ n3_; (try clear hb); (try clear hb2); (try clear hk); (try clear hi)) | ((with_reducible refine gate_builtin (b := .append) (xs := #[.tmp 38, .tmp 41]) rfl ?_); at_builtin; refine Kd.R_append (Kd.int .i64) w.heap.size rfl (.tmp 38) (.tmp 41) 22 3 (.int .i64 0) 8 rfl Try.underlying22 info3 rfl (by decide) (by omega) u5 x5_1 t230 [.int .i64 t230] (fun _ => True) (fun _ => False) rfl rfl ?aP (fun _ hk => hk.elim) ?aF ?aO (Below.refl _ _) ?aS ?aL ?_; (case aP => exact rfl); (case aF => exact (fun _ _ => trivial)); (case aO => exact (by (with_reducible repeat (first | apply Kd.R_alloc | apply Kd.R_drewN | apply Kd.R_drew)); exact HO_5.out)); (case aS => exact (keep_size (w := w) (g := g) (row := none) (by repeat (first | (with_reducible first | exact HK.out | apply KeepBut.set_ | apply keep_drewN | apply keep_drew | apply keep_alloc) | exact HK.out)))); (case aL => have := LMc34.out; omega); intro v233 w36 ho hb hg hat; rw [← Ny232.out] at ho; have n0_ := Aside0.mk (IsS75.grown (by repeat (first | (with_reducible first | exact HI0.out | apply IsS75.alloc | apply IsS75.drewN | apply IsS75.drew | apply IsS75.set_1) | exact HI0.out)) hg (IsS75.own_ne HI0.out HO_5.out (by decide))); have n1_ := Aside0.mk (below_weaken (by repeat (first | (with_reducible first | exact HB.out | apply below_alloc | apply pw_below_drewN | apply below_drew1 | refine below_set ?_ (IsS75.ge HI0.out)) | exact HB.out)) HL.out hb); have n2_ := Aside0.mk (KeepBut.trans (by repeat (first | (with_reducible first | exact HK.out | apply KeepBut.set_ | apply keep_drewN | apply keep_drew | apply keep_alloc) | exact HK.out)) (KeepBut.of_grown hg g) (Kd.R_base2 HO_5.out)); have n3_ := Aside0.mk (ho); clear HI0; clear HB; clear HK; clear HO_5; have HI0 := n0_; have HB := n1_; have HK := n2_; have HO234 := n3_; clear n0_ n1_ n2_ n3_; clear ho hb hg hat))
            go_roundg k1
            case measure => have := HK1.out; omega
            case rel => exact ⟨(y232), (wrap64 (x6_1 - 1)), (t231), (by first | rfl | (simp; done) | (simp [*]; done)), H', ⟨by have := HK1.out; omega⟩, ⟨by (with_reducible repeat (first | apply Kd.R_alloc | apply Kd.R_drewN | apply Kd.R_drew)); exact HO234.out⟩, ⟨by repeat (first | (with_reducible first | exact HI0.out | apply IsS75.alloc | apply IsS75.drewN | apply IsS75.drew | apply IsS75.set_1) | exact HI0.out)⟩, ⟨by repeat (first | (with_reducible first | exact HK.out | apply KeepBut.set_ | apply keep_drewN | apply keep_drew | apply keep_alloc) | exact HK.out)⟩, ⟨by repeat (first | (with_reducible first | exact HB.out | apply below_alloc | apply pw_below_drewN | apply below_drew1 | refine below_set ?_ (IsS75.ge HI0.out)) | exact HB.out)⟩⟩
          · rw [if_neg c34] at H
            exact absurd H (by simp)
        · rw [if_neg c32] at H
          have c32b0 : decide (0 < x6_1) = false := decide_eq_false c32
          clear c32
          by_cases c37 : (x5_1.length : Int) > 0
          · rw [if_pos c37] at H
            have c37b0 : decide (0 < (x5_1.length : Int)) = true := decide_eq_true c37
            have c37b1 : decide (0 < x5_1.length) = true := decide_eq_true (by omega)
            clear c37
            replace H := Option.bind_eq_some_iff.mp H
            obtain ⟨⟨t235, t236⟩, A380, H⟩ := H
            replace H : (if t235 = 0 then ((some (([(-1), 16] : List Int) : List Int)).bind fun y237 => ((spec_l1Rd_pick.f k1 s0_0 t236 2).bind fun bt240 => (if 0 ≤ bt240.1 then (if bt240.1 < (y237.length : Int) then (if 0 < (x5_1.length : Int) then (some ((x5_1.set (0 : Int).toNat (rd y237 bt240.1)), bt240.2)) else (none)) else (none)) else (none)))) else (some (x5_1, t236))) = some (r1, r2) := H
            have A38 := Aside0.mk A380
            clear A380
            by_cases c39 : t235 = 0
            · rw [if_pos c39] at H
              have c39b0 : (t235 == 0) = true := beq_iff_eq.mpr c39
              have c39b1 : (t235 != 0) = false := bne_eq_false_iff_eq.mpr c39
              clear c39
              obtain ⟨y237, hy237⟩ : ∃ y_ : List Int, y_ = (([(-1), 16] : List Int)) := ⟨_, rfl⟩
              replace H : ((spec_l1Rd_pick.f k1 s0_0 t236 2).bind fun bt240 => (if 0 ≤ bt240.1 then (if bt240.1 < (y237.length : Int) then (if 0 < (x5_1.length : Int) then (some ((x5_1.set (0 : Int).toNat (rd y237 bt240.1)), bt240.2)) else (none)) else (none)) else (none))) = some (r1, r2) := by first | (rw [hy237]; with_reducible exact H) | (have H2_ := (Option.bind_some _ _).symm.trans H; rw [hy237]; with_reducible exact H2_) | (have H2_ := (Option.bind_some _ _).symm.trans H; with_reducible exact H2_) | with_reducible exact H | (rw [hy237]; exact H) | exact H
              have Ny237 := Aside0.mk hy237
              clear hy237
              replace H := Option.bind_eq_some_iff.mp H
              obtain ⟨⟨t240, t241⟩, A400, H⟩ := H
              replace H : (if 0 ≤ t240 then (if t240 < (y237.length : Int) then (if 0 < (x5_1.length : Int) then (some ((x5_1.set (0 : Int).toNat (rd y237 t240)), t241)) else (none)) else (none)) else (none)) = some (r1, r2) := H
              have A40 := Aside0.mk A400
              clear A400
              by_cases c41 : 0 ≤ t240
              · rw [if_pos c41] at H
                have c41b0 : decide (0 ≤ t240) = true := decide_eq_true c41
                clear c41
                by_cases c42 : t240 < (y237.length : Int)
                · rw [if_pos c42] at H
                  have c42b0 : decide (t240 < (y237.length : Int)) = true := decide_eq_true c42
                  clear c42
                  by_cases c43 : 0 < (x5_1.length : Int)
                  · rw [if_pos c43] at H
                    have c43b0 : decide (0 < (x5_1.length : Int)) = true := decide_eq_true c43
                    have c43b1 : decide (0 < x5_1.length) = true := decide_eq_true (by omega)
                    clear c43
                    obtain ⟨y243, hy243⟩ : ∃ y_ : List Int, y_ = (x5_1.set (0 : Int).toNat (rd y237 t240)) := ⟨_, rfl⟩
                    replace H : (some (y243, t241)) = some (r1, r2) := by first | (rw [hy243]; with_reducible exact H) | (have H2_ := (Option.bind_some _ _).symm.trans H; rw [hy243]; with_reducible exact H2_) | (have H2_ := (Option.bind_some _ _).symm.trans H; with_reducible exact H2_) | with_reducible exact H | (rw [hy243]; exact H) | exact H
                    have Ny243 := Aside0.mk hy243
                    clear hy243
                    simp only [Option.some.injEq, Prod.mk.injEq] at H
                    obtain ⟨rfl, rfl⟩ := H
                    obtain ⟨Ao45, co45, eo45⟩ := Kd.R_slice HO_5.out
                    subst eo45
                    go_wp2_with (first | (go_at_call 46; (with_reducible refine (spec_l1Rd_pick.calls k1 g s0_0 x1001_1 8 t235 t236 w0 _ ?side1 ?side2 A38.out).mono ?_); (case side1 => repeat (first | (with_reducible first | exact HI0.out | apply IsS75.alloc | apply IsS75.drewN | apply IsS75.drew | apply IsS75.set_1) | exact HI0.out)); (case side2 => repeat (first | (with_reducible first | exact HB.out | apply below_alloc | apply pw_below_drewN | apply below_drew1 | refine below_set ?_ (IsS75.ge HI0.out)) | exact HB.out)); rintro e w46 ⟨rfl, hi, hb, hk⟩; have n0_ := Aside0.mk (Kd.R_mono (Kd.R_keep (IsS75.apart (show IsS75 w0 _ g s0_0 x1001_1 from by repeat (first | (with_reducible first | exact HI0.out | apply IsS75.alloc | apply IsS75.drewN | apply IsS75.drew | apply IsS75.set_1) | exact HI0.out)) (by (with_reducible repeat (first | apply Kd.R_alloc | apply Kd.R_drewN | apply Kd.R_drew)); exact HO_5.out) (by decide)) hk (fun _ h => h.2)) (fun _ h => h.1)); have n1_ := Aside0.mk (KeepBut.trans (by repeat (first | (with_reducible first | exact HK.out | apply KeepBut.set_ | apply keep_drewN | apply keep_drew | apply keep_alloc) | exact HK.out)) hk (.inl rfl)); have n2_ := Aside0.mk (hb); have n3_ := Aside0.mk (hi); clear HO_5; clear HK; clear HB; clear HI0; have HO_5 := n0_; have HK := n1_; have HB := n2_; have HI0 := n3_; clear n0_ n1_ n2_ n3_; (try clear hb); (try clear hb2); (try clear hk); (try clear hi)) | ((with_reducible refine gate_dst (N := 52) rfl ?_); refine Kd.R_lit (Kd.int .i64) _ 3 ?hg (N := 52) ?hd (xs := ([(-1), 16] : List Int)) (inner := [.int .i64 (-1), .int .i64 16]) (ok := fun _ => True) (okp := fun _ => True) ?hr ?hp (fun _ hk => hk) trivial (Below.refl _ _) (Nat.le_refl _) (by simp) ?_; (case hd => rfl); (case hg => rfl); (case hr => first | (go_simp; done) | (go_simp; rfl)); (case hp => exact (Reps.one (show Kd.M (Kd.int .i64) _ _ _ (-1) [.int .i64 (-1)] from rfl) (Reps.one (show Kd.M (Kd.int .i64) _ _ _ 16 [.int .i64 16] from rfl) (Reps.none _ _)))); intro v238 w47 ho48 hb hg_ hnew_; clear hg_ hnew_; (first | rw [← Ny237.out] at ho48 | (simp only [Int.reduceToNat] at ho48; rw [← Ny237.out] at ho48)); have n0_ := Aside0.mk (Kd.R_elder' (by (with_reducible repeat (first | apply Kd.R_alloc | apply Kd.R_drewN | apply Kd.R_drew)); exact HO_5.out) (Kd.R_base ho48) hb); have n1_ := Aside0.mk (Kd.R_lower (Kd.R_new' ho48 (Kd.R_lt (by (with_reducible repeat (first | apply Kd.R_alloc | apply Kd.R_drewN | apply Kd.R_drew)); exact HO_5.out))) (keep_size (w := w) (g := g) (row := none) (by repeat (first | (with_reducible first | exact HK.out | apply KeepBut.set_ | apply keep_drewN | apply keep_drew | apply keep_alloc) | exact HK.out)))); have n2_ := Aside0.mk (IsS75.below (by repeat (first | (with_reducible first | exact HI0.out | apply IsS75.alloc | apply IsS75.drewN | apply IsS75.drew | apply IsS75.set_1) | exact HI0.out)) hb); have n3_ := Aside0.mk (KeepBut.trans (by repeat (first | (with_reducible first | exact HK.out | apply KeepBut.set_ | apply keep_drewN | apply keep_drew | apply keep_alloc) | exact HK.out)) (KeepBut.of_below hb g none) (.inl rfl)); have n4_ := Aside0.mk (below_step (by repeat (first | (with_reducible first | exact HB.out | apply below_alloc | apply pw_below_drewN | apply below_drew1 | refine below_set ?_ (IsS75.ge HI0.out)) | exact HB.out)) hb); clear HO_5; clear HI0; clear HK; clear HB; have HO_5 := n0_; have HO239 := n1_; have HI0 := n2_; have HK := n3_; have HB := n4_; clear n0_ n1_ n2_ n3_ n4_; clear hb ho48) | ((with_reducible refine gate_callee (f := 46) rfl ?_); refine goesL_ (some 54) rfl rfl Try.func46 (by kernel_rfl) rfl #[.pointer (some ⟨g, 0, none⟩), .int .i64 2] rfl (by (try simp only [List.map_toArray, List.map_cons, List.map_nil]); first | done | rfl | (simp only [List.length_drop, List.length_take]; rfl)) ?_; (with_reducible refine (spec_l1Rd_pick.calls k1 g s0_0 t236 2 t240 t241 w0 _ ?side1 ?side2 A40.out).mono ?_); (case side1 => repeat (first | (with_reducible first | exact HI0.out | apply IsS75.alloc | apply IsS75.drewN | apply IsS75.drew | apply IsS75.set_1) | exact HI0.out)); (case side2 => repeat (first | (with_reducible first | exact HB.out | apply below_alloc | apply pw_below_drewN | apply below_drew1 | refine below_set ?_ (IsS75.ge HI0.out)) | exact HB.out)); rintro e w49 ⟨rfl, hi, hb, hk⟩; refine ⟨_, rfl, ?_⟩; have n0_ := Aside0.mk (Kd.R_mono (Kd.R_keep (IsS75.apart (show IsS75 w0 _ g s0_0 t236 from by repeat (first | (with_reducible first | exact HI0.out | apply IsS75.alloc | apply IsS75.drewN | apply IsS75.drew | apply IsS75.set_1) | exact HI0.out)) (by (with_reducible repeat (first | apply Kd.R_alloc | apply Kd.R_drewN | apply Kd.R_drew)); exact HO_5.out) (by decide)) hk (fun _ h => h.2)) (fun _ h => h.1)); have n1_ := Aside0.mk (Kd.R_mono (Kd.R_keep (IsS75.apart (show IsS75 w0 _ g s0_0 t236 from by repeat (first | (with_reducible first | exact HI0.out | apply IsS75.alloc | apply IsS75.drewN | apply IsS75.drew | apply IsS75.set_1) | exact HI0.out)) (by (with_reducible repeat (first | apply Kd.R_alloc | apply Kd.R_drewN | apply Kd.R_drew)); exact HO239.out) (by decide)) hk (fun _ h => h.2)) (fun _ h => h.1)); have n2_ := Aside0.mk (KeepBut.trans (by repeat (first | (with_reducible first | exact HK.out | apply KeepBut.set_ | apply keep_drewN | apply keep_drew | apply keep_alloc) | exact HK.out)) hk (.inl rfl)); have n3_ := Aside0.mk (hb); have n4_ := Aside0.mk (hi); clear HO_5; clear HO239; clear HK; clear HB; clear HI0; have HO_5 := n0_; have HO239 := n1_; have HK := n2_; have HB := n3_; have HI0 := n4_; clear n0_ n1_ n2_ n3_ n4_; (try clear hb); (try clear hb2); (try clear hk); (try clear hi); obtain ⟨Ao50, co50, eo50⟩ := Kd.R_slice HO239.out; subst eo50; have p242 : 0 ≤ (t240 : Int) := of_decide_eq_true (by first | (with_reducible assumption) | assumption); have q242 : t240 < (y237.length : Int) := of_decide_eq_true (by first | (with_reducible assumption) | assumption); obtain ⟨ad242, e242, hx242_0⟩ := Kd.at_int (Kd.R_reads' HO239.out).2.2 t240 p242 q242; cases e242; replace p242 := eq_true p242; replace q242 := eq_true q242; have p44 : 0 ≤ (0 : Int) := (by omega); have q44 : (0 : Int) < ((x5_1.length : Int) : Int) := of_decide_eq_true (by first | (with_reducible assumption) | assumption); have qi44 : (0 < x5_1.length) = True := eq_true (by omega); obtain ⟨go44, co44, eo44, gb44, gl44, cl44, HG44⟩ := Kd.R_form HO_5.out (by omega); (first | cases eo44 | (injection eo44 with ea_ en_ ec_; (first | subst ea_ | (injection ea_ with ea_; subst ea_)); subst ec_; clear en_)); have GB44 := Aside0.mk gb44; have GG44 := Aside0.mk HG44; clear gb44 gl44 HG44; obtain ⟨hx44_0, hf44_0⟩ := Kd.R_celln 0 HO_5.out (0 : Int) p44 q44; (try rw [show ((0 : Int)).toNat = 0 from rfl] at hx44_0); (try simp only [Nat.reduceMul, Nat.zero_mul, Nat.zero_add, Nat.reduceAdd] at hx44_0); (try rw [show ((0 : Int)).toNat = 0 from rfl] at hf44_0); (try simp only [Nat.reduceMul, Nat.zero_mul, Nat.zero_add, Nat.reduceAdd] at hf44_0); replace p44 := eq_true p44; replace q44 := eq_true q44; have n_ := Aside0.mk (Kd.R_mono (ok' := (fun k_ => some k_ ≠ (.slice (some ad242) y237.length co50 : Value).ownBlock)) HO_5.out (fun k_ hk => hk.2)); clear HO_5; have HO_5 := n_; clear n_; obtain ⟨hy51_, hz51_⟩ := Kd.R_celln 0 HO_5.out (0 : Int) (by omega) (of_decide_eq_true (by first | (with_reducible assumption) | assumption)); (try simp only [Int.reduceToNat, Int.toNat_zero, Int.toNat_ofNat, Nat.reduceMul, Nat.zero_mul, Nat.zero_add] at hy51_ hz51_); (try rw [show ((0 : Int)).toNat = 0 from rfl] at hy51_); (try rw [show ((0 : Int)).toNat = 0 from rfl] at hz51_); have HP51 := Kd.R_putg HO_5.out (0 : Int) (rd y237 t240)) | ((with_reducible refine gate_store (t := 3) (p := 57) rfl ?_); refine store_event (t := 3) (p := 57) (v := ?vo_w52) (w1 := (w49.setCell ⟨go44, (0 : Int).toNat, none⟩ (.int .i64 (rd y237 t240)))) ?hg ?ho ?hn ?hr ?_; (case ho => rfl); (case hg => rfl); (case hn => rfl); (case hr => first | (go_simp; done) | (go_simp; rfl)); intro w52 hw; have hg : w49.grownBy w52 (some go44) := (by rw [hw]; exact HP51.2); have hp_ : Kd.R (Kd.int .i64) 3 w52 w.heap.size (fun k_ => some k_ ≠ (.slice (some ad242) y237.length co50 : Value).ownBlock) (.slice (some ⟨go44, 0, none⟩) x5_1.length co45) y243 := (by rw [hw, Ny243.out]; exact HP51.1); clear HP51; have n0_ := Aside0.mk (hp_); have n1_ := Aside0.mk (IsS75.grown (by repeat (first | (with_reducible first | exact HI0.out | apply IsS75.alloc | apply IsS75.drewN | apply IsS75.drew | apply IsS75.set_1) | exact HI0.out)) hg (IsS75.own_ne HI0.out HO_5.out (by decide))); have n2_ := Aside0.mk (Kd.R_after (v := (.slice (some ⟨go44, 0, none⟩) x5_1.length co45)) (v1 := (.slice (some ⟨go44, 0, none⟩) x5_1.length co45)) (ok := (fun _ => True)) (by (with_reducible repeat (first | apply Kd.R_alloc | apply Kd.R_drewN | apply Kd.R_drew)); exact HO239.out) hg (.inl rfl)); have n3_ := Aside0.mk ((by rw [hw]; exact below_set (HB.out) (Nat.le_trans HL.out GB44.out) : Below w0.heap.size w0 w52)); have n4_ := Aside0.mk (KeepBut.trans (by repeat (first | (with_reducible first | exact HK.out | apply KeepBut.set_ | apply keep_drewN | apply keep_drew | apply keep_alloc) | exact HK.out)) (KeepBut.of_grown hg g) (Kd.R_base2 HO_5.out)); clear HO_5; clear HI0; clear HO239; clear HB; clear HK; have HO_5 := n0_; have HI0 := n1_; have HO239 := n2_; have HB := n3_; have HK := n4_; clear n0_ n1_ n2_ n3_ n4_; clear hg hw hp_))
                    go_ret
                    exact ⟨_, by first | rfl | (simp [errW_none, errW_some] <;> rfl) | (simp [*, errW_none, errW_some] <;> rfl), by (with_reducible repeat (first | apply Kd.R_alloc | apply Kd.R_drewN | apply Kd.R_drew)); exact Kd.R_mono HO_5.out (fun _ hk => trivial), by repeat (first | (with_reducible first | exact HI0.out | apply IsS75.alloc | apply IsS75.drewN | apply IsS75.drew | apply IsS75.set_1) | exact HI0.out), by repeat (first | (with_reducible first | exact HB.out | apply below_alloc | apply pw_below_drewN | apply below_drew1 | refine below_set ?_ (IsS75.ge HI0.out)) | exact HB.out), by repeat (first | (with_reducible first | exact HK.out | apply KeepBut.set_ | apply keep_drewN | apply keep_drew | apply keep_alloc) | exact HK.out)⟩
                  · rw [if_neg c43] at H
                    exact absurd H (by simp)
                · rw [if_neg c42] at H
                  exact absurd H (by simp)
              · rw [if_neg c41] at H
                exact absurd H (by simp)
            · rw [if_neg c39] at H
              have c39b0 : (t235 == 0) = false := beq_eq_false_iff_ne.mpr c39
              have c39b1 : (t235 != 0) = true := bne_iff_ne.mpr c39
              simp only [Option.some.injEq, Prod.mk.injEq] at H
              obtain ⟨rfl, rfl⟩ := H
              obtain ⟨Ao53, co53, eo53⟩ := Kd.R_slice HO_5.out
              subst eo53
              go_wp2_with (first | (go_at_call 46; (with_reducible refine (spec_l1Rd_pick.calls k1 g s0_0 x1001_1 8 t235 t236 w0 _ ?side1 ?side2 A38.out).mono ?_); (case side1 => repeat (first | (with_reducible first | exact HI0.out | apply IsS75.alloc | apply IsS75.drewN | apply IsS75.drew | apply IsS75.set_1) | exact HI0.out)); (case side2 => repeat (first | (with_reducible first | exact HB.out | apply below_alloc | apply pw_below_drewN | apply below_drew1 | refine below_set ?_ (IsS75.ge HI0.out)) | exact HB.out)); rintro e w54 ⟨rfl, hi, hb, hk⟩; have n0_ := Aside0.mk (Kd.R_mono (Kd.R_keep (IsS75.apart (show IsS75 w0 _ g s0_0 x1001_1 from by repeat (first | (with_reducible first | exact HI0.out | apply IsS75.alloc | apply IsS75.drewN | apply IsS75.drew | apply IsS75.set_1) | exact HI0.out)) (by (with_reducible repeat (first | apply Kd.R_alloc | apply Kd.R_drewN | apply Kd.R_drew)); exact HO_5.out) (by decide)) hk (fun _ h => h.2)) (fun _ h => h.1)); have n1_ := Aside0.mk (KeepBut.trans (by repeat (first | (with_reducible first | exact HK.out | apply KeepBut.set_ | apply keep_drewN | apply keep_drew | apply keep_alloc) | exact HK.out)) hk (.inl rfl)); have n2_ := Aside0.mk (hb); have n3_ := Aside0.mk (hi); clear HO_5; clear HK; clear HB; clear HI0; have HO_5 := n0_; have HK := n1_; have HB := n2_; have HI0 := n3_; clear n0_ n1_ n2_ n3_; (try clear hb); (try clear hb2); (try clear hk); (try clear hi)))
              go_ret
              exact ⟨_, by first | rfl | (simp [errW_none, errW_some] <;> rfl) | (simp [*, errW_none, errW_some] <;> rfl), by (with_reducible repeat (first | apply Kd.R_alloc | apply Kd.R_drewN | apply Kd.R_drew)); exact HO_5.out, by repeat (first | (with_reducible first | exact HI0.out | apply IsS75.alloc | apply IsS75.drewN | apply IsS75.drew | apply IsS75.set_1) | exact HI0.out), by repeat (first | (with_reducible first | exact HB.out | apply below_alloc | apply pw_below_drewN | apply below_drew1 | refine below_set ?_ (IsS75.ge HI0.out)) | exact HB.out), by repeat (first | (with_reducible first | exact HK.out | apply KeepBut.set_ | apply keep_drewN | apply keep_drew | apply keep_alloc) | exact HK.out)⟩
          · rw [if_neg c37] at H
            have c37b0 : decide (0 < (x5_1.length : Int)) = false := decide_eq_false c37
            have c37b1 : decide (0 < x5_1.length) = false := decide_eq_false (by omega)
            clear c37
            simp only [Option.some.injEq, Prod.mk.injEq] at H
            obtain ⟨rfl, rfl⟩ := H
            obtain ⟨Ao55, co55, eo55⟩ := Kd.R_slice HO_5.out
            subst eo55
            go_wp2
            go_ret
            exact ⟨_, by first | rfl | (simp [errW_none, errW_some] <;> rfl) | (simp [*, errW_none, errW_some] <;> rfl), by (with_reducible repeat (first | apply Kd.R_alloc | apply Kd.R_drewN | apply Kd.R_drew)); exact HO_5.out, by repeat (first | (with_reducible first | exact HI0.out | apply IsS75.alloc | apply IsS75.drewN | apply IsS75.drew | apply IsS75.set_1) | exact HI0.out), by repeat (first | (with_reducible first | exact HB.out | apply below_alloc | apply pw_below_drewN | apply below_drew1 | refine below_set ?_ (IsS75.ge HI0.out)) | exact HB.out), by repeat (first | (with_reducible first | exact HK.out | apply KeepBut.set_ | apply keep_drewN | apply keep_drew | apply keep_alloc) | exact HK.out)⟩

/-! ### spec_DrawCodeMake: function 21 -/
def spec_DrawCodeMake.f (k : Nat) (l0 : List Int) : Option (List Int) := (spec_l1Open.f l0).bind fun bt244 => ((spec_l14Lengths.f k bt244.1 bt244.2).bind fun bt247 => (some bt247.1))
theorem spec_DrawCodeMake.mono : ∀ a0 k, LeO (spec_DrawCodeMake.f k a0) (spec_DrawCodeMake.f (k + 1) a0) := by
  intro a0 k
  unfold spec_DrawCodeMake.f
  repeat' first
      | (with_reducible exact spec_l14Lengths.mono _ _ _)
      | (with_reducible exact LeO.refl _)
      | (with_reducible exact LeO.none _)
      | (with_reducible refine LeO.ite ?_ ?_)
      | (with_reducible refine LeO.bind ?_ (fun _ => ?_))
      | exact spec_l14Lengths.mono _ _ _
      | exact LeO.none _
      | refine LeO.ite ?_ ?_
      | refine LeO.bind ?_ (fun _ => ?_)
set_option maxHeartbeats 8000000 in
set_option maxRecDepth 100000 in
theorem spec_DrawCodeMake.calls (k : Nat) (A0 : Option Addr) (c0 : Nat) (l0 : List Int) (r : List Int) (w : World) (hr0 : Kd.C (Kd.int .u8) w A0 l0.length l0) (hc0 : l0.length ≤ c0) (h : spec_DrawCodeMake.f k l0 = some r) :
    Calls Try.prog 21 #[.slice A0 l0.length c0] w fun e w' => ∃ v0_ : Value, e = .returned (v0_) ∧ Kd.R (Kd.int .i64) 3 w' w.heap.size (fun _ => True) v0_ r ∧ Below w.heap.size w w' := by
  have HR0 := Aside0.mk hr0
  have HC0 := Aside0.mk hc0
  clear hr0 hc0
  have HB := Aside0.mk (Below.refl w.heap.size w)
  have H : ((spec_l1Open.f l0).bind fun bt244 => ((spec_l14Lengths.f k bt244.1 bt244.2).bind fun bt247 => (some bt247.1))) = some r := h
  clear h
  replace H := Option.bind_eq_some_iff.mp H
  obtain ⟨⟨t244, t245⟩, A20, H⟩ := H
  replace H : ((spec_l14Lengths.f k t244 t245).bind fun bt247 => (some bt247.1)) = some r := H
  have A2 := Aside0.mk A20
  clear A20
  replace H := Option.bind_eq_some_iff.mp H
  obtain ⟨⟨t247, t250⟩, A30, H⟩ := H
  replace H : (some t247) = some r := H
  have A3 := Aside0.mk A30
  clear A30
  obtain rfl := Option.some.inj H
  go_enter Try.func21, Try.ntmps21
  go_wp2_with (first | ((with_reducible refine gate_callee (f := 44) rfl ?_); refine goesL_ (some 4) rfl rfl Try.func44 (by kernel_rfl) rfl #[.slice A0 l0.length c0] rfl (by (try simp only [List.map_toArray, List.map_cons, List.map_nil]); first | done | rfl | (simp only [List.length_drop, List.length_take]; rfl)) ?_; (with_reducible refine (spec_l1Open.calls _ _ l0 t244 t245 w _ ?side1 ?side2 ?side3 A2.out).mono ?_); (case side1 => repeat (first | (with_reducible first | exact HB.out | apply below_alloc | apply pw_below_drewN | apply below_drew1) | exact HB.out)); (case side2 => exact HR0.out); (case side3 => exact HC0.out); rintro e w4 ⟨g246, rfl, hi, hb, hb2⟩; refine ⟨_, rfl, ?_⟩; have n0_ := Aside0.mk (hb); have n1_ := Aside0.mk (hi); clear HB; have HB := n0_; have HI246 := n1_; clear n0_ n1_; (try clear hb); (try clear hb2); (try clear hk); (try clear hi)) | ((with_reducible refine gate_callee (f := 48) rfl ?_); refine goesL_ (some 5) rfl rfl Try.func48 (by kernel_rfl) rfl #[.pointer (some ⟨g246, 0, none⟩)] rfl (by (try simp only [List.map_toArray, List.map_cons, List.map_nil]); first | done | rfl | (simp only [List.length_drop, List.length_take]; rfl)) ?_; (with_reducible refine (spec_l14Lengths.calls k g246 t244 t245 t247 t250 w _ ?side1 ?side2 A3.out).mono ?_); (case side1 => repeat (first | (with_reducible first | exact HI246.out | apply IsS75.alloc | apply IsS75.drewN | apply IsS75.drew | apply IsS75.set_1) | exact HI246.out)); (case side2 => repeat (first | (with_reducible first | exact HB.out | apply below_alloc | apply pw_below_drewN | apply below_drew1 | refine below_set ?_ (IsS75.ge HI246.out)) | exact HB.out)); rintro e w5 ⟨v248, rfl, ho0, hi, hb, hk⟩; refine ⟨_, rfl, ?_⟩; have n0_ := Aside0.mk (Kd.R_lower ho0 (below_size (by repeat (first | (with_reducible first | exact HB.out | apply below_alloc | apply pw_below_drewN | apply below_drew1 | refine below_set ?_ (IsS75.ge HI246.out)) | exact HB.out)))); have n1_ := Aside0.mk (hb); have n2_ := Aside0.mk (hi); clear HB; clear HI246; have HO249 := n0_; have HB := n1_; have HI246 := n2_; clear n0_ n1_ n2_; (try clear hb); (try clear hb2); (try clear hk); (try clear hi); (try clear ho0)))
  go_ret
  exact ⟨_, by first | rfl | (simp [errW_none, errW_some] <;> rfl) | (simp [*, errW_none, errW_some] <;> rfl), by (with_reducible repeat (first | apply Kd.R_alloc | apply Kd.R_drewN | apply Kd.R_drew)); exact HO249.out, by repeat (first | (with_reducible first | exact HB.out | apply below_alloc | apply pw_below_drewN | apply below_drew1 | refine below_set ?_ (IsS75.ge HI246.out)) | exact HB.out)⟩

/-! ### impl_CodeCost: function 22 -/
mutual
def impl_CodeCost.j0 : Nat → List Int → List Int → Bool → Option (Int)
  | 0, _, _, _ => none
  | k + 1, x0, x1, x17 => if x17 = true then (some 0) else (impl_CodeCost.l0 k x1 0 x0 (x0.length : Int) 0)
def impl_CodeCost.l0 : Nat → List Int → Int → List Int → Int → Int → Option (Int)
  | 0, _, _, _, _, _ => none
  | k + 1, x1, x5, x18, x19, x20 => if x20 < x19 then (if 0 ≤ x20 then (if x20 < (x18.length : Int) then ((impl_in.f (rd x18 x20) 0 9000).bind fun t253 => (if t253 = true then (if x20 < (x1.length : Int) then (impl_CodeCost.l0 k x1 (wrap64 (x5 + (wrap64 ((rd x18 x20) * (rd x1 x20))))) x18 x19 (wrap64 (x20 + 1))) else (none)) else (some 0))) else (none)) else (none)) else (some x5)
end
def impl_CodeCost.f (k : Nat) (l0 : List Int) (l1 : List Int) : Option (Int) := (impl_CodeOk.f k l1).bind fun t251 => (if t251 = true then (impl_CodeCost.j0 k l0 l1 ((l0.length : Int) != (l1.length : Int))) else (impl_CodeCost.j0 k l0 l1 true))
theorem impl_CodeCost.mono_l : ∀ k, (∀ y0 y1 y2, LeO (impl_CodeCost.j0 k y0 y1 y2) (impl_CodeCost.j0 (k + 1) y0 y1 y2)) ∧ (∀ y0 y1 y2 y3 y4, LeO (impl_CodeCost.l0 k y0 y1 y2 y3 y4) (impl_CodeCost.l0 (k + 1) y0 y1 y2 y3 y4))
  | 0 => ⟨fun _ _ _ r h => by simp [impl_CodeCost.j0] at h, fun _ _ _ _ _ r h => by simp [impl_CodeCost.l0] at h⟩
  | k + 1 => by
    obtain ⟨ih0, ih1⟩ := impl_CodeCost.mono_l k
    refine ⟨?_, ?_⟩
    · intro y0 y1 y2
      unfold impl_CodeCost.j0
      repeat' first
      | (with_reducible exact ih0 _ _ _)
      | (with_reducible exact ih1 _ _ _ _ _)
      | (with_reducible exact impl_CodeOk.mono _ _)
      | (with_reducible exact LeO.refl _)
      | (with_reducible exact LeO.none _)
      | (with_reducible refine LeO.ite ?_ ?_)
      | (with_reducible refine LeO.bind ?_ (fun _ => ?_))
      | exact ih0 _ _ _
      | exact ih1 _ _ _ _ _
      | exact impl_CodeOk.mono _ _
      | exact LeO.none _
      | refine LeO.ite ?_ ?_
      | refine LeO.bind ?_ (fun _ => ?_)
    · intro y0 y1 y2 y3 y4
      unfold impl_CodeCost.l0
      repeat' first
      | (with_reducible exact ih0 _ _ _)
      | (with_reducible exact ih1 _ _ _ _ _)
      | (with_reducible exact impl_CodeOk.mono _ _)
      | (with_reducible exact LeO.refl _)
      | (with_reducible exact LeO.none _)
      | (with_reducible refine LeO.ite ?_ ?_)
      | (with_reducible refine LeO.bind ?_ (fun _ => ?_))
      | exact ih0 _ _ _
      | exact ih1 _ _ _ _ _
      | exact impl_CodeOk.mono _ _
      | exact LeO.none _
      | refine LeO.ite ?_ ?_
      | refine LeO.bind ?_ (fun _ => ?_)
theorem impl_CodeCost.mono : ∀ a0 a1 k, LeO (impl_CodeCost.f k a0 a1) (impl_CodeCost.f (k + 1) a0 a1) := by
  intro a0 a1 k
  obtain ⟨ih0, ih1⟩ := impl_CodeCost.mono_l k
  unfold impl_CodeCost.f
  repeat' first
      | (with_reducible exact ih0 _ _ _)
      | (with_reducible exact ih1 _ _ _ _ _)
      | (with_reducible exact impl_CodeOk.mono _ _)
      | (with_reducible exact LeO.refl _)
      | (with_reducible exact LeO.none _)
      | (with_reducible refine LeO.ite ?_ ?_)
      | (with_reducible refine LeO.bind ?_ (fun _ => ?_))
      | exact ih0 _ _ _
      | exact ih1 _ _ _ _ _
      | exact impl_CodeOk.mono _ _
      | exact LeO.none _
      | refine LeO.ite ?_ ?_
      | refine LeO.bind ?_ (fun _ => ?_)
set_option maxHeartbeats 8000000 in
set_option maxRecDepth 100000 in
theorem impl_CodeCost.calls (k : Nat) (A0 : Option Addr) (c0 : Nat) (l0 : List Int) (A1 : Option Addr) (c1 : Nat) (l1 : List Int) (r : Int) (w : World) (hr0 : Kd.C (Kd.int .i64) w A0 l0.length l0) (hc0 : l0.length ≤ c0) (hr1 : Kd.C (Kd.int .i64) w A1 l1.length l1) (hc1 : l1.length ≤ c1) (h : impl_CodeCost.f k l0 l1 = some r) :
    Calls Try.prog 22 #[.slice A0 l0.length c0, .slice A1 l1.length c1] w fun e w' => e = .returned (.int .i64 r) ∧ Drawn0 w w' := by
  have HR0 := Aside0.mk hr0
  have HC0 := Aside0.mk hc0
  clear hr0 hc0
  have HR1 := Aside0.mk hr1
  have HC1 := Aside0.mk hc1
  clear hr1 hc1
  have H : ((impl_CodeOk.f k l1).bind fun t251 => (if t251 = true then (impl_CodeCost.j0 k l0 l1 ((l0.length : Int) != (l1.length : Int))) else (impl_CodeCost.j0 k l0 l1 true))) = some r := h
  clear h
  have HC3 := Aside0.mk H
  clear H
  go_enter Try.func22, Try.ntmps22
  go_upto_region 1 with (fail)
  go_cut [17] (fun v17 wc => ∃ (kq : Nat) (x17_2 : Bool), v17 = .bool x17_2 ∧ Aside0 (impl_CodeCost.j0 kq l0 l1 x17_2 = some r) ∧ Aside0 (kq ≤ k) ∧ Drawn0 w wc)
  case first =>
    have H := HC3.out
    clear HC3
    replace H := Option.bind_eq_some_iff.mp H
    obtain ⟨t251, A40, H⟩ := H
    replace H : (if t251 = true then (impl_CodeCost.j0 k l0 l1 ((l0.length : Int) != (l1.length : Int))) else (impl_CodeCost.j0 k l0 l1 true)) = some r := H
    have A4 := Aside0.mk A40
    clear A40
    by_cases c5 : t251 = true
    · subst c5
      have H1 : (impl_CodeCost.j0 k l0 l1 ((l0.length : Int) != (l1.length : Int))) = some r := by first | (rw [if_pos rfl] at H; exact H) | rfl
      clear H
      have H := H1
      clear H1
      have H' := Aside0.mk H
      clear H
      go_wp2_with (first | ((with_reducible refine gate_callee (f := 18) rfl ?_); refine goesL_ (some 9) rfl rfl Try.func18 (by kernel_rfl) rfl #[.slice A1 l1.length c1] rfl (by (try simp only [List.map_toArray, List.map_cons, List.map_nil]); first | done | rfl | (simp only [List.length_drop, List.length_take]; rfl)) ?_; (with_reducible refine (impl_CodeOk.calls k _ _ l1 true _ ?side1 ?side2 A4.out).mono ?_); (case side1 => repeat (first | exact HR1.out | (with_reducible refine Kd.C_alloc ?_ _) | (with_reducible refine Kd.C_drewN ?_ _) | (with_reducible refine Kd.C_drew ?_))); (case side2 => exact HC1.out); rintro e w' ⟨rfl, ⟨nd, rfl⟩⟩; refine ⟨_, rfl, ?_⟩))
      go_meet
      case rel => exact ⟨_, (((l0.length : Int) != (l1.length : Int))), (by first | rfl | (simp; done) | (simp [*]; done)), H', ⟨by first | omega | exact Nat.le_refl _⟩, by repeat (first | exact Drawn0.refl _ | apply Drawn0.step)⟩
    · replace c5 := Bool.eq_false_iff.mpr c5
      subst c5
      have H1 : (impl_CodeCost.j0 k l0 l1 true) = some r := by first | (rw [if_neg (show ¬ (false = true) by decide)] at H; exact H) | rfl
      clear H
      have H := H1
      clear H1
      have H' := Aside0.mk H
      clear H
      go_wp2_with (first | ((with_reducible refine gate_callee (f := 18) rfl ?_); refine goesL_ (some 9) rfl rfl Try.func18 (by kernel_rfl) rfl #[.slice A1 l1.length c1] rfl (by (try simp only [List.map_toArray, List.map_cons, List.map_nil]); first | done | rfl | (simp only [List.length_drop, List.length_take]; rfl)) ?_; (with_reducible refine (impl_CodeOk.calls k _ _ l1 false _ ?side1 ?side2 A4.out).mono ?_); (case side1 => repeat (first | exact HR1.out | (with_reducible refine Kd.C_alloc ?_ _) | (with_reducible refine Kd.C_drewN ?_ _) | (with_reducible refine Kd.C_drew ?_))); (case side2 => exact HC1.out); rintro e w' ⟨rfl, ⟨nd, rfl⟩⟩; refine ⟨_, rfl, ?_⟩))
      go_meet
      case rel => exact ⟨_, (true), (by first | rfl | (simp; done) | (simp [*]; done)), H', ⟨by first | omega | exact Nat.le_refl _⟩, by repeat (first | exact Drawn0.refl _ | apply Drawn0.step)⟩
  case rest =>
    clear HC3
    try clear c1
    try clear c2
    try clear p2
    try clear c5
    obtain ⟨kq, x17_2, rfl, HA, HJ2, ⟨mc2, rfl⟩⟩ := hcut
    cases kq with
    | zero => exact absurd HA.out (by simp [impl_CodeCost.j0])
    | succ kj2 =>
      have H := HA.out
      clear HA
      simp only [impl_CodeCost.j0] at H
      by_cases c6 : x17_2 = true
      · subst c6
        have H1 : (some 0) = some r := by first | (rw [if_pos rfl] at H; exact H) | rfl
        clear H
        have H := H1
        clear H1
        obtain rfl := Option.some.inj H
        go_wp2
        go_ret
        exact ⟨by first | rfl | (simp; done) | (simp [*]; done), by repeat (first | exact Drawn0.refl _ | apply Drawn0.step)⟩
      · replace c6 := Bool.eq_false_iff.mpr c6
        subst c6
        have H1 : (impl_CodeCost.l0 kj2 l1 0 l0 (l0.length : Int) 0) = some r := by first | (rw [if_neg (show ¬ (false = true) by decide)] at H; exact H) | rfl
        clear H
        have H := H1
        clear H1
        have H' := Aside0.mk H
        clear H
        go_wp2
        go_loopg [5, 20] kj2 (fun kq v5 v20 w' => ∃ (x5_2 : Int) (x20_2 : Int), v5 = .int .i64 x5_2 ∧ v20 = .int .i64 x20_2 ∧ Aside0 (impl_CodeCost.l0 kq l1 x5_2 l0 (l0.length : Int) x20_2 = some r) ∧ Aside0 (kq ≤ kj2) ∧ Drawn0 w w')
        case atStart => exact ⟨(0), (0), (by first | rfl | (simp; done) | (simp [*]; done)), (by first | rfl | (simp; done) | (simp [*]; done)), H', ⟨Nat.le_refl _⟩, by repeat (first | exact Drawn0.refl _ | apply Drawn0.step)⟩
        case round =>
          clear H'
          try clear c1
          try clear c2
          try clear p2
          try clear c5
          try clear c6
          try clear p2
          obtain ⟨x5_2, x20_2, rfl, rfl, HA, HK2, ⟨m2, rfl⟩⟩ := hrel
          cases gk with
          | zero => exact absurd HA.out (by simp [impl_CodeCost.l0])
          | succ k2 =>
            have H := HA.out
            clear HA
            simp only [impl_CodeCost.l0] at H
            by_cases c7 : x20_2 < (l0.length : Int)
            · rw [if_pos c7] at H
              have c7b0 : decide (x20_2 < (l0.length : Int)) = true := decide_eq_true c7
              clear c7
              by_cases c8 : 0 ≤ x20_2
              · rw [if_pos c8] at H
                have c8b0 : decide (0 ≤ x20_2) = true := decide_eq_true c8
                clear c8
                by_cases c9 : x20_2 < (l0.length : Int)
                · rw [if_pos c9] at H
                  have c9b0 : decide (x20_2 < (l0.length : Int)) = true := decide_eq_true c9
                  clear c9
                  replace H := Option.bind_eq_some_iff.mp H
                  obtain ⟨t253, A100, H⟩ := H
                  replace H : (if t253 = true then (if x20_2 < (l1.length : Int) then (impl_CodeCost.l0 k2 l1 (wrap64 (x5_2 + (wrap64 ((rd l0 x20_2) * (rd l1 x20_2))))) l0 (l0.length : Int) (wrap64 (x20_2 + 1))) else (none)) else (some 0)) = some r := H
                  have A10 := Aside0.mk A100
                  clear A100
                  by_cases c11 : t253 = true
                  · subst c11
                    have H1 : (if x20_2 < (l1.length : Int) then (impl_CodeCost.l0 k2 l1 (wrap64 (x5_2 + (wrap64 ((rd l0 x20_2) * (rd l1 x20_2))))) l0 (l0.length : Int) (wrap64 (x20_2 + 1))) else (none)) = some r := by first | (rw [if_pos rfl] at H; exact H) | rfl
                    clear H
                    have H := H1
                    clear H1
                    by_cases c12 : x20_2 < (l1.length : Int)
                    · rw [if_pos c12] at H
                      have c12b0 : decide (x20_2 < (l1.length : Int)) = true := decide_eq_true c12
                      clear c12
                      have H' := Aside0.mk H
                      clear H
                      have p252 : 0 ≤ (x20_2 : Int) := of_decide_eq_true (by first | (with_reducible assumption) | assumption)
                      have q252 : x20_2 < (l0.length : Int) := of_decide_eq_true (by first | (with_reducible assumption) | assumption)
                      obtain ⟨ad252, e252, hx252_0⟩ := Kd.at_int HR0.out x20_2 p252 q252
                      cases e252
                      replace p252 := eq_true p252
                      replace q252 := eq_true q252
                      go_wp2_with (first | ((with_reducible refine gate_callee (f := 39) rfl ?_); refine goesL_ (some 26) rfl rfl Try.func39 (by kernel_rfl) rfl #[.int .i64 (rd l0 x20_2), .int .i64 0, .int .i64 9000] rfl (by (try simp only [List.map_toArray, List.map_cons, List.map_nil]); first | done | rfl | (simp only [List.length_drop, List.length_take]; rfl)) ?_; (with_reducible refine (impl_in.calls (rd l0 x20_2) 0 9000 true _ A10.out).mono ?_); rintro e w' ⟨rfl, ⟨nd, rfl⟩⟩; refine ⟨_, rfl, ?_⟩; have p254 : 0 ≤ (x20_2 : Int) := of_decide_eq_true (by first | (with_reducible assumption) | assumption); have q254 : x20_2 < (l1.length : Int) := of_decide_eq_true (by first | (with_reducible assumption) | assumption); obtain ⟨ad254, e254, hx254_0⟩ := Kd.at_int HR1.out x20_2 p254 q254; cases e254; replace p254 := eq_true p254; replace q254 := eq_true q254))
                      go_roundg k2
                      case measure => have := HJ2.out; have := HK2.out; omega
                      case rel => exact ⟨(wrap64 (x5_2 + (wrap64 ((rd l0 x20_2) * (rd l1 x20_2))))), (wrap64 (x20_2 + 1)), (by first | rfl | (simp; done) | (simp [*]; done)), (by first | rfl | (simp; done) | (simp [*]; done)), H', ⟨by have := HJ2.out; have := HK2.out; omega⟩, by repeat (first | exact Drawn0.refl _ | apply Drawn0.step)⟩
                    · rw [if_neg c12] at H
                      exact absurd H (by simp)
                  · replace c11 := Bool.eq_false_iff.mpr c11
                    subst c11
                    have H1 : (some 0) = some r := by first | (rw [if_neg (show ¬ (false = true) by decide)] at H; exact H) | rfl
                    clear H
                    have H := H1
                    clear H1
                    obtain rfl := Option.some.inj H
                    have p252 : 0 ≤ (x20_2 : Int) := of_decide_eq_true (by first | (with_reducible assumption) | assumption)
                    have q252 : x20_2 < (l0.length : Int) := of_decide_eq_true (by first | (with_reducible assumption) | assumption)
                    obtain ⟨ad252, e252, hx252_0⟩ := Kd.at_int HR0.out x20_2 p252 q252
                    cases e252
                    replace p252 := eq_true p252
                    replace q252 := eq_true q252
                    go_wp2_with (first | ((with_reducible refine gate_callee (f := 39) rfl ?_); refine goesL_ (some 26) rfl rfl Try.func39 (by kernel_rfl) rfl #[.int .i64 (rd l0 x20_2), .int .i64 0, .int .i64 9000] rfl (by (try simp only [List.map_toArray, List.map_cons, List.map_nil]); first | done | rfl | (simp only [List.length_drop, List.length_take]; rfl)) ?_; (with_reducible refine (impl_in.calls (rd l0 x20_2) 0 9000 false _ A10.out).mono ?_); rintro e w' ⟨rfl, ⟨nd, rfl⟩⟩; refine ⟨_, rfl, ?_⟩))
                    go_ret
                    exact ⟨by first | rfl | (simp; done) | (simp [*]; done), by repeat (first | exact Drawn0.refl _ | apply Drawn0.step)⟩
                · rw [if_neg c9] at H
                  exact absurd H (by simp)
              · rw [if_neg c8] at H
                exact absurd H (by simp)
            · rw [if_neg c7] at H
              have c7b0 : decide (x20_2 < (l0.length : Int)) = false := decide_eq_false c7
              clear c7
              obtain rfl := Option.some.inj H
              go_wp2
              go_ret
              exact ⟨by first | rfl | (simp; done) | (simp [*]; done), by repeat (first | exact Drawn0.refl _ | apply Drawn0.step)⟩

/-! ### spec_l3Left: function 51 -/
def spec_l3Left.l0 : Nat → List Int → Int → Int → Option (Int)
  | 0, _, _, _ => none
  | k + 1, x0, x3, x4 => if x4 < (x0.length : Int) then (if 0 ≤ x4 then ((spec_l1In.f (rd x0 x4) 0 15).bind fun t257 => (if t257 = true then (if (rd x0 x4) > 0 then ((spec_l1Pow.f k (wrap64 (15 - (rd x0 x4)))).bind fun t260 => (if (wrap64 (x3 - t260)) < 0 then (some (-1)) else (spec_l3Left.l0 k x0 (wrap64 (x3 - t260)) (wrap64 (x4 + 1))))) else (if x3 < 0 then (some (-1)) else (spec_l3Left.l0 k x0 x3 (wrap64 (x4 + 1))))) else (some (-1)))) else (none)) else (some x3)
def spec_l3Left.f (k : Nat) (l0 : List Int) : Option (Int) := (spec_l1Pow.f k 15).bind fun t255 => (spec_l3Left.l0 k l0 t255 0)
theorem spec_l3Left.mono_l : ∀ k, (∀ y0 y1 y2, LeO (spec_l3Left.l0 k y0 y1 y2) (spec_l3Left.l0 (k + 1) y0 y1 y2))
  | 0 => fun _ _ _ r h => by simp [spec_l3Left.l0] at h
  | k + 1 => by
    have ih0 := spec_l3Left.mono_l k
    · intro y0 y1 y2
      unfold spec_l3Left.l0
      repeat' first
      | (with_reducible exact ih0 _ _ _)
      | (with_reducible exact spec_l1Pow.mono _ _)
      | (with_reducible exact LeO.refl _)
      | (with_reducible exact LeO.none _)
      | (with_reducible refine LeO.ite ?_ ?_)
      | (with_reducible refine LeO.bind ?_ (fun _ => ?_))
      | exact ih0 _ _ _
      | exact spec_l1Pow.mono _ _
      | exact LeO.none _
      | refine LeO.ite ?_ ?_
      | refine LeO.bind ?_ (fun _ => ?_)
theorem spec_l3Left.mono : ∀ a0 k, LeO (spec_l3Left.f k a0) (spec_l3Left.f (k + 1) a0) := by
  intro a0 k
  have ih0 := spec_l3Left.mono_l k
  unfold spec_l3Left.f
  repeat' first
      | (with_reducible exact ih0 _ _ _)
      | (with_reducible exact spec_l1Pow.mono _ _)
      | (with_reducible exact LeO.refl _)
      | (with_reducible exact LeO.none _)
      | (with_reducible refine LeO.ite ?_ ?_)
      | (with_reducible refine LeO.bind ?_ (fun _ => ?_))
      | exact ih0 _ _ _
      | exact spec_l1Pow.mono _ _
      | exact LeO.none _
      | refine LeO.ite ?_ ?_
      | refine LeO.bind ?_ (fun _ => ?_)
set_option maxHeartbeats 8000000 in
set_option maxRecDepth 100000 in
theorem spec_l3Left.calls (k : Nat) (A0 : Option Addr) (c0 : Nat) (l0 : List Int) (r : Int) (w : World) (hr0 : Kd.C (Kd.int .i64) w A0 l0.length l0) (hc0 : l0.length ≤ c0) (h : spec_l3Left.f k l0 = some r) :
    Calls Try.prog 51 #[.slice A0 l0.length c0] w fun e w' => e = .returned (.int .i64 r) ∧ Drawn0 w w' := by
  have HR0 := Aside0.mk hr0
  have HC0 := Aside0.mk hc0
  clear hr0 hc0
  have H : ((spec_l1Pow.f k 15).bind fun t255 => (spec_l3Left.l0 k l0 t255 0)) = some r := h
  clear h
  replace H := Option.bind_eq_some_iff.mp H
  obtain ⟨t255, A20, H⟩ := H
  replace H : (spec_l3Left.l0 k l0 t255 0) = some r := H
  have A2 := Aside0.mk A20
  clear A20
  have H' := Aside0.mk H
  clear H
  go_enter Try.func51, Try.ntmps51
  go_wp2_with (first | ((with_reducible refine gate_callee (f := 60) rfl ?_); refine goesL_ (some 5) rfl rfl Try.func60 (by kernel_rfl) rfl #[.int .i64 15] rfl (by (try simp only [List.map_toArray, List.map_cons, List.map_nil]); first | done | rfl | (simp only [List.length_drop, List.length_take]; rfl)) ?_; (with_reducible refine (spec_l1Pow.calls k 15 t255 _ A2.out).mono ?_); rintro e w' ⟨rfl, ⟨nd, rfl⟩⟩; refine ⟨_, rfl, ?_⟩))
  go_loopg [3, 4] k (fun kq v3 v4 w' => ∃ (x3_1 : Int) (x4_1 : Int), v3 = .int .i64 x3_1 ∧ v4 = .int .i64 x4_1 ∧ Aside0 (spec_l3Left.l0 kq l0 x3_1 x4_1 = some r) ∧ Aside0 (kq ≤ k) ∧ Drawn0 w w')
  case atStart => exact ⟨(t255), (0), (by first | rfl | (simp; done) | (simp [*]; done)), (by first | rfl | (simp; done) | (simp [*]; done)), H', ⟨Nat.le_refl _⟩, by repeat (first | exact Drawn0.refl _ | apply Drawn0.step)⟩
  case round =>
    clear H'
    try clear p2
    obtain ⟨x3_1, x4_1, rfl, rfl, HA, HK1, ⟨m1, rfl⟩⟩ := hrel
    cases gk with
    | zero => exact absurd HA.out (by simp [spec_l3Left.l0])
    | succ k1 =>
      have H := HA.out
      clear HA
      simp only [spec_l3Left.l0] at H
      by_cases c3 : x4_1 < (l0.length : Int)
      · rw [if_pos c3] at H
        have c3b0 : decide (x4_1 < (l0.length : Int)) = true := decide_eq_true c3
        clear c3
        by_cases c4 : 0 ≤ x4_1
        · rw [if_pos c4] at H
          have c4b0 : decide (0 ≤ x4_1) = true := decide_eq_true c4
          clear c4
          replace H := Option.bind_eq_some_iff.mp H
          obtain ⟨t257, A50, H⟩ := H
          replace H : (if t257 = true then (if (rd l0 x4_1) > 0 then ((spec_l1Pow.f k1 (wrap64 (15 - (rd l0 x4_1)))).bind fun t260 => (if (wrap64 (x3_1 - t260)) < 0 then (some (-1)) else (spec_l3Left.l0 k1 l0 (wrap64 (x3_1 - t260)) (wrap64 (x4_1 + 1))))) else (if x3_1 < 0 then (some (-1)) else (spec_l3Left.l0 k1 l0 x3_1 (wrap64 (x4_1 + 1))))) else (some (-1))) = some r := H
          have A5 := Aside0.mk A50
          clear A50
          by_cases c6 : t257 = true
          · subst c6
            have H1 : (if (rd l0 x4_1) > 0 then ((spec_l1Pow.f k1 (wrap64 (15 - (rd l0 x4_1)))).bind fun t260 => (if (wrap64 (x3_1 - t260)) < 0 then (some (-1)) else (spec_l3Left.l0 k1 l0 (wrap64 (x3_1 - t260)) (wrap64 (x4_1 + 1))))) else (if x3_1 < 0 then (some (-1)) else (spec_l3Left.l0 k1 l0 x3_1 (wrap64 (x4_1 + 1))))) = some r := by first | (rw [if_pos rfl] at H; exact H) | rfl
            clear H
            have H := H1
            clear H1
            by_cases c7 : (rd l0 x4_1) > 0
            · rw [if_pos c7] at H
              have c7b0 : decide (0 < (rd l0 x4_1)) = true := decide_eq_true c7
              clear c7
              replace H := Option.bind_eq_some_iff.mp H
              obtain ⟨t260, A80, H⟩ := H
              replace H : (if (wrap64 (x3_1 - t260)) < 0 then (some (-1)) else (spec_l3Left.l0 k1 l0 (wrap64 (x3_1 - t260)) (wrap64 (x4_1 + 1)))) = some r := H
              have A8 := Aside0.mk A80
              clear A80
              by_cases c9 : (wrap64 (x3_1 - t260)) < 0
              · rw [if_pos c9] at H
                have c9b0 : decide ((wrap64 (x3_1 - t260)) < 0) = true := decide_eq_true c9
                clear c9
                obtain rfl := Option.some.inj H
                have p256 : 0 ≤ (x4_1 : Int) := of_decide_eq_true (by first | (with_reducible assumption) | assumption)
                have q256 : x4_1 < (l0.length : Int) := of_decide_eq_true (by first | (with_reducible assumption) | assumption)
                obtain ⟨ad256, e256, hx256_0⟩ := Kd.at_int HR0.out x4_1 p256 q256
                cases e256
                replace p256 := eq_true p256
                replace q256 := eq_true q256
                go_wp2_with (first | ((with_reducible refine gate_callee (f := 49) rfl ?_); refine goesL_ (some 16) rfl rfl Try.func49 (by kernel_rfl) rfl #[.int .i64 (rd l0 x4_1), .int .i64 0, .int .i64 15] rfl (by (try simp only [List.map_toArray, List.map_cons, List.map_nil]); first | done | rfl | (simp only [List.length_drop, List.length_take]; rfl)) ?_; (with_reducible refine (spec_l1In.calls (rd l0 x4_1) 0 15 true _ A5.out).mono ?_); rintro e w' ⟨rfl, ⟨nd, rfl⟩⟩; refine ⟨_, rfl, ?_⟩; have p258 : 0 ≤ (x4_1 : Int) := of_decide_eq_true (by first | (with_reducible assumption) | assumption); have q258 : x4_1 < (l0.length : Int) := of_decide_eq_true (by first | (with_reducible assumption) | assumption); obtain ⟨ad258, e258, hx258_0⟩ := Kd.at_int HR0.out x4_1 p258 q258; obtain rfl : ad256 = ad258 := (by injection e258); replace p258 := eq_true p258; replace q258 := eq_true q258; have p259 : 0 ≤ (x4_1 : Int) := of_decide_eq_true (by first | (with_reducible assumption) | assumption); have q259 : x4_1 < (l0.length : Int) := of_decide_eq_true (by first | (with_reducible assumption) | assumption); obtain ⟨ad259, e259, hx259_0⟩ := Kd.at_int HR0.out x4_1 p259 q259; obtain rfl : ad256 = ad259 := (by injection e259); replace p259 := eq_true p259; replace q259 := eq_true q259) | ((with_reducible refine gate_callee (f := 60) rfl ?_); refine goesL_ (some 29) rfl rfl Try.func60 (by kernel_rfl) rfl #[.int .i64 (wrap64 (15 - (rd l0 x4_1)))] rfl (by (try simp only [List.map_toArray, List.map_cons, List.map_nil]); first | done | rfl | (simp only [List.length_drop, List.length_take]; rfl)) ?_; (with_reducible refine (spec_l1Pow.calls k1 (wrap64 (15 - (rd l0 x4_1))) t260 _ A8.out).mono ?_); rintro e w' ⟨rfl, ⟨nd, rfl⟩⟩; refine ⟨_, rfl, ?_⟩))
                go_ret
                exact ⟨by first | rfl | (simp; done) | (simp [*]; done), by repeat (first | exact Drawn0.refl _ | apply Drawn0.step)⟩
              · rw [if_neg c9] at H
                have c9b0 : decide ((wrap64 (x3_1 - t260)) < 0) = false := decide_eq_false c9
                clear c9
                have H' := Aside0.mk H
                clear H
                have p256 : 0 ≤ (x4_1 : Int) := of_decide_eq_true (by first | (with_reducible assumption) | assumption)
                have q256 : x4_1 < (l0.length : Int) := of_decide_eq_true (by first | (with_reducible assumption) | assumption)
                obtain ⟨ad256, e256, hx256_0⟩ := Kd.at_int HR0.out x4_1 p256 q256
                cases e256
                replace p256 := eq_true p256
                replace q256 := eq_true q256
                go_wp2_with (first | ((with_reducible refine gate_callee (f := 49) rfl ?_); refine goesL_ (some 16) rfl rfl Try.func49 (by kernel_rfl) rfl #[.int .i64 (rd l0 x4_1), .int .i64 0, .int .i64 15] rfl (by (try simp only [List.map_toArray, List.map_cons, List.map_nil]); first | done | rfl | (simp only [List.length_drop, List.length_take]; rfl)) ?_; (with_reducible refine (spec_l1In.calls (rd l0 x4_1) 0 15 true _ A5.out).mono ?_); rintro e w' ⟨rfl, ⟨nd, rfl⟩⟩; refine ⟨_, rfl, ?_⟩; have p258 : 0 ≤ (x4_1 : Int) := of_decide_eq_true (by first | (with_reducible assumption) | assumption); have q258 : x4_1 < (l0.length : Int) := of_decide_eq_true (by first | (with_reducible assumption) | assumption); obtain ⟨ad258, e258, hx258_0⟩ := Kd.at_int HR0.out x4_1 p258 q258; obtain rfl : ad256 = ad258 := (by injection e258); replace p258 := eq_true p258; replace q258 := eq_true q258; have p259 : 0 ≤ (x4_1 : Int) := of_decide_eq_true (by first | (with_reducible assumption) | assumption); have q259 : x4_1 < (l0.length : Int) := of_decide_eq_true (by first | (with_reducible assumption) | assumption); obtain ⟨ad259, e259, hx259_0⟩ := Kd.at_int HR0.out x4_1 p259 q259; obtain rfl : ad256 = ad259 := (by injection e259); replace p259 := eq_true p259; replace q259 := eq_true q259) | ((with_reducible refine gate_callee (f := 60) rfl ?_); refine goesL_ (some 29) rfl rfl Try.func60 (by kernel_rfl) rfl #[.int .i64 (wrap64 (15 - (rd l0 x4_1)))] rfl (by (try simp only [List.map_toArray, List.map_cons, List.map_nil]); first | done | rfl | (simp only [List.length_drop, List.length_take]; rfl)) ?_; (with_reducible refine (spec_l1Pow.calls k1 (wrap64 (15 - (rd l0 x4_1))) t260 _ A8.out).mono ?_); rintro e w' ⟨rfl, ⟨nd, rfl⟩⟩; refine ⟨_, rfl, ?_⟩))
                go_roundg k1
                case measure => have := HK1.out; omega
                case rel => exact ⟨(wrap64 (x3_1 - t260)), (wrap64 (x4_1 + 1)), (by first | rfl | (simp; done) | (simp [*]; done)), (by first | rfl | (simp; done) | (simp [*]; done)), H', ⟨by have := HK1.out; omega⟩, by repeat (first | exact Drawn0.refl _ | apply Drawn0.step)⟩
            · rw [if_neg c7] at H
              have c7b0 : decide (0 < (rd l0 x4_1)) = false := decide_eq_false c7
              clear c7
              by_cases c10 : x3_1 < 0
              · rw [if_pos c10] at H
                have c10b0 : decide (x3_1 < 0) = true := decide_eq_true c10
                clear c10
                obtain rfl := Option.some.inj H
                have p256 : 0 ≤ (x4_1 : Int) := of_decide_eq_true (by first | (with_reducible assumption) | assumption)
                have q256 : x4_1 < (l0.length : Int) := of_decide_eq_true (by first | (with_reducible assumption) | assumption)
                obtain ⟨ad256, e256, hx256_0⟩ := Kd.at_int HR0.out x4_1 p256 q256
                cases e256
                replace p256 := eq_true p256
                replace q256 := eq_true q256
                go_wp2_with (first | ((with_reducible refine gate_callee (f := 49) rfl ?_); refine goesL_ (some 16) rfl rfl Try.func49 (by kernel_rfl) rfl #[.int .i64 (rd l0 x4_1), .int .i64 0, .int .i64 15] rfl (by (try simp only [List.map_toArray, List.map_cons, List.map_nil]); first | done | rfl | (simp only [List.length_drop, List.length_take]; rfl)) ?_; (with_reducible refine (spec_l1In.calls (rd l0 x4_1) 0 15 true _ A5.out).mono ?_); rintro e w' ⟨rfl, ⟨nd, rfl⟩⟩; refine ⟨_, rfl, ?_⟩; have p258 : 0 ≤ (x4_1 : Int) := of_decide_eq_true (by first | (with_reducible assumption) | assumption); have q258 : x4_1 < (l0.length : Int) := of_decide_eq_true (by first | (with_reducible assumption) | assumption); obtain ⟨ad258, e258, hx258_0⟩ := Kd.at_int HR0.out x4_1 p258 q258; obtain rfl : ad256 = ad258 := (by injection e258); replace p258 := eq_true p258; replace q258 := eq_true q258))
                go_ret
                exact ⟨by first | rfl | (simp; done) | (simp [*]; done), by repeat (first | exact Drawn0.refl _ | apply Drawn0.step)⟩
              · rw [if_neg c10] at H
                have c10b0 : decide (x3_1 < 0) = false := decide_eq_false c10
                clear c10
                have H' := Aside0.mk H
                clear H
                have p256 : 0 ≤ (x4_1 : Int) := of_decide_eq_true (by first | (with_reducible assumption) | assumption)
                have q256 : x4_1 < (l0.length : Int) := of_decide_eq_true (by first | (with_reducible assumption) | assumption)
                obtain ⟨ad256, e256, hx256_0⟩ := Kd.at_int HR0.out x4_1 p256 q256
                cases e256
                replace p256 := eq_true p256
                replace q256 := eq_true q256
                go_wp2_with (first | ((with_reducible refine gate_callee (f := 49) rfl ?_); refine goesL_ (some 16) rfl rfl Try.func49 (by kernel_rfl) rfl #[.int .i64 (rd l0 x4_1), .int .i64 0, .int .i64 15] rfl (by (try simp only [List.map_toArray, List.map_cons, List.map_nil]); first | done | rfl | (simp only [List.length_drop, List.length_take]; rfl)) ?_; (with_reducible refine (spec_l1In.calls (rd l0 x4_1) 0 15 true _ A5.out).mono ?_); rintro e w' ⟨rfl, ⟨nd, rfl⟩⟩; refine ⟨_, rfl, ?_⟩; have p258 : 0 ≤ (x4_1 : Int) := of_decide_eq_true (by first | (with_reducible assumption) | assumption); have q258 : x4_1 < (l0.length : Int) := of_decide_eq_true (by first | (with_reducible assumption) | assumption); obtain ⟨ad258, e258, hx258_0⟩ := Kd.at_int HR0.out x4_1 p258 q258; obtain rfl : ad256 = ad258 := (by injection e258); replace p258 := eq_true p258; replace q258 := eq_true q258))
                go_roundg k1
                case measure => have := HK1.out; omega
                case rel => exact ⟨(x3_1), (wrap64 (x4_1 + 1)), (by first | rfl | (simp; done) | (simp [*]; done)), (by first | rfl | (simp; done) | (simp [*]; done)), H', ⟨by have := HK1.out; omega⟩, by repeat (first | exact Drawn0.refl _ | apply Drawn0.step)⟩
          · replace c6 := Bool.eq_false_iff.mpr c6
            subst c6
            have H1 : (some (-1)) = some r := by first | (rw [if_neg (show ¬ (false = true) by decide)] at H; exact H) | rfl
            clear H
            have H := H1
            clear H1
            obtain rfl := Option.some.inj H
            have p256 : 0 ≤ (x4_1 : Int) := of_decide_eq_true (by first | (with_reducible assumption) | assumption)
            have q256 : x4_1 < (l0.length : Int) := of_decide_eq_true (by first | (with_reducible assumption) | assumption)
            obtain ⟨ad256, e256, hx256_0⟩ := Kd.at_int HR0.out x4_1 p256 q256
            cases e256
            replace p256 := eq_true p256
            replace q256 := eq_true q256
            go_wp2_with (first | ((with_reducible refine gate_callee (f := 49) rfl ?_); refine goesL_ (some 16) rfl rfl Try.func49 (by kernel_rfl) rfl #[.int .i64 (rd l0 x4_1), .int .i64 0, .int .i64 15] rfl (by (try simp only [List.map_toArray, List.map_cons, List.map_nil]); first | done | rfl | (simp only [List.length_drop, List.length_take]; rfl)) ?_; (with_reducible refine (spec_l1In.calls (rd l0 x4_1) 0 15 false _ A5.out).mono ?_); rintro e w' ⟨rfl, ⟨nd, rfl⟩⟩; refine ⟨_, rfl, ?_⟩))
            go_ret
            exact ⟨by first | rfl | (simp; done) | (simp [*]; done), by repeat (first | exact Drawn0.refl _ | apply Drawn0.step)⟩
        · rw [if_neg c4] at H
          exact absurd H (by simp)
      · rw [if_neg c3] at H
        have c3b0 : decide (x4_1 < (l0.length : Int)) = false := decide_eq_false c3
        clear c3
        obtain rfl := Option.some.inj H
        go_wp2
        go_ret
        exact ⟨by first | rfl | (simp; done) | (simp [*]; done), by repeat (first | exact Drawn0.refl _ | apply Drawn0.step)⟩

/-! ### spec_CodeOk: function 26 -/
def spec_CodeOk.f (k : Nat) (l0 : List Int) : Option (Bool) := if (l0.length : Int) ≤ 300 then ((spec_l3Left.f k l0).bind fun t261 => (some (decide (t261 ≥ 0)))) else (some false)
theorem spec_CodeOk.mono : ∀ a0 k, LeO (spec_CodeOk.f k a0) (spec_CodeOk.f (k + 1) a0) := by
  intro a0 k
  unfold spec_CodeOk.f
  repeat' first
      | (with_reducible exact spec_l3Left.mono _ _)
      | (with_reducible exact LeO.refl _)
      | (with_reducible exact LeO.none _)
      | (with_reducible refine LeO.ite ?_ ?_)
      | (with_reducible refine LeO.bind ?_ (fun _ => ?_))
      | exact spec_l3Left.mono _ _
      | exact LeO.none _
      | refine LeO.ite ?_ ?_
      | refine LeO.bind ?_ (fun _ => ?_)
set_option maxHeartbeats 8000000 in
set_option maxRecDepth 100000 in
theorem spec_CodeOk.calls (k : Nat) (A0 : Option Addr) (c0 : Nat) (l0 : List Int) (r : Bool) (w : World) (hr0 : Kd.C (Kd.int .i64) w A0 l0.length l0) (hc0 : l0.length ≤ c0) (h : spec_CodeOk.f k l0 = some r) :
    Calls Try.prog 26 #[.slice A0 l0.length c0] w fun e w' => e = .returned (.bool r) ∧ Drawn0 w w' := by
  have HR0 := Aside0.mk hr0
  have HC0 := Aside0.mk hc0
  clear hr0 hc0
  have H : (if (l0.length : Int) ≤ 300 then ((spec_l3Left.f k l0).bind fun t261 => (some (decide (t261 ≥ 0)))) else (some false)) = some r := h
  clear h
  by_cases c2 : (l0.length : Int) ≤ 300
  · rw [if_pos c2] at H
    have c2b0 : decide ((l0.length : Int) ≤ 300) = true := decide_eq_true c2
    have c2b1 : decide (l0.length ≤ 300) = true := decide_eq_true (by omega)
    clear c2
    replace H := Option.bind_eq_some_iff.mp H
    obtain ⟨t261, A30, H⟩ := H
    replace H : (some (decide (t261 ≥ 0))) = some r := H
    have A3 := Aside0.mk A30
    clear A30
    obtain rfl := Option.some.inj H
    go_enter Try.func26, Try.ntmps26
    go_wp2_with (first | (go_at_call 51; (with_reducible refine (spec_l3Left.calls k _ _ l0 t261 _ ?side1 ?side2 A3.out).mono ?_); (case side1 => repeat (first | exact HR0.out | (with_reducible refine Kd.C_alloc ?_ _) | (with_reducible refine Kd.C_drewN ?_ _) | (with_reducible refine Kd.C_drew ?_))); (case side2 => exact HC0.out); rintro e w' ⟨rfl, ⟨nd, rfl⟩⟩))
    go_ret
    exact ⟨by first | rfl | (simp; done) | (simp [*]; done), by repeat (first | exact Drawn0.refl _ | apply Drawn0.step)⟩
  · rw [if_neg c2] at H
    have c2b0 : decide ((l0.length : Int) ≤ 300) = false := decide_eq_false c2
    have c2b1 : decide (l0.length ≤ 300) = false := decide_eq_false (by omega)
    clear c2
    obtain rfl := Option.some.inj H
    go_enter Try.func26, Try.ntmps26
    go_wp2
    go_ret
    exact ⟨by first | rfl | (simp; done) | (simp [*]; done), by repeat (first | exact Drawn0.refl _ | apply Drawn0.step)⟩

end Go.Proofs.Ytgajagocenffeaa.PFnCodeBest
