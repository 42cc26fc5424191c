/- What the functions that the law comes to compute, as plain functions, and that the machine's calls come to just that: written by a program for this claim, and turned where Lean did not take it. No condition. -/
import Derived.Test.YtgajagocenffeaaHFnCodeGetx0
import Derived.Test.YtgajagocenffeaaHFnCodeGetx2
import Derived.Test.YtgajagocenffeaaHFnCodeGetx3
import Derived.Test.YtgajagocenffeaaHFnCodeGetx10
import Derived.Test.YtgajagocenffeaaHFnCodeGetx11
namespace Go.Proofs.Ytgajagocenffeaa.PFnCodeGet
open Go.RowKit Go.Proofs.YtgajagocenffeaaW.PrintWords Go.Proofs.YtgajagocenffeaaW.PrintLast Go.Proofs.YtgajagocenffeaaW.PrintMore
attribute [local go_sem] max2_int min2_int max_two min_two max_three min_three max_four min_four   -- for this text's walks alone
set_option linter.unusedVariables false
set_option linter.unusedSimpArgs false

/-! ### laws_FnCodeGet: function 8 -/
def laws_FnCodeGet.j0 : Nat → ByteArray → Int → List Int → Int → Int → Bool → Option (Bool)
  | 0, _, _, _, _, _, _ => none
  | k + 1, x3, x4, x5, x6, x7, x43 => if x43 = true then (some false) else (if x6 < 0 then (if x6 = (-1) then (some (x7 == 0)) else (some false)) else ((impl_CodePut.f k (([x6] : List Int)) x5).bind fun t414 => (if 0 ≤ x6 then (if x6 < (x5.length : Int) then ((impl_BitsGet.f k x3 x4 (rd x5 x6) false).bind fun bt418 => (if (t414.length : Int) = 1 then (if bt418.2 = true then (if 0 < (t414.length : Int) then (if bt418.1 = ((rd_T50 t414 0).f0) then (some (x7 == (wrap64 (x4 + (rd x5 x6))))) else (some false)) else (none)) else (some false)) else (some false))) else (none)) else (none))))
def laws_FnCodeGet.f (k : Nat) (l0 : List Int) : Option (Bool) := if (l0.length : Int) > 1048576 then (some true) else ((spec_DrawCodeGet.f k l0).bind fun bt402 => ((impl_CodeGet.f k bt402.1 bt402.2.1 bt402.2.2).bind fun bt407 => ((spec_CodeGet.f k bt402.1 bt402.2.1 bt402.2.2).bind fun bt409 => (if bt407.1 = bt409.1 then (laws_FnCodeGet.j0 k bt402.1 bt402.2.1 bt402.2.2 bt407.1 bt407.2 (bt407.2 != bt409.2)) else (laws_FnCodeGet.j0 k bt402.1 bt402.2.1 bt402.2.2 bt407.1 bt407.2 true)))))
theorem laws_FnCodeGet.mono_l : ∀ k, (∀ y0 y1 y2 y3 y4 y5, LeO (laws_FnCodeGet.j0 k y0 y1 y2 y3 y4 y5) (laws_FnCodeGet.j0 (k + 1) y0 y1 y2 y3 y4 y5))
  | 0 => fun _ _ _ _ _ _ r h => by simp [laws_FnCodeGet.j0] at h
  | k + 1 => by
    have ih0 := laws_FnCodeGet.mono_l k
    · intro y0 y1 y2 y3 y4 y5
      unfold laws_FnCodeGet.j0
      repeat' first
      | (with_reducible exact ih0 _ _ _ _ _ _)
      | (with_reducible exact impl_BitsGet.mono _ _ _ _ _)
      | (with_reducible exact impl_CodeGet.mono _ _ _ _)
      | (with_reducible exact impl_CodePut.mono _ _ _)
      | (with_reducible exact spec_CodeGet.mono _ _ _ _)
      | (with_reducible exact spec_DrawCodeGet.mono _ _)
      | (with_reducible exact LeO.refl _)
      | (with_reducible exact LeO.none _)
      | (with_reducible refine LeO.ite ?_ ?_)
      | (with_reducible refine LeO.bind ?_ (fun _ => ?_))
      | exact ih0 _ _ _ _ _ _
      | exact impl_BitsGet.mono _ _ _ _ _
      | exact impl_CodeGet.mono _ _ _ _
      | exact impl_CodePut.mono _ _ _
      | exact spec_CodeGet.mono _ _ _ _
      | exact spec_DrawCodeGet.mono _ _
      | exact LeO.none _
      | refine LeO.ite ?_ ?_
      | refine LeO.bind ?_ (fun _ => ?_)
theorem laws_FnCodeGet.mono : ∀ a0 k, LeO (laws_FnCodeGet.f k a0) (laws_FnCodeGet.f (k + 1) a0) := by
  intro a0 k
  have ih0 := laws_FnCodeGet.mono_l k
  unfold laws_FnCodeGet.f
  repeat' first
      | (with_reducible exact ih0 _ _ _ _ _ _)
      | (with_reducible exact impl_BitsGet.mono _ _ _ _ _)
      | (with_reducible exact impl_CodeGet.mono _ _ _ _)
      | (with_reducible exact impl_CodePut.mono _ _ _)
      | (with_reducible exact spec_CodeGet.mono _ _ _ _)
      | (with_reducible exact spec_DrawCodeGet.mono _ _)
      | (with_reducible exact LeO.refl _)
      | (with_reducible exact LeO.none _)
      | (with_reducible refine LeO.ite ?_ ?_)
      | (with_reducible refine LeO.bind ?_ (fun _ => ?_))
      | exact ih0 _ _ _ _ _ _
      | exact impl_BitsGet.mono _ _ _ _ _
      | exact impl_CodeGet.mono _ _ _ _
      | exact impl_CodePut.mono _ _ _
      | exact spec_CodeGet.mono _ _ _ _
      | exact spec_DrawCodeGet.mono _ _
      | exact LeO.none _
      | refine LeO.ite ?_ ?_
      | refine LeO.bind ?_ (fun _ => ?_)
set_option maxHeartbeats 8000000 in
set_option maxRecDepth 100000 in
theorem laws_FnCodeGet.calls (k : Nat) (A0 : Option Addr) (c0 : Nat) (l0 : List Int) (r : Bool) (w : World) (hr0 : Kd.C (Kd.int .u8) w A0 l0.length l0) (hc0 : l0.length ≤ c0) (h : laws_FnCodeGet.f k l0 = some r) :
    Calls Try.prog 8 #[.slice A0 l0.length c0] w fun e w' => e = .returned (.bool r) ∧ Below w.heap.size w w' := by
  have HR0 := Aside0.mk hr0
  have HC0 := Aside0.mk hc0
  clear hr0 hc0
  have HB := Aside0.mk (Below.refl w.heap.size w)
  have H : (if (l0.length : Int) > 1048576 then (some true) else ((spec_DrawCodeGet.f k l0).bind fun bt402 => ((impl_CodeGet.f k bt402.1 bt402.2.1 bt402.2.2).bind fun bt407 => ((spec_CodeGet.f k bt402.1 bt402.2.1 bt402.2.2).bind fun bt409 => (if bt407.1 = bt409.1 then (laws_FnCodeGet.j0 k bt402.1 bt402.2.1 bt402.2.2 bt407.1 bt407.2 (bt407.2 != bt409.2)) else (laws_FnCodeGet.j0 k bt402.1 bt402.2.1 bt402.2.2 bt407.1 bt407.2 true)))))) = some r := h
  clear h
  by_cases c2 : (l0.length : Int) > 1048576
  · rw [if_pos c2] at H
    have c2b0 : decide (1048576 < (l0.length : Int)) = true := decide_eq_true c2
    have c2b1 : decide (1048576 < l0.length) = true := decide_eq_true (by omega)
    clear c2
    obtain rfl := Option.some.inj H
    go_enter Try.func8, Try.ntmps8
    go_wp2
    go_ret
    exact ⟨by first | rfl | (simp [errW_none, errW_some] <;> rfl) | (simp [*, errW_none, errW_some] <;> rfl), by repeat (first | (with_reducible first | exact HB.out | apply below_alloc | apply pw_below_drewN | apply below_drew1) | exact HB.out)⟩
  · rw [if_neg c2] at H
    have c2b0 : decide (1048576 < (l0.length : Int)) = false := decide_eq_false c2
    have c2b1 : decide (1048576 < l0.length) = false := decide_eq_false (by omega)
    clear c2
    replace H := Option.bind_eq_some_iff.mp H
    obtain ⟨⟨t402, t403, t404⟩, A30, H⟩ := H
    replace H : ((impl_CodeGet.f k t402 t403 t404).bind fun bt407 => ((spec_CodeGet.f k t402 t403 t404).bind fun bt409 => (if bt407.1 = bt409.1 then (laws_FnCodeGet.j0 k t402 t403 t404 bt407.1 bt407.2 (bt407.2 != bt409.2)) else (laws_FnCodeGet.j0 k t402 t403 t404 bt407.1 bt407.2 true)))) = some r := H
    have A3 := Aside0.mk A30
    clear A30
    replace H := Option.bind_eq_some_iff.mp H
    obtain ⟨⟨t407, t408⟩, A40, H⟩ := H
    replace H : ((spec_CodeGet.f k t402 t403 t404).bind fun bt409 => (if t407 = bt409.1 then (laws_FnCodeGet.j0 k t402 t403 t404 t407 t408 (t408 != bt409.2)) else (laws_FnCodeGet.j0 k t402 t403 t404 t407 t408 true))) = some r := H
    have A4 := Aside0.mk A40
    clear A40
    replace H := Option.bind_eq_some_iff.mp H
    obtain ⟨⟨t409, t410⟩, A50, H⟩ := H
    replace H : (if t407 = t409 then (laws_FnCodeGet.j0 k t402 t403 t404 t407 t408 (t408 != t410)) else (laws_FnCodeGet.j0 k t402 t403 t404 t407 t408 true)) = some r := H
    have A5 := Aside0.mk A50
    clear A50
    have HC6 := Aside0.mk H
    clear H
    go_enter Try.func8, Try.ntmps8
    go_upto_region 6 with (first | ((with_reducible refine gate_callee (f := 31) rfl ?_); refine goesL_ (some 18) rfl rfl Try.func31 (by kernel_rfl) rfl #[.slice A0 l0.length c0] rfl (by (try simp only [List.map_toArray, List.map_cons, List.map_nil]); first | done | rfl | (simp only [List.length_drop, List.length_take]; rfl)) ?_; (with_reducible refine (spec_DrawCodeGet.calls k _ _ l0 t402 t403 t404 _ ?side1 ?side2 A3.out).mono ?_); (case side1 => repeat (first | exact HR0.out | (with_reducible refine Kd.C_alloc ?_ _) | (with_reducible refine Kd.C_drewN ?_ _) | (with_reducible refine Kd.C_drew ?_))); (case side2 => exact HC0.out); rintro e w7 ⟨v405, rfl, ho0, hb⟩; refine ⟨_, rfl, ?_⟩; have n0_ := Aside0.mk (Kd.R_lower ho0 (below_size (by repeat (first | (with_reducible first | exact HB.out | apply below_alloc | apply pw_below_drewN | apply below_drew1) | exact HB.out)))); have n1_ := Aside0.mk (below_step (by repeat (first | (with_reducible first | exact HB.out | apply below_alloc | apply pw_below_drewN | apply below_drew1) | exact HB.out)) hb); clear HB; have HO406 := n0_; have HB := n1_; clear n0_ n1_; (try clear hb); (try clear hb2); (try clear hk); (try clear hi); (try clear ho0); obtain ⟨Ao8, co8, eo8⟩ := Kd.R_slice HO406.out; subst eo8) | ((with_reducible refine gate_callee (f := 30) rfl ?_); refine goesL_ (some 26) rfl rfl Try.func30 (by kernel_rfl) rfl #[.string t402, .int .i64 t403, .slice Ao8 t404.length co8] rfl (by (try simp only [List.map_toArray, List.map_cons, List.map_nil]); first | done | rfl | (simp only [List.length_drop, List.length_take]; rfl)) ?_; (with_reducible refine (impl_CodeGet.calls k t402 t403 _ _ t404 t407 t408 _ ?side1 ?side2 A4.out).mono ?_); (case side1 => repeat (first | exact (Kd.R_reads' HO406.out).2.2 | (with_reducible refine Kd.C_alloc ?_ _) | (with_reducible refine Kd.C_drewN ?_ _) | (with_reducible refine Kd.C_drew ?_))); (case side2 => exact (Kd.R_reads' HO406.out).2.1); rintro e w9 ⟨rfl, hb⟩; refine ⟨_, rfl, ?_⟩; have n0_ := Aside0.mk (Kd.R_below (by (with_reducible repeat (first | apply Kd.R_alloc | apply Kd.R_drewN | apply Kd.R_drew)); exact HO406.out) hb); have n1_ := Aside0.mk (below_step (by repeat (first | (with_reducible first | exact HB.out | apply below_alloc | apply pw_below_drewN | apply below_drew1) | exact HB.out)) hb); clear HO406; clear HB; have HO406 := n0_; have HB := n1_; clear n0_ n1_; (try clear hb); (try clear hb2); (try clear hk); (try clear hi)) | ((with_reducible refine gate_callee (f := 29) rfl ?_); refine goesL_ (some 33) rfl rfl Try.func29 (by kernel_rfl) rfl #[.string t402, .int .i64 t403, .slice Ao8 t404.length co8] rfl (by (try simp only [List.map_toArray, List.map_cons, List.map_nil]); first | done | rfl | (simp only [List.length_drop, List.length_take]; rfl)) ?_; (with_reducible refine (spec_CodeGet.calls k t402 t403 _ _ t404 t409 t410 _ ?side1 ?side2 A5.out).mono ?_); (case side1 => repeat (first | exact (Kd.R_reads' HO406.out).2.2 | (with_reducible refine Kd.C_alloc ?_ _) | (with_reducible refine Kd.C_drewN ?_ _) | (with_reducible refine Kd.C_drew ?_))); (case side2 => exact (Kd.R_reads' HO406.out).2.1); rintro e w10 ⟨rfl, hb⟩; refine ⟨_, rfl, ?_⟩; have n0_ := Aside0.mk (Kd.R_below (by (with_reducible repeat (first | apply Kd.R_alloc | apply Kd.R_drewN | apply Kd.R_drew)); exact HO406.out) hb); have n1_ := Aside0.mk (below_step (by repeat (first | (with_reducible first | exact HB.out | apply below_alloc | apply pw_below_drewN | apply below_drew1) | exact HB.out)) hb); clear HO406; clear HB; have HO406 := n0_; have HB := n1_; clear n0_ n1_; (try clear hb); (try clear hb2); (try clear hk); (try clear hi)))
    (try simp only [Act.put, List.setIfInBounds_toArray, List.set_cons_zero, List.set_cons_succ])
    go_cut [43] (fun v43 wc => ∃ (kq : Nat) (x43_5 : Bool), v43 = .bool x43_5 ∧ Aside0 (laws_FnCodeGet.j0 kq t402 t403 t404 t407 t408 x43_5 = some r) ∧ Aside0 (kq ≤ k) ∧ Aside0 (Kd.R (Kd.int .i64) 3 wc w.heap.size (fun _ => True) (.slice Ao8 t404.length co8) t404) ∧ Aside0 (Below w.heap.size w wc))
    case first =>
      have H := HC6.out
      clear HC6
      by_cases c11 : t407 = t409
      · rw [if_pos c11] at H
        have c11b0 : (t407 == t409) = true := beq_iff_eq.mpr c11
        have c11b1 : (t407 != t409) = false := bne_eq_false_iff_eq.mpr c11
        clear c11
        (first | rw [c11b0] | (simp only [i64_w, i32_w]; rw [c11b0]) | skip)
        have H' := Aside0.mk H
        clear H
        go_wp2
        go_meet
        case rel => exact ⟨_, ((t408 != t410)), (by first | rfl | (simp; done) | (simp [*]; done)), H', ⟨by first | omega | exact Nat.le_refl _⟩, ⟨by (with_reducible repeat (first | apply Kd.R_alloc | apply Kd.R_drewN | apply Kd.R_drew)); exact HO406.out⟩, ⟨by repeat (first | (with_reducible first | exact HB.out | apply below_alloc | apply pw_below_drewN | apply below_drew1) | exact HB.out)⟩⟩
      · rw [if_neg c11] at H
        have c11b0 : (t407 == t409) = false := beq_eq_false_iff_ne.mpr c11
        have c11b1 : (t407 != t409) = true := bne_iff_ne.mpr c11
        (first | rw [c11b0] | (simp only [i64_w, i32_w]; rw [c11b0]) | skip)
        have H' := Aside0.mk H
        clear H
        go_wp2
        go_meet
        case rel => exact ⟨_, (true), (by first | rfl | (simp; done) | (simp [*]; done)), H', ⟨by first | omega | exact Nat.le_refl _⟩, ⟨by (with_reducible repeat (first | apply Kd.R_alloc | apply Kd.R_drewN | apply Kd.R_drew)); exact HO406.out⟩, ⟨by repeat (first | (with_reducible first | exact HB.out | apply below_alloc | apply pw_below_drewN | apply below_drew1) | exact HB.out)⟩⟩
    case rest =>
      clear HC6
      try clear c1
      try clear c2
      try clear c2b0
      try clear c2b1
      try clear p2
      try clear c3
      try clear c8
      try clear c11
      try clear c11b0
      try clear c11b1
      obtain ⟨kq, x43_5, rfl, HA, HJ5, HO_5, HB⟩ := hcut
      cases kq with
      | zero => exact absurd HA.out (by simp [laws_FnCodeGet.j0])
      | succ kj5 =>
        have H := HA.out
        clear HA
        simp only [laws_FnCodeGet.j0] at H
        by_cases c12 : x43_5 = true
        · subst c12
          have H1 : (some false) = some r := by first | (rw [if_pos rfl] at H; exact H) | rfl
          clear H
          have H := H1
          clear H1
          obtain rfl := Option.some.inj H
          go_wp2
          go_ret
          exact ⟨by first | rfl | (simp [errW_none, errW_some] <;> rfl) | (simp [*, errW_none, errW_some] <;> rfl), by repeat (first | (with_reducible first | exact HB.out | apply below_alloc | apply pw_below_drewN | apply below_drew1) | exact HB.out)⟩
        · replace c12 := Bool.eq_false_iff.mpr c12
          subst c12
          have H1 : (if t407 < 0 then (if t407 = (-1) then (some (t408 == 0)) else (some false)) else ((impl_CodePut.f kj5 (([t407] : List Int)) t404).bind fun t414 => (if 0 ≤ t407 then (if t407 < (t404.length : Int) then ((impl_BitsGet.f kj5 t402 t403 (rd t404 t407) false).bind fun bt418 => (if (t414.length : Int) = 1 then (if bt418.2 = true then (if 0 < (t414.length : Int) then (if bt418.1 = ((rd_T50 t414 0).f0) then (some (t408 == (wrap64 (t403 + (rd t404 t407))))) else (some false)) else (none)) else (some false)) else (some false))) else (none)) else (none)))) = some r := by first | (rw [if_neg (show ¬ (false = true) by decide)] at H; exact H) | rfl
          clear H
          have H := H1
          clear H1
          by_cases c13 : t407 < 0
          · rw [if_pos c13] at H
            have c13b0 : decide (t407 < 0) = true := decide_eq_true c13
            clear c13
            by_cases c14 : t407 = (-1)
            · rw [if_pos c14] at H
              have c14b0 : (t407 == (-1)) = true := beq_iff_eq.mpr c14
              have c14b1 : (t407 != (-1)) = false := bne_eq_false_iff_eq.mpr c14
              clear c14
              obtain rfl := Option.some.inj H
              go_wp2
              go_ret
              exact ⟨by first | rfl | (simp [errW_none, errW_some] <;> rfl) | (simp [*, errW_none, errW_some] <;> rfl), by repeat (first | (with_reducible first | exact HB.out | apply below_alloc | apply pw_below_drewN | apply below_drew1) | exact HB.out)⟩
            · rw [if_neg c14] at H
              have c14b0 : (t407 == (-1)) = false := beq_eq_false_iff_ne.mpr c14
              have c14b1 : (t407 != (-1)) = true := bne_iff_ne.mpr c14
              obtain rfl := Option.some.inj H
              go_wp2
              go_ret
              exact ⟨by first | rfl | (simp [errW_none, errW_some] <;> rfl) | (simp [*, errW_none, errW_some] <;> rfl), by repeat (first | (with_reducible first | exact HB.out | apply below_alloc | apply pw_below_drewN | apply below_drew1) | exact HB.out)⟩
          · rw [if_neg c13] at H
            have c13b0 : decide (t407 < 0) = false := decide_eq_false c13
            clear c13
            obtain ⟨y411, hy411⟩ : ∃ y_ : List Int, y_ = (([t407] : List Int)) := ⟨_, rfl⟩
            replace H : ((impl_CodePut.f kj5 y411 t404).bind fun t414 => (if 0 ≤ t407 then (if t407 < (t404.length : Int) then ((impl_BitsGet.f kj5 t402 t403 (rd t404 t407) false).bind fun bt418 => (if (t414.length : Int) = 1 then (if bt418.2 = true then (if 0 < (t414.length : Int) then (if bt418.1 = ((rd_T50 t414 0).f0) then (some (t408 == (wrap64 (t403 + (rd t404 t407))))) else (some false)) else (none)) else (some false)) else (some false))) else (none)) else (none))) = some r := by first | (rw [hy411]; with_reducible exact H) | (have H2_ := (Option.bind_some _ _).symm.trans H; rw [hy411]; with_reducible exact H2_) | (have H2_ := (Option.bind_some _ _).symm.trans H; with_reducible exact H2_) | with_reducible exact H | (rw [hy411]; exact H) | exact H
            have Ny411 := Aside0.mk hy411
            clear hy411
            replace H := Option.bind_eq_some_iff.mp H
            obtain ⟨t414, A150, H⟩ := H
            replace H : (if 0 ≤ t407 then (if t407 < (t404.length : Int) then ((impl_BitsGet.f kj5 t402 t403 (rd t404 t407) false).bind fun bt418 => (if (t414.length : Int) = 1 then (if bt418.2 = true then (if 0 < (t414.length : Int) then (if bt418.1 = ((rd_T50 t414 0).f0) then (some (t408 == (wrap64 (t403 + (rd t404 t407))))) else (some false)) else (none)) else (some false)) else (some false))) else (none)) else (none)) = some r := H
            have A15 := Aside0.mk A150
            clear A150
            by_cases c16 : 0 ≤ t407
            · rw [if_pos c16] at H
              have c16b0 : decide (0 ≤ t407) = true := decide_eq_true c16
              clear c16
              by_cases c17 : t407 < (t404.length : Int)
              · rw [if_pos c17] at H
                have c17b0 : decide (t407 < (t404.length : Int)) = true := decide_eq_true c17
                clear c17
                replace H := Option.bind_eq_some_iff.mp H
                obtain ⟨⟨t418, t419⟩, A180, H⟩ := H
                replace H : (if (t414.length : Int) = 1 then (if t419 = true then (if 0 < (t414.length : Int) then (if t418 = ((rd_T50 t414 0).f0) then (some (t408 == (wrap64 (t403 + (rd t404 t407))))) else (some false)) else (none)) else (some false)) else (some false)) = some r := H
                have A18 := Aside0.mk A180
                clear A180
                by_cases c19 : (t414.length : Int) = 1
                · rw [if_pos c19] at H
                  have c19b0 : ((t414.length : Int) == 1) = true := beq_iff_eq.mpr c19
                  have c19b1 : ((t414.length : Int) != 1) = false := bne_eq_false_iff_eq.mpr c19
                  clear c19
                  by_cases c20 : t419 = true
                  · subst c20
                    have H1 : (if 0 < (t414.length : Int) then (if t418 = ((rd_T50 t414 0).f0) then (some (t408 == (wrap64 (t403 + (rd t404 t407))))) else (some false)) else (none)) = some r := by first | (rw [if_pos rfl] at H; exact H) | rfl
                    clear H
                    have H := H1
                    clear H1
                    by_cases c21 : 0 < (t414.length : Int)
                    · rw [if_pos c21] at H
                      have c21b0 : decide (0 < (t414.length : Int)) = true := decide_eq_true c21
                      have c21b1 : decide (0 < t414.length) = true := decide_eq_true (by omega)
                      clear c21
                      by_cases c22 : t418 = ((rd_T50 t414 0).f0)
                      · rw [if_pos c22] at H
                        have c22b0 : (t418 == ((rd_T50 t414 0).f0)) = true := beq_iff_eq.mpr c22
                        have c22b1 : (t418 != ((rd_T50 t414 0).f0)) = false := bne_eq_false_iff_eq.mpr c22
                        clear c22
                        obtain rfl := Option.some.inj H
                        go_wp2_with (first | ((with_reducible refine gate_dst (N := 53) rfl ?_); refine Kd.R_lit (Kd.int .i64) _ 3 ?hg (N := 53) ?hd (xs := ([t407] : List Int)) (inner := [.int .i64 t407]) (ok := fun _ => True) (okp := fun _ => True) ?hr ?hp (fun _ hk => hk) trivial (Below.refl _ _) (Nat.le_refl _) (by simp) ?_; (case hd => rfl); (case hg => rfl); (case hr => first | (go_simp; done) | (go_simp; rfl)); (case hp => exact (Reps.one (show Kd.M (Kd.int .i64) _ _ _ t407 [.int .i64 t407] from rfl) (Reps.none _ _))); intro v412 w23 ho24 hb hg_ hnew_; clear hg_ hnew_; (first | rw [← Ny411.out] at ho24 | (simp only [Int.reduceToNat] at ho24; rw [← Ny411.out] at ho24)); have n0_ := Aside0.mk (Kd.R_elder' (by (with_reducible repeat (first | apply Kd.R_alloc | apply Kd.R_drewN | apply Kd.R_drew)); exact HO_5.out) (Kd.R_base ho24) hb); have n1_ := Aside0.mk (Kd.R_lower (Kd.R_new' ho24 (Kd.R_lt (by (with_reducible repeat (first | apply Kd.R_alloc | apply Kd.R_drewN | apply Kd.R_drew)); exact HO_5.out))) (below_size (by repeat (first | (with_reducible first | exact HB.out | apply below_alloc | apply pw_below_drewN | apply below_drew1) | exact HB.out)))); have n2_ := Aside0.mk (below_step (by repeat (first | (with_reducible first | exact HB.out | apply below_alloc | apply pw_below_drewN | apply below_drew1) | exact HB.out)) hb); clear HO_5; clear HB; have HO_5 := n0_; have HO413 := n1_; have HB := n2_; clear n0_ n1_ n2_; clear hb ho24; obtain ⟨Ao25, co25, eo25⟩ := Kd.R_slice HO413.out; subst eo25) | ((with_reducible refine gate_callee (f := 32) rfl ?_); refine goesL_ (some 55) rfl rfl Try.func32 (by kernel_rfl) rfl #[.slice Ao25 y411.length co25, .slice Ao8 t404.length co8] rfl (by (try simp only [List.map_toArray, List.map_cons, List.map_nil]); first | done | rfl | (simp only [List.length_drop, List.length_take]; rfl)) ?_; (with_reducible refine (impl_CodePut.calls kj5 _ _ y411 _ _ t404 t414 _ ?side1 ?side2 ?side3 ?side4 A15.out).mono ?_); (case side1 => repeat (first | exact (Kd.R_reads' HO413.out).2.2 | (with_reducible refine Kd.C_alloc ?_ _) | (with_reducible refine Kd.C_drewN ?_ _) | (with_reducible refine Kd.C_drew ?_))); (case side2 => exact (Kd.R_reads' HO413.out).2.1); (case side3 => repeat (first | exact (Kd.R_reads' HO_5.out).2.2 | (with_reducible refine Kd.C_alloc ?_ _) | (with_reducible refine Kd.C_drewN ?_ _) | (with_reducible refine Kd.C_drew ?_))); (case side4 => exact (Kd.R_reads' HO_5.out).2.1); rintro e w26 ⟨v415, rfl, ho0, hb⟩; refine ⟨_, rfl, ?_⟩; have n0_ := Aside0.mk (Kd.R_below (by (with_reducible repeat (first | apply Kd.R_alloc | apply Kd.R_drewN | apply Kd.R_drew)); exact HO_5.out) hb); have n1_ := Aside0.mk (Kd.R_below (by (with_reducible repeat (first | apply Kd.R_alloc | apply Kd.R_drewN | apply Kd.R_drew)); exact HO413.out) hb); have n2_ := Aside0.mk (Kd.R_lower ho0 (below_size (by repeat (first | (with_reducible first | exact HB.out | apply below_alloc | apply pw_below_drewN | apply below_drew1) | exact HB.out)))); have n3_ := Aside0.mk (below_step (by repeat (first | (with_reducible first | exact HB.out | apply below_alloc | apply pw_below_drewN | apply below_drew1) | exact HB.out)) hb); clear HO_5; clear HO413; clear HB; have HO_5 := n0_; have HO413 := n1_; have HO416 := n2_; have HB := n3_; clear n0_ n1_ n2_ n3_; (try clear hb); (try clear hb2); (try clear hk); (try clear hi); (try clear ho0); have p417 : 0 ≤ (t407 : Int) := of_decide_eq_true (by first | (with_reducible assumption) | assumption); have q417 : t407 < (t404.length : Int) := of_decide_eq_true (by first | (with_reducible assumption) | assumption); obtain ⟨ad417, e417, hx417_0⟩ := Kd.at_int (Kd.R_reads' HO_5.out).2.2 t407 p417 q417; cases e417; replace p417 := eq_true p417; replace q417 := eq_true q417) | ((with_reducible refine gate_callee (f := 33) rfl ?_); refine goesL_ (some 63) rfl rfl Try.func33 (by kernel_rfl) rfl #[.string t402, .int .i64 t403, .int .i64 (rd t404 t407), .bool false] rfl (by (try simp only [List.map_toArray, List.map_cons, List.map_nil]); first | done | rfl | (simp only [List.length_drop, List.length_take]; rfl)) ?_; (with_reducible refine (impl_BitsGet.calls kj5 t402 t403 (rd t404 t407) false t418 true _ A18.out).mono ?_); rintro e w' ⟨rfl, ⟨nd, rfl⟩⟩; refine ⟨_, rfl, ?_⟩; obtain ⟨Ao27, co27, eo27⟩ := Kd.R_slice HO416.out; subst eo27; have p420 : 0 ≤ (0 : Int) := (by omega); have q420 : 0 < (t414.length : Int) := of_decide_eq_true (by first | (with_reducible assumption) | assumption); obtain ⟨ad420, e420, hx420_0, hx420_1⟩ := at_T50 (Kd.R_reads' HO416.out).2.2 0 p420 q420; cases e420; have qi420 : (0 < t414.length) = True := eq_true (by omega); (try rw [show ((0 : Int)).toNat = 0 from rfl] at hx420_0); (try rw [show 0 * 2 = 0 from rfl] at hx420_0); (try rw [Addr.add_zero'] at hx420_0); (try rw [show ((0 : Int)).toNat = 0 from rfl] at hx420_1); (try rw [show 0 * 2 = 0 from rfl] at hx420_1); (try rw [Addr.add_zero'] at hx420_1); replace p420 := eq_true p420; replace q420 := eq_true q420; have p421 : 0 ≤ (t407 : Int) := of_decide_eq_true (by first | (with_reducible assumption) | assumption); have q421 : t407 < (t404.length : Int) := of_decide_eq_true (by first | (with_reducible assumption) | assumption); obtain ⟨ad421, e421, hx421_0⟩ := Kd.at_int (Kd.R_reads' HO_5.out).2.2 t407 p421 q421; obtain rfl : ad417 = ad421 := (by injection e421); replace p421 := eq_true p421; replace q421 := eq_true q421))
                        go_ret
                        exact ⟨by first | rfl | (simp [errW_none, errW_some] <;> rfl) | (simp [*, errW_none, errW_some] <;> rfl), by repeat (first | (with_reducible first | exact HB.out | apply below_alloc | apply pw_below_drewN | apply below_drew1) | exact HB.out)⟩
                      · rw [if_neg c22] at H
                        have c22b0 : (t418 == ((rd_T50 t414 0).f0)) = false := beq_eq_false_iff_ne.mpr c22
                        have c22b1 : (t418 != ((rd_T50 t414 0).f0)) = true := bne_iff_ne.mpr c22
                        obtain rfl := Option.some.inj H
                        go_wp2_with (first | ((with_reducible refine gate_dst (N := 53) rfl ?_); refine Kd.R_lit (Kd.int .i64) _ 3 ?hg (N := 53) ?hd (xs := ([t407] : List Int)) (inner := [.int .i64 t407]) (ok := fun _ => True) (okp := fun _ => True) ?hr ?hp (fun _ hk => hk) trivial (Below.refl _ _) (Nat.le_refl _) (by simp) ?_; (case hd => rfl); (case hg => rfl); (case hr => first | (go_simp; done) | (go_simp; rfl)); (case hp => exact (Reps.one (show Kd.M (Kd.int .i64) _ _ _ t407 [.int .i64 t407] from rfl) (Reps.none _ _))); intro v412 w28 ho29 hb hg_ hnew_; clear hg_ hnew_; (first | rw [← Ny411.out] at ho29 | (simp only [Int.reduceToNat] at ho29; rw [← Ny411.out] at ho29)); have n0_ := Aside0.mk (Kd.R_elder' (by (with_reducible repeat (first | apply Kd.R_alloc | apply Kd.R_drewN | apply Kd.R_drew)); exact HO_5.out) (Kd.R_base ho29) hb); have n1_ := Aside0.mk (Kd.R_lower (Kd.R_new' ho29 (Kd.R_lt (by (with_reducible repeat (first | apply Kd.R_alloc | apply Kd.R_drewN | apply Kd.R_drew)); exact HO_5.out))) (below_size (by repeat (first | (with_reducible first | exact HB.out | apply below_alloc | apply pw_below_drewN | apply below_drew1) | exact HB.out)))); have n2_ := Aside0.mk (below_step (by repeat (first | (with_reducible first | exact HB.out | apply below_alloc | apply pw_below_drewN | apply below_drew1) | exact HB.out)) hb); clear HO_5; clear HB; have HO_5 := n0_; have HO413 := n1_; have HB := n2_; clear n0_ n1_ n2_; clear hb ho29; obtain ⟨Ao30, co30, eo30⟩ := Kd.R_slice HO413.out; subst eo30) | ((with_reducible refine gate_callee (f := 32) rfl ?_); refine goesL_ (some 55) rfl rfl Try.func32 (by kernel_rfl) rfl #[.slice Ao30 y411.length co30, .slice Ao8 t404.length co8] rfl (by (try simp only [List.map_toArray, List.map_cons, List.map_nil]); first | done | rfl | (simp only [List.length_drop, List.length_take]; rfl)) ?_; (with_reducible refine (impl_CodePut.calls kj5 _ _ y411 _ _ t404 t414 _ ?side1 ?side2 ?side3 ?side4 A15.out).mono ?_); (case side1 => repeat (first | exact (Kd.R_reads' HO413.out).2.2 | (with_reducible refine Kd.C_alloc ?_ _) | (with_reducible refine Kd.C_drewN ?_ _) | (with_reducible refine Kd.C_drew ?_))); (case side2 => exact (Kd.R_reads' HO413.out).2.1); (case side3 => repeat (first | exact (Kd.R_reads' HO_5.out).2.2 | (with_reducible refine Kd.C_alloc ?_ _) | (with_reducible refine Kd.C_drewN ?_ _) | (with_reducible refine Kd.C_drew ?_))); (case side4 => exact (Kd.R_reads' HO_5.out).2.1); rintro e w31 ⟨v415, rfl, ho0, hb⟩; refine ⟨_, rfl, ?_⟩; have n0_ := Aside0.mk (Kd.R_below (by (with_reducible repeat (first | apply Kd.R_alloc | apply Kd.R_drewN | apply Kd.R_drew)); exact HO_5.out) hb); have n1_ := Aside0.mk (Kd.R_below (by (with_reducible repeat (first | apply Kd.R_alloc | apply Kd.R_drewN | apply Kd.R_drew)); exact HO413.out) hb); have n2_ := Aside0.mk (Kd.R_lower ho0 (below_size (by repeat (first | (with_reducible first | exact HB.out | apply below_alloc | apply pw_below_drewN | apply below_drew1) | exact HB.out)))); have n3_ := Aside0.mk (below_step (by repeat (first | (with_reducible first | exact HB.out | apply below_alloc | apply pw_below_drewN | apply below_drew1) | exact HB.out)) hb); clear HO_5; clear HO413; clear HB; have HO_5 := n0_; have HO413 := n1_; have HO416 := n2_; have HB := n3_; clear n0_ n1_ n2_ n3_; (try clear hb); (try clear hb2); (try clear hk); (try clear hi); (try clear ho0); have p417 : 0 ≤ (t407 : Int) := of_decide_eq_true (by first | (with_reducible assumption) | assumption); have q417 : t407 < (t404.length : Int) := of_decide_eq_true (by first | (with_reducible assumption) | assumption); obtain ⟨ad417, e417, hx417_0⟩ := Kd.at_int (Kd.R_reads' HO_5.out).2.2 t407 p417 q417; cases e417; replace p417 := eq_true p417; replace q417 := eq_true q417) | ((with_reducible refine gate_callee (f := 33) rfl ?_); refine goesL_ (some 63) rfl rfl Try.func33 (by kernel_rfl) rfl #[.string t402, .int .i64 t403, .int .i64 (rd t404 t407), .bool false] rfl (by (try simp only [List.map_toArray, List.map_cons, List.map_nil]); first | done | rfl | (simp only [List.length_drop, List.length_take]; rfl)) ?_; (with_reducible refine (impl_BitsGet.calls kj5 t402 t403 (rd t404 t407) false t418 true _ A18.out).mono ?_); rintro e w' ⟨rfl, ⟨nd, rfl⟩⟩; refine ⟨_, rfl, ?_⟩; obtain ⟨Ao32, co32, eo32⟩ := Kd.R_slice HO416.out; subst eo32; have p420 : 0 ≤ (0 : Int) := (by omega); have q420 : 0 < (t414.length : Int) := of_decide_eq_true (by first | (with_reducible assumption) | assumption); obtain ⟨ad420, e420, hx420_0, hx420_1⟩ := at_T50 (Kd.R_reads' HO416.out).2.2 0 p420 q420; cases e420; have qi420 : (0 < t414.length) = True := eq_true (by omega); (try rw [show ((0 : Int)).toNat = 0 from rfl] at hx420_0); (try rw [show 0 * 2 = 0 from rfl] at hx420_0); (try rw [Addr.add_zero'] at hx420_0); (try rw [show ((0 : Int)).toNat = 0 from rfl] at hx420_1); (try rw [show 0 * 2 = 0 from rfl] at hx420_1); (try rw [Addr.add_zero'] at hx420_1); replace p420 := eq_true p420; replace q420 := eq_true q420))
                        go_ret
                        exact ⟨by first | rfl | (simp [errW_none, errW_some] <;> rfl) | (simp [*, errW_none, errW_some] <;> rfl), by repeat (first | (with_reducible first | exact HB.out | apply below_alloc | apply pw_below_drewN | apply below_drew1) | exact HB.out)⟩
                    · rw [if_neg c21] at H
                      exact absurd H (by simp)
                  · replace c20 := Bool.eq_false_iff.mpr c20
                    subst c20
                    have H1 : (some false) = some r := by first | (rw [if_neg (show ¬ (false = true) by decide)] at H; exact H) | rfl
                    clear H
                    have H := H1
                    clear H1
                    obtain rfl := Option.some.inj H
                    go_wp2_with (first | ((with_reducible refine gate_dst (N := 53) rfl ?_); refine Kd.R_lit (Kd.int .i64) _ 3 ?hg (N := 53) ?hd (xs := ([t407] : List Int)) (inner := [.int .i64 t407]) (ok := fun _ => True) (okp := fun _ => True) ?hr ?hp (fun _ hk => hk) trivial (Below.refl _ _) (Nat.le_refl _) (by simp) ?_; (case hd => rfl); (case hg => rfl); (case hr => first | (go_simp; done) | (go_simp; rfl)); (case hp => exact (Reps.one (show Kd.M (Kd.int .i64) _ _ _ t407 [.int .i64 t407] from rfl) (Reps.none _ _))); intro v412 w33 ho34 hb hg_ hnew_; clear hg_ hnew_; (first | rw [← Ny411.out] at ho34 | (simp only [Int.reduceToNat] at ho34; rw [← Ny411.out] at ho34)); have n0_ := Aside0.mk (Kd.R_elder' (by (with_reducible repeat (first | apply Kd.R_alloc | apply Kd.R_drewN | apply Kd.R_drew)); exact HO_5.out) (Kd.R_base ho34) hb); have n1_ := Aside0.mk (Kd.R_lower (Kd.R_new' ho34 (Kd.R_lt (by (with_reducible repeat (first | apply Kd.R_alloc | apply Kd.R_drewN | apply Kd.R_drew)); exact HO_5.out))) (below_size (by repeat (first | (with_reducible first | exact HB.out | apply below_alloc | apply pw_below_drewN | apply below_drew1) | exact HB.out)))); have n2_ := Aside0.mk (below_step (by repeat (first | (with_reducible first | exact HB.out | apply below_alloc | apply pw_below_drewN | apply below_drew1) | exact HB.out)) hb); clear HO_5; clear HB; have HO_5 := n0_; have HO413 := n1_; have HB := n2_; clear n0_ n1_ n2_; clear hb ho34; obtain ⟨Ao35, co35, eo35⟩ := Kd.R_slice HO413.out; subst eo35) | ((with_reducible refine gate_callee (f := 32) rfl ?_); refine goesL_ (some 55) rfl rfl Try.func32 (by kernel_rfl) rfl #[.slice Ao35 y411.length co35, .slice Ao8 t404.length co8] rfl (by (try simp only [List.map_toArray, List.map_cons, List.map_nil]); first | done | rfl | (simp only [List.length_drop, List.length_take]; rfl)) ?_; (with_reducible refine (impl_CodePut.calls kj5 _ _ y411 _ _ t404 t414 _ ?side1 ?side2 ?side3 ?side4 A15.out).mono ?_); (case side1 => repeat (first | exact (Kd.R_reads' HO413.out).2.2 | (with_reducible refine Kd.C_alloc ?_ _) | (with_reducible refine Kd.C_drewN ?_ _) | (with_reducible refine Kd.C_drew ?_))); (case side2 => exact (Kd.R_reads' HO413.out).2.1); (case side3 => repeat (first | exact (Kd.R_reads' HO_5.out).2.2 | (with_reducible refine Kd.C_alloc ?_ _) | (with_reducible refine Kd.C_drewN ?_ _) | (with_reducible refine Kd.C_drew ?_))); (case side4 => exact (Kd.R_reads' HO_5.out).2.1); rintro e w36 ⟨v415, rfl, ho0, hb⟩; refine ⟨_, rfl, ?_⟩; have n0_ := Aside0.mk (Kd.R_below (by (with_reducible repeat (first | apply Kd.R_alloc | apply Kd.R_drewN | apply Kd.R_drew)); exact HO_5.out) hb); have n1_ := Aside0.mk (Kd.R_below (by (with_reducible repeat (first | apply Kd.R_alloc | apply Kd.R_drewN | apply Kd.R_drew)); exact HO413.out) hb); have n2_ := Aside0.mk (Kd.R_lower ho0 (below_size (by repeat (first | (with_reducible first | exact HB.out | apply below_alloc | apply pw_below_drewN | apply below_drew1) | exact HB.out)))); have n3_ := Aside0.mk (below_step (by repeat (first | (with_reducible first | exact HB.out | apply below_alloc | apply pw_below_drewN | apply below_drew1) | exact HB.out)) hb); clear HO_5; clear HO413; clear HB; have HO_5 := n0_; have HO413 := n1_; have HO416 := n2_; have HB := n3_; clear n0_ n1_ n2_ n3_; (try clear hb); (try clear hb2); (try clear hk); (try clear hi); (try clear ho0); have p417 : 0 ≤ (t407 : Int) := of_decide_eq_true (by first | (with_reducible assumption) | assumption); have q417 : t407 < (t404.length : Int) := of_decide_eq_true (by first | (with_reducible assumption) | assumption); obtain ⟨ad417, e417, hx417_0⟩ := Kd.at_int (Kd.R_reads' HO_5.out).2.2 t407 p417 q417; cases e417; replace p417 := eq_true p417; replace q417 := eq_true q417) | ((with_reducible refine gate_callee (f := 33) rfl ?_); refine goesL_ (some 63) rfl rfl Try.func33 (by kernel_rfl) rfl #[.string t402, .int .i64 t403, .int .i64 (rd t404 t407), .bool false] rfl (by (try simp only [List.map_toArray, List.map_cons, List.map_nil]); first | done | rfl | (simp only [List.length_drop, List.length_take]; rfl)) ?_; (with_reducible refine (impl_BitsGet.calls kj5 t402 t403 (rd t404 t407) false t418 false _ A18.out).mono ?_); rintro e w' ⟨rfl, ⟨nd, rfl⟩⟩; refine ⟨_, rfl, ?_⟩; obtain ⟨Ao37, co37, eo37⟩ := Kd.R_slice HO416.out; subst eo37))
                    go_ret
                    exact ⟨by first | rfl | (simp [errW_none, errW_some] <;> rfl) | (simp [*, errW_none, errW_some] <;> rfl), by repeat (first | (with_reducible first | exact HB.out | apply below_alloc | apply pw_below_drewN | apply below_drew1) | exact HB.out)⟩
                · rw [if_neg c19] at H
                  have c19b0 : ((t414.length : Int) == 1) = false := beq_eq_false_iff_ne.mpr c19
                  have c19b1 : ((t414.length : Int) != 1) = true := bne_iff_ne.mpr c19
                  obtain rfl := Option.some.inj H
                  go_wp2_with (first | ((with_reducible refine gate_dst (N := 53) rfl ?_); refine Kd.R_lit (Kd.int .i64) _ 3 ?hg (N := 53) ?hd (xs := ([t407] : List Int)) (inner := [.int .i64 t407]) (ok := fun _ => True) (okp := fun _ => True) ?hr ?hp (fun _ hk => hk) trivial (Below.refl _ _) (Nat.le_refl _) (by simp) ?_; (case hd => rfl); (case hg => rfl); (case hr => first | (go_simp; done) | (go_simp; rfl)); (case hp => exact (Reps.one (show Kd.M (Kd.int .i64) _ _ _ t407 [.int .i64 t407] from rfl) (Reps.none _ _))); intro v412 w38 ho39 hb hg_ hnew_; clear hg_ hnew_; (first | rw [← Ny411.out] at ho39 | (simp only [Int.reduceToNat] at ho39; rw [← Ny411.out] at ho39)); have n0_ := Aside0.mk (Kd.R_elder' (by (with_reducible repeat (first | apply Kd.R_alloc | apply Kd.R_drewN | apply Kd.R_drew)); exact HO_5.out) (Kd.R_base ho39) hb); have n1_ := Aside0.mk (Kd.R_lower (Kd.R_new' ho39 (Kd.R_lt (by (with_reducible repeat (first | apply Kd.R_alloc | apply Kd.R_drewN | apply Kd.R_drew)); exact HO_5.out))) (below_size (by repeat (first | (with_reducible first | exact HB.out | apply below_alloc | apply pw_below_drewN | apply below_drew1) | exact HB.out)))); have n2_ := Aside0.mk (below_step (by repeat (first | (with_reducible first | exact HB.out | apply below_alloc | apply pw_below_drewN | apply below_drew1) | exact HB.out)) hb); clear HO_5; clear HB; have HO_5 := n0_; have HO413 := n1_; have HB := n2_; clear n0_ n1_ n2_; clear hb ho39; obtain ⟨Ao40, co40, eo40⟩ := Kd.R_slice HO413.out; subst eo40) | ((with_reducible refine gate_callee (f := 32) rfl ?_); refine goesL_ (some 55) rfl rfl Try.func32 (by kernel_rfl) rfl #[.slice Ao40 y411.length co40, .slice Ao8 t404.length co8] rfl (by (try simp only [List.map_toArray, List.map_cons, List.map_nil]); first | done | rfl | (simp only [List.length_drop, List.length_take]; rfl)) ?_; (with_reducible refine (impl_CodePut.calls kj5 _ _ y411 _ _ t404 t414 _ ?side1 ?side2 ?side3 ?side4 A15.out).mono ?_); (case side1 => repeat (first | exact (Kd.R_reads' HO413.out).2.2 | (with_reducible refine Kd.C_alloc ?_ _) | (with_reducible refine Kd.C_drewN ?_ _) | (with_reducible refine Kd.C_drew ?_))); (case side2 => exact (Kd.R_reads' HO413.out).2.1); (case side3 => repeat (first | exact (Kd.R_reads' HO_5.out).2.2 | (with_reducible refine Kd.C_alloc ?_ _) | (with_reducible refine Kd.C_drewN ?_ _) | (with_reducible refine Kd.C_drew ?_))); (case side4 => exact (Kd.R_reads' HO_5.out).2.1); rintro e w41 ⟨v415, rfl, ho0, hb⟩; refine ⟨_, rfl, ?_⟩; have n0_ := Aside0.mk (Kd.R_below (by (with_reducible repeat (first | apply Kd.R_alloc | apply Kd.R_drewN | apply Kd.R_drew)); exact HO_5.out) hb); have n1_ := Aside0.mk (Kd.R_below (by (with_reducible repeat (first | apply Kd.R_alloc | apply Kd.R_drewN | apply Kd.R_drew)); exact HO413.out) hb); have n2_ := Aside0.mk (Kd.R_lower ho0 (below_size (by repeat (first | (with_reducible first | exact HB.out | apply below_alloc | apply pw_below_drewN | apply below_drew1) | exact HB.out)))); have n3_ := Aside0.mk (below_step (by repeat (first | (with_reducible first | exact HB.out | apply below_alloc | apply pw_below_drewN | apply below_drew1) | exact HB.out)) hb); clear HO_5; clear HO413; clear HB; have HO_5 := n0_; have HO413 := n1_; have HO416 := n2_; have HB := n3_; clear n0_ n1_ n2_ n3_; (try clear hb); (try clear hb2); (try clear hk); (try clear hi); (try clear ho0); have p417 : 0 ≤ (t407 : Int) := of_decide_eq_true (by first | (with_reducible assumption) | assumption); have q417 : t407 < (t404.length : Int) := of_decide_eq_true (by first | (with_reducible assumption) | assumption); obtain ⟨ad417, e417, hx417_0⟩ := Kd.at_int (Kd.R_reads' HO_5.out).2.2 t407 p417 q417; cases e417; replace p417 := eq_true p417; replace q417 := eq_true q417) | ((with_reducible refine gate_callee (f := 33) rfl ?_); refine goesL_ (some 63) rfl rfl Try.func33 (by kernel_rfl) rfl #[.string t402, .int .i64 t403, .int .i64 (rd t404 t407), .bool false] rfl (by (try simp only [List.map_toArray, List.map_cons, List.map_nil]); first | done | rfl | (simp only [List.length_drop, List.length_take]; rfl)) ?_; (with_reducible refine (impl_BitsGet.calls kj5 t402 t403 (rd t404 t407) false t418 t419 _ A18.out).mono ?_); rintro e w' ⟨rfl, ⟨nd, rfl⟩⟩; refine ⟨_, rfl, ?_⟩; obtain ⟨Ao42, co42, eo42⟩ := Kd.R_slice HO416.out; subst eo42))
                  go_ret
                  exact ⟨by first | rfl | (simp [errW_none, errW_some] <;> rfl) | (simp [*, errW_none, errW_some] <;> rfl), by repeat (first | (with_reducible first | exact HB.out | apply below_alloc | apply pw_below_drewN | apply below_drew1) | exact HB.out)⟩
              · rw [if_neg c17] at H
                exact absurd H (by simp)
            · rw [if_neg c16] at H
              exact absurd H (by simp)

/-- THE ONE PURE STATEMENT of laws_FnCodeGet: yours. -/
def laws_FnCodeGet.Pure : Prop := ∀ (l0 : List Int), l0.length ≤ maxLen → l0.length * 1 ≤ 140737488351232 → (∀ x ∈ l0, (Lit.int .u8 x).wf = true) → ∃ k, laws_FnCodeGet.f k l0 = some true
theorem laws_FnCodeGet.walk (P : laws_FnCodeGet.Pure) (a0 : Option Addr) (len0 cap0 : Nat) (z0 : List Int) (w : World) (w0 : (a0 = none ∧ len0 = 0 ∧ cap0 = 0 ∧ z0 = []) ∨ ∃ x, a0 = some x ∧ len0 ≤ cap0 ∧ cap0 ≤ maxLen ∧ z0.length = cap0 ∧ (∀ i, i < z0.length → w.cell? (x.add i) = some (.int .u8 (z0.getD i 0))) ∧ ∀ n ∈ z0, (Lit.int .u8 n).wf = true) (y0 : len0 * 1 ≤ 140737488351232) :
    Calls Try.prog 8 #[.slice a0 len0 cap0] w fun e w' => e = .returned (.bool true) ∧ Below w.heap.size w w' := by
  obtain ⟨l0, rfl, hr0, hm0, hw0, hc0⟩ := ReadsInt.ofRowC w0
  obtain ⟨k, h⟩ := P l0 hm0 y0 hw0
  refine (laws_FnCodeGet.calls k _ _ l0 true w (Kd.C_of_reads (d := (0 : Int)) (h1 := fun _ => rfl) hr0) hc0 h).mono ?_
  rintro e w' ⟨rfl, hd⟩
  exact ⟨rfl, hd⟩

end Go.Proofs.Ytgajagocenffeaa.PFnCodeGet
