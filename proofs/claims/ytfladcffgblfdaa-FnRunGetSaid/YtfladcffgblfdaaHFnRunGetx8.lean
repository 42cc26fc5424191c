/- What the functions that the law comes to compute, as plain functions, and that the machine's calls come to just that: written by a program for this claim, and turned where Lean did not take it. No condition. -/
import Derived.Test.YtfladcffgblfdaaHFnRunGetx0
import Derived.Test.YtfladcffgblfdaaHFnRunGetx1
import Derived.Test.YtfladcffgblfdaaHFnRunGetx2
import Derived.Test.YtfladcffgblfdaaHFnRunGetx6
import Derived.Test.YtfladcffgblfdaaHFnRunGetx7
namespace Go.Proofs.Ytfladcffgblfdaa.PFnRunGet
open Go.RowKit Go.Proofs.YtfladcffgblfdaaW.PrintWords Go.Proofs.YtfladcffgblfdaaW.PrintLast Go.Proofs.YtfladcffgblfdaaW.PrintMore
attribute [local go_sem] max2_int min2_int max_two min_two max_three min_three max_four min_four   -- for this text's walks alone
set_option linter.unusedVariables false
set_option linter.unusedSimpArgs false

/-! ### laws_FnRunGet: function 12 -/
mutual
def laws_FnRunGet.j0 : Nat → ByteArray → Int → Int → Int → List Int → Int → Bool → Bool → Option (Bool)
  | 0, _, _, _, _, _, _, _, _ => none
  | k + 1, x3, x4, x5, x6, x7, x8, x9, x58 => if x58 = true then (some false) else (if x9 = true then (laws_FnRunGet.l0 k x3 x4 x5 x6 x7 x8 0) else (if (x7.length : Int) = 0 then (some (x8 == 0)) else (some false)))
def laws_FnRunGet.l0 : Nat → ByteArray → Int → Int → Int → List Int → Int → Int → Option (Bool)
  | 0, _, _, _, _, _, _, _ => none
  | k + 1, x3, x4, x5, x6, x7, x8, x13 => if x13 ≤ x6 then ((impl_RunGet.f k x3 x4 x5 x13).bind fun bt283 => (if bt283.2.2 = true then (if 0 ≤ x13 then (if x13 ≤ (x7.length : Int) then ((laws_wiInts.f k bt283.1 (x7.take (x13 : Int).toNat)).bind fun t292 => (if t292 = true then (if bt283.2.1 > x8 then (some false) else (laws_FnRunGet.l0 k x3 x4 x5 x6 x7 x8 (wrap64 (x13 + 1)))) else (some false))) else (none)) else (none)) else (laws_FnRunGet.l0 k x3 x4 x5 x6 x7 x8 (wrap64 (x13 + 1))))) else (if (x7.length : Int) = x6 then (some (decide (x8 ≤ (x3.size : Int)))) else (some false))
end
def laws_FnRunGet.f (k : Nat) (l0 : List Int) : Option (Bool) := if (l0.length : Int) > 1048576 then (some true) else ((spec_DrawRunGet.f k l0).bind fun bt268 => ((impl_RunGet.f k bt268.1 bt268.2.1 bt268.2.2.1 bt268.2.2.2).bind fun bt272 => ((spec_RunGet.f k bt268.1 bt268.2.1 bt268.2.2.1 bt268.2.2.2).bind fun bt277 => ((laws_wiInts.f k bt272.1 bt277.1).bind fun t282 => (if t282 = true then (if bt272.2.1 = bt277.2.1 then (laws_FnRunGet.j0 k bt268.1 bt268.2.1 bt268.2.2.1 bt268.2.2.2 bt272.1 bt272.2.1 bt272.2.2 (bt272.2.2 != bt277.2.2)) else (laws_FnRunGet.j0 k bt268.1 bt268.2.1 bt268.2.2.1 bt268.2.2.2 bt272.1 bt272.2.1 bt272.2.2 true)) else (laws_FnRunGet.j0 k bt268.1 bt268.2.1 bt268.2.2.1 bt268.2.2.2 bt272.1 bt272.2.1 bt272.2.2 true))))))
theorem laws_FnRunGet.mono_l : ∀ k, (∀ y0 y1 y2 y3 y4 y5 y6 y7, LeO (laws_FnRunGet.j0 k y0 y1 y2 y3 y4 y5 y6 y7) (laws_FnRunGet.j0 (k + 1) y0 y1 y2 y3 y4 y5 y6 y7)) ∧ (∀ y0 y1 y2 y3 y4 y5 y6, LeO (laws_FnRunGet.l0 k y0 y1 y2 y3 y4 y5 y6) (laws_FnRunGet.l0 (k + 1) y0 y1 y2 y3 y4 y5 y6))
  | 0 => ⟨fun _ _ _ _ _ _ _ _ r h => by simp [laws_FnRunGet.j0] at h, fun _ _ _ _ _ _ _ r h => by simp [laws_FnRunGet.l0] at h⟩
  | k + 1 => by
    obtain ⟨ih0, ih1⟩ := laws_FnRunGet.mono_l k
    refine ⟨?_, ?_⟩
    · intro y0 y1 y2 y3 y4 y5 y6 y7
      unfold laws_FnRunGet.j0
      repeat' first
      | (with_reducible exact ih0 _ _ _ _ _ _ _ _)
      | (with_reducible exact ih1 _ _ _ _ _ _ _)
      | (with_reducible exact impl_RunGet.mono _ _ _ _ _)
      | (with_reducible exact laws_wiInts.mono _ _ _)
      | (with_reducible exact spec_DrawRunGet.mono _ _)
      | (with_reducible exact spec_RunGet.mono _ _ _ _ _)
      | (with_reducible exact LeO.refl _)
      | (with_reducible exact LeO.none _)
      | (with_reducible refine LeO.ite ?_ ?_)
      | (with_reducible refine LeO.bind ?_ (fun _ => ?_))
      | exact ih0 _ _ _ _ _ _ _ _
      | exact ih1 _ _ _ _ _ _ _
      | exact impl_RunGet.mono _ _ _ _ _
      | exact laws_wiInts.mono _ _ _
      | exact spec_DrawRunGet.mono _ _
      | exact spec_RunGet.mono _ _ _ _ _
      | exact LeO.none _
      | refine LeO.ite ?_ ?_
      | refine LeO.bind ?_ (fun _ => ?_)
    · intro y0 y1 y2 y3 y4 y5 y6
      unfold laws_FnRunGet.l0
      repeat' first
      | (with_reducible exact ih0 _ _ _ _ _ _ _ _)
      | (with_reducible exact ih1 _ _ _ _ _ _ _)
      | (with_reducible exact impl_RunGet.mono _ _ _ _ _)
      | (with_reducible exact laws_wiInts.mono _ _ _)
      | (with_reducible exact spec_DrawRunGet.mono _ _)
      | (with_reducible exact spec_RunGet.mono _ _ _ _ _)
      | (with_reducible exact LeO.refl _)
      | (with_reducible exact LeO.none _)
      | (with_reducible refine LeO.ite ?_ ?_)
      | (with_reducible refine LeO.bind ?_ (fun _ => ?_))
      | exact ih0 _ _ _ _ _ _ _ _
      | exact ih1 _ _ _ _ _ _ _
      | exact impl_RunGet.mono _ _ _ _ _
      | exact laws_wiInts.mono _ _ _
      | exact spec_DrawRunGet.mono _ _
      | exact spec_RunGet.mono _ _ _ _ _
      | exact LeO.none _
      | refine LeO.ite ?_ ?_
      | refine LeO.bind ?_ (fun _ => ?_)
theorem laws_FnRunGet.mono : ∀ a0 k, LeO (laws_FnRunGet.f k a0) (laws_FnRunGet.f (k + 1) a0) := by
  intro a0 k
  obtain ⟨ih0, ih1⟩ := laws_FnRunGet.mono_l k
  unfold laws_FnRunGet.f
  repeat' first
      | (with_reducible exact ih0 _ _ _ _ _ _ _ _)
      | (with_reducible exact ih1 _ _ _ _ _ _ _)
      | (with_reducible exact impl_RunGet.mono _ _ _ _ _)
      | (with_reducible exact laws_wiInts.mono _ _ _)
      | (with_reducible exact spec_DrawRunGet.mono _ _)
      | (with_reducible exact spec_RunGet.mono _ _ _ _ _)
      | (with_reducible exact LeO.refl _)
      | (with_reducible exact LeO.none _)
      | (with_reducible refine LeO.ite ?_ ?_)
      | (with_reducible refine LeO.bind ?_ (fun _ => ?_))
      | exact ih0 _ _ _ _ _ _ _ _
      | exact ih1 _ _ _ _ _ _ _
      | exact impl_RunGet.mono _ _ _ _ _
      | exact laws_wiInts.mono _ _ _
      | exact spec_DrawRunGet.mono _ _
      | exact spec_RunGet.mono _ _ _ _ _
      | exact LeO.none _
      | refine LeO.ite ?_ ?_
      | refine LeO.bind ?_ (fun _ => ?_)
set_option maxHeartbeats 8000000 in
set_option maxRecDepth 100000 in
theorem laws_FnRunGet.calls (k : Nat) (A0 : Option Addr) (c0 : Nat) (l0 : List Int) (r : Bool) (w : World) (hr0 : Kd.C (Kd.int .u8) w A0 l0.length l0) (hc0 : l0.length ≤ c0) (h : laws_FnRunGet.f k l0 = some r) :
    Calls Try.prog 12 #[.slice A0 l0.length c0] w fun e w' => e = .returned (.bool r) ∧ Below w.heap.size w w' := by
  have HR0 := Aside0.mk hr0
  have HC0 := Aside0.mk hc0
  clear hr0 hc0
  have HB := Aside0.mk (Below.refl w.heap.size w)
  have H : (if (l0.length : Int) > 1048576 then (some true) else ((spec_DrawRunGet.f k l0).bind fun bt268 => ((impl_RunGet.f k bt268.1 bt268.2.1 bt268.2.2.1 bt268.2.2.2).bind fun bt272 => ((spec_RunGet.f k bt268.1 bt268.2.1 bt268.2.2.1 bt268.2.2.2).bind fun bt277 => ((laws_wiInts.f k bt272.1 bt277.1).bind fun t282 => (if t282 = true then (if bt272.2.1 = bt277.2.1 then (laws_FnRunGet.j0 k bt268.1 bt268.2.1 bt268.2.2.1 bt268.2.2.2 bt272.1 bt272.2.1 bt272.2.2 (bt272.2.2 != bt277.2.2)) else (laws_FnRunGet.j0 k bt268.1 bt268.2.1 bt268.2.2.1 bt268.2.2.2 bt272.1 bt272.2.1 bt272.2.2 true)) else (laws_FnRunGet.j0 k bt268.1 bt268.2.1 bt268.2.2.1 bt268.2.2.2 bt272.1 bt272.2.1 bt272.2.2 true))))))) = some r := h
  clear h
  by_cases c2 : (l0.length : Int) > 1048576
  · rw [if_pos c2] at H
    have c2b0 : decide (1048576 < (l0.length : Int)) = true := decide_eq_true c2
    have c2b1 : decide (1048576 < l0.length) = true := decide_eq_true (by omega)
    clear c2
    obtain rfl := Option.some.inj H
    go_enter Try.func12, Try.ntmps12
    go_wp2
    go_ret
    exact ⟨by first | rfl | (simp [errW_none, errW_some] <;> rfl) | (simp [*, errW_none, errW_some] <;> rfl), by repeat (first | (with_reducible first | exact HB.out | apply below_alloc | apply pw_below_drewN | apply below_drew1) | exact HB.out)⟩
  · rw [if_neg c2] at H
    have c2b0 : decide (1048576 < (l0.length : Int)) = false := decide_eq_false c2
    have c2b1 : decide (1048576 < l0.length) = false := decide_eq_false (by omega)
    clear c2
    replace H := Option.bind_eq_some_iff.mp H
    obtain ⟨⟨t268, t269, t270, t271⟩, A30, H⟩ := H
    replace H : ((impl_RunGet.f k t268 t269 t270 t271).bind fun bt272 => ((spec_RunGet.f k t268 t269 t270 t271).bind fun bt277 => ((laws_wiInts.f k bt272.1 bt277.1).bind fun t282 => (if t282 = true then (if bt272.2.1 = bt277.2.1 then (laws_FnRunGet.j0 k t268 t269 t270 t271 bt272.1 bt272.2.1 bt272.2.2 (bt272.2.2 != bt277.2.2)) else (laws_FnRunGet.j0 k t268 t269 t270 t271 bt272.1 bt272.2.1 bt272.2.2 true)) else (laws_FnRunGet.j0 k t268 t269 t270 t271 bt272.1 bt272.2.1 bt272.2.2 true))))) = some r := H
    have A3 := Aside0.mk A30
    clear A30
    replace H := Option.bind_eq_some_iff.mp H
    obtain ⟨⟨t272, t273, t274⟩, A40, H⟩ := H
    replace H : ((spec_RunGet.f k t268 t269 t270 t271).bind fun bt277 => ((laws_wiInts.f k t272 bt277.1).bind fun t282 => (if t282 = true then (if t273 = bt277.2.1 then (laws_FnRunGet.j0 k t268 t269 t270 t271 t272 t273 t274 (t274 != bt277.2.2)) else (laws_FnRunGet.j0 k t268 t269 t270 t271 t272 t273 t274 true)) else (laws_FnRunGet.j0 k t268 t269 t270 t271 t272 t273 t274 true)))) = some r := H
    have A4 := Aside0.mk A40
    clear A40
    replace H := Option.bind_eq_some_iff.mp H
    obtain ⟨⟨t277, t278, t279⟩, A50, H⟩ := H
    replace H : ((laws_wiInts.f k t272 t277).bind fun t282 => (if t282 = true then (if t273 = t278 then (laws_FnRunGet.j0 k t268 t269 t270 t271 t272 t273 t274 (t274 != t279)) else (laws_FnRunGet.j0 k t268 t269 t270 t271 t272 t273 t274 true)) else (laws_FnRunGet.j0 k t268 t269 t270 t271 t272 t273 t274 true))) = some r := H
    have A5 := Aside0.mk A50
    clear A50
    have HC6 := Aside0.mk H
    clear H
    go_enter Try.func12, Try.ntmps12
    go_upto_region 6 with (first | ((with_reducible refine gate_callee (f := 52) rfl ?_); refine goesL_ (some 22) rfl rfl Try.func52 (by kernel_rfl) rfl #[.slice A0 l0.length c0] rfl (by (try simp only [List.map_toArray, List.map_cons, List.map_nil]); first | done | rfl | (simp only [List.length_drop, List.length_take]; rfl)) ?_; (with_reducible refine (spec_DrawRunGet.calls k _ _ l0 t268 t269 t270 t271 _ ?side1 ?side2 A3.out).mono ?_); (case side1 => repeat (first | exact HR0.out | (with_reducible refine Kd.C_alloc ?_ _) | (with_reducible refine Kd.C_drewN ?_ _) | (with_reducible refine Kd.C_drew ?_))); (case side2 => exact HC0.out); rintro e w7 ⟨rfl, hb⟩; refine ⟨_, rfl, ?_⟩; have n0_ := Aside0.mk (below_step (by repeat (first | (with_reducible first | exact HB.out | apply below_alloc | apply pw_below_drewN | apply below_drew1) | exact HB.out)) hb); clear HB; have HB := n0_; clear n0_; (try clear hb); (try clear hb2); (try clear hk); (try clear hi)) | ((with_reducible refine gate_callee (f := 50) rfl ?_); refine goesL_ (some 32) rfl rfl Try.func50 (by kernel_rfl) rfl #[.string t268, .int .i64 t269, .int .i64 t270, .int .i64 t271] rfl (by (try simp only [List.map_toArray, List.map_cons, List.map_nil]); first | done | rfl | (simp only [List.length_drop, List.length_take]; rfl)) ?_; (with_reducible refine (impl_RunGet.calls k t268 t269 t270 t271 t272 t273 t274 _ A4.out).mono ?_); rintro e w8 ⟨v275, rfl, ho0, hb⟩; refine ⟨_, rfl, ?_⟩; have n0_ := Aside0.mk (Kd.R_lower ho0 (below_size (by repeat (first | (with_reducible first | exact HB.out | apply below_alloc | apply pw_below_drewN | apply below_drew1) | exact HB.out)))); have n1_ := Aside0.mk (below_step (by repeat (first | (with_reducible first | exact HB.out | apply below_alloc | apply pw_below_drewN | apply below_drew1) | exact HB.out)) hb); clear HB; have HO276 := n0_; have HB := n1_; clear n0_ n1_; (try clear hb); (try clear hb2); (try clear hk); (try clear hi); (try clear ho0)) | ((with_reducible refine gate_callee (f := 53) rfl ?_); refine goesL_ (some 41) rfl rfl Try.func53 (by kernel_rfl) rfl #[.string t268, .int .i64 t269, .int .i64 t270, .int .i64 t271] rfl (by (try simp only [List.map_toArray, List.map_cons, List.map_nil]); first | done | rfl | (simp only [List.length_drop, List.length_take]; rfl)) ?_; (with_reducible refine (spec_RunGet.calls k t268 t269 t270 t271 t277 t278 t279 _ A5.out).mono ?_); rintro e w9 ⟨v280, rfl, ho0, hb⟩; refine ⟨_, rfl, ?_⟩; have n0_ := Aside0.mk (Kd.R_elder' (by (with_reducible repeat (first | apply Kd.R_alloc | apply Kd.R_drewN | apply Kd.R_drew)); exact HO276.out) (Kd.R_base ho0) hb); have n1_ := Aside0.mk (Kd.R_lower (Kd.R_new' ho0 (Kd.R_lt (by (with_reducible repeat (first | apply Kd.R_alloc | apply Kd.R_drewN | apply Kd.R_drew)); exact HO276.out))) (below_size (by repeat (first | (with_reducible first | exact HB.out | apply below_alloc | apply pw_below_drewN | apply below_drew1) | exact HB.out)))); have n2_ := Aside0.mk (below_step (by repeat (first | (with_reducible first | exact HB.out | apply below_alloc | apply pw_below_drewN | apply below_drew1) | exact HB.out)) hb); clear HO276; clear HB; have HO276 := n0_; have HO281 := n1_; have HB := n2_; clear n0_ n1_ n2_; (try clear hb); (try clear hb2); (try clear hk); (try clear hi); (try clear ho0)))
    (try simp only [Act.put, List.setIfInBounds_toArray, List.set_cons_zero, List.set_cons_succ])
    go_cut [58] (fun v58 wc => ∃ (kq : Nat) (x58_5 : Bool), v58 = .bool x58_5 ∧ Aside0 (laws_FnRunGet.j0 kq t268 t269 t270 t271 t272 t273 t274 x58_5 = some r) ∧ Aside0 (kq ≤ k) ∧ Aside0 (Kd.R (Kd.int .i64) 3 wc w.heap.size (fun _ => True) v275 t272) ∧ Aside0 (Below w.heap.size w wc))
    case first =>
      have H := HC6.out
      clear HC6
      replace H := Option.bind_eq_some_iff.mp H
      obtain ⟨t282, A100, H⟩ := H
      replace H : (if t282 = true then (if t273 = t278 then (laws_FnRunGet.j0 k t268 t269 t270 t271 t272 t273 t274 (t274 != t279)) else (laws_FnRunGet.j0 k t268 t269 t270 t271 t272 t273 t274 true)) else (laws_FnRunGet.j0 k t268 t269 t270 t271 t272 t273 t274 true)) = some r := H
      have A10 := Aside0.mk A100
      clear A100
      by_cases c11 : t282 = true
      · subst c11
        have H1 : (if t273 = t278 then (laws_FnRunGet.j0 k t268 t269 t270 t271 t272 t273 t274 (t274 != t279)) else (laws_FnRunGet.j0 k t268 t269 t270 t271 t272 t273 t274 true)) = some r := by rw [if_pos rfl] at H; exact H
        clear H
        have H := H1
        clear H1
        by_cases c12 : t273 = t278
        · rw [if_pos c12] at H
          have c12b0 : (t273 == t278) = true := beq_iff_eq.mpr c12
          have c12b1 : (t273 != t278) = false := bne_eq_false_iff_eq.mpr c12
          clear c12
          (first | rw [c12b0] | (simp only [i64_w, i32_w]; rw [c12b0]) | skip)
          have H' := Aside0.mk H
          clear H
          obtain ⟨Ao13, co13, eo13⟩ := Kd.R_slice HO276.out
          subst eo13
          obtain ⟨Ao14, co14, eo14⟩ := Kd.R_slice HO281.out
          subst eo14
          go_wp2_with (first | ((with_reducible refine gate_callee (f := 51) rfl ?_); refine goesL_ (some 47) rfl rfl Try.func51 (by kernel_rfl) rfl #[.slice Ao13 t272.length co13, .slice Ao14 t277.length co14] rfl (by (try simp only [List.map_toArray, List.map_cons, List.map_nil]); first | done | rfl | (simp only [List.length_drop, List.length_take]; rfl)) ?_; (with_reducible refine (laws_wiInts.calls k _ _ t272 _ _ t277 true _ ?side1 ?side2 ?side3 ?side4 A10.out).mono ?_); (case side1 => repeat (first | exact (Kd.R_reads' HO276.out).2.2 | (with_reducible refine Kd.C_alloc ?_ _) | (with_reducible refine Kd.C_drewN ?_ _) | (with_reducible refine Kd.C_drew ?_))); (case side2 => exact (Kd.R_reads' HO276.out).2.1); (case side3 => repeat (first | exact (Kd.R_reads' HO281.out).2.2 | (with_reducible refine Kd.C_alloc ?_ _) | (with_reducible refine Kd.C_drewN ?_ _) | (with_reducible refine Kd.C_drew ?_))); (case side4 => exact (Kd.R_reads' HO281.out).2.1); rintro e w' ⟨rfl, ⟨nd, rfl⟩⟩; refine ⟨_, rfl, ?_⟩))
          go_meet
          case rel => exact ⟨_, ((t274 != t279)), (by first | rfl | (simp; done) | (simp [*]; done)), H', ⟨by first | omega | exact Nat.le_refl _⟩, ⟨by (with_reducible repeat (first | apply Kd.R_alloc | apply Kd.R_drewN | apply Kd.R_drew)); exact Kd.R_mono HO276.out (fun _ hk => trivial)⟩, ⟨by repeat (first | (with_reducible first | exact HB.out | apply below_alloc | apply pw_below_drewN | apply below_drew1) | exact HB.out)⟩⟩
        · rw [if_neg c12] at H
          have c12b0 : (t273 == t278) = false := beq_eq_false_iff_ne.mpr c12
          have c12b1 : (t273 != t278) = true := bne_iff_ne.mpr c12
          (first | rw [c12b0] | (simp only [i64_w, i32_w]; rw [c12b0]) | skip)
          have H' := Aside0.mk H
          clear H
          obtain ⟨Ao15, co15, eo15⟩ := Kd.R_slice HO276.out
          subst eo15
          obtain ⟨Ao16, co16, eo16⟩ := Kd.R_slice HO281.out
          subst eo16
          go_wp2_with (first | ((with_reducible refine gate_callee (f := 51) rfl ?_); refine goesL_ (some 47) rfl rfl Try.func51 (by kernel_rfl) rfl #[.slice Ao15 t272.length co15, .slice Ao16 t277.length co16] rfl (by (try simp only [List.map_toArray, List.map_cons, List.map_nil]); first | done | rfl | (simp only [List.length_drop, List.length_take]; rfl)) ?_; (with_reducible refine (laws_wiInts.calls k _ _ t272 _ _ t277 true _ ?side1 ?side2 ?side3 ?side4 A10.out).mono ?_); (case side1 => repeat (first | exact (Kd.R_reads' HO276.out).2.2 | (with_reducible refine Kd.C_alloc ?_ _) | (with_reducible refine Kd.C_drewN ?_ _) | (with_reducible refine Kd.C_drew ?_))); (case side2 => exact (Kd.R_reads' HO276.out).2.1); (case side3 => repeat (first | exact (Kd.R_reads' HO281.out).2.2 | (with_reducible refine Kd.C_alloc ?_ _) | (with_reducible refine Kd.C_drewN ?_ _) | (with_reducible refine Kd.C_drew ?_))); (case side4 => exact (Kd.R_reads' HO281.out).2.1); rintro e w' ⟨rfl, ⟨nd, rfl⟩⟩; refine ⟨_, rfl, ?_⟩))
          go_meet
          case rel => exact ⟨_, (true), (by first | rfl | (simp; done) | (simp [*]; done)), H', ⟨by first | omega | exact Nat.le_refl _⟩, ⟨by (with_reducible repeat (first | apply Kd.R_alloc | apply Kd.R_drewN | apply Kd.R_drew)); exact Kd.R_mono HO276.out (fun _ hk => trivial)⟩, ⟨by repeat (first | (with_reducible first | exact HB.out | apply below_alloc | apply pw_below_drewN | apply below_drew1) | exact HB.out)⟩⟩
      · replace c11 := Bool.eq_false_iff.mpr c11
        subst c11
        have H1 : (laws_FnRunGet.j0 k t268 t269 t270 t271 t272 t273 t274 true) = some r := by rw [if_neg (show ¬ (false = true) by decide)] at H; exact H
        clear H
        have H := H1
        clear H1
        have H' := Aside0.mk H
        clear H
        obtain ⟨Ao17, co17, eo17⟩ := Kd.R_slice HO276.out
        subst eo17
        obtain ⟨Ao18, co18, eo18⟩ := Kd.R_slice HO281.out
        subst eo18
        go_wp2_with (first | ((with_reducible refine gate_callee (f := 51) rfl ?_); refine goesL_ (some 47) rfl rfl Try.func51 (by kernel_rfl) rfl #[.slice Ao17 t272.length co17, .slice Ao18 t277.length co18] rfl (by (try simp only [List.map_toArray, List.map_cons, List.map_nil]); first | done | rfl | (simp only [List.length_drop, List.length_take]; rfl)) ?_; (with_reducible refine (laws_wiInts.calls k _ _ t272 _ _ t277 false _ ?side1 ?side2 ?side3 ?side4 A10.out).mono ?_); (case side1 => repeat (first | exact (Kd.R_reads' HO276.out).2.2 | (with_reducible refine Kd.C_alloc ?_ _) | (with_reducible refine Kd.C_drewN ?_ _) | (with_reducible refine Kd.C_drew ?_))); (case side2 => exact (Kd.R_reads' HO276.out).2.1); (case side3 => repeat (first | exact (Kd.R_reads' HO281.out).2.2 | (with_reducible refine Kd.C_alloc ?_ _) | (with_reducible refine Kd.C_drewN ?_ _) | (with_reducible refine Kd.C_drew ?_))); (case side4 => exact (Kd.R_reads' HO281.out).2.1); rintro e w' ⟨rfl, ⟨nd, rfl⟩⟩; refine ⟨_, rfl, ?_⟩))
        go_meet
        case rel => exact ⟨_, (true), (by first | rfl | (simp; done) | (simp [*]; done)), H', ⟨by first | omega | exact Nat.le_refl _⟩, ⟨by (with_reducible repeat (first | apply Kd.R_alloc | apply Kd.R_drewN | apply Kd.R_drew)); exact Kd.R_mono HO276.out (fun _ hk => trivial)⟩, ⟨by repeat (first | (with_reducible first | exact HB.out | apply below_alloc | apply pw_below_drewN | apply below_drew1) | exact HB.out)⟩⟩
    case rest =>
      clear HC6
      try clear c1
      try clear c2
      try clear c2b0
      try clear c2b1
      try clear p2
      try clear c5
      try clear c11
      try clear c12
      try clear c12b0
      try clear c12b1
      obtain ⟨kq, x58_5, rfl, HA, HJ5, HO_7, HB⟩ := hcut
      cases kq with
      | zero => exact absurd HA.out (by simp [laws_FnRunGet.j0])
      | succ kj5 =>
        have H := HA.out
        clear HA
        simp only [laws_FnRunGet.j0] at H
        by_cases c19 : x58_5 = true
        · subst c19
          have H1 : (some false) = some r := by rw [if_pos rfl] at H; exact H
          clear H
          have H := H1
          clear H1
          obtain rfl := Option.some.inj H
          go_wp2
          go_ret
          exact ⟨by first | rfl | (simp [errW_none, errW_some] <;> rfl) | (simp [*, errW_none, errW_some] <;> rfl), by repeat (first | (with_reducible first | exact HB.out | apply below_alloc | apply pw_below_drewN | apply below_drew1) | exact HB.out)⟩
        · replace c19 := Bool.eq_false_iff.mpr c19
          subst c19
          have H1 : (if t274 = true then (laws_FnRunGet.l0 kj5 t268 t269 t270 t271 t272 t273 0) else (if (t272.length : Int) = 0 then (some (t273 == 0)) else (some false))) = some r := by rw [if_neg (show ¬ (false = true) by decide)] at H; exact H
          clear H
          have H := H1
          clear H1
          by_cases c20 : t274 = true
          · subst c20
            have H1 : (laws_FnRunGet.l0 kj5 t268 t269 t270 t271 t272 t273 0) = some r := by rw [if_pos rfl] at H; exact H
            clear H
            have H := H1
            clear H1
            have H' := Aside0.mk H
            clear H
            go_wp2
            go_loopg [13] kj5 (fun kq v13 w' => ∃ (x13_2 : Int), v13 = .int .i64 x13_2 ∧ Aside0 (laws_FnRunGet.l0 kq t268 t269 t270 t271 t272 t273 x13_2 = some r) ∧ Aside0 (kq ≤ kj5) ∧ Aside0 (Kd.R (Kd.int .i64) 3 w' w.heap.size (fun _ => True) v275 t272) ∧ Aside0 (Below w.heap.size w w'))
            case atStart => exact ⟨(0), (by first | rfl | (simp; done) | (simp [*]; done)), H', ⟨Nat.le_refl _⟩, ⟨by (with_reducible repeat (first | apply Kd.R_alloc | apply Kd.R_drewN | apply Kd.R_drew)); exact HO_7.out⟩, ⟨by repeat (first | (with_reducible first | exact HB.out | apply below_alloc | apply pw_below_drewN | apply below_drew1) | exact HB.out)⟩⟩
            case round =>
              clear H'
              try clear c1
              try clear c2
              try clear c2b0
              try clear c2b1
              try clear p2
              try clear c5
              try clear c11
              try clear c12
              try clear c12b0
              try clear c12b1
              try clear c19
              try clear c20
              try clear p2
              obtain ⟨x13_2, rfl, HA, HK2, HO_7, HB⟩ := hrel
              cases gk with
              | zero => exact absurd HA.out (by simp [laws_FnRunGet.l0])
              | succ k2 =>
                have H := HA.out
                clear HA
                simp only [laws_FnRunGet.l0] at H
                by_cases c21 : x13_2 ≤ t271
                · rw [if_pos c21] at H
                  have c21b0 : decide (x13_2 ≤ t271) = true := decide_eq_true c21
                  clear c21
                  replace H := Option.bind_eq_some_iff.mp H
                  obtain ⟨⟨t283, t284, t285⟩, A220, H⟩ := H
                  replace H : (if t285 = true then (if 0 ≤ x13_2 then (if x13_2 ≤ (t272.length : Int) then ((laws_wiInts.f k2 t283 (t272.take (x13_2 : Int).toNat)).bind fun t292 => (if t292 = true then (if t284 > t273 then (some false) else (laws_FnRunGet.l0 k2 t268 t269 t270 t271 t272 t273 (wrap64 (x13_2 + 1)))) else (some false))) else (none)) else (none)) else (laws_FnRunGet.l0 k2 t268 t269 t270 t271 t272 t273 (wrap64 (x13_2 + 1)))) = some r := H
                  have A22 := Aside0.mk A220
                  clear A220
                  by_cases c23 : t285 = true
                  · subst c23
                    have H1 : (if 0 ≤ x13_2 then (if x13_2 ≤ (t272.length : Int) then ((laws_wiInts.f k2 t283 (t272.take (x13_2 : Int).toNat)).bind fun t292 => (if t292 = true then (if t284 > t273 then (some false) else (laws_FnRunGet.l0 k2 t268 t269 t270 t271 t272 t273 (wrap64 (x13_2 + 1)))) else (some false))) else (none)) else (none)) = some r := by rw [if_pos rfl] at H; exact H
                    clear H
                    have H := H1
                    clear H1
                    by_cases c24 : 0 ≤ x13_2
                    · rw [if_pos c24] at H
                      have c24b0 := eq_true c24
                      have c24b1 : decide (0 ≤ x13_2) = true := decide_eq_true c24
                      clear c24
                      by_cases c25 : x13_2 ≤ (t272.length : Int)
                      · rw [if_pos c25] at H
                        have c25b0 := eq_true c25
                        have c25b1 : decide (x13_2 ≤ (t272.length : Int)) = true := decide_eq_true c25
                        clear c25
                        obtain ⟨y288, hy288⟩ : ∃ y_ : List Int, y_ = (t272.take (x13_2 : Int).toNat) := ⟨_, rfl⟩
                        replace H : ((laws_wiInts.f k2 t283 y288).bind fun t292 => (if t292 = true then (if t284 > t273 then (some false) else (laws_FnRunGet.l0 k2 t268 t269 t270 t271 t272 t273 (wrap64 (x13_2 + 1)))) else (some false))) = some r := by first | (rw [hy288]; with_reducible exact H) | (have H2_ := (Option.bind_some _ _).symm.trans H; rw [hy288]; with_reducible exact H2_) | (have H2_ := (Option.bind_some _ _).symm.trans H; with_reducible exact H2_) | with_reducible exact H | (rw [hy288]; exact H) | exact H
                        have Ny288 := Aside0.mk hy288
                        clear hy288
                        replace H := Option.bind_eq_some_iff.mp H
                        obtain ⟨t292, A260, H⟩ := H
                        replace H : (if t292 = true then (if t284 > t273 then (some false) else (laws_FnRunGet.l0 k2 t268 t269 t270 t271 t272 t273 (wrap64 (x13_2 + 1)))) else (some false)) = some r := H
                        have A26 := Aside0.mk A260
                        clear A260
                        by_cases c27 : t292 = true
                        · subst c27
                          have H1 : (if t284 > t273 then (some false) else (laws_FnRunGet.l0 k2 t268 t269 t270 t271 t272 t273 (wrap64 (x13_2 + 1)))) = some r := by rw [if_pos rfl] at H; exact H
                          clear H
                          have H := H1
                          clear H1
                          by_cases c28 : t284 > t273
                          · rw [if_pos c28] at H
                            have c28b0 : decide (t273 < t284) = true := decide_eq_true c28
                            clear c28
                            obtain rfl := Option.some.inj H
                            go_wp2_with (first | ((with_reducible refine gate_callee (f := 50) rfl ?_); refine goesL_ (some 78) rfl rfl Try.func50 (by kernel_rfl) rfl #[.string t268, .int .i64 t269, .int .i64 t270, .int .i64 x13_2] rfl (by (try simp only [List.map_toArray, List.map_cons, List.map_nil]); first | done | rfl | (simp only [List.length_drop, List.length_take]; rfl)) ?_; (with_reducible refine (impl_RunGet.calls k2 t268 t269 t270 x13_2 t283 t284 true _ A22.out).mono ?_); rintro e w29 ⟨v286, rfl, ho0, hb⟩; refine ⟨_, rfl, ?_⟩; have n0_ := Aside0.mk (Kd.R_elder' (by (with_reducible repeat (first | apply Kd.R_alloc | apply Kd.R_drewN | apply Kd.R_drew)); exact HO_7.out) (Kd.R_base ho0) hb); have n1_ := Aside0.mk (Kd.R_lower (Kd.R_new' ho0 (Kd.R_lt (by (with_reducible repeat (first | apply Kd.R_alloc | apply Kd.R_drewN | apply Kd.R_drew)); exact HO_7.out))) (below_size (by repeat (first | (with_reducible first | exact HB.out | apply below_alloc | apply pw_below_drewN | apply below_drew1) | exact HB.out)))); have n2_ := Aside0.mk (below_step (by repeat (first | (with_reducible first | exact HB.out | apply below_alloc | apply pw_below_drewN | apply below_drew1) | exact HB.out)) hb); clear HO_7; clear HB; have HO_7 := n0_; have HO287 := n1_; have HB := n2_; clear n0_ n1_ n2_; (try clear hb); (try clear hb2); (try clear hk); (try clear hi); (try clear ho0); obtain ⟨Ao31, co31, eo31⟩ := Kd.R_slice HO_7.out; subst eo31; have q30 : (x13_2 : Int) ≤ ((t272.length : Int) : Int) := of_decide_eq_true (by first | (with_reducible assumption) | assumption); obtain ⟨i030, hi030, _, hsz30, _⟩ := info_parts info3; have hroom30 : t272.length ≤ co31 := (Kd.R_reads' HO_7.out).2.1; have hC30 : Kd.C (Kd.int .i64) _ Ao31 t272.length t272 := (Kd.R_reads' HO_7.out).2.2; have hcut30 := cut_to (P := Try.prog) 51 3 .i64 Try.underlying51 hi030 Ao31 t272.length co31 x13_2 (of_decide_eq_true (by first | (with_reducible assumption) | assumption)) q30 hroom30; have hr30 := Kd.C_take (m := (x13_2 : Int).toNat) hC30 (by omega); have hy30 : y288.length = (x13_2 : Int).toNat := (by rw [Ny288.out, List.length_take]; omega); rw [← Ny288.out] at hr30; rw [← hy30] at hcut30; have HR291 := Aside0.mk hr30; have HC291 := Aside0.mk (show y288.length ≤ co31 from by omega); clear hr30 hC30 hroom30 hi030 hsz30; have KY30 := Aside0.mk hy30; clear hy30; have KL30 := Aside0.mk (show (x13_2 : Int).toNat ≤ t272.length from by omega); replace q30 := eq_true q30; obtain ⟨Ao32, co32, eo32⟩ := Kd.R_slice HO287.out; subst eo32) | (go_at_call 51; (with_reducible refine (laws_wiInts.calls k2 _ _ t283 _ _ y288 true _ ?side1 ?side2 ?side3 ?side4 A26.out).mono ?_); (case side1 => repeat (first | exact (Kd.R_reads' HO287.out).2.2 | (with_reducible refine Kd.C_alloc ?_ _) | (with_reducible refine Kd.C_drewN ?_ _) | (with_reducible refine Kd.C_drew ?_))); (case side2 => exact (Kd.R_reads' HO287.out).2.1); (case side3 => repeat (first | exact (by repeat (first | (with_reducible exact HR291.out) | (with_reducible refine Kd.C_alloc ?_ _) | (with_reducible refine Kd.C_drewN ?_ _) | (with_reducible refine Kd.C_drew ?_) | exact HR291.out)) | (with_reducible refine Kd.C_alloc ?_ _) | (with_reducible refine Kd.C_drewN ?_ _) | (with_reducible refine Kd.C_drew ?_))); (case side4 => exact HC291.out); rintro e w' ⟨rfl, ⟨nd, rfl⟩⟩))
                            go_ret
                            exact ⟨by first | rfl | (simp [errW_none, errW_some] <;> rfl) | (simp [*, errW_none, errW_some] <;> rfl), by repeat (first | (with_reducible first | exact HB.out | apply below_alloc | apply pw_below_drewN | apply below_drew1) | exact HB.out)⟩
                          · rw [if_neg c28] at H
                            have c28b0 : decide (t273 < t284) = false := decide_eq_false c28
                            clear c28
                            have H' := Aside0.mk H
                            clear H
                            go_wp2_with (first | ((with_reducible refine gate_callee (f := 50) rfl ?_); refine goesL_ (some 78) rfl rfl Try.func50 (by kernel_rfl) rfl #[.string t268, .int .i64 t269, .int .i64 t270, .int .i64 x13_2] rfl (by (try simp only [List.map_toArray, List.map_cons, List.map_nil]); first | done | rfl | (simp only [List.length_drop, List.length_take]; rfl)) ?_; (with_reducible refine (impl_RunGet.calls k2 t268 t269 t270 x13_2 t283 t284 true _ A22.out).mono ?_); rintro e w33 ⟨v286, rfl, ho0, hb⟩; refine ⟨_, rfl, ?_⟩; have n0_ := Aside0.mk (Kd.R_elder' (by (with_reducible repeat (first | apply Kd.R_alloc | apply Kd.R_drewN | apply Kd.R_drew)); exact HO_7.out) (Kd.R_base ho0) hb); have n1_ := Aside0.mk (Kd.R_lower (Kd.R_new' ho0 (Kd.R_lt (by (with_reducible repeat (first | apply Kd.R_alloc | apply Kd.R_drewN | apply Kd.R_drew)); exact HO_7.out))) (below_size (by repeat (first | (with_reducible first | exact HB.out | apply below_alloc | apply pw_below_drewN | apply below_drew1) | exact HB.out)))); have n2_ := Aside0.mk (below_step (by repeat (first | (with_reducible first | exact HB.out | apply below_alloc | apply pw_below_drewN | apply below_drew1) | exact HB.out)) hb); clear HO_7; clear HB; have HO_7 := n0_; have HO287 := n1_; have HB := n2_; clear n0_ n1_ n2_; (try clear hb); (try clear hb2); (try clear hk); (try clear hi); (try clear ho0); obtain ⟨Ao35, co35, eo35⟩ := Kd.R_slice HO_7.out; subst eo35; have q34 : (x13_2 : Int) ≤ ((t272.length : Int) : Int) := of_decide_eq_true (by first | (with_reducible assumption) | assumption); obtain ⟨i034, hi034, _, hsz34, _⟩ := info_parts info3; have hroom34 : t272.length ≤ co35 := (Kd.R_reads' HO_7.out).2.1; have hC34 : Kd.C (Kd.int .i64) _ Ao35 t272.length t272 := (Kd.R_reads' HO_7.out).2.2; have hcut34 := cut_to (P := Try.prog) 51 3 .i64 Try.underlying51 hi034 Ao35 t272.length co35 x13_2 (of_decide_eq_true (by first | (with_reducible assumption) | assumption)) q34 hroom34; have hr34 := Kd.C_take (m := (x13_2 : Int).toNat) hC34 (by omega); have hy34 : y288.length = (x13_2 : Int).toNat := (by rw [Ny288.out, List.length_take]; omega); rw [← Ny288.out] at hr34; rw [← hy34] at hcut34; have HR291 := Aside0.mk hr34; have HC291 := Aside0.mk (show y288.length ≤ co35 from by omega); clear hr34 hC34 hroom34 hi034 hsz34; have KY34 := Aside0.mk hy34; clear hy34; have KL34 := Aside0.mk (show (x13_2 : Int).toNat ≤ t272.length from by omega); replace q34 := eq_true q34; obtain ⟨Ao36, co36, eo36⟩ := Kd.R_slice HO287.out; subst eo36) | (go_at_call 51; (with_reducible refine (laws_wiInts.calls k2 _ _ t283 _ _ y288 true _ ?side1 ?side2 ?side3 ?side4 A26.out).mono ?_); (case side1 => repeat (first | exact (Kd.R_reads' HO287.out).2.2 | (with_reducible refine Kd.C_alloc ?_ _) | (with_reducible refine Kd.C_drewN ?_ _) | (with_reducible refine Kd.C_drew ?_))); (case side2 => exact (Kd.R_reads' HO287.out).2.1); (case side3 => repeat (first | exact (by repeat (first | (with_reducible exact HR291.out) | (with_reducible refine Kd.C_alloc ?_ _) | (with_reducible refine Kd.C_drewN ?_ _) | (with_reducible refine Kd.C_drew ?_) | exact HR291.out)) | (with_reducible refine Kd.C_alloc ?_ _) | (with_reducible refine Kd.C_drewN ?_ _) | (with_reducible refine Kd.C_drew ?_))); (case side4 => exact HC291.out); rintro e w' ⟨rfl, ⟨nd, rfl⟩⟩))
                            go_roundg k2
                            case measure => have := HJ5.out; have := HK2.out; omega
                            case rel => exact ⟨(wrap64 (x13_2 + 1)), (by first | rfl | (simp; done) | (simp [*]; done)), H', ⟨by have := HJ5.out; have := HK2.out; omega⟩, ⟨by (with_reducible repeat (first | apply Kd.R_alloc | apply Kd.R_drewN | apply Kd.R_drew)); exact Kd.R_mono HO_7.out (fun _ hk => trivial)⟩, ⟨by repeat (first | (with_reducible first | exact HB.out | apply below_alloc | apply pw_below_drewN | apply below_drew1) | exact HB.out)⟩⟩
                        · replace c27 := Bool.eq_false_iff.mpr c27
                          subst c27
                          have H1 : (some false) = some r := by rw [if_neg (show ¬ (false = true) by decide)] at H; exact H
                          clear H
                          have H := H1
                          clear H1
                          obtain rfl := Option.some.inj H
                          go_wp2_with (first | ((with_reducible refine gate_callee (f := 50) rfl ?_); refine goesL_ (some 78) rfl rfl Try.func50 (by kernel_rfl) rfl #[.string t268, .int .i64 t269, .int .i64 t270, .int .i64 x13_2] rfl (by (try simp only [List.map_toArray, List.map_cons, List.map_nil]); first | done | rfl | (simp only [List.length_drop, List.length_take]; rfl)) ?_; (with_reducible refine (impl_RunGet.calls k2 t268 t269 t270 x13_2 t283 t284 true _ A22.out).mono ?_); rintro e w37 ⟨v286, rfl, ho0, hb⟩; refine ⟨_, rfl, ?_⟩; have n0_ := Aside0.mk (Kd.R_elder' (by (with_reducible repeat (first | apply Kd.R_alloc | apply Kd.R_drewN | apply Kd.R_drew)); exact HO_7.out) (Kd.R_base ho0) hb); have n1_ := Aside0.mk (Kd.R_lower (Kd.R_new' ho0 (Kd.R_lt (by (with_reducible repeat (first | apply Kd.R_alloc | apply Kd.R_drewN | apply Kd.R_drew)); exact HO_7.out))) (below_size (by repeat (first | (with_reducible first | exact HB.out | apply below_alloc | apply pw_below_drewN | apply below_drew1) | exact HB.out)))); have n2_ := Aside0.mk (below_step (by repeat (first | (with_reducible first | exact HB.out | apply below_alloc | apply pw_below_drewN | apply below_drew1) | exact HB.out)) hb); clear HO_7; clear HB; have HO_7 := n0_; have HO287 := n1_; have HB := n2_; clear n0_ n1_ n2_; (try clear hb); (try clear hb2); (try clear hk); (try clear hi); (try clear ho0); obtain ⟨Ao39, co39, eo39⟩ := Kd.R_slice HO_7.out; subst eo39; have q38 : (x13_2 : Int) ≤ ((t272.length : Int) : Int) := of_decide_eq_true (by first | (with_reducible assumption) | assumption); obtain ⟨i038, hi038, _, hsz38, _⟩ := info_parts info3; have hroom38 : t272.length ≤ co39 := (Kd.R_reads' HO_7.out).2.1; have hC38 : Kd.C (Kd.int .i64) _ Ao39 t272.length t272 := (Kd.R_reads' HO_7.out).2.2; have hcut38 := cut_to (P := Try.prog) 51 3 .i64 Try.underlying51 hi038 Ao39 t272.length co39 x13_2 (of_decide_eq_true (by first | (with_reducible assumption) | assumption)) q38 hroom38; have hr38 := Kd.C_take (m := (x13_2 : Int).toNat) hC38 (by omega); have hy38 : y288.length = (x13_2 : Int).toNat := (by rw [Ny288.out, List.length_take]; omega); rw [← Ny288.out] at hr38; rw [← hy38] at hcut38; have HR291 := Aside0.mk hr38; have HC291 := Aside0.mk (show y288.length ≤ co39 from by omega); clear hr38 hC38 hroom38 hi038 hsz38; have KY38 := Aside0.mk hy38; clear hy38; have KL38 := Aside0.mk (show (x13_2 : Int).toNat ≤ t272.length from by omega); replace q38 := eq_true q38; obtain ⟨Ao40, co40, eo40⟩ := Kd.R_slice HO287.out; subst eo40) | (go_at_call 51; (with_reducible refine (laws_wiInts.calls k2 _ _ t283 _ _ y288 false _ ?side1 ?side2 ?side3 ?side4 A26.out).mono ?_); (case side1 => repeat (first | exact (Kd.R_reads' HO287.out).2.2 | (with_reducible refine Kd.C_alloc ?_ _) | (with_reducible refine Kd.C_drewN ?_ _) | (with_reducible refine Kd.C_drew ?_))); (case side2 => exact (Kd.R_reads' HO287.out).2.1); (case side3 => repeat (first | exact (by repeat (first | (with_reducible exact HR291.out) | (with_reducible refine Kd.C_alloc ?_ _) | (with_reducible refine Kd.C_drewN ?_ _) | (with_reducible refine Kd.C_drew ?_) | exact HR291.out)) | (with_reducible refine Kd.C_alloc ?_ _) | (with_reducible refine Kd.C_drewN ?_ _) | (with_reducible refine Kd.C_drew ?_))); (case side4 => exact HC291.out); rintro e w' ⟨rfl, ⟨nd, rfl⟩⟩))
                          go_ret
                          exact ⟨by first | rfl | (simp [errW_none, errW_some] <;> rfl) | (simp [*, errW_none, errW_some] <;> rfl), by repeat (first | (with_reducible first | exact HB.out | apply below_alloc | apply pw_below_drewN | apply below_drew1) | exact HB.out)⟩
                      · rw [if_neg c25] at H
                        exact absurd H (by simp)
                    · rw [if_neg c24] at H
                      exact absurd H (by simp)
                  · replace c23 := Bool.eq_false_iff.mpr c23
                    subst c23
                    have H1 : (laws_FnRunGet.l0 k2 t268 t269 t270 t271 t272 t273 (wrap64 (x13_2 + 1))) = some r := by rw [if_neg (show ¬ (false = true) by decide)] at H; exact H
                    clear H
                    have H := H1
                    clear H1
                    have H' := Aside0.mk H
                    clear H
                    go_wp2_with (first | ((with_reducible refine gate_callee (f := 50) rfl ?_); refine goesL_ (some 78) rfl rfl Try.func50 (by kernel_rfl) rfl #[.string t268, .int .i64 t269, .int .i64 t270, .int .i64 x13_2] rfl (by (try simp only [List.map_toArray, List.map_cons, List.map_nil]); first | done | rfl | (simp only [List.length_drop, List.length_take]; rfl)) ?_; (with_reducible refine (impl_RunGet.calls k2 t268 t269 t270 x13_2 t283 t284 false _ A22.out).mono ?_); rintro e w41 ⟨v286, rfl, ho0, hb⟩; refine ⟨_, rfl, ?_⟩; have n0_ := Aside0.mk (Kd.R_elder' (by (with_reducible repeat (first | apply Kd.R_alloc | apply Kd.R_drewN | apply Kd.R_drew)); exact HO_7.out) (Kd.R_base ho0) hb); have n1_ := Aside0.mk (Kd.R_lower (Kd.R_new' ho0 (Kd.R_lt (by (with_reducible repeat (first | apply Kd.R_alloc | apply Kd.R_drewN | apply Kd.R_drew)); exact HO_7.out))) (below_size (by repeat (first | (with_reducible first | exact HB.out | apply below_alloc | apply pw_below_drewN | apply below_drew1) | exact HB.out)))); have n2_ := Aside0.mk (below_step (by repeat (first | (with_reducible first | exact HB.out | apply below_alloc | apply pw_below_drewN | apply below_drew1) | exact HB.out)) hb); clear HO_7; clear HB; have HO_7 := n0_; have HO287 := n1_; have HB := n2_; clear n0_ n1_ n2_; (try clear hb); (try clear hb2); (try clear hk); (try clear hi); (try clear ho0)))
                    go_roundg k2
                    case measure => have := HJ5.out; have := HK2.out; omega
                    case rel => exact ⟨(wrap64 (x13_2 + 1)), (by first | rfl | (simp; done) | (simp [*]; done)), H', ⟨by have := HJ5.out; have := HK2.out; omega⟩, ⟨by (with_reducible repeat (first | apply Kd.R_alloc | apply Kd.R_drewN | apply Kd.R_drew)); exact Kd.R_mono HO_7.out (fun _ hk => trivial)⟩, ⟨by repeat (first | (with_reducible first | exact HB.out | apply below_alloc | apply pw_below_drewN | apply below_drew1) | exact HB.out)⟩⟩
                · rw [if_neg c21] at H
                  have c21b0 : decide (x13_2 ≤ t271) = false := decide_eq_false c21
                  clear c21
                  by_cases c42 : (t272.length : Int) = t271
                  · rw [if_pos c42] at H
                    have c42b0 : ((t272.length : Int) == t271) = true := beq_iff_eq.mpr c42
                    have c42b1 : ((t272.length : Int) != t271) = false := bne_eq_false_iff_eq.mpr c42
                    clear c42
                    obtain rfl := Option.some.inj H
                    obtain ⟨Ao43, co43, eo43⟩ := Kd.R_slice HO_7.out
                    subst eo43
                    go_wp2
                    go_ret
                    exact ⟨by first | rfl | (simp [errW_none, errW_some] <;> rfl) | (simp [*, errW_none, errW_some] <;> rfl), by repeat (first | (with_reducible first | exact HB.out | apply below_alloc | apply pw_below_drewN | apply below_drew1) | exact HB.out)⟩
                  · rw [if_neg c42] at H
                    have c42b0 : ((t272.length : Int) == t271) = false := beq_eq_false_iff_ne.mpr c42
                    have c42b1 : ((t272.length : Int) != t271) = true := bne_iff_ne.mpr c42
                    obtain rfl := Option.some.inj H
                    obtain ⟨Ao44, co44, eo44⟩ := Kd.R_slice HO_7.out
                    subst eo44
                    go_wp2
                    go_ret
                    exact ⟨by first | rfl | (simp [errW_none, errW_some] <;> rfl) | (simp [*, errW_none, errW_some] <;> rfl), by repeat (first | (with_reducible first | exact HB.out | apply below_alloc | apply pw_below_drewN | apply below_drew1) | exact HB.out)⟩
          · replace c20 := Bool.eq_false_iff.mpr c20
            subst c20
            have H1 : (if (t272.length : Int) = 0 then (some (t273 == 0)) else (some false)) = some r := by rw [if_neg (show ¬ (false = true) by decide)] at H; exact H
            clear H
            have H := H1
            clear H1
            by_cases c45 : (t272.length : Int) = 0
            · rw [if_pos c45] at H
              have c45b0 : ((t272.length : Int) == 0) = true := beq_iff_eq.mpr c45
              have c45b1 : ((t272.length : Int) != 0) = false := bne_eq_false_iff_eq.mpr c45
              clear c45
              obtain rfl := Option.some.inj H
              obtain ⟨Ao46, co46, eo46⟩ := Kd.R_slice HO_7.out
              subst eo46
              go_wp2
              go_ret
              exact ⟨by first | rfl | (simp [errW_none, errW_some] <;> rfl) | (simp [*, errW_none, errW_some] <;> rfl), by repeat (first | (with_reducible first | exact HB.out | apply below_alloc | apply pw_below_drewN | apply below_drew1) | exact HB.out)⟩
            · rw [if_neg c45] at H
              have c45b0 : ((t272.length : Int) == 0) = false := beq_eq_false_iff_ne.mpr c45
              have c45b1 : ((t272.length : Int) != 0) = true := bne_iff_ne.mpr c45
              have c45b2 : ¬ (t272 = []) := fun h_ => c45 (by rw [h_]; rfl)
              obtain rfl := Option.some.inj H
              obtain ⟨Ao47, co47, eo47⟩ := Kd.R_slice HO_7.out
              subst eo47
              go_wp2
              go_ret
              exact ⟨by first | rfl | (simp [errW_none, errW_some] <;> rfl) | (simp [*, errW_none, errW_some] <;> rfl), by repeat (first | (with_reducible first | exact HB.out | apply below_alloc | apply pw_below_drewN | apply below_drew1) | exact HB.out)⟩

/-- THE ONE PURE STATEMENT of laws_FnRunGet: yours. -/
def laws_FnRunGet.Pure : Prop := ∀ (l0 : List Int), l0.length ≤ maxLen → l0.length * 1 ≤ 140737488351232 → (∀ x ∈ l0, (Lit.int .u8 x).wf = true) → ∃ k, laws_FnRunGet.f k l0 = some true
theorem laws_FnRunGet.walk (P : laws_FnRunGet.Pure) (a0 : Option Addr) (len0 cap0 : Nat) (z0 : List Int) (w : World) (w0 : (a0 = none ∧ len0 = 0 ∧ cap0 = 0 ∧ z0 = []) ∨ ∃ x, a0 = some x ∧ len0 ≤ cap0 ∧ cap0 ≤ maxLen ∧ z0.length = cap0 ∧ (∀ i, i < z0.length → w.cell? (x.add i) = some (.int .u8 (z0.getD i 0))) ∧ ∀ n ∈ z0, (Lit.int .u8 n).wf = true) (y0 : len0 * 1 ≤ 140737488351232) :
    Calls Try.prog 12 #[.slice a0 len0 cap0] w fun e w' => e = .returned (.bool true) ∧ Below w.heap.size w w' := by
  obtain ⟨l0, rfl, hr0, hm0, hw0, hc0⟩ := ReadsInt.ofRowC w0
  obtain ⟨k, h⟩ := P l0 hm0 y0 hw0
  refine (laws_FnRunGet.calls k _ _ l0 true w (Kd.C_of_reads (d := (0 : Int)) (h1 := fun _ => rfl) hr0) hc0 h).mono ?_
  rintro e w' ⟨rfl, hd⟩
  exact ⟨rfl, hd⟩

end Go.Proofs.Ytfladcffgblfdaa.PFnRunGet
