/- What the functions that the law comes to compute, as plain functions, and that the machine's calls come to just that: written by a program for this claim, and turned where Lean did not take it. No condition. -/
import Derived.Test.YtfladcffgblfdaaHFnRunx0
import Derived.Test.YtfladcffgblfdaaHFnRunx2
import Derived.Test.YtfladcffgblfdaaHFnRunx4
import Derived.Test.YtfladcffgblfdaaHFnRunx6
import Derived.Test.YtfladcffgblfdaaHFnRunx7
namespace Go.Proofs.Ytfladcffgblfdaa.PFnRun
open Go.RowKit Go.Proofs.YtfladcffgblfdaaW.PrintWords Go.Proofs.YtfladcffgblfdaaW.PrintLast Go.Proofs.YtfladcffgblfdaaW.PrintMore
attribute [local go_sem] max2_int min2_int max_two min_two max_three min_three max_four min_four   -- for this text's walks alone
set_option linter.unusedVariables false
set_option linter.unusedSimpArgs false

/-! ### laws_FnRun: function 11 -/
def laws_FnRun.j0 : Nat → List Int → Int → ByteArray → Bool → Option (Bool)
  | 0, _, _, _, _ => none
  | k + 1, x3, x4, x5, x28 => if x28 = true then ((spec_RunPut.f k x3 x4).bind fun t239 => (some (x5.toList == t239.toList))) else (if 5 + x5.size ≤ 9223372036854775807 then (if ((⟨#[97, 104, 101, 97, 100]⟩ : ByteArray) ++ x5).size + 6 ≤ 9223372036854775807 then ((impl_RunGet.f k (((⟨#[97, 104, 101, 97, 100]⟩ : ByteArray) ++ x5) ++ (⟨#[98, 101, 104, 105, 110, 100]⟩ : ByteArray)) 5 x4 (x3.length : Int)).bind fun bt240 => (if bt240.2.2 = true then ((laws_wiInts.f k bt240.1 x3).bind fun t245 => (if t245 = true then (if bt240.2.1 = (wrap64 (5 + (x5.size : Int))) then (some (decide ((x5.size : Int) ≤ (wrap64 ((wrap64 ((wrap64 (x4 * (x3.length : Int))) + (wrap64 (Int.tdiv (wrap64 ((x3.length : Int) + 127)) 128)))) + (wrap64 ((x3.length : Int) / 2))))))) else (some false)) else (some false))) else (some false))) else (none)) else (none))
def laws_FnRun.f (k : Nat) (l0 : List Int) : Option (Bool) := if (l0.length : Int) > 1048576 then (some true) else ((spec_DrawRunPut.f k l0).bind fun bt233 => ((impl_RunPut.f k bt233.1 bt233.2).bind fun t237 => ((spec_RunPut.f k bt233.1 bt233.2).bind fun t238 => (if t237.toList = t238.toList then (laws_FnRun.j0 k bt233.1 bt233.2 t237 (t237.toList == ([] : List UInt8))) else (laws_FnRun.j0 k bt233.1 bt233.2 t237 true)))))
theorem laws_FnRun.mono_l : ∀ k, (∀ y0 y1 y2 y3, LeO (laws_FnRun.j0 k y0 y1 y2 y3) (laws_FnRun.j0 (k + 1) y0 y1 y2 y3))
  | 0 => fun _ _ _ _ r h => by simp [laws_FnRun.j0] at h
  | k + 1 => by
    have ih0 := laws_FnRun.mono_l k
    · intro y0 y1 y2 y3
      unfold laws_FnRun.j0
      repeat' first
      | (with_reducible exact ih0 _ _ _ _)
      | (with_reducible exact impl_RunGet.mono _ _ _ _ _)
      | (with_reducible exact impl_RunPut.mono _ _ _)
      | (with_reducible exact laws_wiInts.mono _ _ _)
      | (with_reducible exact spec_DrawRunPut.mono _ _)
      | (with_reducible exact spec_RunPut.mono _ _ _)
      | (with_reducible exact LeO.refl _)
      | (with_reducible exact LeO.none _)
      | (with_reducible refine LeO.ite ?_ ?_)
      | (with_reducible refine LeO.bind ?_ (fun _ => ?_))
      | exact ih0 _ _ _ _
      | exact impl_RunGet.mono _ _ _ _ _
      | exact impl_RunPut.mono _ _ _
      | exact laws_wiInts.mono _ _ _
      | exact spec_DrawRunPut.mono _ _
      | exact spec_RunPut.mono _ _ _
      | exact LeO.none _
      | refine LeO.ite ?_ ?_
      | refine LeO.bind ?_ (fun _ => ?_)
theorem laws_FnRun.mono : ∀ a0 k, LeO (laws_FnRun.f k a0) (laws_FnRun.f (k + 1) a0) := by
  intro a0 k
  have ih0 := laws_FnRun.mono_l k
  unfold laws_FnRun.f
  repeat' first
      | (with_reducible exact ih0 _ _ _ _)
      | (with_reducible exact impl_RunGet.mono _ _ _ _ _)
      | (with_reducible exact impl_RunPut.mono _ _ _)
      | (with_reducible exact laws_wiInts.mono _ _ _)
      | (with_reducible exact spec_DrawRunPut.mono _ _)
      | (with_reducible exact spec_RunPut.mono _ _ _)
      | (with_reducible exact LeO.refl _)
      | (with_reducible exact LeO.none _)
      | (with_reducible refine LeO.ite ?_ ?_)
      | (with_reducible refine LeO.bind ?_ (fun _ => ?_))
      | exact ih0 _ _ _ _
      | exact impl_RunGet.mono _ _ _ _ _
      | exact impl_RunPut.mono _ _ _
      | exact laws_wiInts.mono _ _ _
      | exact spec_DrawRunPut.mono _ _
      | exact spec_RunPut.mono _ _ _
      | exact LeO.none _
      | refine LeO.ite ?_ ?_
      | refine LeO.bind ?_ (fun _ => ?_)
set_option maxHeartbeats 8000000 in
set_option maxRecDepth 100000 in
theorem laws_FnRun.calls (k : Nat) (A0 : Option Addr) (c0 : Nat) (l0 : List Int) (r : Bool) (w : World) (hr0 : Kd.C (Kd.int .u8) w A0 l0.length l0) (hc0 : l0.length ≤ c0) (h : laws_FnRun.f k l0 = some r) :
    Calls Try.prog 11 #[.slice A0 l0.length c0] w fun e w' => e = .returned (.bool r) ∧ Below w.heap.size w w' := by
  have HR0 := Aside0.mk hr0
  have HC0 := Aside0.mk hc0
  clear hr0 hc0
  have HB := Aside0.mk (Below.refl w.heap.size w)
  have H : (if (l0.length : Int) > 1048576 then (some true) else ((spec_DrawRunPut.f k l0).bind fun bt233 => ((impl_RunPut.f k bt233.1 bt233.2).bind fun t237 => ((spec_RunPut.f k bt233.1 bt233.2).bind fun t238 => (if t237.toList = t238.toList then (laws_FnRun.j0 k bt233.1 bt233.2 t237 (t237.toList == ([] : List UInt8))) else (laws_FnRun.j0 k bt233.1 bt233.2 t237 true)))))) = some r := h
  clear h
  by_cases c2 : (l0.length : Int) > 1048576
  · rw [if_pos c2] at H
    have c2b0 : decide (1048576 < (l0.length : Int)) = true := decide_eq_true c2
    have c2b1 : decide (1048576 < l0.length) = true := decide_eq_true (by omega)
    clear c2
    obtain rfl := Option.some.inj H
    go_enter Try.func11, Try.ntmps11
    go_wp2
    go_ret
    exact ⟨by first | rfl | (simp [errW_none, errW_some] <;> rfl) | (simp [*, errW_none, errW_some] <;> rfl), by repeat (first | (with_reducible first | exact HB.out | apply below_alloc | apply pw_below_drewN | apply below_drew1) | exact HB.out)⟩
  · rw [if_neg c2] at H
    have c2b0 : decide (1048576 < (l0.length : Int)) = false := decide_eq_false c2
    have c2b1 : decide (1048576 < l0.length) = false := decide_eq_false (by omega)
    clear c2
    replace H := Option.bind_eq_some_iff.mp H
    obtain ⟨⟨t233, t234⟩, A30, H⟩ := H
    replace H : ((impl_RunPut.f k t233 t234).bind fun t237 => ((spec_RunPut.f k t233 t234).bind fun t238 => (if t237.toList = t238.toList then (laws_FnRun.j0 k t233 t234 t237 (t237.toList == ([] : List UInt8))) else (laws_FnRun.j0 k t233 t234 t237 true)))) = some r := H
    have A3 := Aside0.mk A30
    clear A30
    replace H := Option.bind_eq_some_iff.mp H
    obtain ⟨t237, A40, H⟩ := H
    replace H : ((spec_RunPut.f k t233 t234).bind fun t238 => (if t237.toList = t238.toList then (laws_FnRun.j0 k t233 t234 t237 (t237.toList == ([] : List UInt8))) else (laws_FnRun.j0 k t233 t234 t237 true))) = some r := H
    have A4 := Aside0.mk A40
    clear A40
    have HC5 := Aside0.mk H
    clear H
    go_enter Try.func11, Try.ntmps11
    go_upto_region 5 with (first | ((with_reducible refine gate_callee (f := 47) rfl ?_); refine goesL_ (some 14) rfl rfl Try.func47 (by kernel_rfl) rfl #[.slice A0 l0.length c0] rfl (by (try simp only [List.map_toArray, List.map_cons, List.map_nil]); first | done | rfl | (simp only [List.length_drop, List.length_take]; rfl)) ?_; (with_reducible refine (spec_DrawRunPut.calls k _ _ l0 t233 t234 _ ?side1 ?side2 A3.out).mono ?_); (case side1 => repeat (first | exact HR0.out | (with_reducible refine Kd.C_alloc ?_ _) | (with_reducible refine Kd.C_drewN ?_ _) | (with_reducible refine Kd.C_drew ?_))); (case side2 => exact HC0.out); rintro e w6 ⟨v235, rfl, ho0, hb⟩; refine ⟨_, rfl, ?_⟩; have n0_ := Aside0.mk (Kd.R_lower ho0 (below_size (by repeat (first | (with_reducible first | exact HB.out | apply below_alloc | apply pw_below_drewN | apply below_drew1) | exact HB.out)))); have n1_ := Aside0.mk (below_step (by repeat (first | (with_reducible first | exact HB.out | apply below_alloc | apply pw_below_drewN | apply below_drew1) | exact HB.out)) hb); clear HB; have HO236 := n0_; have HB := n1_; clear n0_ n1_; (try clear hb); (try clear hb2); (try clear hk); (try clear hi); (try clear ho0); obtain ⟨Ao7, co7, eo7⟩ := Kd.R_slice HO236.out; subst eo7) | ((with_reducible refine gate_callee (f := 48) rfl ?_); refine goesL_ (some 19) rfl rfl Try.func48 (by kernel_rfl) rfl #[.slice Ao7 t233.length co7, .int .i64 t234] rfl (by (try simp only [List.map_toArray, List.map_cons, List.map_nil]); first | done | rfl | (simp only [List.length_drop, List.length_take]; rfl)) ?_; (with_reducible refine (impl_RunPut.calls k (fun k_ => some k_ = (.slice Ao7 t233.length co7 : Value).ownBlock) _ _ t233 t234 t237 _ ?side1 A4.out).mono ?_); (case side1 => exact Kd.R_V (Kd.R_tight rfl (HO236.out))); rintro e w8 ⟨rfl, hb⟩; refine ⟨_, rfl, ?_⟩; have n0_ := Aside0.mk (Kd.R_below (by (with_reducible repeat (first | apply Kd.R_alloc | apply Kd.R_drewN | apply Kd.R_drew)); exact HO236.out) hb); have n1_ := Aside0.mk (below_step (by repeat (first | (with_reducible first | exact HB.out | apply below_alloc | apply pw_below_drewN | apply below_drew1) | exact HB.out)) hb); clear HO236; clear HB; have HO236 := n0_; have HB := n1_; clear n0_ n1_; (try clear hb); (try clear hb2); (try clear hk); (try clear hi)))
    (try simp only [Act.put, List.setIfInBounds_toArray, List.set_cons_zero, List.set_cons_succ])
    go_cut [28] (fun v28 wc => ∃ (kq : Nat) (x28_4 : Bool), v28 = .bool x28_4 ∧ Aside0 (laws_FnRun.j0 kq t233 t234 t237 x28_4 = some r) ∧ Aside0 (kq ≤ k) ∧ Aside0 (Kd.R (Kd.int .i64) 3 wc w.heap.size (fun _ => True) (.slice Ao7 t233.length co7) t233) ∧ Aside0 (Below w.heap.size w wc))
    case first =>
      have H := HC5.out
      clear HC5
      replace H := Option.bind_eq_some_iff.mp H
      obtain ⟨t238, A90, H⟩ := H
      replace H : (if t237.toList = t238.toList then (laws_FnRun.j0 k t233 t234 t237 (t237.toList == ([] : List UInt8))) else (laws_FnRun.j0 k t233 t234 t237 true)) = some r := H
      have A9 := Aside0.mk A90
      clear A90
      by_cases c10 : t237.toList = t238.toList
      · rw [if_pos c10] at H
        have c10b0 : (t237.toList == t238.toList) = true := beq_iff_eq.mpr c10
        have c10b1 : (t237.toList != t238.toList) = false := bne_eq_false_iff_eq.mpr c10
        clear c10
        (first | rw [c10b0] | (simp only [i64_w, i32_w]; rw [c10b0]) | skip)
        have H' := Aside0.mk H
        clear H
        go_wp2_with (first | ((with_reducible refine gate_callee (f := 49) rfl ?_); refine goesL_ (some 23) rfl rfl Try.func49 (by kernel_rfl) rfl #[.slice Ao7 t233.length co7, .int .i64 t234] rfl (by (try simp only [List.map_toArray, List.map_cons, List.map_nil]); first | done | rfl | (simp only [List.length_drop, List.length_take]; rfl)) ?_; (with_reducible refine (spec_RunPut.calls k _ _ t233 t234 t238 _ ?side1 ?side2 A9.out).mono ?_); (case side1 => repeat (first | exact (Kd.R_reads' HO236.out).2.2 | (with_reducible refine Kd.C_alloc ?_ _) | (with_reducible refine Kd.C_drewN ?_ _) | (with_reducible refine Kd.C_drew ?_))); (case side2 => exact (Kd.R_reads' HO236.out).2.1); rintro e w11 ⟨rfl, hb⟩; refine ⟨_, rfl, ?_⟩; have n0_ := Aside0.mk (Kd.R_below (by (with_reducible repeat (first | apply Kd.R_alloc | apply Kd.R_drewN | apply Kd.R_drew)); exact HO236.out) hb); have n1_ := Aside0.mk (below_step (by repeat (first | (with_reducible first | exact HB.out | apply below_alloc | apply pw_below_drewN | apply below_drew1) | exact HB.out)) hb); clear HO236; clear HB; have HO236 := n0_; have HB := n1_; clear n0_ n1_; (try clear hb); (try clear hb2); (try clear hk); (try clear hi)))
        go_meet
        case rel => exact ⟨_, ((t237.toList == ([] : List UInt8))), (by first | rfl | (simp; done) | (simp [*]; done)), H', ⟨by first | omega | exact Nat.le_refl _⟩, ⟨by (with_reducible repeat (first | apply Kd.R_alloc | apply Kd.R_drewN | apply Kd.R_drew)); exact HO236.out⟩, ⟨by repeat (first | (with_reducible first | exact HB.out | apply below_alloc | apply pw_below_drewN | apply below_drew1) | exact HB.out)⟩⟩
      · rw [if_neg c10] at H
        have c10b0 : (t237.toList == t238.toList) = false := beq_eq_false_iff_ne.mpr c10
        have c10b1 : (t237.toList != t238.toList) = true := bne_iff_ne.mpr c10
        (first | rw [c10b0] | (simp only [i64_w, i32_w]; rw [c10b0]) | skip)
        have H' := Aside0.mk H
        clear H
        go_wp2_with (first | ((with_reducible refine gate_callee (f := 49) rfl ?_); refine goesL_ (some 23) rfl rfl Try.func49 (by kernel_rfl) rfl #[.slice Ao7 t233.length co7, .int .i64 t234] rfl (by (try simp only [List.map_toArray, List.map_cons, List.map_nil]); first | done | rfl | (simp only [List.length_drop, List.length_take]; rfl)) ?_; (with_reducible refine (spec_RunPut.calls k _ _ t233 t234 t238 _ ?side1 ?side2 A9.out).mono ?_); (case side1 => repeat (first | exact (Kd.R_reads' HO236.out).2.2 | (with_reducible refine Kd.C_alloc ?_ _) | (with_reducible refine Kd.C_drewN ?_ _) | (with_reducible refine Kd.C_drew ?_))); (case side2 => exact (Kd.R_reads' HO236.out).2.1); rintro e w12 ⟨rfl, hb⟩; refine ⟨_, rfl, ?_⟩; have n0_ := Aside0.mk (Kd.R_below (by (with_reducible repeat (first | apply Kd.R_alloc | apply Kd.R_drewN | apply Kd.R_drew)); exact HO236.out) hb); have n1_ := Aside0.mk (below_step (by repeat (first | (with_reducible first | exact HB.out | apply below_alloc | apply pw_below_drewN | apply below_drew1) | exact HB.out)) hb); clear HO236; clear HB; have HO236 := n0_; have HB := n1_; clear n0_ n1_; (try clear hb); (try clear hb2); (try clear hk); (try clear hi)))
        go_meet
        case rel => exact ⟨_, (true), (by first | rfl | (simp; done) | (simp [*]; done)), H', ⟨by first | omega | exact Nat.le_refl _⟩, ⟨by (with_reducible repeat (first | apply Kd.R_alloc | apply Kd.R_drewN | apply Kd.R_drew)); exact HO236.out⟩, ⟨by repeat (first | (with_reducible first | exact HB.out | apply below_alloc | apply pw_below_drewN | apply below_drew1) | exact HB.out)⟩⟩
    case rest =>
      clear HC5
      try clear c1
      try clear c2
      try clear c2b0
      try clear c2b1
      try clear p2
      try clear c4
      try clear c10
      try clear c10b0
      try clear c10b1
      try clear c11
      obtain ⟨kq, x28_4, rfl, HA, HJ4, HO_3, HB⟩ := hcut
      cases kq with
      | zero => exact absurd HA.out (by simp [laws_FnRun.j0])
      | succ kj4 =>
        have H := HA.out
        clear HA
        simp only [laws_FnRun.j0] at H
        by_cases c13 : x28_4 = true
        · subst c13
          have H1 : ((spec_RunPut.f kj4 t233 t234).bind fun t239 => (some (t237.toList == t239.toList))) = some r := by rw [if_pos rfl] at H; exact H
          clear H
          have H := H1
          clear H1
          replace H := Option.bind_eq_some_iff.mp H
          obtain ⟨t239, A140, H⟩ := H
          replace H : (some (t237.toList == t239.toList)) = some r := H
          have A14 := Aside0.mk A140
          clear A140
          obtain rfl := Option.some.inj H
          go_wp2_with (first | ((with_reducible refine gate_callee (f := 49) rfl ?_); refine goesL_ (some 32) rfl rfl Try.func49 (by kernel_rfl) rfl #[.slice Ao7 t233.length co7, .int .i64 t234] rfl (by (try simp only [List.map_toArray, List.map_cons, List.map_nil]); first | done | rfl | (simp only [List.length_drop, List.length_take]; rfl)) ?_; (with_reducible refine (spec_RunPut.calls kj4 _ _ t233 t234 t239 _ ?side1 ?side2 A14.out).mono ?_); (case side1 => repeat (first | exact (Kd.R_reads' HO_3.out).2.2 | (with_reducible refine Kd.C_alloc ?_ _) | (with_reducible refine Kd.C_drewN ?_ _) | (with_reducible refine Kd.C_drew ?_))); (case side2 => exact (Kd.R_reads' HO_3.out).2.1); rintro e w15 ⟨rfl, hb⟩; refine ⟨_, rfl, ?_⟩; have n0_ := Aside0.mk (Kd.R_below (by (with_reducible repeat (first | apply Kd.R_alloc | apply Kd.R_drewN | apply Kd.R_drew)); exact HO_3.out) hb); have n1_ := Aside0.mk (below_step (by repeat (first | (with_reducible first | exact HB.out | apply below_alloc | apply pw_below_drewN | apply below_drew1) | exact HB.out)) hb); clear HO_3; clear HB; have HO_3 := n0_; have HB := n1_; clear n0_ n1_; (try clear hb); (try clear hb2); (try clear hk); (try clear hi)))
          go_ret
          exact ⟨by first | rfl | (simp [errW_none, errW_some] <;> rfl) | (simp [*, errW_none, errW_some] <;> rfl), by repeat (first | (with_reducible first | exact HB.out | apply below_alloc | apply pw_below_drewN | apply below_drew1) | exact HB.out)⟩
        · replace c13 := Bool.eq_false_iff.mpr c13
          subst c13
          have H1 : (if 5 + t237.size ≤ 9223372036854775807 then (if ((⟨#[97, 104, 101, 97, 100]⟩ : ByteArray) ++ t237).size + 6 ≤ 9223372036854775807 then ((impl_RunGet.f kj4 (((⟨#[97, 104, 101, 97, 100]⟩ : ByteArray) ++ t237) ++ (⟨#[98, 101, 104, 105, 110, 100]⟩ : ByteArray)) 5 t234 (t233.length : Int)).bind fun bt240 => (if bt240.2.2 = true then ((laws_wiInts.f kj4 bt240.1 t233).bind fun t245 => (if t245 = true then (if bt240.2.1 = (wrap64 (5 + (t237.size : Int))) then (some (decide ((t237.size : Int) ≤ (wrap64 ((wrap64 ((wrap64 (t234 * (t233.length : Int))) + (wrap64 (Int.tdiv (wrap64 ((t233.length : Int) + 127)) 128)))) + (wrap64 ((t233.length : Int) / 2))))))) else (some false)) else (some false))) else (some false))) else (none)) else (none)) = some r := by rw [if_neg (show ¬ (false = true) by decide)] at H; exact H
          clear H
          have H := H1
          clear H1
          by_cases c16 : 5 + t237.size ≤ 9223372036854775807
          · rw [if_pos c16] at H
            have c16b0 := eq_true c16
            have c16b1 : decide (5 + t237.size ≤ 9223372036854775807) = true := decide_eq_true c16
            try have c16b2 : (9223372036854775807 < 5 + t237.size) = False := eq_false (Nat.not_lt.2 c16)
            by_cases c17 : ((⟨#[97, 104, 101, 97, 100]⟩ : ByteArray) ++ t237).size + 6 ≤ 9223372036854775807
            · rw [if_pos c17] at H
              have c17b0 := eq_true c17
              have c17b1 : decide (((⟨#[97, 104, 101, 97, 100]⟩ : ByteArray) ++ t237).size + 6 ≤ 9223372036854775807) = true := decide_eq_true c17
              try have c17b2 : (9223372036854775807 < ((⟨#[97, 104, 101, 97, 100]⟩ : ByteArray) ++ t237).size + 6) = False := eq_false (Nat.not_lt.2 c17)
              try have c17b2q := c17b2
              try simp only [ByteArray.size_append, show (⟨#[97, 104, 101, 97, 100]⟩ : ByteArray).size = 5 from rfl] at c17b2q
              replace H := Option.bind_eq_some_iff.mp H
              obtain ⟨⟨t240, t241, t242⟩, A180, H⟩ := H
              replace H : (if t242 = true then ((laws_wiInts.f kj4 t240 t233).bind fun t245 => (if t245 = true then (if t241 = (wrap64 (5 + (t237.size : Int))) then (some (decide ((t237.size : Int) ≤ (wrap64 ((wrap64 ((wrap64 (t234 * (t233.length : Int))) + (wrap64 (Int.tdiv (wrap64 ((t233.length : Int) + 127)) 128)))) + (wrap64 ((t233.length : Int) / 2))))))) else (some false)) else (some false))) else (some false)) = some r := H
              have A18 := Aside0.mk A180
              clear A180
              by_cases c19 : t242 = true
              · subst c19
                have H1 : ((laws_wiInts.f kj4 t240 t233).bind fun t245 => (if t245 = true then (if t241 = (wrap64 (5 + (t237.size : Int))) then (some (decide ((t237.size : Int) ≤ (wrap64 ((wrap64 ((wrap64 (t234 * (t233.length : Int))) + (wrap64 (Int.tdiv (wrap64 ((t233.length : Int) + 127)) 128)))) + (wrap64 ((t233.length : Int) / 2))))))) else (some false)) else (some false))) = some r := by rw [if_pos rfl] at H; exact H
                clear H
                have H := H1
                clear H1
                replace H := Option.bind_eq_some_iff.mp H
                obtain ⟨t245, A200, H⟩ := H
                replace H : (if t245 = true then (if t241 = (wrap64 (5 + (t237.size : Int))) then (some (decide ((t237.size : Int) ≤ (wrap64 ((wrap64 ((wrap64 (t234 * (t233.length : Int))) + (wrap64 (Int.tdiv (wrap64 ((t233.length : Int) + 127)) 128)))) + (wrap64 ((t233.length : Int) / 2))))))) else (some false)) else (some false)) = some r := H
                have A20 := Aside0.mk A200
                clear A200
                by_cases c21 : t245 = true
                · subst c21
                  have H1 : (if t241 = (wrap64 (5 + (t237.size : Int))) then (some (decide ((t237.size : Int) ≤ (wrap64 ((wrap64 ((wrap64 (t234 * (t233.length : Int))) + (wrap64 (Int.tdiv (wrap64 ((t233.length : Int) + 127)) 128)))) + (wrap64 ((t233.length : Int) / 2))))))) else (some false)) = some r := by rw [if_pos rfl] at H; exact H
                  clear H
                  have H := H1
                  clear H1
                  by_cases c22 : t241 = (wrap64 (5 + (t237.size : Int)))
                  · rw [if_pos c22] at H
                    have c22b0 : (t241 == (wrap64 (5 + (t237.size : Int)))) = true := beq_iff_eq.mpr c22
                    rw [show wrap64 (5 + (t237.size : Int)) = 5 + (t237.size : Int) by (unfold wrap64; omega)] at c22b0
                    have c22b1 : (t241 != (wrap64 (5 + (t237.size : Int)))) = false := bne_eq_false_iff_eq.mpr c22
                    rw [show wrap64 (5 + (t237.size : Int)) = 5 + (t237.size : Int) by (unfold wrap64; omega)] at c22b1
                    clear c22
                    obtain rfl := Option.some.inj H
                    go_wp2_with (first | ((with_reducible refine gate_callee (f := 50) rfl ?_); refine goesL_ (some 41) rfl rfl Try.func50 (by kernel_rfl) rfl #[.string (((⟨#[97, 104, 101, 97, 100]⟩ : ByteArray) ++ t237) ++ (⟨#[98, 101, 104, 105, 110, 100]⟩ : ByteArray)), .int .i64 5, .int .i64 t234, .int .i64 (t233.length : Int)] rfl (by (try simp only [List.map_toArray, List.map_cons, List.map_nil]); first | done | rfl | (simp only [List.length_drop, List.length_take]; rfl)) ?_; (with_reducible refine (impl_RunGet.calls kj4 (((⟨#[97, 104, 101, 97, 100]⟩ : ByteArray) ++ t237) ++ (⟨#[98, 101, 104, 105, 110, 100]⟩ : ByteArray)) 5 t234 (t233.length : Int) t240 t241 true _ A18.out).mono ?_); rintro e w23 ⟨v243, rfl, ho0, hb⟩; refine ⟨_, rfl, ?_⟩; have n0_ := Aside0.mk (Kd.R_elder' (by (with_reducible repeat (first | apply Kd.R_alloc | apply Kd.R_drewN | apply Kd.R_drew)); exact HO_3.out) (Kd.R_base ho0) hb); have n1_ := Aside0.mk (Kd.R_lower (Kd.R_new' ho0 (Kd.R_lt (by (with_reducible repeat (first | apply Kd.R_alloc | apply Kd.R_drewN | apply Kd.R_drew)); exact HO_3.out))) (below_size (by repeat (first | (with_reducible first | exact HB.out | apply below_alloc | apply pw_below_drewN | apply below_drew1) | exact HB.out)))); have n2_ := Aside0.mk (below_step (by repeat (first | (with_reducible first | exact HB.out | apply below_alloc | apply pw_below_drewN | apply below_drew1) | exact HB.out)) hb); clear HO_3; clear HB; have HO_3 := n0_; have HO244 := n1_; have HB := n2_; clear n0_ n1_ n2_; (try clear hb); (try clear hb2); (try clear hk); (try clear hi); (try clear ho0); obtain ⟨Ao24, co24, eo24⟩ := Kd.R_slice HO244.out; subst eo24) | (go_at_call 51; (with_reducible refine (laws_wiInts.calls kj4 _ _ t240 _ _ t233 true _ ?side1 ?side2 ?side3 ?side4 A20.out).mono ?_); (case side1 => repeat (first | exact (Kd.R_reads' HO244.out).2.2 | (with_reducible refine Kd.C_alloc ?_ _) | (with_reducible refine Kd.C_drewN ?_ _) | (with_reducible refine Kd.C_drew ?_))); (case side2 => exact (Kd.R_reads' HO244.out).2.1); (case side3 => repeat (first | exact (Kd.R_reads' HO_3.out).2.2 | (with_reducible refine Kd.C_alloc ?_ _) | (with_reducible refine Kd.C_drewN ?_ _) | (with_reducible refine Kd.C_drew ?_))); (case side4 => exact (Kd.R_reads' HO_3.out).2.1); rintro e w' ⟨rfl, ⟨nd, rfl⟩⟩))
                    go_ret
                    exact ⟨by first | rfl | (simp [errW_none, errW_some] <;> rfl) | (simp [*, errW_none, errW_some] <;> rfl), by repeat (first | (with_reducible first | exact HB.out | apply below_alloc | apply pw_below_drewN | apply below_drew1) | exact HB.out)⟩
                  · rw [if_neg c22] at H
                    have c22b0 : (t241 == (wrap64 (5 + (t237.size : Int)))) = false := beq_eq_false_iff_ne.mpr c22
                    rw [show wrap64 (5 + (t237.size : Int)) = 5 + (t237.size : Int) by (unfold wrap64; omega)] at c22b0
                    have c22b1 : (t241 != (wrap64 (5 + (t237.size : Int)))) = true := bne_iff_ne.mpr c22
                    rw [show wrap64 (5 + (t237.size : Int)) = 5 + (t237.size : Int) by (unfold wrap64; omega)] at c22b1
                    obtain rfl := Option.some.inj H
                    go_wp2_with (first | ((with_reducible refine gate_callee (f := 50) rfl ?_); refine goesL_ (some 41) rfl rfl Try.func50 (by kernel_rfl) rfl #[.string (((⟨#[97, 104, 101, 97, 100]⟩ : ByteArray) ++ t237) ++ (⟨#[98, 101, 104, 105, 110, 100]⟩ : ByteArray)), .int .i64 5, .int .i64 t234, .int .i64 (t233.length : Int)] rfl (by (try simp only [List.map_toArray, List.map_cons, List.map_nil]); first | done | rfl | (simp only [List.length_drop, List.length_take]; rfl)) ?_; (with_reducible refine (impl_RunGet.calls kj4 (((⟨#[97, 104, 101, 97, 100]⟩ : ByteArray) ++ t237) ++ (⟨#[98, 101, 104, 105, 110, 100]⟩ : ByteArray)) 5 t234 (t233.length : Int) t240 t241 true _ A18.out).mono ?_); rintro e w25 ⟨v243, rfl, ho0, hb⟩; refine ⟨_, rfl, ?_⟩; have n0_ := Aside0.mk (Kd.R_elder' (by (with_reducible repeat (first | apply Kd.R_alloc | apply Kd.R_drewN | apply Kd.R_drew)); exact HO_3.out) (Kd.R_base ho0) hb); have n1_ := Aside0.mk (Kd.R_lower (Kd.R_new' ho0 (Kd.R_lt (by (with_reducible repeat (first | apply Kd.R_alloc | apply Kd.R_drewN | apply Kd.R_drew)); exact HO_3.out))) (below_size (by repeat (first | (with_reducible first | exact HB.out | apply below_alloc | apply pw_below_drewN | apply below_drew1) | exact HB.out)))); have n2_ := Aside0.mk (below_step (by repeat (first | (with_reducible first | exact HB.out | apply below_alloc | apply pw_below_drewN | apply below_drew1) | exact HB.out)) hb); clear HO_3; clear HB; have HO_3 := n0_; have HO244 := n1_; have HB := n2_; clear n0_ n1_ n2_; (try clear hb); (try clear hb2); (try clear hk); (try clear hi); (try clear ho0); obtain ⟨Ao26, co26, eo26⟩ := Kd.R_slice HO244.out; subst eo26) | (go_at_call 51; (with_reducible refine (laws_wiInts.calls kj4 _ _ t240 _ _ t233 true _ ?side1 ?side2 ?side3 ?side4 A20.out).mono ?_); (case side1 => repeat (first | exact (Kd.R_reads' HO244.out).2.2 | (with_reducible refine Kd.C_alloc ?_ _) | (with_reducible refine Kd.C_drewN ?_ _) | (with_reducible refine Kd.C_drew ?_))); (case side2 => exact (Kd.R_reads' HO244.out).2.1); (case side3 => repeat (first | exact (Kd.R_reads' HO_3.out).2.2 | (with_reducible refine Kd.C_alloc ?_ _) | (with_reducible refine Kd.C_drewN ?_ _) | (with_reducible refine Kd.C_drew ?_))); (case side4 => exact (Kd.R_reads' HO_3.out).2.1); rintro e w' ⟨rfl, ⟨nd, rfl⟩⟩))
                    go_ret
                    exact ⟨by first | rfl | (simp [errW_none, errW_some] <;> rfl) | (simp [*, errW_none, errW_some] <;> rfl), by repeat (first | (with_reducible first | exact HB.out | apply below_alloc | apply pw_below_drewN | apply below_drew1) | exact HB.out)⟩
                · replace c21 := Bool.eq_false_iff.mpr c21
                  subst c21
                  have H1 : (some false) = some r := by rw [if_neg (show ¬ (false = true) by decide)] at H; exact H
                  clear H
                  have H := H1
                  clear H1
                  obtain rfl := Option.some.inj H
                  go_wp2_with (first | ((with_reducible refine gate_callee (f := 50) rfl ?_); refine goesL_ (some 41) rfl rfl Try.func50 (by kernel_rfl) rfl #[.string (((⟨#[97, 104, 101, 97, 100]⟩ : ByteArray) ++ t237) ++ (⟨#[98, 101, 104, 105, 110, 100]⟩ : ByteArray)), .int .i64 5, .int .i64 t234, .int .i64 (t233.length : Int)] rfl (by (try simp only [List.map_toArray, List.map_cons, List.map_nil]); first | done | rfl | (simp only [List.length_drop, List.length_take]; rfl)) ?_; (with_reducible refine (impl_RunGet.calls kj4 (((⟨#[97, 104, 101, 97, 100]⟩ : ByteArray) ++ t237) ++ (⟨#[98, 101, 104, 105, 110, 100]⟩ : ByteArray)) 5 t234 (t233.length : Int) t240 t241 true _ A18.out).mono ?_); rintro e w27 ⟨v243, rfl, ho0, hb⟩; refine ⟨_, rfl, ?_⟩; have n0_ := Aside0.mk (Kd.R_elder' (by (with_reducible repeat (first | apply Kd.R_alloc | apply Kd.R_drewN | apply Kd.R_drew)); exact HO_3.out) (Kd.R_base ho0) hb); have n1_ := Aside0.mk (Kd.R_lower (Kd.R_new' ho0 (Kd.R_lt (by (with_reducible repeat (first | apply Kd.R_alloc | apply Kd.R_drewN | apply Kd.R_drew)); exact HO_3.out))) (below_size (by repeat (first | (with_reducible first | exact HB.out | apply below_alloc | apply pw_below_drewN | apply below_drew1) | exact HB.out)))); have n2_ := Aside0.mk (below_step (by repeat (first | (with_reducible first | exact HB.out | apply below_alloc | apply pw_below_drewN | apply below_drew1) | exact HB.out)) hb); clear HO_3; clear HB; have HO_3 := n0_; have HO244 := n1_; have HB := n2_; clear n0_ n1_ n2_; (try clear hb); (try clear hb2); (try clear hk); (try clear hi); (try clear ho0); obtain ⟨Ao28, co28, eo28⟩ := Kd.R_slice HO244.out; subst eo28) | (go_at_call 51; (with_reducible refine (laws_wiInts.calls kj4 _ _ t240 _ _ t233 false _ ?side1 ?side2 ?side3 ?side4 A20.out).mono ?_); (case side1 => repeat (first | exact (Kd.R_reads' HO244.out).2.2 | (with_reducible refine Kd.C_alloc ?_ _) | (with_reducible refine Kd.C_drewN ?_ _) | (with_reducible refine Kd.C_drew ?_))); (case side2 => exact (Kd.R_reads' HO244.out).2.1); (case side3 => repeat (first | exact (Kd.R_reads' HO_3.out).2.2 | (with_reducible refine Kd.C_alloc ?_ _) | (with_reducible refine Kd.C_drewN ?_ _) | (with_reducible refine Kd.C_drew ?_))); (case side4 => exact (Kd.R_reads' HO_3.out).2.1); rintro e w' ⟨rfl, ⟨nd, rfl⟩⟩))
                  go_ret
                  exact ⟨by first | rfl | (simp [errW_none, errW_some] <;> rfl) | (simp [*, errW_none, errW_some] <;> rfl), by repeat (first | (with_reducible first | exact HB.out | apply below_alloc | apply pw_below_drewN | apply below_drew1) | exact HB.out)⟩
              · replace c19 := Bool.eq_false_iff.mpr c19
                subst c19
                have H1 : (some false) = some r := by rw [if_neg (show ¬ (false = true) by decide)] at H; exact H
                clear H
                have H := H1
                clear H1
                obtain rfl := Option.some.inj H
                go_wp2_with (first | ((with_reducible refine gate_callee (f := 50) rfl ?_); refine goesL_ (some 41) rfl rfl Try.func50 (by kernel_rfl) rfl #[.string (((⟨#[97, 104, 101, 97, 100]⟩ : ByteArray) ++ t237) ++ (⟨#[98, 101, 104, 105, 110, 100]⟩ : ByteArray)), .int .i64 5, .int .i64 t234, .int .i64 (t233.length : Int)] rfl (by (try simp only [List.map_toArray, List.map_cons, List.map_nil]); first | done | rfl | (simp only [List.length_drop, List.length_take]; rfl)) ?_; (with_reducible refine (impl_RunGet.calls kj4 (((⟨#[97, 104, 101, 97, 100]⟩ : ByteArray) ++ t237) ++ (⟨#[98, 101, 104, 105, 110, 100]⟩ : ByteArray)) 5 t234 (t233.length : Int) t240 t241 false _ A18.out).mono ?_); rintro e w29 ⟨v243, rfl, ho0, hb⟩; refine ⟨_, rfl, ?_⟩; have n0_ := Aside0.mk (Kd.R_elder' (by (with_reducible repeat (first | apply Kd.R_alloc | apply Kd.R_drewN | apply Kd.R_drew)); exact HO_3.out) (Kd.R_base ho0) hb); have n1_ := Aside0.mk (Kd.R_lower (Kd.R_new' ho0 (Kd.R_lt (by (with_reducible repeat (first | apply Kd.R_alloc | apply Kd.R_drewN | apply Kd.R_drew)); exact HO_3.out))) (below_size (by repeat (first | (with_reducible first | exact HB.out | apply below_alloc | apply pw_below_drewN | apply below_drew1) | exact HB.out)))); have n2_ := Aside0.mk (below_step (by repeat (first | (with_reducible first | exact HB.out | apply below_alloc | apply pw_below_drewN | apply below_drew1) | exact HB.out)) hb); clear HO_3; clear HB; have HO_3 := n0_; have HO244 := n1_; have HB := n2_; clear n0_ n1_ n2_; (try clear hb); (try clear hb2); (try clear hk); (try clear hi); (try clear ho0)))
                go_ret
                exact ⟨by first | rfl | (simp [errW_none, errW_some] <;> rfl) | (simp [*, errW_none, errW_some] <;> rfl), by repeat (first | (with_reducible first | exact HB.out | apply below_alloc | apply pw_below_drewN | apply below_drew1) | exact HB.out)⟩
            · rw [if_neg c17] at H
              exact absurd H (by simp)
          · rw [if_neg c16] at H
            exact absurd H (by simp)

/-- THE ONE PURE STATEMENT of laws_FnRun: yours. -/
def laws_FnRun.Pure : Prop := ∀ (l0 : List Int), l0.length ≤ maxLen → l0.length * 1 ≤ 140737488351232 → (∀ x ∈ l0, (Lit.int .u8 x).wf = true) → ∃ k, laws_FnRun.f k l0 = some true
theorem laws_FnRun.walk (P : laws_FnRun.Pure) (a0 : Option Addr) (len0 cap0 : Nat) (z0 : List Int) (w : World) (w0 : (a0 = none ∧ len0 = 0 ∧ cap0 = 0 ∧ z0 = []) ∨ ∃ x, a0 = some x ∧ len0 ≤ cap0 ∧ cap0 ≤ maxLen ∧ z0.length = cap0 ∧ (∀ i, i < z0.length → w.cell? (x.add i) = some (.int .u8 (z0.getD i 0))) ∧ ∀ n ∈ z0, (Lit.int .u8 n).wf = true) (y0 : len0 * 1 ≤ 140737488351232) :
    Calls Try.prog 11 #[.slice a0 len0 cap0] w fun e w' => e = .returned (.bool true) ∧ Below w.heap.size w w' := by
  obtain ⟨l0, rfl, hr0, hm0, hw0, hc0⟩ := ReadsInt.ofRowC w0
  obtain ⟨k, h⟩ := P l0 hm0 y0 hw0
  refine (laws_FnRun.calls k _ _ l0 true w (Kd.C_of_reads (d := (0 : Int)) (h1 := fun _ => rfl) hr0) hc0 h).mono ?_
  rintro e w' ⟨rfl, hd⟩
  exact ⟨rfl, hd⟩

end Go.Proofs.Ytfladcffgblfdaa.PFnRun
