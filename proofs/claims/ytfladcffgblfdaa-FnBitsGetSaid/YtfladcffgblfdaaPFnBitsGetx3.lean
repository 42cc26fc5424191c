-- PRINTED BY print.sh 35421559b90ae4d0a3588c463048766b98c2df88dd9212a6774a882060cdf62d: not written by this session
import Derived.Test.YtfladcffgblfdaaPFnBitsGetx0
import Derived.Test.YtfladcffgblfdaaPFnBitsGetx1
import Derived.Test.YtfladcffgblfdaaPFnBitsGetx2
namespace Go.Proofs.Ytfladcffgblfdaa.PFnBitsGet
open Go.RowKit Go.Proofs.YtfladcffgblfdaaW.PrintWords Go.Proofs.YtfladcffgblfdaaW.PrintLast Go.Proofs.YtfladcffgblfdaaW.PrintMore
attribute [local go_sem] max2_int min2_int max_two min_two max_three min_three max_four min_four   -- for this text's walks alone
set_option linter.unusedVariables false
set_option linter.unusedSimpArgs false

/-! ### laws_FnBitsGet: function 4 -/
mutual
def laws_FnBitsGet.j0 : Nat → ByteArray → Int → Int → Bool → Int → Bool → Int → Bool → Bool → Option (Bool)
  | 0, _, _, _, _, _, _, _, _, _ => none
  | k + 1, x3, x4, x5, x6, x7, x8, x9, x10, x53 => if x53 = true then (if x7 = x9 then (some (x8 == x10)) else (some false)) else (laws_FnBitsGet.l0 k x3 x4 x5 x6 x7 0)
def laws_FnBitsGet.l0 : Nat → ByteArray → Int → Int → Bool → Int → Int → Option (Bool)
  | 0, _, _, _, _, _, _ => none
  | k + 1, x3, x4, x5, x6, x7, x11 => if x11 ≤ x5 then ((impl_BitsGet.f k x3 x4 x11 x6).bind fun bt169 => ((impl_BitsGet.f k x3 (wrap64 (x4 + x11)) (wrap64 (x5 - x11)) x6).bind fun bt171 => (if bt169.2 = true then (if bt171.2 = true then (if x6 = true then ((laws_wiPow.f k (wrap64 (x5 - x11))).bind fun t173 => (if x7 = (wrap64 ((wrap64 (bt169.1 * t173)) + bt171.1)) then (laws_FnBitsGet.l0 k x3 x4 x5 x6 x7 (wrap64 (x11 + 1))) else (some false))) else ((laws_wiPow.f k x11).bind fun t174 => (if x7 = (wrap64 (bt169.1 + (wrap64 (bt171.1 * t174)))) then (laws_FnBitsGet.l0 k x3 x4 x5 x6 x7 (wrap64 (x11 + 1))) else (some false)))) else (some false)) else (some false)))) else (some true)
end
def laws_FnBitsGet.f (k : Nat) (l0 : List Int) : Option (Bool) := if (l0.length : Int) > 1048576 then (some true) else ((spec_DrawBitsGet.f k l0).bind fun bt161 => ((impl_BitsGet.f k bt161.1 bt161.2.1 bt161.2.2.1 bt161.2.2.2).bind fun bt165 => ((spec_BitsGet.f k bt161.1 bt161.2.1 bt161.2.2.1 bt161.2.2.2).bind fun bt167 => (if bt165.1 = bt167.1 then (if (bt165.2 != bt167.2) = true then (laws_FnBitsGet.j0 k bt161.1 bt161.2.1 bt161.2.2.1 bt161.2.2.2 bt165.1 bt165.2 bt167.1 bt167.2 true) else (laws_FnBitsGet.j0 k bt161.1 bt161.2.1 bt161.2.2.1 bt161.2.2.2 bt165.1 bt165.2 bt167.1 bt167.2 (!bt165.2))) else (laws_FnBitsGet.j0 k bt161.1 bt161.2.1 bt161.2.2.1 bt161.2.2.2 bt165.1 bt165.2 bt167.1 bt167.2 true)))))
theorem laws_FnBitsGet.mono_l : ∀ k, (∀ y0 y1 y2 y3 y4 y5 y6 y7 y8, LeO (laws_FnBitsGet.j0 k y0 y1 y2 y3 y4 y5 y6 y7 y8) (laws_FnBitsGet.j0 (k + 1) y0 y1 y2 y3 y4 y5 y6 y7 y8)) ∧ (∀ y0 y1 y2 y3 y4 y5, LeO (laws_FnBitsGet.l0 k y0 y1 y2 y3 y4 y5) (laws_FnBitsGet.l0 (k + 1) y0 y1 y2 y3 y4 y5))
  | 0 => ⟨fun _ _ _ _ _ _ _ _ _ r h => by simp [laws_FnBitsGet.j0] at h, fun _ _ _ _ _ _ r h => by simp [laws_FnBitsGet.l0] at h⟩
  | k + 1 => by
    obtain ⟨ih0, ih1⟩ := laws_FnBitsGet.mono_l k
    refine ⟨?_, ?_⟩
    · intro y0 y1 y2 y3 y4 y5 y6 y7 y8
      unfold laws_FnBitsGet.j0
      repeat' first
      | (with_reducible exact ih0 _ _ _ _ _ _ _ _ _)
      | (with_reducible exact ih1 _ _ _ _ _ _)
      | (with_reducible exact impl_BitsGet.mono _ _ _ _ _)
      | (with_reducible exact laws_wiPow.mono _ _)
      | (with_reducible exact spec_BitsGet.mono _ _ _ _ _)
      | (with_reducible exact spec_DrawBitsGet.mono _ _)
      | (with_reducible exact LeO.refl _)
      | (with_reducible exact LeO.none _)
      | (with_reducible refine LeO.ite ?_ ?_)
      | (with_reducible refine LeO.bind ?_ (fun _ => ?_))
      | exact ih0 _ _ _ _ _ _ _ _ _
      | exact ih1 _ _ _ _ _ _
      | exact impl_BitsGet.mono _ _ _ _ _
      | exact laws_wiPow.mono _ _
      | exact spec_BitsGet.mono _ _ _ _ _
      | exact spec_DrawBitsGet.mono _ _
      | exact LeO.none _
      | refine LeO.ite ?_ ?_
      | refine LeO.bind ?_ (fun _ => ?_)
    · intro y0 y1 y2 y3 y4 y5
      unfold laws_FnBitsGet.l0
      repeat' first
      | (with_reducible exact ih0 _ _ _ _ _ _ _ _ _)
      | (with_reducible exact ih1 _ _ _ _ _ _)
      | (with_reducible exact impl_BitsGet.mono _ _ _ _ _)
      | (with_reducible exact laws_wiPow.mono _ _)
      | (with_reducible exact spec_BitsGet.mono _ _ _ _ _)
      | (with_reducible exact spec_DrawBitsGet.mono _ _)
      | (with_reducible exact LeO.refl _)
      | (with_reducible exact LeO.none _)
      | (with_reducible refine LeO.ite ?_ ?_)
      | (with_reducible refine LeO.bind ?_ (fun _ => ?_))
      | exact ih0 _ _ _ _ _ _ _ _ _
      | exact ih1 _ _ _ _ _ _
      | exact impl_BitsGet.mono _ _ _ _ _
      | exact laws_wiPow.mono _ _
      | exact spec_BitsGet.mono _ _ _ _ _
      | exact spec_DrawBitsGet.mono _ _
      | exact LeO.none _
      | refine LeO.ite ?_ ?_
      | refine LeO.bind ?_ (fun _ => ?_)
theorem laws_FnBitsGet.mono : ∀ a0 k, LeO (laws_FnBitsGet.f k a0) (laws_FnBitsGet.f (k + 1) a0) := by
  intro a0 k
  obtain ⟨ih0, ih1⟩ := laws_FnBitsGet.mono_l k
  unfold laws_FnBitsGet.f
  repeat' first
      | (with_reducible exact ih0 _ _ _ _ _ _ _ _ _)
      | (with_reducible exact ih1 _ _ _ _ _ _)
      | (with_reducible exact impl_BitsGet.mono _ _ _ _ _)
      | (with_reducible exact laws_wiPow.mono _ _)
      | (with_reducible exact spec_BitsGet.mono _ _ _ _ _)
      | (with_reducible exact spec_DrawBitsGet.mono _ _)
      | (with_reducible exact LeO.refl _)
      | (with_reducible exact LeO.none _)
      | (with_reducible refine LeO.ite ?_ ?_)
      | (with_reducible refine LeO.bind ?_ (fun _ => ?_))
      | exact ih0 _ _ _ _ _ _ _ _ _
      | exact ih1 _ _ _ _ _ _
      | exact impl_BitsGet.mono _ _ _ _ _
      | exact laws_wiPow.mono _ _
      | exact spec_BitsGet.mono _ _ _ _ _
      | exact spec_DrawBitsGet.mono _ _
      | exact LeO.none _
      | refine LeO.ite ?_ ?_
      | refine LeO.bind ?_ (fun _ => ?_)
set_option maxHeartbeats 8000000 in
set_option maxRecDepth 100000 in
theorem laws_FnBitsGet.calls (k : Nat) (A0 : Option Addr) (c0 : Nat) (l0 : List Int) (r : Bool) (w : World) (hr0 : Kd.C (Kd.int .u8) w A0 l0.length l0) (hc0 : l0.length ≤ c0) (h : laws_FnBitsGet.f k l0 = some r) :
    Calls Try.prog 4 #[.slice A0 l0.length c0] w fun e w' => e = .returned (.bool r) ∧ Below w.heap.size w w' := by
  have HR0 := Aside0.mk hr0
  have HC0 := Aside0.mk hc0
  clear hr0 hc0
  have HB := Aside0.mk (Below.refl w.heap.size w)
  have H : (if (l0.length : Int) > 1048576 then (some true) else ((spec_DrawBitsGet.f k l0).bind fun bt161 => ((impl_BitsGet.f k bt161.1 bt161.2.1 bt161.2.2.1 bt161.2.2.2).bind fun bt165 => ((spec_BitsGet.f k bt161.1 bt161.2.1 bt161.2.2.1 bt161.2.2.2).bind fun bt167 => (if bt165.1 = bt167.1 then (if (bt165.2 != bt167.2) = true then (laws_FnBitsGet.j0 k bt161.1 bt161.2.1 bt161.2.2.1 bt161.2.2.2 bt165.1 bt165.2 bt167.1 bt167.2 true) else (laws_FnBitsGet.j0 k bt161.1 bt161.2.1 bt161.2.2.1 bt161.2.2.2 bt165.1 bt165.2 bt167.1 bt167.2 (!bt165.2))) else (laws_FnBitsGet.j0 k bt161.1 bt161.2.1 bt161.2.2.1 bt161.2.2.2 bt165.1 bt165.2 bt167.1 bt167.2 true)))))) = some r := h
  clear h
  by_cases c2 : (l0.length : Int) > 1048576
  · rw [if_pos c2] at H
    have c2b0 : decide (1048576 < (l0.length : Int)) = true := decide_eq_true c2
    have c2b1 : decide (1048576 < l0.length) = true := decide_eq_true (by omega)
    clear c2
    obtain rfl := Option.some.inj H
    go_enter Try.func4, Try.ntmps4
    go_wp2
    go_ret
    exact ⟨by first | rfl | (simp [errW_none, errW_some] <;> rfl) | (simp [*, errW_none, errW_some] <;> rfl), by repeat (first | (with_reducible first | exact HB.out | apply below_alloc | apply pw_below_drewN | apply below_drew1) | exact HB.out)⟩
  · rw [if_neg c2] at H
    have c2b0 : decide (1048576 < (l0.length : Int)) = false := decide_eq_false c2
    have c2b1 : decide (1048576 < l0.length) = false := decide_eq_false (by omega)
    clear c2
    replace H := Option.bind_eq_some_iff.mp H
    obtain ⟨⟨t161, t162, t163, t164⟩, A30, H⟩ := H
    replace H : ((impl_BitsGet.f k t161 t162 t163 t164).bind fun bt165 => ((spec_BitsGet.f k t161 t162 t163 t164).bind fun bt167 => (if bt165.1 = bt167.1 then (if (bt165.2 != bt167.2) = true then (laws_FnBitsGet.j0 k t161 t162 t163 t164 bt165.1 bt165.2 bt167.1 bt167.2 true) else (laws_FnBitsGet.j0 k t161 t162 t163 t164 bt165.1 bt165.2 bt167.1 bt167.2 (!bt165.2))) else (laws_FnBitsGet.j0 k t161 t162 t163 t164 bt165.1 bt165.2 bt167.1 bt167.2 true)))) = some r := H
    have A3 := Aside0.mk A30
    clear A30
    replace H := Option.bind_eq_some_iff.mp H
    obtain ⟨⟨t165, t166⟩, A40, H⟩ := H
    replace H : ((spec_BitsGet.f k t161 t162 t163 t164).bind fun bt167 => (if t165 = bt167.1 then (if (t166 != bt167.2) = true then (laws_FnBitsGet.j0 k t161 t162 t163 t164 t165 t166 bt167.1 bt167.2 true) else (laws_FnBitsGet.j0 k t161 t162 t163 t164 t165 t166 bt167.1 bt167.2 (!t166))) else (laws_FnBitsGet.j0 k t161 t162 t163 t164 t165 t166 bt167.1 bt167.2 true))) = some r := H
    have A4 := Aside0.mk A40
    clear A40
    replace H := Option.bind_eq_some_iff.mp H
    obtain ⟨⟨t167, t168⟩, A50, H⟩ := H
    replace H : (if t165 = t167 then (if (t166 != t168) = true then (laws_FnBitsGet.j0 k t161 t162 t163 t164 t165 t166 t167 t168 true) else (laws_FnBitsGet.j0 k t161 t162 t163 t164 t165 t166 t167 t168 (!t166))) else (laws_FnBitsGet.j0 k t161 t162 t163 t164 t165 t166 t167 t168 true)) = some r := H
    have A5 := Aside0.mk A50
    clear A50
    have HC6 := Aside0.mk H
    clear H
    go_enter Try.func4, Try.ntmps4
    go_upto_region 6 with (first | ((with_reducible refine gate_callee (f := 21) rfl ?_); refine goesL_ (some 21) rfl rfl Try.func21 (by kernel_rfl) rfl #[.slice A0 l0.length c0] rfl (by (try simp only [List.map_toArray, List.map_cons, List.map_nil]); first | done | rfl | (simp only [List.length_drop, List.length_take]; rfl)) ?_; (with_reducible refine (spec_DrawBitsGet.calls k _ _ l0 t161 t162 t163 t164 _ ?side1 ?side2 A3.out).mono ?_); (case side1 => repeat (first | exact HR0.out | (with_reducible refine Kd.C_alloc ?_ _) | (with_reducible refine Kd.C_drewN ?_ _) | (with_reducible refine Kd.C_drew ?_))); (case side2 => exact HC0.out); rintro e w7 ⟨rfl, hb⟩; refine ⟨_, rfl, ?_⟩; have n0_ := Aside0.mk (below_step (by repeat (first | (with_reducible first | exact HB.out | apply below_alloc | apply pw_below_drewN | apply below_drew1) | exact HB.out)) hb); clear HB; have HB := n0_; clear n0_; (try clear hb); (try clear hb2); (try clear hk); (try clear hi)) | ((with_reducible refine gate_callee (f := 22) rfl ?_); refine goesL_ (some 31) rfl rfl Try.func22 (by kernel_rfl) rfl #[.string t161, .int .i64 t162, .int .i64 t163, .bool t164] rfl (by (try simp only [List.map_toArray, List.map_cons, List.map_nil]); first | done | rfl | (simp only [List.length_drop, List.length_take]; rfl)) ?_; (with_reducible refine (impl_BitsGet.calls k t161 t162 t163 t164 t165 t166 _ A4.out).mono ?_); rintro e w' ⟨rfl, ⟨nd, rfl⟩⟩; refine ⟨_, rfl, ?_⟩) | ((with_reducible refine gate_callee (f := 23) rfl ?_); refine goesL_ (some 39) rfl rfl Try.func23 (by kernel_rfl) rfl #[.string t161, .int .i64 t162, .int .i64 t163, .bool t164] rfl (by (try simp only [List.map_toArray, List.map_cons, List.map_nil]); first | done | rfl | (simp only [List.length_drop, List.length_take]; rfl)) ?_; (with_reducible refine (spec_BitsGet.calls k t161 t162 t163 t164 t167 t168 _ A5.out).mono ?_); rintro e w' ⟨rfl, ⟨nd, rfl⟩⟩; refine ⟨_, rfl, ?_⟩))
    (try simp only [Act.put, List.setIfInBounds_toArray, List.set_cons_zero, List.set_cons_succ])
    go_cut [53] (fun v53 wc => ∃ (kq : Nat) (x53_5 : Bool), v53 = .bool x53_5 ∧ Aside0 (laws_FnBitsGet.j0 kq t161 t162 t163 t164 t165 t166 t167 t168 x53_5 = some r) ∧ Aside0 (kq ≤ k) ∧ Aside0 (Below w.heap.size w wc))
    case first =>
      have H := HC6.out
      clear HC6
      by_cases c8 : t165 = t167
      · rw [if_pos c8] at H
        have c8b0 : (t165 == t167) = true := beq_iff_eq.mpr c8
        have c8b1 : (t165 != t167) = false := bne_eq_false_iff_eq.mpr c8
        clear c8
        (first | rw [c8b0] | (simp only [i64_w, i32_w]; rw [c8b0]) | skip)
        by_cases c9 : (t166 != t168) = true
        · rw [if_pos c9] at H
          have c9b0 : (t166 != t168) = true := c9
          (try (have c9b1 : decide (t166 = t168) = false := by simpa using c9))
          (try (have c9b2 : (t166 == t168) = false := by simpa using c9))
          (try (have c9b3 : ¬ (t166 = t168) := by simpa using c9))
          clear c9
          have H' := Aside0.mk H
          clear H
          go_wp2
          go_meet
          case rel => exact ⟨_, (true), (by first | rfl | (simp; done) | (simp [*]; done)), H', ⟨by first | omega | exact Nat.le_refl _⟩, ⟨by repeat (first | (with_reducible first | exact HB.out | apply below_alloc | apply pw_below_drewN | apply below_drew1) | exact HB.out)⟩⟩
        · rw [if_neg c9] at H
          have c9b0 : (t166 != t168) = false := by simpa using c9
          (try (have c9b1 : decide (t166 = t168) = true := by simpa using c9))
          (try (have c9b2 : (t166 == t168) = true := by simpa using c9))
          clear c9
          have H' := Aside0.mk H
          clear H
          go_wp2
          go_meet
          case rel => exact ⟨_, (!t166), (by first | rfl | (simp; done) | (simp [*]; done)), H', ⟨by first | omega | exact Nat.le_refl _⟩, ⟨by repeat (first | (with_reducible first | exact HB.out | apply below_alloc | apply pw_below_drewN | apply below_drew1) | exact HB.out)⟩⟩
      · rw [if_neg c8] at H
        have c8b0 : (t165 == t167) = false := beq_eq_false_iff_ne.mpr c8
        have c8b1 : (t165 != t167) = true := bne_iff_ne.mpr c8
        (first | rw [c8b0] | (simp only [i64_w, i32_w]; rw [c8b0]) | skip)
        have H' := Aside0.mk H
        clear H
        go_wp2
        go_meet
        case rel => exact ⟨_, (true), (by first | rfl | (simp; done) | (simp [*]; done)), H', ⟨by first | omega | exact Nat.le_refl _⟩, ⟨by repeat (first | (with_reducible first | exact HB.out | apply below_alloc | apply pw_below_drewN | apply below_drew1) | exact HB.out)⟩⟩
    case rest =>
      clear HC6
      try clear c2
      try clear c2b0
      try clear c2b1
      try clear p2
      try clear c4
      try clear c8
      try clear c8b0
      try clear c8b1
      try clear c9
      try clear c9b0
      try clear c9b1
      try clear c9b2
      obtain ⟨kq, x53_5, rfl, HA, HJ5, HB⟩ := hcut
      cases kq with
      | zero => exact absurd HA.out (by simp [laws_FnBitsGet.j0])
      | succ kj5 =>
        have H := HA.out
        clear HA
        simp only [laws_FnBitsGet.j0] at H
        by_cases c10 : x53_5 = true
        · subst c10
          have H1 : (if t165 = t167 then (some (t166 == t168)) else (some false)) = some r := by rw [if_pos rfl] at H; exact H
          clear H
          have H := H1
          clear H1
          by_cases c11 : t165 = t167
          · rw [if_pos c11] at H
            have c11b0 : (t165 == t167) = true := beq_iff_eq.mpr c11
            have c11b1 : (t165 != t167) = false := bne_eq_false_iff_eq.mpr c11
            clear c11
            obtain rfl := Option.some.inj H
            go_wp2
            go_ret
            exact ⟨by first | rfl | (simp [errW_none, errW_some] <;> rfl) | (simp [*, errW_none, errW_some] <;> rfl), by repeat (first | (with_reducible first | exact HB.out | apply below_alloc | apply pw_below_drewN | apply below_drew1) | exact HB.out)⟩
          · rw [if_neg c11] at H
            have c11b0 : (t165 == t167) = false := beq_eq_false_iff_ne.mpr c11
            have c11b1 : (t165 != t167) = true := bne_iff_ne.mpr c11
            obtain rfl := Option.some.inj H
            go_wp2
            go_ret
            exact ⟨by first | rfl | (simp [errW_none, errW_some] <;> rfl) | (simp [*, errW_none, errW_some] <;> rfl), by repeat (first | (with_reducible first | exact HB.out | apply below_alloc | apply pw_below_drewN | apply below_drew1) | exact HB.out)⟩
        · replace c10 := Bool.eq_false_iff.mpr c10
          subst c10
          have H1 : (laws_FnBitsGet.l0 kj5 t161 t162 t163 t164 t165 0) = some r := by rw [if_neg (show ¬ (false = true) by decide)] at H; exact H
          clear H
          have H := H1
          clear H1
          have H' := Aside0.mk H
          clear H
          go_wp2
          go_loopg [11] kj5 (fun kq v11 w' => ∃ (x11_2 : Int), v11 = .int .i64 x11_2 ∧ Aside0 (laws_FnBitsGet.l0 kq t161 t162 t163 t164 t165 x11_2 = some r) ∧ Aside0 (kq ≤ kj5) ∧ Aside0 (Below w.heap.size w w'))
          case atStart => exact ⟨(0), (by first | rfl | (simp; done) | (simp [*]; done)), H', ⟨Nat.le_refl _⟩, ⟨by repeat (first | (with_reducible first | exact HB.out | apply below_alloc | apply pw_below_drewN | apply below_drew1) | exact HB.out)⟩⟩
          case round =>
            clear H'
            try clear c1
            try clear c2
            try clear c2b0
            try clear c2b1
            try clear p2
            try clear c4
            try clear c8
            try clear c8b0
            try clear c8b1
            try clear c9
            try clear c9b0
            try clear c9b1
            try clear c9b2
            try clear c10
            try clear c11
            try clear c11b0
            try clear c11b1
            try clear p2
            obtain ⟨x11_2, rfl, HA, HK2, HB⟩ := hrel
            cases gk with
            | zero => exact absurd HA.out (by simp [laws_FnBitsGet.l0])
            | succ k2 =>
              have H := HA.out
              clear HA
              simp only [laws_FnBitsGet.l0] at H
              by_cases c12 : x11_2 ≤ t163
              · rw [if_pos c12] at H
                have c12b0 : decide (x11_2 ≤ t163) = true := decide_eq_true c12
                clear c12
                replace H := Option.bind_eq_some_iff.mp H
                obtain ⟨⟨t169, t170⟩, A130, H⟩ := H
                replace H : ((impl_BitsGet.f k2 t161 (wrap64 (t162 + x11_2)) (wrap64 (t163 - x11_2)) t164).bind fun bt171 => (if t170 = true then (if bt171.2 = true then (if t164 = true then ((laws_wiPow.f k2 (wrap64 (t163 - x11_2))).bind fun t173 => (if t165 = (wrap64 ((wrap64 (t169 * t173)) + bt171.1)) then (laws_FnBitsGet.l0 k2 t161 t162 t163 t164 t165 (wrap64 (x11_2 + 1))) else (some false))) else ((laws_wiPow.f k2 x11_2).bind fun t174 => (if t165 = (wrap64 (t169 + (wrap64 (bt171.1 * t174)))) then (laws_FnBitsGet.l0 k2 t161 t162 t163 t164 t165 (wrap64 (x11_2 + 1))) else (some false)))) else (some false)) else (some false))) = some r := H
                have A13 := Aside0.mk A130
                clear A130
                replace H := Option.bind_eq_some_iff.mp H
                obtain ⟨⟨t171, t172⟩, A140, H⟩ := H
                replace H : (if t170 = true then (if t172 = true then (if t164 = true then ((laws_wiPow.f k2 (wrap64 (t163 - x11_2))).bind fun t173 => (if t165 = (wrap64 ((wrap64 (t169 * t173)) + t171)) then (laws_FnBitsGet.l0 k2 t161 t162 t163 t164 t165 (wrap64 (x11_2 + 1))) else (some false))) else ((laws_wiPow.f k2 x11_2).bind fun t174 => (if t165 = (wrap64 (t169 + (wrap64 (t171 * t174)))) then (laws_FnBitsGet.l0 k2 t161 t162 t163 t164 t165 (wrap64 (x11_2 + 1))) else (some false)))) else (some false)) else (some false)) = some r := H
                have A14 := Aside0.mk A140
                clear A140
                by_cases c15 : t170 = true
                · subst c15
                  have H1 : (if t172 = true then (if t164 = true then ((laws_wiPow.f k2 (wrap64 (t163 - x11_2))).bind fun t173 => (if t165 = (wrap64 ((wrap64 (t169 * t173)) + t171)) then (laws_FnBitsGet.l0 k2 t161 t162 t163 t164 t165 (wrap64 (x11_2 + 1))) else (some false))) else ((laws_wiPow.f k2 x11_2).bind fun t174 => (if t165 = (wrap64 (t169 + (wrap64 (t171 * t174)))) then (laws_FnBitsGet.l0 k2 t161 t162 t163 t164 t165 (wrap64 (x11_2 + 1))) else (some false)))) else (some false)) = some r := by rw [if_pos rfl] at H; exact H
                  clear H
                  have H := H1
                  clear H1
                  by_cases c16 : t172 = true
                  · subst c16
                    have H1 : (if t164 = true then ((laws_wiPow.f k2 (wrap64 (t163 - x11_2))).bind fun t173 => (if t165 = (wrap64 ((wrap64 (t169 * t173)) + t171)) then (laws_FnBitsGet.l0 k2 t161 t162 t163 t164 t165 (wrap64 (x11_2 + 1))) else (some false))) else ((laws_wiPow.f k2 x11_2).bind fun t174 => (if t165 = (wrap64 (t169 + (wrap64 (t171 * t174)))) then (laws_FnBitsGet.l0 k2 t161 t162 t163 t164 t165 (wrap64 (x11_2 + 1))) else (some false)))) = some r := by rw [if_pos rfl] at H; exact H
                    clear H
                    have H := H1
                    clear H1
                    by_cases c17 : t164 = true
                    · subst c17
                      have H1 : ((laws_wiPow.f k2 (wrap64 (t163 - x11_2))).bind fun t173 => (if t165 = (wrap64 ((wrap64 (t169 * t173)) + t171)) then (laws_FnBitsGet.l0 k2 t161 t162 t163 true t165 (wrap64 (x11_2 + 1))) else (some false))) = some r := by rw [if_pos rfl] at H; exact H
                      clear H
                      have H := H1
                      clear H1
                      replace H := Option.bind_eq_some_iff.mp H
                      obtain ⟨t173, A180, H⟩ := H
                      replace H : (if t165 = (wrap64 ((wrap64 (t169 * t173)) + t171)) then (laws_FnBitsGet.l0 k2 t161 t162 t163 true t165 (wrap64 (x11_2 + 1))) else (some false)) = some r := H
                      have A18 := Aside0.mk A180
                      clear A180
                      by_cases c19 : t165 = (wrap64 ((wrap64 (t169 * t173)) + t171))
                      · rw [if_pos c19] at H
                        have c19b0 : (t165 == (wrap64 ((wrap64 (t169 * t173)) + t171))) = true := beq_iff_eq.mpr c19
                        have c19b1 : (t165 != (wrap64 ((wrap64 (t169 * t173)) + t171))) = false := bne_eq_false_iff_eq.mpr c19
                        clear c19
                        have H' := Aside0.mk H
                        clear H
                        go_wp2_with (first | ((with_reducible refine gate_callee (f := 22) rfl ?_); refine goesL_ (some 72) rfl rfl Try.func22 (by kernel_rfl) rfl #[.string t161, .int .i64 t162, .int .i64 x11_2, .bool true] rfl (by (try simp only [List.map_toArray, List.map_cons, List.map_nil]); first | done | rfl | (simp only [List.length_drop, List.length_take]; rfl)) ?_; (with_reducible refine (impl_BitsGet.calls k2 t161 t162 x11_2 true t169 true _ A13.out).mono ?_); rintro e w' ⟨rfl, ⟨nd, rfl⟩⟩; refine ⟨_, rfl, ?_⟩) | ((with_reducible refine gate_callee (f := 22) rfl ?_); refine goesL_ (some 84) rfl rfl Try.func22 (by kernel_rfl) rfl #[.string t161, .int .i64 (wrap64 (t162 + x11_2)), .int .i64 (wrap64 (t163 - x11_2)), .bool true] rfl (by (try simp only [List.map_toArray, List.map_cons, List.map_nil]); first | done | rfl | (simp only [List.length_drop, List.length_take]; rfl)) ?_; (with_reducible refine (impl_BitsGet.calls k2 t161 (wrap64 (t162 + x11_2)) (wrap64 (t163 - x11_2)) true t171 true _ A14.out).mono ?_); rintro e w' ⟨rfl, ⟨nd, rfl⟩⟩; refine ⟨_, rfl, ?_⟩) | (go_at_call 24; (with_reducible refine (laws_wiPow.calls k2 (wrap64 (t163 - x11_2)) t173 _ A18.out).mono ?_); rintro e w' ⟨rfl, ⟨nd, rfl⟩⟩))
                        go_roundg k2
                        case measure => have := HJ5.out; have := HK2.out; omega
                        case rel => exact ⟨(wrap64 (x11_2 + 1)), (by first | rfl | (simp; done) | (simp [*]; done)), H', ⟨by have := HJ5.out; have := HK2.out; omega⟩, ⟨by repeat (first | (with_reducible first | exact HB.out | apply below_alloc | apply pw_below_drewN | apply below_drew1) | exact HB.out)⟩⟩
                      · rw [if_neg c19] at H
                        have c19b0 : (t165 == (wrap64 ((wrap64 (t169 * t173)) + t171))) = false := beq_eq_false_iff_ne.mpr c19
                        have c19b1 : (t165 != (wrap64 ((wrap64 (t169 * t173)) + t171))) = true := bne_iff_ne.mpr c19
                        obtain rfl := Option.some.inj H
                        go_wp2_with (first | ((with_reducible refine gate_callee (f := 22) rfl ?_); refine goesL_ (some 72) rfl rfl Try.func22 (by kernel_rfl) rfl #[.string t161, .int .i64 t162, .int .i64 x11_2, .bool true] rfl (by (try simp only [List.map_toArray, List.map_cons, List.map_nil]); first | done | rfl | (simp only [List.length_drop, List.length_take]; rfl)) ?_; (with_reducible refine (impl_BitsGet.calls k2 t161 t162 x11_2 true t169 true _ A13.out).mono ?_); rintro e w' ⟨rfl, ⟨nd, rfl⟩⟩; refine ⟨_, rfl, ?_⟩) | ((with_reducible refine gate_callee (f := 22) rfl ?_); refine goesL_ (some 84) rfl rfl Try.func22 (by kernel_rfl) rfl #[.string t161, .int .i64 (wrap64 (t162 + x11_2)), .int .i64 (wrap64 (t163 - x11_2)), .bool true] rfl (by (try simp only [List.map_toArray, List.map_cons, List.map_nil]); first | done | rfl | (simp only [List.length_drop, List.length_take]; rfl)) ?_; (with_reducible refine (impl_BitsGet.calls k2 t161 (wrap64 (t162 + x11_2)) (wrap64 (t163 - x11_2)) true t171 true _ A14.out).mono ?_); rintro e w' ⟨rfl, ⟨nd, rfl⟩⟩; refine ⟨_, rfl, ?_⟩) | (go_at_call 24; (with_reducible refine (laws_wiPow.calls k2 (wrap64 (t163 - x11_2)) t173 _ A18.out).mono ?_); rintro e w' ⟨rfl, ⟨nd, rfl⟩⟩))
                        go_ret
                        exact ⟨by first | rfl | (simp [errW_none, errW_some] <;> rfl) | (simp [*, errW_none, errW_some] <;> rfl), by repeat (first | (with_reducible first | exact HB.out | apply below_alloc | apply pw_below_drewN | apply below_drew1) | exact HB.out)⟩
                    · replace c17 := Bool.eq_false_iff.mpr c17
                      subst c17
                      have H1 : ((laws_wiPow.f k2 x11_2).bind fun t174 => (if t165 = (wrap64 (t169 + (wrap64 (t171 * t174)))) then (laws_FnBitsGet.l0 k2 t161 t162 t163 false t165 (wrap64 (x11_2 + 1))) else (some false))) = some r := by rw [if_neg (show ¬ (false = true) by decide)] at H; exact H
                      clear H
                      have H := H1
                      clear H1
                      replace H := Option.bind_eq_some_iff.mp H
                      obtain ⟨t174, A200, H⟩ := H
                      replace H : (if t165 = (wrap64 (t169 + (wrap64 (t171 * t174)))) then (laws_FnBitsGet.l0 k2 t161 t162 t163 false t165 (wrap64 (x11_2 + 1))) else (some false)) = some r := H
                      have A20 := Aside0.mk A200
                      clear A200
                      by_cases c21 : t165 = (wrap64 (t169 + (wrap64 (t171 * t174))))
                      · rw [if_pos c21] at H
                        have c21b0 : (t165 == (wrap64 (t169 + (wrap64 (t171 * t174))))) = true := beq_iff_eq.mpr c21
                        have c21b1 : (t165 != (wrap64 (t169 + (wrap64 (t171 * t174))))) = false := bne_eq_false_iff_eq.mpr c21
                        clear c21
                        have H' := Aside0.mk H
                        clear H
                        go_wp2_with (first | ((with_reducible refine gate_callee (f := 22) rfl ?_); refine goesL_ (some 72) rfl rfl Try.func22 (by kernel_rfl) rfl #[.string t161, .int .i64 t162, .int .i64 x11_2, .bool false] rfl (by (try simp only [List.map_toArray, List.map_cons, List.map_nil]); first | done | rfl | (simp only [List.length_drop, List.length_take]; rfl)) ?_; (with_reducible refine (impl_BitsGet.calls k2 t161 t162 x11_2 false t169 true _ A13.out).mono ?_); rintro e w' ⟨rfl, ⟨nd, rfl⟩⟩; refine ⟨_, rfl, ?_⟩) | ((with_reducible refine gate_callee (f := 22) rfl ?_); refine goesL_ (some 84) rfl rfl Try.func22 (by kernel_rfl) rfl #[.string t161, .int .i64 (wrap64 (t162 + x11_2)), .int .i64 (wrap64 (t163 - x11_2)), .bool false] rfl (by (try simp only [List.map_toArray, List.map_cons, List.map_nil]); first | done | rfl | (simp only [List.length_drop, List.length_take]; rfl)) ?_; (with_reducible refine (impl_BitsGet.calls k2 t161 (wrap64 (t162 + x11_2)) (wrap64 (t163 - x11_2)) false t171 true _ A14.out).mono ?_); rintro e w' ⟨rfl, ⟨nd, rfl⟩⟩; refine ⟨_, rfl, ?_⟩) | (go_at_call 24; (with_reducible refine (laws_wiPow.calls k2 x11_2 t174 _ A20.out).mono ?_); rintro e w' ⟨rfl, ⟨nd, rfl⟩⟩))
                        go_roundg k2
                        case measure => have := HJ5.out; have := HK2.out; omega
                        case rel => exact ⟨(wrap64 (x11_2 + 1)), (by first | rfl | (simp; done) | (simp [*]; done)), H', ⟨by have := HJ5.out; have := HK2.out; omega⟩, ⟨by repeat (first | (with_reducible first | exact HB.out | apply below_alloc | apply pw_below_drewN | apply below_drew1) | exact HB.out)⟩⟩
                      · rw [if_neg c21] at H
                        have c21b0 : (t165 == (wrap64 (t169 + (wrap64 (t171 * t174))))) = false := beq_eq_false_iff_ne.mpr c21
                        have c21b1 : (t165 != (wrap64 (t169 + (wrap64 (t171 * t174))))) = true := bne_iff_ne.mpr c21
                        obtain rfl := Option.some.inj H
                        go_wp2_with (first | ((with_reducible refine gate_callee (f := 22) rfl ?_); refine goesL_ (some 72) rfl rfl Try.func22 (by kernel_rfl) rfl #[.string t161, .int .i64 t162, .int .i64 x11_2, .bool false] rfl (by (try simp only [List.map_toArray, List.map_cons, List.map_nil]); first | done | rfl | (simp only [List.length_drop, List.length_take]; rfl)) ?_; (with_reducible refine (impl_BitsGet.calls k2 t161 t162 x11_2 false t169 true _ A13.out).mono ?_); rintro e w' ⟨rfl, ⟨nd, rfl⟩⟩; refine ⟨_, rfl, ?_⟩) | ((with_reducible refine gate_callee (f := 22) rfl ?_); refine goesL_ (some 84) rfl rfl Try.func22 (by kernel_rfl) rfl #[.string t161, .int .i64 (wrap64 (t162 + x11_2)), .int .i64 (wrap64 (t163 - x11_2)), .bool false] rfl (by (try simp only [List.map_toArray, List.map_cons, List.map_nil]); first | done | rfl | (simp only [List.length_drop, List.length_take]; rfl)) ?_; (with_reducible refine (impl_BitsGet.calls k2 t161 (wrap64 (t162 + x11_2)) (wrap64 (t163 - x11_2)) false t171 true _ A14.out).mono ?_); rintro e w' ⟨rfl, ⟨nd, rfl⟩⟩; refine ⟨_, rfl, ?_⟩) | (go_at_call 24; (with_reducible refine (laws_wiPow.calls k2 x11_2 t174 _ A20.out).mono ?_); rintro e w' ⟨rfl, ⟨nd, rfl⟩⟩))
                        go_ret
                        exact ⟨by first | rfl | (simp [errW_none, errW_some] <;> rfl) | (simp [*, errW_none, errW_some] <;> rfl), by repeat (first | (with_reducible first | exact HB.out | apply below_alloc | apply pw_below_drewN | apply below_drew1) | exact HB.out)⟩
                  · replace c16 := Bool.eq_false_iff.mpr c16
                    subst c16
                    have H1 : (some false) = some r := by rw [if_neg (show ¬ (false = true) by decide)] at H; exact H
                    clear H
                    have H := H1
                    clear H1
                    obtain rfl := Option.some.inj H
                    go_wp2_with (first | ((with_reducible refine gate_callee (f := 22) rfl ?_); refine goesL_ (some 72) rfl rfl Try.func22 (by kernel_rfl) rfl #[.string t161, .int .i64 t162, .int .i64 x11_2, .bool t164] rfl (by (try simp only [List.map_toArray, List.map_cons, List.map_nil]); first | done | rfl | (simp only [List.length_drop, List.length_take]; rfl)) ?_; (with_reducible refine (impl_BitsGet.calls k2 t161 t162 x11_2 t164 t169 true _ A13.out).mono ?_); rintro e w' ⟨rfl, ⟨nd, rfl⟩⟩; refine ⟨_, rfl, ?_⟩) | ((with_reducible refine gate_callee (f := 22) rfl ?_); refine goesL_ (some 84) rfl rfl Try.func22 (by kernel_rfl) rfl #[.string t161, .int .i64 (wrap64 (t162 + x11_2)), .int .i64 (wrap64 (t163 - x11_2)), .bool t164] rfl (by (try simp only [List.map_toArray, List.map_cons, List.map_nil]); first | done | rfl | (simp only [List.length_drop, List.length_take]; rfl)) ?_; (with_reducible refine (impl_BitsGet.calls k2 t161 (wrap64 (t162 + x11_2)) (wrap64 (t163 - x11_2)) t164 t171 false _ A14.out).mono ?_); rintro e w' ⟨rfl, ⟨nd, rfl⟩⟩; refine ⟨_, rfl, ?_⟩))
                    go_ret
                    exact ⟨by first | rfl | (simp [errW_none, errW_some] <;> rfl) | (simp [*, errW_none, errW_some] <;> rfl), by repeat (first | (with_reducible first | exact HB.out | apply below_alloc | apply pw_below_drewN | apply below_drew1) | exact HB.out)⟩
                · replace c15 := Bool.eq_false_iff.mpr c15
                  subst c15
                  have H1 : (some false) = some r := by rw [if_neg (show ¬ (false = true) by decide)] at H; exact H
                  clear H
                  have H := H1
                  clear H1
                  obtain rfl := Option.some.inj H
                  go_wp2_with (first | ((with_reducible refine gate_callee (f := 22) rfl ?_); refine goesL_ (some 72) rfl rfl Try.func22 (by kernel_rfl) rfl #[.string t161, .int .i64 t162, .int .i64 x11_2, .bool t164] rfl (by (try simp only [List.map_toArray, List.map_cons, List.map_nil]); first | done | rfl | (simp only [List.length_drop, List.length_take]; rfl)) ?_; (with_reducible refine (impl_BitsGet.calls k2 t161 t162 x11_2 t164 t169 false _ A13.out).mono ?_); rintro e w' ⟨rfl, ⟨nd, rfl⟩⟩; refine ⟨_, rfl, ?_⟩) | ((with_reducible refine gate_callee (f := 22) rfl ?_); refine goesL_ (some 84) rfl rfl Try.func22 (by kernel_rfl) rfl #[.string t161, .int .i64 (wrap64 (t162 + x11_2)), .int .i64 (wrap64 (t163 - x11_2)), .bool t164] rfl (by (try simp only [List.map_toArray, List.map_cons, List.map_nil]); first | done | rfl | (simp only [List.length_drop, List.length_take]; rfl)) ?_; (with_reducible refine (impl_BitsGet.calls k2 t161 (wrap64 (t162 + x11_2)) (wrap64 (t163 - x11_2)) t164 t171 t172 _ A14.out).mono ?_); rintro e w' ⟨rfl, ⟨nd, rfl⟩⟩; refine ⟨_, rfl, ?_⟩))
                  go_ret
                  exact ⟨by first | rfl | (simp [errW_none, errW_some] <;> rfl) | (simp [*, errW_none, errW_some] <;> rfl), by repeat (first | (with_reducible first | exact HB.out | apply below_alloc | apply pw_below_drewN | apply below_drew1) | exact HB.out)⟩
              · rw [if_neg c12] at H
                have c12b0 : decide (x11_2 ≤ t163) = false := decide_eq_false c12
                clear c12
                obtain rfl := Option.some.inj H
                go_wp2
                go_ret
                exact ⟨by first | rfl | (simp [errW_none, errW_some] <;> rfl) | (simp [*, errW_none, errW_some] <;> rfl), by repeat (first | (with_reducible first | exact HB.out | apply below_alloc | apply pw_below_drewN | apply below_drew1) | exact HB.out)⟩

/-- THE ONE PURE STATEMENT of laws_FnBitsGet: yours. -/
def laws_FnBitsGet.Pure : Prop := ∀ (l0 : List Int), l0.length ≤ maxLen → l0.length * 1 ≤ 140737488351232 → (∀ x ∈ l0, (Lit.int .u8 x).wf = true) → ∃ k, laws_FnBitsGet.f k l0 = some true
theorem laws_FnBitsGet.walk (P : laws_FnBitsGet.Pure) (a0 : Option Addr) (len0 cap0 : Nat) (z0 : List Int) (w : World) (w0 : (a0 = none ∧ len0 = 0 ∧ cap0 = 0 ∧ z0 = []) ∨ ∃ x, a0 = some x ∧ len0 ≤ cap0 ∧ cap0 ≤ maxLen ∧ z0.length = cap0 ∧ (∀ i, i < z0.length → w.cell? (x.add i) = some (.int .u8 (z0.getD i 0))) ∧ ∀ n ∈ z0, (Lit.int .u8 n).wf = true) (y0 : len0 * 1 ≤ 140737488351232) :
    Calls Try.prog 4 #[.slice a0 len0 cap0] w fun e w' => e = .returned (.bool true) ∧ Below w.heap.size w w' := by
  obtain ⟨l0, rfl, hr0, hm0, hw0, hc0⟩ := ReadsInt.ofRowC w0
  obtain ⟨k, h⟩ := P l0 hm0 y0 hw0
  refine (laws_FnBitsGet.calls k _ _ l0 true w (Kd.C_of_reads (d := (0 : Int)) (h1 := fun _ => rfl) hr0) hc0 h).mono ?_
  rintro e w' ⟨rfl, hd⟩
  exact ⟨rfl, hd⟩

end Go.Proofs.Ytfladcffgblfdaa.PFnBitsGet
