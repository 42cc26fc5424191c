/- What the functions that the law comes to compute, as plain functions, and that the machine's calls come to just that: written by a program for this claim, and turned where Lean did not take it. No condition. -/
import Derived.Test.YtfladcffgblfdaaHFnPackGetx0
import Derived.Test.YtfladcffgblfdaaHFnPackGetx1
import Derived.Test.YtfladcffgblfdaaHFnPackGetx2
import Derived.Test.YtfladcffgblfdaaHFnPackGetx3
namespace Go.Proofs.Ytfladcffgblfdaa.PFnPackGet
open Go.RowKit Go.Proofs.YtfladcffgblfdaaW.PrintWords Go.Proofs.YtfladcffgblfdaaW.PrintLast Go.Proofs.YtfladcffgblfdaaW.PrintMore
attribute [local go_sem] max2_int min2_int max_two min_two max_three min_three max_four min_four   -- for this text's walks alone
set_option linter.unusedVariables false
set_option linter.unusedSimpArgs false

/-! ### spec_DrawPackGet: function 45 -/
def spec_DrawPackGet.f (k : Nat) (l0 : List Int) : Option (ByteArray × Int) := (spec_l1Open.f l0).bind fun bt184 => ((spec_DrawPackPut.f k l0).bind fun t187 => ((spec_PackPut.f k t187).bind fun t188 => ((spec_l1Rd_pick.f k bt184.1 bt184.2 5).bind fun bt189 => (if bt189.1 = 0 then ((spec_l14Bend.f k bt184.1 bt189.2 t188).bind fun bt191 => ((spec_l14Limit.f k bt184.1 bt191.2).bind fun bt193 => (some (bt191.1, bt193.1)))) else (if bt189.1 = 1 then ((spec_l1Rd_pick.f k bt184.1 bt189.2 (wrap64 ((t188.size : Int) + 1))).bind fun bt195 => (if 0 ≤ bt195.1 then (if bt195.1 ≤ (t188.size : Int) then ((spec_l14Limit.f k bt184.1 bt195.2).bind fun bt197 => (some (t188.extract 0 (bt195.1 : Int).toNat, bt197.1))) else (none)) else (none))) else ((spec_l14Limit.f k bt184.1 bt189.2).bind fun bt199 => (some (t188, bt199.1))))))))
theorem spec_DrawPackGet.mono : ∀ a0 k, LeO (spec_DrawPackGet.f k a0) (spec_DrawPackGet.f (k + 1) a0) := by
  intro a0 k
  unfold spec_DrawPackGet.f
  repeat' first
      | (with_reducible exact spec_DrawPackPut.mono _ _)
      | (with_reducible exact spec_PackPut.mono _ _)
      | (with_reducible exact spec_l14Bend.mono _ _ _ _)
      | (with_reducible exact spec_l14Limit.mono _ _ _)
      | (with_reducible exact spec_l1Rd_pick.mono _ _ _ _)
      | (with_reducible exact LeO.refl _)
      | (with_reducible exact LeO.none _)
      | (with_reducible refine LeO.ite ?_ ?_)
      | (with_reducible refine LeO.bind ?_ (fun _ => ?_))
      | exact spec_DrawPackPut.mono _ _
      | exact spec_PackPut.mono _ _
      | exact spec_l14Bend.mono _ _ _ _
      | exact spec_l14Limit.mono _ _ _
      | exact spec_l1Rd_pick.mono _ _ _ _
      | exact LeO.none _
      | refine LeO.ite ?_ ?_
      | refine LeO.bind ?_ (fun _ => ?_)
set_option maxHeartbeats 8000000 in
set_option maxRecDepth 100000 in
theorem spec_DrawPackGet.calls (k : Nat) (A0 : Option Addr) (c0 : Nat) (l0 : List Int) (r1 : ByteArray) (r2 : Int) (w : World) (hr0 : Kd.C (Kd.int .u8) w A0 l0.length l0) (hc0 : l0.length ≤ c0) (h : spec_DrawPackGet.f k l0 = some (r1, r2)) :
    Calls Try.prog 45 #[.slice A0 l0.length c0] w fun e w' => e = .returned (.tuple #[.string r1, .int .i64 r2]) ∧ Below w.heap.size w w' := by
  have HR0 := Aside0.mk hr0
  have HC0 := Aside0.mk hc0
  clear hr0 hc0
  have HB := Aside0.mk (Below.refl w.heap.size w)
  have H : ((spec_l1Open.f l0).bind fun bt184 => ((spec_DrawPackPut.f k l0).bind fun t187 => ((spec_PackPut.f k t187).bind fun t188 => ((spec_l1Rd_pick.f k bt184.1 bt184.2 5).bind fun bt189 => (if bt189.1 = 0 then ((spec_l14Bend.f k bt184.1 bt189.2 t188).bind fun bt191 => ((spec_l14Limit.f k bt184.1 bt191.2).bind fun bt193 => (some (bt191.1, bt193.1)))) else (if bt189.1 = 1 then ((spec_l1Rd_pick.f k bt184.1 bt189.2 (wrap64 ((t188.size : Int) + 1))).bind fun bt195 => (if 0 ≤ bt195.1 then (if bt195.1 ≤ (t188.size : Int) then ((spec_l14Limit.f k bt184.1 bt195.2).bind fun bt197 => (some (t188.extract 0 (bt195.1 : Int).toNat, bt197.1))) else (none)) else (none))) else ((spec_l14Limit.f k bt184.1 bt189.2).bind fun bt199 => (some (t188, bt199.1))))))))) = some (r1, r2) := h
  clear h
  replace H := Option.bind_eq_some_iff.mp H
  obtain ⟨⟨t184, t185⟩, A20, H⟩ := H
  replace H : ((spec_DrawPackPut.f k l0).bind fun t187 => ((spec_PackPut.f k t187).bind fun t188 => ((spec_l1Rd_pick.f k t184 t185 5).bind fun bt189 => (if bt189.1 = 0 then ((spec_l14Bend.f k t184 bt189.2 t188).bind fun bt191 => ((spec_l14Limit.f k t184 bt191.2).bind fun bt193 => (some (bt191.1, bt193.1)))) else (if bt189.1 = 1 then ((spec_l1Rd_pick.f k t184 bt189.2 (wrap64 ((t188.size : Int) + 1))).bind fun bt195 => (if 0 ≤ bt195.1 then (if bt195.1 ≤ (t188.size : Int) then ((spec_l14Limit.f k t184 bt195.2).bind fun bt197 => (some (t188.extract 0 (bt195.1 : Int).toNat, bt197.1))) else (none)) else (none))) else ((spec_l14Limit.f k t184 bt189.2).bind fun bt199 => (some (t188, bt199.1)))))))) = some (r1, r2) := H
  have A2 := Aside0.mk A20
  clear A20
  replace H := Option.bind_eq_some_iff.mp H
  obtain ⟨t187, A30, H⟩ := H
  replace H : ((spec_PackPut.f k t187).bind fun t188 => ((spec_l1Rd_pick.f k t184 t185 5).bind fun bt189 => (if bt189.1 = 0 then ((spec_l14Bend.f k t184 bt189.2 t188).bind fun bt191 => ((spec_l14Limit.f k t184 bt191.2).bind fun bt193 => (some (bt191.1, bt193.1)))) else (if bt189.1 = 1 then ((spec_l1Rd_pick.f k t184 bt189.2 (wrap64 ((t188.size : Int) + 1))).bind fun bt195 => (if 0 ≤ bt195.1 then (if bt195.1 ≤ (t188.size : Int) then ((spec_l14Limit.f k t184 bt195.2).bind fun bt197 => (some (t188.extract 0 (bt195.1 : Int).toNat, bt197.1))) else (none)) else (none))) else ((spec_l14Limit.f k t184 bt189.2).bind fun bt199 => (some (t188, bt199.1))))))) = some (r1, r2) := H
  have A3 := Aside0.mk A30
  clear A30
  replace H := Option.bind_eq_some_iff.mp H
  obtain ⟨t188, A40, H⟩ := H
  replace H : ((spec_l1Rd_pick.f k t184 t185 5).bind fun bt189 => (if bt189.1 = 0 then ((spec_l14Bend.f k t184 bt189.2 t188).bind fun bt191 => ((spec_l14Limit.f k t184 bt191.2).bind fun bt193 => (some (bt191.1, bt193.1)))) else (if bt189.1 = 1 then ((spec_l1Rd_pick.f k t184 bt189.2 (wrap64 ((t188.size : Int) + 1))).bind fun bt195 => (if 0 ≤ bt195.1 then (if bt195.1 ≤ (t188.size : Int) then ((spec_l14Limit.f k t184 bt195.2).bind fun bt197 => (some (t188.extract 0 (bt195.1 : Int).toNat, bt197.1))) else (none)) else (none))) else ((spec_l14Limit.f k t184 bt189.2).bind fun bt199 => (some (t188, bt199.1)))))) = some (r1, r2) := H
  have A4 := Aside0.mk A40
  clear A40
  replace H := Option.bind_eq_some_iff.mp H
  obtain ⟨⟨t189, t190⟩, A50, H⟩ := H
  replace H : (if t189 = 0 then ((spec_l14Bend.f k t184 t190 t188).bind fun bt191 => ((spec_l14Limit.f k t184 bt191.2).bind fun bt193 => (some (bt191.1, bt193.1)))) else (if t189 = 1 then ((spec_l1Rd_pick.f k t184 t190 (wrap64 ((t188.size : Int) + 1))).bind fun bt195 => (if 0 ≤ bt195.1 then (if bt195.1 ≤ (t188.size : Int) then ((spec_l14Limit.f k t184 bt195.2).bind fun bt197 => (some (t188.extract 0 (bt195.1 : Int).toNat, bt197.1))) else (none)) else (none))) else ((spec_l14Limit.f k t184 t190).bind fun bt199 => (some (t188, bt199.1))))) = some (r1, r2) := H
  have A5 := Aside0.mk A50
  clear A50
  by_cases c6 : t189 = 0
  · rw [if_pos c6] at H
    have c6b0 : (t189 == 0) = true := beq_iff_eq.mpr c6
    have c6b1 : (t189 != 0) = false := bne_eq_false_iff_eq.mpr c6
    clear c6
    replace H := Option.bind_eq_some_iff.mp H
    obtain ⟨⟨t191, t192⟩, A70, H⟩ := H
    replace H : ((spec_l14Limit.f k t184 t192).bind fun bt193 => (some (t191, bt193.1))) = some (r1, r2) := H
    have A7 := Aside0.mk A70
    clear A70
    replace H := Option.bind_eq_some_iff.mp H
    obtain ⟨⟨t193, t194⟩, A80, H⟩ := H
    replace H : (some (t191, t193)) = some (r1, r2) := H
    have A8 := Aside0.mk A80
    clear A80
    simp only [Option.some.injEq, Prod.mk.injEq] at H
    obtain ⟨rfl, rfl⟩ := H
    go_enter Try.func45, Try.ntmps45
    go_wp2_with (first | ((with_reducible refine gate_callee (f := 68) rfl ?_); refine goesL_ (some 7) rfl rfl Try.func68 (by kernel_rfl) rfl #[.slice A0 l0.length c0] rfl (by (try simp only [List.map_toArray, List.map_cons, List.map_nil]); first | done | rfl | (simp only [List.length_drop, List.length_take]; rfl)) ?_; (with_reducible refine (spec_l1Open.calls _ _ l0 t184 t185 w _ ?side1 ?side2 ?side3 A2.out).mono ?_); (case side1 => repeat (first | (with_reducible first | exact HB.out | apply below_alloc | apply pw_below_drewN | apply below_drew1) | exact HB.out)); (case side2 => exact HR0.out); (case side3 => exact HC0.out); rintro e w9 ⟨g186, rfl, hi, hb, hb2⟩; refine ⟨_, rfl, ?_⟩; have n0_ := Aside0.mk (hb); have n1_ := Aside0.mk (hi); clear HB; have HB := n0_; have HI186 := n1_; clear n0_ n1_; (try clear hb); (try clear hb2); (try clear hk); (try clear hi)) | ((with_reducible refine gate_callee (f := 36) rfl ?_); refine goesL_ (some 9) rfl rfl Try.func36 (by kernel_rfl) rfl #[.slice A0 l0.length c0] rfl (by (try simp only [List.map_toArray, List.map_cons, List.map_nil]); first | done | rfl | (simp only [List.length_drop, List.length_take]; rfl)) ?_; (with_reducible refine (spec_DrawPackPut.calls k _ _ l0 t187 _ ?side1 ?side2 A3.out).mono ?_); (case side1 => repeat (first | exact (Kd.C_below HR0.out HB.out) | (with_reducible refine Kd.C_alloc ?_ _) | (with_reducible refine Kd.C_drewN ?_ _) | (with_reducible refine Kd.C_drew ?_))); (case side2 => exact HC0.out); rintro e w10 ⟨rfl, hb⟩; refine ⟨_, rfl, ?_⟩; have n0_ := Aside0.mk (IsS93.below (by repeat (first | (with_reducible first | exact HI186.out | apply IsS93.alloc | apply IsS93.drewN | apply IsS93.drew | apply IsS93.set_1) | exact HI186.out)) hb); have n1_ := Aside0.mk (below_step (by repeat (first | (with_reducible first | exact HB.out | apply below_alloc | apply pw_below_drewN | apply below_drew1 | refine below_set ?_ (IsS93.ge HI186.out)) | exact HB.out)) hb); clear HI186; clear HB; have HI186 := n0_; have HB := n1_; clear n0_ n1_; (try clear hb); (try clear hb2); (try clear hk); (try clear hi)) | ((with_reducible refine gate_callee (f := 38) rfl ?_); refine goesL_ (some 10) rfl rfl Try.func38 (by kernel_rfl) rfl #[.string t187] rfl (by (try simp only [List.map_toArray, List.map_cons, List.map_nil]); first | done | rfl | (simp only [List.length_drop, List.length_take]; rfl)) ?_; (with_reducible refine (spec_PackPut.calls k t187 t188 _ A4.out).mono ?_); rintro e w11 ⟨rfl, hb⟩; refine ⟨_, rfl, ?_⟩; have n0_ := Aside0.mk (IsS93.below (by repeat (first | (with_reducible first | exact HI186.out | apply IsS93.alloc | apply IsS93.drewN | apply IsS93.drew | apply IsS93.set_1) | exact HI186.out)) hb); have n1_ := Aside0.mk (below_step (by repeat (first | (with_reducible first | exact HB.out | apply below_alloc | apply pw_below_drewN | apply below_drew1 | refine below_set ?_ (IsS93.ge HI186.out)) | exact HB.out)) hb); clear HI186; clear HB; have HI186 := n0_; have HB := n1_; clear n0_ n1_; (try clear hb); (try clear hb2); (try clear hk); (try clear hi)) | ((with_reducible refine gate_callee (f := 69) rfl ?_); refine goesL_ (some 12) rfl rfl Try.func69 (by kernel_rfl) rfl #[.pointer (some ⟨g186, 0, none⟩), .int .i64 5] rfl (by (try simp only [List.map_toArray, List.map_cons, List.map_nil]); first | done | rfl | (simp only [List.length_drop, List.length_take]; rfl)) ?_; (with_reducible refine (spec_l1Rd_pick.calls k g186 t184 t185 5 t189 t190 w _ ?side1 ?side2 A5.out).mono ?_); (case side1 => repeat (first | (with_reducible first | exact HI186.out | apply IsS93.alloc | apply IsS93.drewN | apply IsS93.drew | apply IsS93.set_1) | exact HI186.out)); (case side2 => repeat (first | (with_reducible first | exact HB.out | apply below_alloc | apply pw_below_drewN | apply below_drew1 | refine below_set ?_ (IsS93.ge HI186.out)) | exact HB.out)); rintro e w12 ⟨rfl, hi, hb, hk⟩; refine ⟨_, rfl, ?_⟩; have n0_ := Aside0.mk (hb); have n1_ := Aside0.mk (hi); clear HB; clear HI186; have HB := n0_; have HI186 := n1_; clear n0_ n1_; (try clear hb); (try clear hb2); (try clear hk); (try clear hi)) | ((with_reducible refine gate_callee (f := 88) rfl ?_); refine goesL_ (some 17) rfl rfl Try.func88 (by kernel_rfl) rfl #[.pointer (some ⟨g186, 0, none⟩), .string t188] rfl (by (try simp only [List.map_toArray, List.map_cons, List.map_nil]); first | done | rfl | (simp only [List.length_drop, List.length_take]; rfl)) ?_; (with_reducible refine (spec_l14Bend.calls k g186 t184 t190 t188 t191 t192 w _ ?side1 ?side2 A7.out).mono ?_); (case side1 => repeat (first | (with_reducible first | exact HI186.out | apply IsS93.alloc | apply IsS93.drewN | apply IsS93.drew | apply IsS93.set_1) | exact HI186.out)); (case side2 => repeat (first | (with_reducible first | exact HB.out | apply below_alloc | apply pw_below_drewN | apply below_drew1 | refine below_set ?_ (IsS93.ge HI186.out)) | exact HB.out)); rintro e w13 ⟨rfl, hi, hb, hk⟩; refine ⟨_, rfl, ?_⟩; have n0_ := Aside0.mk (hb); have n1_ := Aside0.mk (hi); clear HB; clear HI186; have HB := n0_; have HI186 := n1_; clear n0_ n1_; (try clear hb); (try clear hb2); (try clear hk); (try clear hi)) | ((with_reducible refine gate_callee (f := 89) rfl ?_); refine goesL_ (some 29) rfl rfl Try.func89 (by kernel_rfl) rfl #[.pointer (some ⟨g186, 0, none⟩)] rfl (by (try simp only [List.map_toArray, List.map_cons, List.map_nil]); first | done | rfl | (simp only [List.length_drop, List.length_take]; rfl)) ?_; (with_reducible refine (spec_l14Limit.calls k g186 t184 t192 t193 t194 w _ ?side1 ?side2 A8.out).mono ?_); (case side1 => repeat (first | (with_reducible first | exact HI186.out | apply IsS93.alloc | apply IsS93.drewN | apply IsS93.drew | apply IsS93.set_1) | exact HI186.out)); (case side2 => repeat (first | (with_reducible first | exact HB.out | apply below_alloc | apply pw_below_drewN | apply below_drew1 | refine below_set ?_ (IsS93.ge HI186.out)) | exact HB.out)); rintro e w14 ⟨rfl, hi, hb, hk⟩; refine ⟨_, rfl, ?_⟩; have n0_ := Aside0.mk (hb); have n1_ := Aside0.mk (hi); clear HB; clear HI186; have HB := n0_; have HI186 := n1_; clear n0_ n1_; (try clear hb); (try clear hb2); (try clear hk); (try clear hi)))
    go_ret2
    exact ⟨by first | rfl | (simp [errW_none, errW_some] <;> rfl) | (simp [*, errW_none, errW_some] <;> rfl), by repeat (first | (with_reducible first | exact HB.out | apply below_alloc | apply pw_below_drewN | apply below_drew1 | refine below_set ?_ (IsS93.ge HI186.out)) | exact HB.out)⟩
  · rw [if_neg c6] at H
    have c6b0 : (t189 == 0) = false := beq_eq_false_iff_ne.mpr c6
    have c6b1 : (t189 != 0) = true := bne_iff_ne.mpr c6
    by_cases c15 : t189 = 1
    · rw [if_pos c15] at H
      have c15b0 : (t189 == 1) = true := beq_iff_eq.mpr c15
      have c15b1 : (t189 != 1) = false := bne_eq_false_iff_eq.mpr c15
      clear c15
      replace H := Option.bind_eq_some_iff.mp H
      obtain ⟨⟨t195, t196⟩, A160, H⟩ := H
      replace H : (if 0 ≤ t195 then (if t195 ≤ (t188.size : Int) then ((spec_l14Limit.f k t184 t196).bind fun bt197 => (some (t188.extract 0 (t195 : Int).toNat, bt197.1))) else (none)) else (none)) = some (r1, r2) := H
      have A16 := Aside0.mk A160
      clear A160
      by_cases c17 : 0 ≤ t195
      · rw [if_pos c17] at H
        have c17b0 := eq_true c17
        have c17b1 : decide (0 ≤ t195) = true := decide_eq_true c17
        clear c17
        by_cases c18 : t195 ≤ (t188.size : Int)
        · rw [if_pos c18] at H
          have c18b0 := eq_true c18
          have c18b1 : decide (t195 ≤ (t188.size : Int)) = true := decide_eq_true c18
          clear c18
          replace H := Option.bind_eq_some_iff.mp H
          obtain ⟨⟨t197, t198⟩, A190, H⟩ := H
          replace H : (some (t188.extract 0 (t195 : Int).toNat, t197)) = some (r1, r2) := H
          have A19 := Aside0.mk A190
          clear A190
          simp only [Option.some.injEq, Prod.mk.injEq] at H
          obtain ⟨rfl, rfl⟩ := H
          go_enter Try.func45, Try.ntmps45
          go_wp2_with (first | ((with_reducible refine gate_callee (f := 68) rfl ?_); refine goesL_ (some 7) rfl rfl Try.func68 (by kernel_rfl) rfl #[.slice A0 l0.length c0] rfl (by (try simp only [List.map_toArray, List.map_cons, List.map_nil]); first | done | rfl | (simp only [List.length_drop, List.length_take]; rfl)) ?_; (with_reducible refine (spec_l1Open.calls _ _ l0 t184 t185 w _ ?side1 ?side2 ?side3 A2.out).mono ?_); (case side1 => repeat (first | (with_reducible first | exact HB.out | apply below_alloc | apply pw_below_drewN | apply below_drew1) | exact HB.out)); (case side2 => exact HR0.out); (case side3 => exact HC0.out); rintro e w20 ⟨g186, rfl, hi, hb, hb2⟩; refine ⟨_, rfl, ?_⟩; have n0_ := Aside0.mk (hb); have n1_ := Aside0.mk (hi); clear HB; have HB := n0_; have HI186 := n1_; clear n0_ n1_; (try clear hb); (try clear hb2); (try clear hk); (try clear hi)) | ((with_reducible refine gate_callee (f := 36) rfl ?_); refine goesL_ (some 9) rfl rfl Try.func36 (by kernel_rfl) rfl #[.slice A0 l0.length c0] rfl (by (try simp only [List.map_toArray, List.map_cons, List.map_nil]); first | done | rfl | (simp only [List.length_drop, List.length_take]; rfl)) ?_; (with_reducible refine (spec_DrawPackPut.calls k _ _ l0 t187 _ ?side1 ?side2 A3.out).mono ?_); (case side1 => repeat (first | exact (Kd.C_below HR0.out HB.out) | (with_reducible refine Kd.C_alloc ?_ _) | (with_reducible refine Kd.C_drewN ?_ _) | (with_reducible refine Kd.C_drew ?_))); (case side2 => exact HC0.out); rintro e w21 ⟨rfl, hb⟩; refine ⟨_, rfl, ?_⟩; have n0_ := Aside0.mk (IsS93.below (by repeat (first | (with_reducible first | exact HI186.out | apply IsS93.alloc | apply IsS93.drewN | apply IsS93.drew | apply IsS93.set_1) | exact HI186.out)) hb); have n1_ := Aside0.mk (below_step (by repeat (first | (with_reducible first | exact HB.out | apply below_alloc | apply pw_below_drewN | apply below_drew1 | refine below_set ?_ (IsS93.ge HI186.out)) | exact HB.out)) hb); clear HI186; clear HB; have HI186 := n0_; have HB := n1_; clear n0_ n1_; (try clear hb); (try clear hb2); (try clear hk); (try clear hi)) | ((with_reducible refine gate_callee (f := 38) rfl ?_); refine goesL_ (some 10) rfl rfl Try.func38 (by kernel_rfl) rfl #[.string t187] rfl (by (try simp only [List.map_toArray, List.map_cons, List.map_nil]); first | done | rfl | (simp only [List.length_drop, List.length_take]; rfl)) ?_; (with_reducible refine (spec_PackPut.calls k t187 t188 _ A4.out).mono ?_); rintro e w22 ⟨rfl, hb⟩; refine ⟨_, rfl, ?_⟩; have n0_ := Aside0.mk (IsS93.below (by repeat (first | (with_reducible first | exact HI186.out | apply IsS93.alloc | apply IsS93.drewN | apply IsS93.drew | apply IsS93.set_1) | exact HI186.out)) hb); have n1_ := Aside0.mk (below_step (by repeat (first | (with_reducible first | exact HB.out | apply below_alloc | apply pw_below_drewN | apply below_drew1 | refine below_set ?_ (IsS93.ge HI186.out)) | exact HB.out)) hb); clear HI186; clear HB; have HI186 := n0_; have HB := n1_; clear n0_ n1_; (try clear hb); (try clear hb2); (try clear hk); (try clear hi)) | ((with_reducible refine gate_callee (f := 69) rfl ?_); refine goesL_ (some 12) rfl rfl Try.func69 (by kernel_rfl) rfl #[.pointer (some ⟨g186, 0, none⟩), .int .i64 5] rfl (by (try simp only [List.map_toArray, List.map_cons, List.map_nil]); first | done | rfl | (simp only [List.length_drop, List.length_take]; rfl)) ?_; (with_reducible refine (spec_l1Rd_pick.calls k g186 t184 t185 5 t189 t190 w _ ?side1 ?side2 A5.out).mono ?_); (case side1 => repeat (first | (with_reducible first | exact HI186.out | apply IsS93.alloc | apply IsS93.drewN | apply IsS93.drew | apply IsS93.set_1) | exact HI186.out)); (case side2 => repeat (first | (with_reducible first | exact HB.out | apply below_alloc | apply pw_below_drewN | apply below_drew1 | refine below_set ?_ (IsS93.ge HI186.out)) | exact HB.out)); rintro e w23 ⟨rfl, hi, hb, hk⟩; refine ⟨_, rfl, ?_⟩; have n0_ := Aside0.mk (hb); have n1_ := Aside0.mk (hi); clear HB; clear HI186; have HB := n0_; have HI186 := n1_; clear n0_ n1_; (try clear hb); (try clear hb2); (try clear hk); (try clear hi)) | ((with_reducible refine gate_callee (f := 69) rfl ?_); refine goesL_ (some 25) rfl rfl Try.func69 (by kernel_rfl) rfl #[.pointer (some ⟨g186, 0, none⟩), .int .i64 (wrap64 ((t188.size : Int) + 1))] rfl (by (try simp only [List.map_toArray, List.map_cons, List.map_nil]); first | done | rfl | (simp only [List.length_drop, List.length_take]; rfl)) ?_; (with_reducible refine (spec_l1Rd_pick.calls k g186 t184 t190 (wrap64 ((t188.size : Int) + 1)) t195 t196 w _ ?side1 ?side2 A16.out).mono ?_); (case side1 => repeat (first | (with_reducible first | exact HI186.out | apply IsS93.alloc | apply IsS93.drewN | apply IsS93.drew | apply IsS93.set_1) | exact HI186.out)); (case side2 => repeat (first | (with_reducible first | exact HB.out | apply below_alloc | apply pw_below_drewN | apply below_drew1 | refine below_set ?_ (IsS93.ge HI186.out)) | exact HB.out)); rintro e w24 ⟨rfl, hi, hb, hk⟩; refine ⟨_, rfl, ?_⟩; have n0_ := Aside0.mk (hb); have n1_ := Aside0.mk (hi); clear HB; clear HI186; have HB := n0_; have HI186 := n1_; clear n0_ n1_; (try clear hb); (try clear hb2); (try clear hk); (try clear hi)) | ((with_reducible refine gate_callee (f := 89) rfl ?_); refine goesL_ (some 29) rfl rfl Try.func89 (by kernel_rfl) rfl #[.pointer (some ⟨g186, 0, none⟩)] rfl (by (try simp only [List.map_toArray, List.map_cons, List.map_nil]); first | done | rfl | (simp only [List.length_drop, List.length_take]; rfl)) ?_; (with_reducible refine (spec_l14Limit.calls k g186 t184 t196 t197 t198 w _ ?side1 ?side2 A19.out).mono ?_); (case side1 => repeat (first | (with_reducible first | exact HI186.out | apply IsS93.alloc | apply IsS93.drewN | apply IsS93.drew | apply IsS93.set_1) | exact HI186.out)); (case side2 => repeat (first | (with_reducible first | exact HB.out | apply below_alloc | apply pw_below_drewN | apply below_drew1 | refine below_set ?_ (IsS93.ge HI186.out)) | exact HB.out)); rintro e w25 ⟨rfl, hi, hb, hk⟩; refine ⟨_, rfl, ?_⟩; have n0_ := Aside0.mk (hb); have n1_ := Aside0.mk (hi); clear HB; clear HI186; have HB := n0_; have HI186 := n1_; clear n0_ n1_; (try clear hb); (try clear hb2); (try clear hk); (try clear hi)))
          go_ret2
          exact ⟨by first | rfl | (simp [errW_none, errW_some] <;> rfl) | (simp [*, errW_none, errW_some] <;> rfl), by repeat (first | (with_reducible first | exact HB.out | apply below_alloc | apply pw_below_drewN | apply below_drew1 | refine below_set ?_ (IsS93.ge HI186.out)) | exact HB.out)⟩
        · rw [if_neg c18] at H
          exact absurd H (by simp)
      · rw [if_neg c17] at H
        exact absurd H (by simp)
    · rw [if_neg c15] at H
      have c15b0 : (t189 == 1) = false := beq_eq_false_iff_ne.mpr c15
      have c15b1 : (t189 != 1) = true := bne_iff_ne.mpr c15
      replace H := Option.bind_eq_some_iff.mp H
      obtain ⟨⟨t199, t200⟩, A260, H⟩ := H
      replace H : (some (t188, t199)) = some (r1, r2) := H
      have A26 := Aside0.mk A260
      clear A260
      simp only [Option.some.injEq, Prod.mk.injEq] at H
      obtain ⟨rfl, rfl⟩ := H
      go_enter Try.func45, Try.ntmps45
      go_wp2_with (first | ((with_reducible refine gate_callee (f := 68) rfl ?_); refine goesL_ (some 7) rfl rfl Try.func68 (by kernel_rfl) rfl #[.slice A0 l0.length c0] rfl (by (try simp only [List.map_toArray, List.map_cons, List.map_nil]); first | done | rfl | (simp only [List.length_drop, List.length_take]; rfl)) ?_; (with_reducible refine (spec_l1Open.calls _ _ l0 t184 t185 w _ ?side1 ?side2 ?side3 A2.out).mono ?_); (case side1 => repeat (first | (with_reducible first | exact HB.out | apply below_alloc | apply pw_below_drewN | apply below_drew1) | exact HB.out)); (case side2 => exact HR0.out); (case side3 => exact HC0.out); rintro e w27 ⟨g186, rfl, hi, hb, hb2⟩; refine ⟨_, rfl, ?_⟩; have n0_ := Aside0.mk (hb); have n1_ := Aside0.mk (hi); clear HB; have HB := n0_; have HI186 := n1_; clear n0_ n1_; (try clear hb); (try clear hb2); (try clear hk); (try clear hi)) | ((with_reducible refine gate_callee (f := 36) rfl ?_); refine goesL_ (some 9) rfl rfl Try.func36 (by kernel_rfl) rfl #[.slice A0 l0.length c0] rfl (by (try simp only [List.map_toArray, List.map_cons, List.map_nil]); first | done | rfl | (simp only [List.length_drop, List.length_take]; rfl)) ?_; (with_reducible refine (spec_DrawPackPut.calls k _ _ l0 t187 _ ?side1 ?side2 A3.out).mono ?_); (case side1 => repeat (first | exact (Kd.C_below HR0.out HB.out) | (with_reducible refine Kd.C_alloc ?_ _) | (with_reducible refine Kd.C_drewN ?_ _) | (with_reducible refine Kd.C_drew ?_))); (case side2 => exact HC0.out); rintro e w28 ⟨rfl, hb⟩; refine ⟨_, rfl, ?_⟩; have n0_ := Aside0.mk (IsS93.below (by repeat (first | (with_reducible first | exact HI186.out | apply IsS93.alloc | apply IsS93.drewN | apply IsS93.drew | apply IsS93.set_1) | exact HI186.out)) hb); have n1_ := Aside0.mk (below_step (by repeat (first | (with_reducible first | exact HB.out | apply below_alloc | apply pw_below_drewN | apply below_drew1 | refine below_set ?_ (IsS93.ge HI186.out)) | exact HB.out)) hb); clear HI186; clear HB; have HI186 := n0_; have HB := n1_; clear n0_ n1_; (try clear hb); (try clear hb2); (try clear hk); (try clear hi)) | ((with_reducible refine gate_callee (f := 38) rfl ?_); refine goesL_ (some 10) rfl rfl Try.func38 (by kernel_rfl) rfl #[.string t187] rfl (by (try simp only [List.map_toArray, List.map_cons, List.map_nil]); first | done | rfl | (simp only [List.length_drop, List.length_take]; rfl)) ?_; (with_reducible refine (spec_PackPut.calls k t187 t188 _ A4.out).mono ?_); rintro e w29 ⟨rfl, hb⟩; refine ⟨_, rfl, ?_⟩; have n0_ := Aside0.mk (IsS93.below (by repeat (first | (with_reducible first | exact HI186.out | apply IsS93.alloc | apply IsS93.drewN | apply IsS93.drew | apply IsS93.set_1) | exact HI186.out)) hb); have n1_ := Aside0.mk (below_step (by repeat (first | (with_reducible first | exact HB.out | apply below_alloc | apply pw_below_drewN | apply below_drew1 | refine below_set ?_ (IsS93.ge HI186.out)) | exact HB.out)) hb); clear HI186; clear HB; have HI186 := n0_; have HB := n1_; clear n0_ n1_; (try clear hb); (try clear hb2); (try clear hk); (try clear hi)) | ((with_reducible refine gate_callee (f := 69) rfl ?_); refine goesL_ (some 12) rfl rfl Try.func69 (by kernel_rfl) rfl #[.pointer (some ⟨g186, 0, none⟩), .int .i64 5] rfl (by (try simp only [List.map_toArray, List.map_cons, List.map_nil]); first | done | rfl | (simp only [List.length_drop, List.length_take]; rfl)) ?_; (with_reducible refine (spec_l1Rd_pick.calls k g186 t184 t185 5 t189 t190 w _ ?side1 ?side2 A5.out).mono ?_); (case side1 => repeat (first | (with_reducible first | exact HI186.out | apply IsS93.alloc | apply IsS93.drewN | apply IsS93.drew | apply IsS93.set_1) | exact HI186.out)); (case side2 => repeat (first | (with_reducible first | exact HB.out | apply below_alloc | apply pw_below_drewN | apply below_drew1 | refine below_set ?_ (IsS93.ge HI186.out)) | exact HB.out)); rintro e w30 ⟨rfl, hi, hb, hk⟩; refine ⟨_, rfl, ?_⟩; have n0_ := Aside0.mk (hb); have n1_ := Aside0.mk (hi); clear HB; clear HI186; have HB := n0_; have HI186 := n1_; clear n0_ n1_; (try clear hb); (try clear hb2); (try clear hk); (try clear hi)) | ((with_reducible refine gate_callee (f := 89) rfl ?_); refine goesL_ (some 29) rfl rfl Try.func89 (by kernel_rfl) rfl #[.pointer (some ⟨g186, 0, none⟩)] rfl (by (try simp only [List.map_toArray, List.map_cons, List.map_nil]); first | done | rfl | (simp only [List.length_drop, List.length_take]; rfl)) ?_; (with_reducible refine (spec_l14Limit.calls k g186 t184 t190 t199 t200 w _ ?side1 ?side2 A26.out).mono ?_); (case side1 => repeat (first | (with_reducible first | exact HI186.out | apply IsS93.alloc | apply IsS93.drewN | apply IsS93.drew | apply IsS93.set_1) | exact HI186.out)); (case side2 => repeat (first | (with_reducible first | exact HB.out | apply below_alloc | apply pw_below_drewN | apply below_drew1 | refine below_set ?_ (IsS93.ge HI186.out)) | exact HB.out)); rintro e w31 ⟨rfl, hi, hb, hk⟩; refine ⟨_, rfl, ?_⟩; have n0_ := Aside0.mk (hb); have n1_ := Aside0.mk (hi); clear HB; clear HI186; have HB := n0_; have HI186 := n1_; clear n0_ n1_; (try clear hb); (try clear hb2); (try clear hk); (try clear hi)))
      go_ret2
      exact ⟨by first | rfl | (simp [errW_none, errW_some] <;> rfl) | (simp [*, errW_none, errW_some] <;> rfl), by repeat (first | (with_reducible first | exact HB.out | apply below_alloc | apply pw_below_drewN | apply below_drew1 | refine below_set ?_ (IsS93.ge HI186.out)) | exact HB.out)⟩

/-! ### spec_l1In: function 71 -/
def spec_l1In.f (a0 : Int) (a1 : Int) (a2 : Int) : Option (Bool) := if a0 ≥ a1 then (some (decide (a0 ≤ a2))) else (some false)
set_option maxHeartbeats 8000000 in
set_option maxRecDepth 100000 in
theorem spec_l1In.calls (a0 : Int) (a1 : Int) (a2 : Int) (r : Bool) (w : World) (h : spec_l1In.f a0 a1 a2 = some r) :
    Calls Try.prog 71 #[.int .i64 a0, .int .i64 a1, .int .i64 a2] w fun e w' => e = .returned (.bool r) ∧ Drawn0 w w' := by
  have H : (if a0 ≥ a1 then (some (decide (a0 ≤ a2))) else (some false)) = some r := h
  clear h
  by_cases c4 : a0 ≥ a1
  · rw [if_pos c4] at H
    have c4b0 : decide (a1 ≤ a0) = true := decide_eq_true c4
    clear c4
    obtain rfl := Option.some.inj H
    go_enter Try.func71, Try.ntmps71
    go_wp2
    go_ret
    exact ⟨by first | rfl | (simp; done) | (simp [*]; done), by repeat (first | exact Drawn0.refl _ | apply Drawn0.step)⟩
  · rw [if_neg c4] at H
    have c4b0 : decide (a1 ≤ a0) = false := decide_eq_false c4
    clear c4
    obtain rfl := Option.some.inj H
    go_enter Try.func71, Try.ntmps71
    go_wp2
    go_ret
    exact ⟨by first | rfl | (simp; done) | (simp [*]; done), by repeat (first | exact Drawn0.refl _ | apply Drawn0.step)⟩

/-! ### spec_PackGet: function 46 -/
mutual
def spec_PackGet.j0 : Nat → ByteArray → Int → List Int → Bool → Option (ByteArray × Int)
  | 0, _, _, _, _ => none
  | k + 1, x0, x1, x6, x17 => if x17 = true then (some ((⟨#[]⟩ : ByteArray), 1)) else (spec_PackGet.l0 k x0 x1 x6 0)
def spec_PackGet.l0 : Nat → ByteArray → Int → List Int → Int → Option (ByteArray × Int)
  | 0, _, _, _, _ => none
  | k + 1, x0, x1, x6, x7 => if x7 < (x0.size : Int) then (if 0 ≤ x7 then (if (wrap64 (bt x0 x7)) < 128 then (spec_PackGet.j2 k x0 x1 x6 (wrap64 (x7 + 1)) (wrap64 (bt x0 x7)) (decide ((wrap64 ((wrap64 ((wrap64 (x7 + 1)) + (wrap64 (bt x0 x7)))) + 1)) > (x0.size : Int)))) else (spec_PackGet.j2 k x0 x1 x6 (wrap64 (x7 + 1)) (wrap64 (bt x0 x7)) false)) else (none)) else (some (strOfNums x6, 0))
def spec_PackGet.j2 : Nat → ByteArray → Int → List Int → Int → Int → Bool → Option (ByteArray × Int)
  | 0, _, _, _, _, _, _ => none
  | k + 1, x0, x1, x6, x7, x8, x28 => if x28 = true then (spec_PackGet.j3 k x0 x1 x6 x7 x8 x28) else (if x8 > 128 then (spec_PackGet.j3 k x0 x1 x6 x7 x8 (decide (x7 ≥ (x0.size : Int)))) else (spec_PackGet.j3 k x0 x1 x6 x7 x8 false))
def spec_PackGet.j3 : Nat → ByteArray → Int → List Int → Int → Int → Bool → Option (ByteArray × Int)
  | 0, _, _, _, _, _, _ => none
  | k + 1, x0, x1, x6, x7, x8, x28 => if x28 = true then (some ((⟨#[]⟩ : ByteArray), 2)) else (if x8 < 128 then (if 0 ≤ x7 then (if x7 ≤ (wrap64 ((wrap64 (x7 + x8)) + 1)) then (if (wrap64 ((wrap64 (x7 + x8)) + 1)) ≤ (x0.size : Int) then (if x6.length + (x0.extract (x7 : Int).toNat ((wrap64 ((wrap64 (x7 + x8)) + 1)) : Int).toNat).size < 140737488355328 then ((some (x6 ++ bytesOf (x0.extract (x7 : Int).toNat ((wrap64 ((wrap64 (x7 + x8)) + 1)) : Int).toNat) : List Int)).bind fun y205 => (if (y205.length : Int) > x1 then (some ((⟨#[]⟩ : ByteArray), 3)) else (spec_PackGet.l0 k x0 x1 y205 (wrap64 ((wrap64 (x7 + x8)) + 1))))) else (none)) else (none)) else (none)) else (none)) else (if x8 > 128 then (if 0 ≤ x7 then (if x7 ≤ (wrap64 (x7 + 1)) then (if (wrap64 (x7 + 1)) ≤ (x0.size : Int) then ((spec_l1Many.f k (x0.extract (x7 : Int).toNat ((wrap64 (x7 + 1)) : Int).toNat) (wrap64 (257 - x8))).bind fun t208 => (if x6.length + t208.size < 140737488355328 then ((some (x6 ++ bytesOf t208 : List Int)).bind fun y209 => (if (y209.length : Int) > x1 then (some ((⟨#[]⟩ : ByteArray), 3)) else (spec_PackGet.l0 k x0 x1 y209 (wrap64 (x7 + 1))))) else (none))) else (none)) else (none)) else (none)) else (if (x6.length : Int) > x1 then (some ((⟨#[]⟩ : ByteArray), 3)) else (spec_PackGet.l0 k x0 x1 x6 x7))))
end
def spec_PackGet.f (k : Nat) (a0 : ByteArray) (a1 : Int) : Option (ByteArray × Int) := (some (([] : List Int) : List Int)).bind fun y201 => (if (a0.size : Int) > 9000 then (spec_PackGet.j0 k a0 a1 y201 true) else ((spec_l1In.f a1 0 5000).bind fun t204 => (spec_PackGet.j0 k a0 a1 y201 (!t204))))
theorem spec_PackGet.mono_l : ∀ k, (∀ y0 y1 y2 y3, LeO (spec_PackGet.j0 k y0 y1 y2 y3) (spec_PackGet.j0 (k + 1) y0 y1 y2 y3)) ∧ (∀ y0 y1 y2 y3, LeO (spec_PackGet.l0 k y0 y1 y2 y3) (spec_PackGet.l0 (k + 1) y0 y1 y2 y3)) ∧ (∀ y0 y1 y2 y3 y4 y5, LeO (spec_PackGet.j2 k y0 y1 y2 y3 y4 y5) (spec_PackGet.j2 (k + 1) y0 y1 y2 y3 y4 y5)) ∧ (∀ y0 y1 y2 y3 y4 y5, LeO (spec_PackGet.j3 k y0 y1 y2 y3 y4 y5) (spec_PackGet.j3 (k + 1) y0 y1 y2 y3 y4 y5))
  | 0 => ⟨fun _ _ _ _ r h => by simp [spec_PackGet.j0] at h, fun _ _ _ _ r h => by simp [spec_PackGet.l0] at h, fun _ _ _ _ _ _ r h => by simp [spec_PackGet.j2] at h, fun _ _ _ _ _ _ r h => by simp [spec_PackGet.j3] at h⟩
  | k + 1 => by
    obtain ⟨ih0, ih1, ih2, ih3⟩ := spec_PackGet.mono_l k
    refine ⟨?_, ?_, ?_, ?_⟩
    · intro y0 y1 y2 y3
      unfold spec_PackGet.j0
      repeat' first
      | (with_reducible exact ih0 _ _ _ _)
      | (with_reducible exact ih1 _ _ _ _)
      | (with_reducible exact ih2 _ _ _ _ _ _)
      | (with_reducible exact ih3 _ _ _ _ _ _)
      | (with_reducible exact spec_l1Many.mono _ _ _)
      | (with_reducible exact LeO.refl _)
      | (with_reducible exact LeO.none _)
      | (with_reducible refine LeO.ite ?_ ?_)
      | (with_reducible refine LeO.bind ?_ (fun _ => ?_))
      | exact ih0 _ _ _ _
      | exact ih1 _ _ _ _
      | exact ih2 _ _ _ _ _ _
      | exact ih3 _ _ _ _ _ _
      | exact spec_l1Many.mono _ _ _
      | exact LeO.none _
      | refine LeO.ite ?_ ?_
      | refine LeO.bind ?_ (fun _ => ?_)
    · intro y0 y1 y2 y3
      unfold spec_PackGet.l0
      repeat' first
      | (with_reducible exact ih0 _ _ _ _)
      | (with_reducible exact ih1 _ _ _ _)
      | (with_reducible exact ih2 _ _ _ _ _ _)
      | (with_reducible exact ih3 _ _ _ _ _ _)
      | (with_reducible exact spec_l1Many.mono _ _ _)
      | (with_reducible exact LeO.refl _)
      | (with_reducible exact LeO.none _)
      | (with_reducible refine LeO.ite ?_ ?_)
      | (with_reducible refine LeO.bind ?_ (fun _ => ?_))
      | exact ih0 _ _ _ _
      | exact ih1 _ _ _ _
      | exact ih2 _ _ _ _ _ _
      | exact ih3 _ _ _ _ _ _
      | exact spec_l1Many.mono _ _ _
      | exact LeO.none _
      | refine LeO.ite ?_ ?_
      | refine LeO.bind ?_ (fun _ => ?_)
    · intro y0 y1 y2 y3 y4 y5
      unfold spec_PackGet.j2
      repeat' first
      | (with_reducible exact ih0 _ _ _ _)
      | (with_reducible exact ih1 _ _ _ _)
      | (with_reducible exact ih2 _ _ _ _ _ _)
      | (with_reducible exact ih3 _ _ _ _ _ _)
      | (with_reducible exact spec_l1Many.mono _ _ _)
      | (with_reducible exact LeO.refl _)
      | (with_reducible exact LeO.none _)
      | (with_reducible refine LeO.ite ?_ ?_)
      | (with_reducible refine LeO.bind ?_ (fun _ => ?_))
      | exact ih0 _ _ _ _
      | exact ih1 _ _ _ _
      | exact ih2 _ _ _ _ _ _
      | exact ih3 _ _ _ _ _ _
      | exact spec_l1Many.mono _ _ _
      | exact LeO.none _
      | refine LeO.ite ?_ ?_
      | refine LeO.bind ?_ (fun _ => ?_)
    · intro y0 y1 y2 y3 y4 y5
      unfold spec_PackGet.j3
      repeat' first
      | (with_reducible exact ih0 _ _ _ _)
      | (with_reducible exact ih1 _ _ _ _)
      | (with_reducible exact ih2 _ _ _ _ _ _)
      | (with_reducible exact ih3 _ _ _ _ _ _)
      | (with_reducible exact spec_l1Many.mono _ _ _)
      | (with_reducible exact LeO.refl _)
      | (with_reducible exact LeO.none _)
      | (with_reducible refine LeO.ite ?_ ?_)
      | (with_reducible refine LeO.bind ?_ (fun _ => ?_))
      | exact ih0 _ _ _ _
      | exact ih1 _ _ _ _
      | exact ih2 _ _ _ _ _ _
      | exact ih3 _ _ _ _ _ _
      | exact spec_l1Many.mono _ _ _
      | exact LeO.none _
      | refine LeO.ite ?_ ?_
      | refine LeO.bind ?_ (fun _ => ?_)
theorem spec_PackGet.mono : ∀ a0 a1 k, LeO (spec_PackGet.f k a0 a1) (spec_PackGet.f (k + 1) a0 a1) := by
  intro a0 a1 k
  obtain ⟨ih0, ih1, ih2, ih3⟩ := spec_PackGet.mono_l k
  unfold spec_PackGet.f
  repeat' first
      | (with_reducible exact ih0 _ _ _ _)
      | (with_reducible exact ih1 _ _ _ _)
      | (with_reducible exact ih2 _ _ _ _ _ _)
      | (with_reducible exact ih3 _ _ _ _ _ _)
      | (with_reducible exact spec_l1Many.mono _ _ _)
      | (with_reducible exact LeO.refl _)
      | (with_reducible exact LeO.none _)
      | (with_reducible refine LeO.ite ?_ ?_)
      | (with_reducible refine LeO.bind ?_ (fun _ => ?_))
      | exact ih0 _ _ _ _
      | exact ih1 _ _ _ _
      | exact ih2 _ _ _ _ _ _
      | exact ih3 _ _ _ _ _ _
      | exact spec_l1Many.mono _ _ _
      | exact LeO.none _
      | refine LeO.ite ?_ ?_
      | refine LeO.bind ?_ (fun _ => ?_)
set_option maxHeartbeats 8000000 in
set_option maxRecDepth 100000 in
theorem spec_PackGet.calls (k : Nat) (a0 : ByteArray) (a1 : Int) (r1 : ByteArray) (r2 : Int) (w : World) (h : spec_PackGet.f k a0 a1 = some (r1, r2)) :
    Calls Try.prog 46 #[.string a0, .int .i64 a1] w fun e w' => e = .returned (.tuple #[.string r1, .int .i64 r2]) ∧ Below w.heap.size w w' := by
  have HB := Aside0.mk (Below.refl w.heap.size w)
  have H : ((some (([] : List Int) : List Int)).bind fun y201 => (if (a0.size : Int) > 9000 then (spec_PackGet.j0 k a0 a1 y201 true) else ((spec_l1In.f a1 0 5000).bind fun t204 => (spec_PackGet.j0 k a0 a1 y201 (!t204))))) = some (r1, r2) := h
  clear h
  obtain ⟨y201, hy201⟩ : ∃ y_ : List Int, y_ = (([] : List Int)) := ⟨_, rfl⟩
  replace H : (if (a0.size : Int) > 9000 then (spec_PackGet.j0 k a0 a1 y201 true) else ((spec_l1In.f a1 0 5000).bind fun t204 => (spec_PackGet.j0 k a0 a1 y201 (!t204)))) = some (r1, r2) := by first | (rw [hy201]; with_reducible exact H) | (have H2_ := (Option.bind_some _ _).symm.trans H; rw [hy201]; with_reducible exact H2_) | (have H2_ := (Option.bind_some _ _).symm.trans H; with_reducible exact H2_) | with_reducible exact H | (rw [hy201]; exact H) | exact H
  have Ny201 := Aside0.mk hy201
  clear hy201
  have HC3 := Aside0.mk H
  clear H
  go_enter Try.func46, Try.ntmps46
  go_upto_region 2 with (first | ((with_reducible refine gate_dst (N := 9) rfl ?_); (try (refine gate_guard (by rfl) ?_; dsimp only)); refine Kd.R_lit (Kd.int .u8) _ 5 ?hg (N := 9) ?hd (xs := ([] : List Int)) (inner := []) (ok := fun _ => True) (okp := fun _ => True) ?hr ?hp (fun _ hk => hk) trivial (Below.refl _ _) (Nat.le_refl _) (by simp) ?_; (case hd => rfl); (case hg => rfl); (case hr => first | (go_simp; done) | (go_simp; rfl)); (case hp => exact (Reps.none _ _)); intro v202 w4 ho5 hb hg_ hnew_; clear hg_ hnew_; (first | rw [← Ny201.out] at ho5 | (simp only [Int.reduceToNat] at ho5; rw [← Ny201.out] at ho5)); have n0_ := Aside0.mk (Kd.R_lower ho5 (below_size (by repeat (first | (with_reducible first | exact HB.out | apply below_alloc | apply pw_below_drewN | apply below_drew1) | exact HB.out)))); have n1_ := Aside0.mk (below_step (by repeat (first | (with_reducible first | exact HB.out | apply below_alloc | apply pw_below_drewN | apply below_drew1) | exact HB.out)) hb); clear HB; have HO203 := n0_; have HB := n1_; clear n0_ n1_; clear hb ho5))
  (try simp only [Act.put, List.setIfInBounds_toArray, List.set_cons_zero, List.set_cons_succ])
  go_cut [17] (fun v17 wc => ∃ (kq : Nat) (x17_2 : Bool), v17 = .bool x17_2 ∧ Aside0 (spec_PackGet.j0 kq a0 a1 y201 x17_2 = some (r1, r2)) ∧ Aside0 (kq ≤ k) ∧ Aside0 (Kd.R (Kd.int .u8) 5 wc w.heap.size (fun _ => True) v202 y201) ∧ Aside0 (Below w.heap.size w wc))
  case first =>
    have H := HC3.out
    clear HC3
    by_cases c6 : (a0.size : Int) > 9000
    · rw [if_pos c6] at H
      have c6b0 : decide (9000 < (a0.size : Int)) = true := decide_eq_true c6
      have c6b1 : decide (9000 < a0.size) = true := decide_eq_true (by omega)
      clear c6
      (first | rw [c6b0] | (simp only [i64_w, i32_w]; rw [c6b0]) | skip)
      have H' := Aside0.mk H
      clear H
      go_wp2
      go_meet
      case rel => exact ⟨_, (true), (by first | rfl | (simp; done) | (simp [*]; done)), H', ⟨by first | omega | exact Nat.le_refl _⟩, ⟨by (with_reducible repeat (first | apply Kd.R_alloc | apply Kd.R_drewN | apply Kd.R_drew)); exact HO203.out⟩, ⟨by repeat (first | (with_reducible first | exact HB.out | apply below_alloc | apply pw_below_drewN | apply below_drew1) | exact HB.out)⟩⟩
    · rw [if_neg c6] at H
      have c6b0 : decide (9000 < (a0.size : Int)) = false := decide_eq_false c6
      have c6b1 : decide (9000 < a0.size) = false := decide_eq_false (by omega)
      clear c6
      (first | rw [c6b0] | (simp only [i64_w, i32_w]; rw [c6b0]) | skip)
      replace H := Option.bind_eq_some_iff.mp H
      obtain ⟨t204, A70, H⟩ := H
      replace H : (spec_PackGet.j0 k a0 a1 y201 (!t204)) = some (r1, r2) := H
      have A7 := Aside0.mk A70
      clear A70
      have H' := Aside0.mk H
      clear H
      go_wp2_with (first | (go_at_call 71; (with_reducible refine (spec_l1In.calls a1 0 5000 t204 _ A7.out).mono ?_); rintro e w' ⟨rfl, ⟨nd, rfl⟩⟩))
      go_meet
      case rel => exact ⟨_, (!t204), (by first | rfl | (simp; done) | (simp [*]; done)), H', ⟨by first | omega | exact Nat.le_refl _⟩, ⟨by (with_reducible repeat (first | apply Kd.R_alloc | apply Kd.R_drewN | apply Kd.R_drew)); exact HO203.out⟩, ⟨by repeat (first | (with_reducible first | exact HB.out | apply below_alloc | apply pw_below_drewN | apply below_drew1) | exact HB.out)⟩⟩
  case rest =>
    clear HC3
    try clear p2
    try clear c4
    try clear c6
    try clear c6b0
    try clear c6b1
    obtain ⟨kq, x17_2, rfl, HA, HJ2, HO_6, HB⟩ := hcut
    cases kq with
    | zero => exact absurd HA.out (by simp [spec_PackGet.j0])
    | succ kj2 =>
      have H := HA.out
      clear HA
      simp only [spec_PackGet.j0] at H
      by_cases c8 : x17_2 = true
      · subst c8
        have H1 : (some ((⟨#[]⟩ : ByteArray), 1)) = some (r1, r2) := by rw [if_pos rfl] at H; exact H
        clear H
        have H := H1
        clear H1
        simp only [Option.some.injEq, Prod.mk.injEq] at H
        obtain ⟨rfl, rfl⟩ := H
        go_wp2
        go_ret2
        exact ⟨by first | rfl | (simp [errW_none, errW_some] <;> rfl) | (simp [*, errW_none, errW_some] <;> rfl), by repeat (first | (with_reducible first | exact HB.out | apply below_alloc | apply pw_below_drewN | apply below_drew1) | exact HB.out)⟩
      · replace c8 := Bool.eq_false_iff.mpr c8
        subst c8
        have H1 : (spec_PackGet.l0 kj2 a0 a1 y201 0) = some (r1, r2) := by rw [if_neg (show ¬ (false = true) by decide)] at H; exact H
        clear H
        have H := H1
        clear H1
        have H' := Aside0.mk H
        clear H
        go_wp2
        go_loopg [6, 7] kj2 (fun kq v6 v7 w' => ∃ (x6_2 : List Int) (x7_2 : Int), v7 = .int .i64 x7_2 ∧ Aside0 (spec_PackGet.l0 kq a0 a1 x6_2 x7_2 = some (r1, r2)) ∧ Aside0 (kq ≤ kj2) ∧ Aside0 (Kd.R (Kd.int .u8) 5 w' w.heap.size (fun _ => True) v6 x6_2) ∧ Aside0 (Below w.heap.size w w'))
        case atStart => exact ⟨(y201), (0), (by first | rfl | (simp; done) | (simp [*]; done)), H', ⟨Nat.le_refl _⟩, ⟨by (with_reducible repeat (first | apply Kd.R_alloc | apply Kd.R_drewN | apply Kd.R_drew)); exact HO_6.out⟩, ⟨by repeat (first | (with_reducible first | exact HB.out | apply below_alloc | apply pw_below_drewN | apply below_drew1) | exact HB.out)⟩⟩
        case round =>
          clear H'
          try clear p2
          try clear c4
          try clear c6
          try clear c6b0
          try clear c6b1
          try clear c8
          try clear p2
          obtain ⟨x6_2, x7_2, rfl, HA, HK2, HO_6, HB⟩ := hrel
          cases gk with
          | zero => exact absurd HA.out (by simp [spec_PackGet.l0])
          | succ k2 =>
            have H := HA.out
            clear HA
            simp only [spec_PackGet.l0] at H
            by_cases c9 : x7_2 < (a0.size : Int)
            · rw [if_pos c9] at H
              have c9b0 : decide (x7_2 < (a0.size : Int)) = true := decide_eq_true c9
              clear c9
              by_cases c10 : 0 ≤ x7_2
              · rw [if_pos c10] at H
                have c10b0 : decide (0 ≤ x7_2) = true := decide_eq_true c10
                clear c10
                have HC12 := Aside0.mk H
                clear H
                have p11 : 0 ≤ (x7_2 : Int) := of_decide_eq_true (by first | (with_reducible assumption) | assumption)
                have q11 : x7_2 < (a0.size : Int) := of_decide_eq_true (by first | (with_reducible assumption) | assumption)
                have hx11 := bt_at a0 x7_2
                replace p11 := eq_true p11
                replace q11 := eq_true q11
                go_upto_region 8 with (fail)
                go_cut [28] (fun v28 wc => ∃ (kq : Nat) (x28_11 : Bool), v28 = .bool x28_11 ∧ Aside0 (spec_PackGet.j2 kq a0 a1 x6_2 (wrap64 (x7_2 + 1)) (wrap64 (bt a0 x7_2)) x28_11 = some (r1, r2)) ∧ Aside0 (kq ≤ k2) ∧ Aside0 (Kd.R (Kd.int .u8) 5 wc w.heap.size (fun _ => True) u6 x6_2) ∧ Aside0 (Below w.heap.size w wc))
                case first =>
                  have H := HC12.out
                  clear HC12
                  by_cases c13 : (wrap64 (bt a0 x7_2)) < 128
                  · rw [if_pos c13] at H
                    have c13b0 : decide ((wrap64 (bt a0 x7_2)) < 128) = true := decide_eq_true c13
                    clear c13
                    (first | rw [c13b0] | (simp only [i64_w, i32_w]; rw [c13b0]) | skip)
                    have H' := Aside0.mk H
                    clear H
                    go_wp2
                    go_meet
                    case rel => exact ⟨_, (decide ((wrap64 ((wrap64 ((wrap64 (x7_2 + 1)) + (wrap64 (bt a0 x7_2)))) + 1)) > (a0.size : Int))), (by first | rfl | (simp; done) | (simp [*]; done)), H', ⟨by have := HJ2.out; have := HK2.out; first | omega | exact Nat.le_refl _⟩, ⟨by (with_reducible repeat (first | apply Kd.R_alloc | apply Kd.R_drewN | apply Kd.R_drew)); exact HO_6.out⟩, ⟨by repeat (first | (with_reducible first | exact HB.out | apply below_alloc | apply pw_below_drewN | apply below_drew1) | exact HB.out)⟩⟩
                  · rw [if_neg c13] at H
                    have c13b0 : decide ((wrap64 (bt a0 x7_2)) < 128) = false := decide_eq_false c13
                    clear c13
                    (first | rw [c13b0] | (simp only [i64_w, i32_w]; rw [c13b0]) | skip)
                    have H' := Aside0.mk H
                    clear H
                    go_wp2
                    go_meet
                    case rel => exact ⟨_, (false), (by first | rfl | (simp; done) | (simp [*]; done)), H', ⟨by have := HJ2.out; have := HK2.out; first | omega | exact Nat.le_refl _⟩, ⟨by (with_reducible repeat (first | apply Kd.R_alloc | apply Kd.R_drewN | apply Kd.R_drew)); exact HO_6.out⟩, ⟨by repeat (first | (with_reducible first | exact HB.out | apply below_alloc | apply pw_below_drewN | apply below_drew1) | exact HB.out)⟩⟩
                case rest =>
                  clear HC12
                  try clear c1
                  try clear p1
                  try clear q1
                  try clear hx1
                  try clear p2
                  try clear c4
                  try clear c6
                  try clear c6b0
                  try clear c6b1
                  try clear p6
                  try clear c8
                  try clear c9
                  try clear c9b0
                  try clear c10
                  try clear c10b0
                  try clear p11
                  try clear q11
                  try clear hx11
                  try clear c13
                  try clear c13b0
                  try clear p11
                  try clear p2
                  try clear q11
                  obtain ⟨kq, x28_11, rfl, HA, HJ11, HO_6, HB⟩ := hcut
                  cases kq with
                  | zero => exact absurd HA.out (by simp [spec_PackGet.j2])
                  | succ kj11 =>
                    have H := HA.out
                    clear HA
                    simp only [spec_PackGet.j2] at H
                    have HC14 := Aside0.mk H
                    clear H
                    go_upto_if 28 with (fail)
                    go_cut [28] (fun v28 wc => ∃ (kq : Nat) (x28_13 : Bool), v28 = .bool x28_13 ∧ Aside0 (spec_PackGet.j3 kq a0 a1 x6_2 (wrap64 (x7_2 + 1)) (wrap64 (bt a0 x7_2)) x28_13 = some (r1, r2)) ∧ Aside0 (kq ≤ kj11) ∧ Aside0 (Kd.R (Kd.int .u8) 5 wc w.heap.size (fun _ => True) u6 x6_2) ∧ Aside0 (Below w.heap.size w wc))
                    case first =>
                      have H := HC14.out
                      clear HC14
                      by_cases c15 : x28_11 = true
                      · subst c15
                        have H1 : (spec_PackGet.j3 kj11 a0 a1 x6_2 (wrap64 (x7_2 + 1)) (wrap64 (bt a0 x7_2)) true) = some (r1, r2) := by rw [if_pos rfl] at H; exact H
                        clear H
                        have H := H1
                        clear H1
                        have H' := Aside0.mk H
                        clear H
                        go_wp2
                        go_meet
                        case rel => exact ⟨_, (true), (by first | rfl | (simp; done) | (simp [*]; done)), H', ⟨by have := HJ2.out; have := HK2.out; have := HJ11.out; first | omega | exact Nat.le_refl _⟩, ⟨by (with_reducible repeat (first | apply Kd.R_alloc | apply Kd.R_drewN | apply Kd.R_drew)); exact HO_6.out⟩, ⟨by repeat (first | (with_reducible first | exact HB.out | apply below_alloc | apply pw_below_drewN | apply below_drew1) | exact HB.out)⟩⟩
                      · replace c15 := Bool.eq_false_iff.mpr c15
                        subst c15
                        have H1 : (if (wrap64 (bt a0 x7_2)) > 128 then (spec_PackGet.j3 kj11 a0 a1 x6_2 (wrap64 (x7_2 + 1)) (wrap64 (bt a0 x7_2)) (decide ((wrap64 (x7_2 + 1)) ≥ (a0.size : Int)))) else (spec_PackGet.j3 kj11 a0 a1 x6_2 (wrap64 (x7_2 + 1)) (wrap64 (bt a0 x7_2)) false)) = some (r1, r2) := by rw [if_neg (show ¬ (false = true) by decide)] at H; exact H
                        clear H
                        have H := H1
                        clear H1
                        by_cases c16 : (wrap64 (bt a0 x7_2)) > 128
                        · rw [if_pos c16] at H
                          have c16b0 : decide (128 < (wrap64 (bt a0 x7_2))) = true := decide_eq_true c16
                          clear c16
                          (first | rw [c16b0] | (simp only [i64_w, i32_w]; rw [c16b0]) | skip)
                          have H' := Aside0.mk H
                          clear H
                          go_wp2
                          go_meet
                          case rel => exact ⟨_, (decide ((wrap64 (x7_2 + 1)) ≥ (a0.size : Int))), (by first | rfl | (simp; done) | (simp [*]; done)), H', ⟨by have := HJ2.out; have := HK2.out; have := HJ11.out; first | omega | exact Nat.le_refl _⟩, ⟨by (with_reducible repeat (first | apply Kd.R_alloc | apply Kd.R_drewN | apply Kd.R_drew)); exact HO_6.out⟩, ⟨by repeat (first | (with_reducible first | exact HB.out | apply below_alloc | apply pw_below_drewN | apply below_drew1) | exact HB.out)⟩⟩
                        · rw [if_neg c16] at H
                          have c16b0 : decide (128 < (wrap64 (bt a0 x7_2))) = false := decide_eq_false c16
                          clear c16
                          (first | rw [c16b0] | (simp only [i64_w, i32_w]; rw [c16b0]) | skip)
                          have H' := Aside0.mk H
                          clear H
                          go_wp2
                          go_meet
                          case rel => exact ⟨_, (false), (by first | rfl | (simp; done) | (simp [*]; done)), H', ⟨by have := HJ2.out; have := HK2.out; have := HJ11.out; first | omega | exact Nat.le_refl _⟩, ⟨by (with_reducible repeat (first | apply Kd.R_alloc | apply Kd.R_drewN | apply Kd.R_drew)); exact HO_6.out⟩, ⟨by repeat (first | (with_reducible first | exact HB.out | apply below_alloc | apply pw_below_drewN | apply below_drew1) | exact HB.out)⟩⟩
                    case rest =>
                      clear HC14
                      try clear c1
                      try clear p1
                      try clear q1
                      try clear hx1
                      try clear p2
                      try clear c4
                      try clear c6
                      try clear c6b0
                      try clear c6b1
                      try clear p6
                      try clear c8
                      try clear c9
                      try clear c9b0
                      try clear c10
                      try clear c10b0
                      try clear p11
                      try clear q11
                      try clear hx11
                      try clear c13
                      try clear c13b0
                      try clear c15
                      try clear c16
                      try clear c16b0
                      try clear p1
                      try clear p11
                      try clear p2
                      try clear p6
                      try clear q1
                      try clear q11
                      obtain ⟨kq, x28_13, rfl, HA, HJ13, HO_6, HB⟩ := hcut
                      cases kq with
                      | zero => exact absurd HA.out (by simp [spec_PackGet.j3])
                      | succ kj13 =>
                        have H := HA.out
                        clear HA
                        simp only [spec_PackGet.j3] at H
                        by_cases c17 : x28_13 = true
                        · subst c17
                          have H1 : (some ((⟨#[]⟩ : ByteArray), 2)) = some (r1, r2) := by rw [if_pos rfl] at H; exact H
                          clear H
                          have H := H1
                          clear H1
                          simp only [Option.some.injEq, Prod.mk.injEq] at H
                          obtain ⟨rfl, rfl⟩ := H
                          go_wp2
                          go_ret2
                          exact ⟨by first | rfl | (simp [errW_none, errW_some] <;> rfl) | (simp [*, errW_none, errW_some] <;> rfl), by repeat (first | (with_reducible first | exact HB.out | apply below_alloc | apply pw_below_drewN | apply below_drew1) | exact HB.out)⟩
                        · replace c17 := Bool.eq_false_iff.mpr c17
                          subst c17
                          have H1 : (if (wrap64 (bt a0 x7_2)) < 128 then (if 0 ≤ (wrap64 (x7_2 + 1)) then (if (wrap64 (x7_2 + 1)) ≤ (wrap64 ((wrap64 ((wrap64 (x7_2 + 1)) + (wrap64 (bt a0 x7_2)))) + 1)) then (if (wrap64 ((wrap64 ((wrap64 (x7_2 + 1)) + (wrap64 (bt a0 x7_2)))) + 1)) ≤ (a0.size : Int) then (if x6_2.length + (a0.extract ((wrap64 (x7_2 + 1)) : Int).toNat ((wrap64 ((wrap64 ((wrap64 (x7_2 + 1)) + (wrap64 (bt a0 x7_2)))) + 1)) : Int).toNat).size < 140737488355328 then ((some (x6_2 ++ bytesOf (a0.extract ((wrap64 (x7_2 + 1)) : Int).toNat ((wrap64 ((wrap64 ((wrap64 (x7_2 + 1)) + (wrap64 (bt a0 x7_2)))) + 1)) : Int).toNat) : List Int)).bind fun y205 => (if (y205.length : Int) > a1 then (some ((⟨#[]⟩ : ByteArray), 3)) else (spec_PackGet.l0 kj13 a0 a1 y205 (wrap64 ((wrap64 ((wrap64 (x7_2 + 1)) + (wrap64 (bt a0 x7_2)))) + 1))))) else (none)) else (none)) else (none)) else (none)) else (if (wrap64 (bt a0 x7_2)) > 128 then (if 0 ≤ (wrap64 (x7_2 + 1)) then (if (wrap64 (x7_2 + 1)) ≤ (wrap64 ((wrap64 (x7_2 + 1)) + 1)) then (if (wrap64 ((wrap64 (x7_2 + 1)) + 1)) ≤ (a0.size : Int) then ((spec_l1Many.f kj13 (a0.extract ((wrap64 (x7_2 + 1)) : Int).toNat ((wrap64 ((wrap64 (x7_2 + 1)) + 1)) : Int).toNat) (wrap64 (257 - (wrap64 (bt a0 x7_2))))).bind fun t208 => (if x6_2.length + t208.size < 140737488355328 then ((some (x6_2 ++ bytesOf t208 : List Int)).bind fun y209 => (if (y209.length : Int) > a1 then (some ((⟨#[]⟩ : ByteArray), 3)) else (spec_PackGet.l0 kj13 a0 a1 y209 (wrap64 ((wrap64 (x7_2 + 1)) + 1))))) else (none))) else (none)) else (none)) else (none)) else (if (x6_2.length : Int) > a1 then (some ((⟨#[]⟩ : ByteArray), 3)) else (spec_PackGet.l0 kj13 a0 a1 x6_2 (wrap64 (x7_2 + 1)))))) = some (r1, r2) := by rw [if_neg (show ¬ (false = true) by decide)] at H; exact H
                          clear H
                          have H := H1
                          clear H1
                          by_cases c18 : (wrap64 (bt a0 x7_2)) < 128
                          · rw [if_pos c18] at H
                            have c18b0 : decide ((wrap64 (bt a0 x7_2)) < 128) = true := decide_eq_true c18
                            clear c18
                            obtain ⟨ji19, hji19⟩ : ∃ j_ : Int, (wrap64 (x7_2 + 1)) = j_ := ⟨_, rfl⟩
                            replace H : (if 0 ≤ (ji19) then (if (ji19) ≤ (wrap64 ((wrap64 ((ji19) + (wrap64 (bt a0 x7_2)))) + 1)) then (if (wrap64 ((wrap64 ((ji19) + (wrap64 (bt a0 x7_2)))) + 1)) ≤ (a0.size : Int) then (if x6_2.length + (a0.extract ((ji19) : Int).toNat ((wrap64 ((wrap64 ((ji19) + (wrap64 (bt a0 x7_2)))) + 1)) : Int).toNat).size < 140737488355328 then ((some (x6_2 ++ bytesOf (a0.extract ((ji19) : Int).toNat ((wrap64 ((wrap64 ((ji19) + (wrap64 (bt a0 x7_2)))) + 1)) : Int).toNat) : List Int)).bind fun y205 => (if (y205.length : Int) > a1 then (some ((⟨#[]⟩ : ByteArray), 3)) else (spec_PackGet.l0 kj13 a0 a1 y205 (wrap64 ((wrap64 ((ji19) + (wrap64 (bt a0 x7_2)))) + 1))))) else (none)) else (none)) else (none)) else (none)) = some (r1, r2) := by first | (rw [hji19] at H; exact H) | (simp only [hji19] at H ⊢; exact H)
                            have hji19w : (IntKind.i64.wrap (x7_2 + 1)) = ji19 := (i64_w _).trans hji19
                            by_cases c20 : 0 ≤ (ji19)
                            · rw [if_pos c20] at H
                              have c20b0 := eq_true c20
                              have c20b1 : decide (0 ≤ (ji19)) = true := decide_eq_true c20
                              clear c20
                              by_cases c21 : (ji19) ≤ (wrap64 ((wrap64 ((ji19) + (wrap64 (bt a0 x7_2)))) + 1))
                              · rw [if_pos c21] at H
                                have c21b0 := eq_true c21
                                have c21b1 : decide ((ji19) ≤ (wrap64 ((wrap64 ((ji19) + (wrap64 (bt a0 x7_2)))) + 1))) = true := decide_eq_true c21
                                by_cases c22 : (wrap64 ((wrap64 ((ji19) + (wrap64 (bt a0 x7_2)))) + 1)) ≤ (a0.size : Int)
                                · rw [if_pos c22] at H
                                  have c22b0 := eq_true c22
                                  have c22b1 : decide ((wrap64 ((wrap64 ((ji19) + (wrap64 (bt a0 x7_2)))) + 1)) ≤ (a0.size : Int)) = true := decide_eq_true c22
                                  by_cases c23 : x6_2.length + (a0.extract ((ji19) : Int).toNat ((wrap64 ((wrap64 ((ji19) + (wrap64 (bt a0 x7_2)))) + 1)) : Int).toNat).size < 140737488355328
                                  · rw [if_pos c23] at H
                                    have LMc23 := Aside0.mk c23
                                    clear c23
                                    obtain ⟨y205, hy205⟩ : ∃ y_ : List Int, y_ = (x6_2 ++ bytesOf (a0.extract ((ji19) : Int).toNat ((wrap64 ((wrap64 ((ji19) + (wrap64 (bt a0 x7_2)))) + 1)) : Int).toNat)) := ⟨_, rfl⟩
                                    replace H : (if (y205.length : Int) > a1 then (some ((⟨#[]⟩ : ByteArray), 3)) else (spec_PackGet.l0 kj13 a0 a1 y205 (wrap64 ((wrap64 ((ji19) + (wrap64 (bt a0 x7_2)))) + 1)))) = some (r1, r2) := by first | (rw [hy205]; with_reducible exact H) | (have H2_ := (Option.bind_some _ _).symm.trans H; rw [hy205]; with_reducible exact H2_) | (have H2_ := (Option.bind_some _ _).symm.trans H; with_reducible exact H2_) | with_reducible exact H | (rw [hy205]; exact H) | exact H
                                    have Ny205 := Aside0.mk hy205
                                    clear hy205
                                    by_cases c24 : (y205.length : Int) > a1
                                    · rw [if_pos c24] at H
                                      have c24b0 : decide (a1 < (y205.length : Int)) = true := decide_eq_true c24
                                      clear c24
                                      simp only [Option.some.injEq, Prod.mk.injEq] at H
                                      obtain ⟨rfl, rfl⟩ := H
                                      go_wp2_with (first | (at_builtin; refine print_append_str (w0 := w) w.heap.size rfl (.tmp 51) _ 22 9 5 rfl Try.underlying22 Try.underlying9 info5 u6 x6_2 (a0.extract ((ji19) : Int).toNat ((wrap64 ((wrap64 ((ji19) + (wrap64 (bt a0 x7_2)))) + 1)) : Int).toNat) rfl rfl ?aO ?aB ?aS ?aL ?_; (case aB => exact (by repeat (first | (with_reducible first | exact HB.out | apply below_alloc | apply pw_below_drewN | apply below_drew1) | exact HB.out))); (case aO => exact (Kd.own_of_R (by (with_reducible repeat (first | apply Kd.R_alloc | apply Kd.R_drewN | apply Kd.R_drew)); exact HO_6.out))); (case aS => exact (below_size (by repeat (first | (with_reducible first | exact HB.out | apply below_alloc | apply pw_below_drewN | apply below_drew1) | exact HB.out)))); (case aL => have := LMc23.out; omega); intro v206 w25 ho0 hb hg; have ho := Kd.R_of_own (h1 := fun _ => rfl) (ok := fun _ => True) ho0 (fun _ _ => trivial); clear ho0; have hat := True.intro; rw [← Ny205.out] at ho; change Kd.R (Kd.int .u8) 5 w25 w.heap.size (fun _ => True) v206 y205 at ho; have n0_ := Aside0.mk (hb); have n1_ := Aside0.mk (ho); clear HB; clear HO_6; have HB := n0_; have HO207 := n1_; clear n0_ n1_; clear ho hb hg hat; obtain ⟨Ao26, co26, eo26⟩ := Kd.R_slice HO207.out; subst eo26))
                                      go_ret2
                                      exact ⟨by first | rfl | (simp [errW_none, errW_some] <;> rfl) | (simp only [← hji19]; first | rfl | (simp [errW_none, errW_some] <;> rfl)) | (simp [*, errW_none, errW_some] <;> rfl), by repeat (first | (with_reducible first | exact HB.out | apply below_alloc | apply pw_below_drewN | apply below_drew1) | exact HB.out)⟩
                                    · rw [if_neg c24] at H
                                      have c24b0 : decide (a1 < (y205.length : Int)) = false := decide_eq_false c24
                                      clear c24
                                      have H' := Aside0.mk H
                                      clear H
                                      go_wp2_with (first | (at_builtin; refine print_append_str (w0 := w) w.heap.size rfl (.tmp 51) _ 22 9 5 rfl Try.underlying22 Try.underlying9 info5 u6 x6_2 (a0.extract ((ji19) : Int).toNat ((wrap64 ((wrap64 ((ji19) + (wrap64 (bt a0 x7_2)))) + 1)) : Int).toNat) rfl rfl ?aO ?aB ?aS ?aL ?_; (case aB => exact (by repeat (first | (with_reducible first | exact HB.out | apply below_alloc | apply pw_below_drewN | apply below_drew1) | exact HB.out))); (case aO => exact (Kd.own_of_R (by (with_reducible repeat (first | apply Kd.R_alloc | apply Kd.R_drewN | apply Kd.R_drew)); exact HO_6.out))); (case aS => exact (below_size (by repeat (first | (with_reducible first | exact HB.out | apply below_alloc | apply pw_below_drewN | apply below_drew1) | exact HB.out)))); (case aL => have := LMc23.out; omega); intro v206 w27 ho0 hb hg; have ho := Kd.R_of_own (h1 := fun _ => rfl) (ok := fun _ => True) ho0 (fun _ _ => trivial); clear ho0; have hat := True.intro; rw [← Ny205.out] at ho; change Kd.R (Kd.int .u8) 5 w27 w.heap.size (fun _ => True) v206 y205 at ho; have n0_ := Aside0.mk (hb); have n1_ := Aside0.mk (ho); clear HB; clear HO_6; have HB := n0_; have HO207 := n1_; clear n0_ n1_; clear ho hb hg hat; obtain ⟨Ao28, co28, eo28⟩ := Kd.R_slice HO207.out; subst eo28))
                                      go_roundg kj13
                                      case measure => have := HJ2.out; have := HK2.out; have := HJ11.out; have := HJ13.out; omega
                                      case rel => exact ⟨(y205), (wrap64 ((wrap64 ((ji19) + (wrap64 (bt a0 x7_2)))) + 1)), (by first | rfl | (simp; done) | (simp only [← hji19] <;> (first | rfl | simp)) | (simp [*]; done)), H', ⟨by have := HJ2.out; have := HK2.out; have := HJ11.out; have := HJ13.out; omega⟩, ⟨by (with_reducible repeat (first | apply Kd.R_alloc | apply Kd.R_drewN | apply Kd.R_drew)); exact HO207.out⟩, ⟨by repeat (first | (with_reducible first | exact HB.out | apply below_alloc | apply pw_below_drewN | apply below_drew1) | exact HB.out)⟩⟩
                                  · rw [if_neg c23] at H
                                    exact absurd H (by simp)
                                · rw [if_neg c22] at H
                                  exact absurd H (by simp)
                              · rw [if_neg c21] at H
                                exact absurd H (by simp)
                            · rw [if_neg c20] at H
                              exact absurd H (by simp)
                          · rw [if_neg c18] at H
                            have c18b0 : decide ((wrap64 (bt a0 x7_2)) < 128) = false := decide_eq_false c18
                            clear c18
                            by_cases c29 : (wrap64 (bt a0 x7_2)) > 128
                            · rw [if_pos c29] at H
                              have c29b0 : decide (128 < (wrap64 (bt a0 x7_2))) = true := decide_eq_true c29
                              clear c29
                              obtain ⟨ji30, hji30⟩ : ∃ j_ : Int, (wrap64 (x7_2 + 1)) = j_ := ⟨_, rfl⟩
                              replace H : (if 0 ≤ (ji30) then (if (ji30) ≤ (wrap64 ((ji30) + 1)) then (if (wrap64 ((ji30) + 1)) ≤ (a0.size : Int) then ((spec_l1Many.f kj13 (a0.extract ((ji30) : Int).toNat ((wrap64 ((ji30) + 1)) : Int).toNat) (wrap64 (257 - (wrap64 (bt a0 x7_2))))).bind fun t208 => (if x6_2.length + t208.size < 140737488355328 then ((some (x6_2 ++ bytesOf t208 : List Int)).bind fun y209 => (if (y209.length : Int) > a1 then (some ((⟨#[]⟩ : ByteArray), 3)) else (spec_PackGet.l0 kj13 a0 a1 y209 (wrap64 ((ji30) + 1))))) else (none))) else (none)) else (none)) else (none)) = some (r1, r2) := by first | (rw [hji30] at H; exact H) | (simp only [hji30] at H ⊢; exact H)
                              have hji30w : (IntKind.i64.wrap (x7_2 + 1)) = ji30 := (i64_w _).trans hji30
                              by_cases c31 : 0 ≤ (ji30)
                              · rw [if_pos c31] at H
                                have c31b0 := eq_true c31
                                have c31b1 : decide (0 ≤ (ji30)) = true := decide_eq_true c31
                                clear c31
                                by_cases c32 : (ji30) ≤ (wrap64 ((ji30) + 1))
                                · rw [if_pos c32] at H
                                  have c32b0 := eq_true c32
                                  have c32b1 : decide ((ji30) ≤ (wrap64 ((ji30) + 1))) = true := decide_eq_true c32
                                  by_cases c33 : (wrap64 ((ji30) + 1)) ≤ (a0.size : Int)
                                  · rw [if_pos c33] at H
                                    have c33b0 := eq_true c33
                                    have c33b1 : decide ((wrap64 ((ji30) + 1)) ≤ (a0.size : Int)) = true := decide_eq_true c33
                                    replace H := Option.bind_eq_some_iff.mp H
                                    obtain ⟨t208, A340, H⟩ := H
                                    replace H : (if x6_2.length + t208.size < 140737488355328 then ((some (x6_2 ++ bytesOf t208 : List Int)).bind fun y209 => (if (y209.length : Int) > a1 then (some ((⟨#[]⟩ : ByteArray), 3)) else (spec_PackGet.l0 kj13 a0 a1 y209 (wrap64 ((ji30) + 1))))) else (none)) = some (r1, r2) := H
                                    have A34 := Aside0.mk A340
                                    clear A340
                                    by_cases c35 : x6_2.length + t208.size < 140737488355328
                                    · rw [if_pos c35] at H
                                      have LMc35 := Aside0.mk c35
                                      clear c35
                                      obtain ⟨y209, hy209⟩ : ∃ y_ : List Int, y_ = (x6_2 ++ bytesOf t208) := ⟨_, rfl⟩
                                      replace H : (if (y209.length : Int) > a1 then (some ((⟨#[]⟩ : ByteArray), 3)) else (spec_PackGet.l0 kj13 a0 a1 y209 (wrap64 ((ji30) + 1)))) = some (r1, r2) := by first | (rw [hy209]; with_reducible exact H) | (have H2_ := (Option.bind_some _ _).symm.trans H; rw [hy209]; with_reducible exact H2_) | (have H2_ := (Option.bind_some _ _).symm.trans H; with_reducible exact H2_) | with_reducible exact H | (rw [hy209]; exact H) | exact H
                                      have Ny209 := Aside0.mk hy209
                                      clear hy209
                                      by_cases c36 : (y209.length : Int) > a1
                                      · rw [if_pos c36] at H
                                        have c36b0 : decide (a1 < (y209.length : Int)) = true := decide_eq_true c36
                                        clear c36
                                        simp only [Option.some.injEq, Prod.mk.injEq] at H
                                        obtain ⟨rfl, rfl⟩ := H
                                        go_wp2_with (first | ((with_reducible refine gate_callee (f := 81) rfl ?_); refine goesL_ (some 75) rfl rfl Try.func81 (by kernel_rfl) rfl #[.string (a0.extract ((ji30) : Int).toNat ((wrap64 ((ji30) + 1)) : Int).toNat), .int .i64 (wrap64 (257 - (wrap64 (bt a0 x7_2))))] rfl (by (try simp only [List.map_toArray, List.map_cons, List.map_nil]); first | done | (simp only [hji30]; rfl) | rfl | (simp only [List.length_drop, List.length_take]; rfl)) ?_; (with_reducible refine (spec_l1Many.calls kj13 (a0.extract ((ji30) : Int).toNat ((wrap64 ((ji30) + 1)) : Int).toNat) (wrap64 (257 - (wrap64 (bt a0 x7_2)))) t208 _ A34.out).mono ?_); rintro e w' ⟨rfl, ⟨nd, rfl⟩⟩; refine ⟨_, rfl, ?_⟩) | (at_builtin; refine print_append_str (w0 := w) w.heap.size rfl (.tmp 67) _ 22 9 5 rfl Try.underlying22 Try.underlying9 info5 u6 x6_2 t208 rfl rfl ?aO ?aB ?aS ?aL ?_; (case aB => exact (by repeat (first | (with_reducible first | exact HB.out | apply below_alloc | apply pw_below_drewN | apply below_drew1) | exact HB.out))); (case aO => exact (Kd.own_of_R (by (with_reducible repeat (first | apply Kd.R_alloc | apply Kd.R_drewN | apply Kd.R_drew)); exact HO_6.out))); (case aS => exact (below_size (by repeat (first | (with_reducible first | exact HB.out | apply below_alloc | apply pw_below_drewN | apply below_drew1) | exact HB.out)))); (case aL => have := LMc35.out; omega); intro v210 w37 ho0 hb hg; have ho := Kd.R_of_own (h1 := fun _ => rfl) (ok := fun _ => True) ho0 (fun _ _ => trivial); clear ho0; have hat := True.intro; rw [← Ny209.out] at ho; change Kd.R (Kd.int .u8) 5 w37 w.heap.size (fun _ => True) v210 y209 at ho; have n0_ := Aside0.mk (hb); have n1_ := Aside0.mk (ho); clear HB; clear HO_6; have HB := n0_; have HO211 := n1_; clear n0_ n1_; clear ho hb hg hat; obtain ⟨Ao38, co38, eo38⟩ := Kd.R_slice HO211.out; subst eo38))
                                        go_ret2
                                        exact ⟨by first | rfl | (simp [errW_none, errW_some] <;> rfl) | (simp only [← hji30]; first | rfl | (simp [errW_none, errW_some] <;> rfl)) | (simp [*, errW_none, errW_some] <;> rfl), by repeat (first | (with_reducible first | exact HB.out | apply below_alloc | apply pw_below_drewN | apply below_drew1) | exact HB.out)⟩
                                      · rw [if_neg c36] at H
                                        have c36b0 : decide (a1 < (y209.length : Int)) = false := decide_eq_false c36
                                        clear c36
                                        have H' := Aside0.mk H
                                        clear H
                                        go_wp2_with (first | ((with_reducible refine gate_callee (f := 81) rfl ?_); refine goesL_ (some 75) rfl rfl Try.func81 (by kernel_rfl) rfl #[.string (a0.extract ((ji30) : Int).toNat ((wrap64 ((ji30) + 1)) : Int).toNat), .int .i64 (wrap64 (257 - (wrap64 (bt a0 x7_2))))] rfl (by (try simp only [List.map_toArray, List.map_cons, List.map_nil]); first | done | (simp only [hji30]; rfl) | rfl | (simp only [List.length_drop, List.length_take]; rfl)) ?_; (with_reducible refine (spec_l1Many.calls kj13 (a0.extract ((ji30) : Int).toNat ((wrap64 ((ji30) + 1)) : Int).toNat) (wrap64 (257 - (wrap64 (bt a0 x7_2)))) t208 _ A34.out).mono ?_); rintro e w' ⟨rfl, ⟨nd, rfl⟩⟩; refine ⟨_, rfl, ?_⟩) | (at_builtin; refine print_append_str (w0 := w) w.heap.size rfl (.tmp 67) _ 22 9 5 rfl Try.underlying22 Try.underlying9 info5 u6 x6_2 t208 rfl rfl ?aO ?aB ?aS ?aL ?_; (case aB => exact (by repeat (first | (with_reducible first | exact HB.out | apply below_alloc | apply pw_below_drewN | apply below_drew1) | exact HB.out))); (case aO => exact (Kd.own_of_R (by (with_reducible repeat (first | apply Kd.R_alloc | apply Kd.R_drewN | apply Kd.R_drew)); exact HO_6.out))); (case aS => exact (below_size (by repeat (first | (with_reducible first | exact HB.out | apply below_alloc | apply pw_below_drewN | apply below_drew1) | exact HB.out)))); (case aL => have := LMc35.out; omega); intro v210 w39 ho0 hb hg; have ho := Kd.R_of_own (h1 := fun _ => rfl) (ok := fun _ => True) ho0 (fun _ _ => trivial); clear ho0; have hat := True.intro; rw [← Ny209.out] at ho; change Kd.R (Kd.int .u8) 5 w39 w.heap.size (fun _ => True) v210 y209 at ho; have n0_ := Aside0.mk (hb); have n1_ := Aside0.mk (ho); clear HB; clear HO_6; have HB := n0_; have HO211 := n1_; clear n0_ n1_; clear ho hb hg hat; obtain ⟨Ao40, co40, eo40⟩ := Kd.R_slice HO211.out; subst eo40))
                                        go_roundg kj13
                                        case measure => have := HJ2.out; have := HK2.out; have := HJ11.out; have := HJ13.out; omega
                                        case rel => exact ⟨(y209), (wrap64 ((ji30) + 1)), (by first | rfl | (simp; done) | (simp only [← hji30] <;> (first | rfl | simp)) | (simp [*]; done)), H', ⟨by have := HJ2.out; have := HK2.out; have := HJ11.out; have := HJ13.out; omega⟩, ⟨by (with_reducible repeat (first | apply Kd.R_alloc | apply Kd.R_drewN | apply Kd.R_drew)); exact HO211.out⟩, ⟨by repeat (first | (with_reducible first | exact HB.out | apply below_alloc | apply pw_below_drewN | apply below_drew1) | exact HB.out)⟩⟩
                                    · rw [if_neg c35] at H
                                      exact absurd H (by simp)
                                  · rw [if_neg c33] at H
                                    exact absurd H (by simp)
                                · rw [if_neg c32] at H
                                  exact absurd H (by simp)
                              · rw [if_neg c31] at H
                                exact absurd H (by simp)
                            · rw [if_neg c29] at H
                              have c29b0 : decide (128 < (wrap64 (bt a0 x7_2))) = false := decide_eq_false c29
                              clear c29
                              by_cases c41 : (x6_2.length : Int) > a1
                              · rw [if_pos c41] at H
                                have c41b0 : decide (a1 < (x6_2.length : Int)) = true := decide_eq_true c41
                                clear c41
                                simp only [Option.some.injEq, Prod.mk.injEq] at H
                                obtain ⟨rfl, rfl⟩ := H
                                obtain ⟨Ao42, co42, eo42⟩ := Kd.R_slice HO_6.out
                                subst eo42
                                go_wp2
                                go_ret2
                                exact ⟨by first | rfl | (simp [errW_none, errW_some] <;> rfl) | (simp [*, errW_none, errW_some] <;> rfl), by repeat (first | (with_reducible first | exact HB.out | apply below_alloc | apply pw_below_drewN | apply below_drew1) | exact HB.out)⟩
                              · rw [if_neg c41] at H
                                have c41b0 : decide (a1 < (x6_2.length : Int)) = false := decide_eq_false c41
                                clear c41
                                have H' := Aside0.mk H
                                clear H
                                obtain ⟨Ao43, co43, eo43⟩ := Kd.R_slice HO_6.out
                                subst eo43
                                go_wp2
                                go_roundg kj13
                                case measure => have := HJ2.out; have := HK2.out; have := HJ11.out; have := HJ13.out; omega
                                case rel => exact ⟨(x6_2), ((wrap64 (x7_2 + 1))), (by first | rfl | (simp; done) | (simp [*]; done)), H', ⟨by have := HJ2.out; have := HK2.out; have := HJ11.out; have := HJ13.out; omega⟩, ⟨by (with_reducible repeat (first | apply Kd.R_alloc | apply Kd.R_drewN | apply Kd.R_drew)); exact HO_6.out⟩, ⟨by repeat (first | (with_reducible first | exact HB.out | apply below_alloc | apply pw_below_drewN | apply below_drew1) | exact HB.out)⟩⟩
              · rw [if_neg c10] at H
                exact absurd H (by simp)
            · rw [if_neg c9] at H
              have c9b0 : decide (x7_2 < (a0.size : Int)) = false := decide_eq_false c9
              clear c9
              simp only [Option.some.injEq, Prod.mk.injEq] at H
              obtain ⟨rfl, rfl⟩ := H
              have hcv44 := own_string (P := Try.prog) Try.underlying22 Try.underlying5 Try.underlying9 (Kd.own_of_R HO_6.out)
              go_wp2
              go_ret2
              exact ⟨by first | rfl | (simp [errW_none, errW_some] <;> rfl) | (simp [*, errW_none, errW_some] <;> rfl), by repeat (first | (with_reducible first | exact HB.out | apply below_alloc | apply pw_below_drewN | apply below_drew1) | exact HB.out)⟩

end Go.Proofs.Ytfladcffgblfdaa.PFnPackGet
