/- What the functions that the law comes to compute, as plain functions, and that the machine's calls come to just that: written by a program for this claim, and turned where Lean did not take it. No condition. -/
import Derived.Test.YtdebckcphaocmaaHFnLzwGetx0
import Derived.Test.YtdebckcphaocmaaHFnLzwGetx1
namespace Go.Proofs.Ytdebckcphaocmaa.PFnLzwGet
open Go.RowKit Go.Proofs.YtdebckcphaocmaaW.PrintWords Go.Proofs.YtdebckcphaocmaaW.PrintLast Go.Proofs.YtdebckcphaocmaaW.PrintMore
attribute [local go_sem] max2_int min2_int max_two min_two max_three min_three max_four min_four   -- for this text's walks alone
set_option linter.unusedVariables false
set_option linter.unusedSimpArgs false

/-! ### spec_l1Bit: function 51 -/
def spec_l1Bit.f (k : Nat) (a0 : ByteArray) (a1 : Int) (a2 : Bool) : Option (Int) := if a2 = true then (if 0 ≤ (wrap64 (Int.tdiv a1 8)) then (if (wrap64 (Int.tdiv a1 8)) < (a0.size : Int) then ((spec_l1Pow.f k (wrap64 (7 - (Int.tmod a1 8)))).bind fun t326 => (if t326 = 0 then (none) else (some (Int.tmod (wrap64 (Int.tdiv (wrap64 (bt a0 (wrap64 (Int.tdiv a1 8)))) t326)) 2)))) else (none)) else (none)) else (if 0 ≤ (wrap64 (Int.tdiv a1 8)) then (if (wrap64 (Int.tdiv a1 8)) < (a0.size : Int) then ((spec_l1Pow.f k (Int.tmod a1 8)).bind fun t327 => (if t327 = 0 then (none) else (some (Int.tmod (wrap64 (Int.tdiv (wrap64 (bt a0 (wrap64 (Int.tdiv a1 8)))) t327)) 2)))) else (none)) else (none))
theorem spec_l1Bit.mono : ∀ a0 a1 a2 k, LeO (spec_l1Bit.f k a0 a1 a2) (spec_l1Bit.f (k + 1) a0 a1 a2) := by
  intro a0 a1 a2 k
  unfold spec_l1Bit.f
  repeat' first
      | (with_reducible exact spec_l1Pow.mono _ _)
      | (with_reducible exact LeO.refl _)
      | (with_reducible exact LeO.none _)
      | (with_reducible refine LeO.ite ?_ ?_)
      | (with_reducible refine LeO.bind ?_ (fun _ => ?_))
      | exact spec_l1Pow.mono _ _
      | exact LeO.none _
      | refine LeO.ite ?_ ?_
      | refine LeO.bind ?_ (fun _ => ?_)
set_option maxHeartbeats 8000000 in
set_option maxRecDepth 100000 in
theorem spec_l1Bit.calls (k : Nat) (a0 : ByteArray) (a1 : Int) (a2 : Bool) (r : Int) (w : World) (h : spec_l1Bit.f k a0 a1 a2 = some r) :
    Calls Try.prog 51 #[.string a0, .int .i64 a1, .bool a2] w fun e w' => e = .returned (.int .i64 r) ∧ Drawn0 w w' := by
  have H : (if a2 = true then (if 0 ≤ (wrap64 (Int.tdiv a1 8)) then (if (wrap64 (Int.tdiv a1 8)) < (a0.size : Int) then ((spec_l1Pow.f k (wrap64 (7 - (Int.tmod a1 8)))).bind fun t326 => (if t326 = 0 then (none) else (some (Int.tmod (wrap64 (Int.tdiv (wrap64 (bt a0 (wrap64 (Int.tdiv a1 8)))) t326)) 2)))) else (none)) else (none)) else (if 0 ≤ (wrap64 (Int.tdiv a1 8)) then (if (wrap64 (Int.tdiv a1 8)) < (a0.size : Int) then ((spec_l1Pow.f k (Int.tmod a1 8)).bind fun t327 => (if t327 = 0 then (none) else (some (Int.tmod (wrap64 (Int.tdiv (wrap64 (bt a0 (wrap64 (Int.tdiv a1 8)))) t327)) 2)))) else (none)) else (none))) = some r := h
  clear h
  by_cases c4 : a2 = true
  · subst c4
    have H1 : (if 0 ≤ (wrap64 (Int.tdiv a1 8)) then (if (wrap64 (Int.tdiv a1 8)) < (a0.size : Int) then ((spec_l1Pow.f k (wrap64 (7 - (Int.tmod a1 8)))).bind fun t326 => (if t326 = 0 then (none) else (some (Int.tmod (wrap64 (Int.tdiv (wrap64 (bt a0 (wrap64 (Int.tdiv a1 8)))) t326)) 2)))) else (none)) else (none)) = some r := by first | (rw [if_pos rfl] at H; exact H) | rfl
    clear H
    have H := H1
    clear H1
    obtain ⟨ji5, hji5⟩ : ∃ j_ : Int, (wrap64 (Int.tdiv a1 8)) = j_ := ⟨_, rfl⟩
    replace H : (if 0 ≤ (ji5) then (if (ji5) < (a0.size : Int) then ((spec_l1Pow.f k (wrap64 (7 - (Int.tmod a1 8)))).bind fun t326 => (if t326 = 0 then (none) else (some (Int.tmod (wrap64 (Int.tdiv (wrap64 (bt a0 (ji5))) t326)) 2)))) else (none)) else (none)) = some r := by first | (rw [hji5] at H; exact H) | (simp only [hji5] at H ⊢; exact H)
    have hji5w : (IntKind.i64.wrap (Int.tdiv a1 8)) = ji5 := (i64_w _).trans hji5
    by_cases c6 : 0 ≤ (ji5)
    · rw [if_pos c6] at H
      have c6b0 : decide (0 ≤ (ji5)) = true := decide_eq_true c6
      clear c6
      by_cases c7 : (ji5) < (a0.size : Int)
      · rw [if_pos c7] at H
        have c7b0 : decide ((ji5) < (a0.size : Int)) = true := decide_eq_true c7
        clear c7
        replace H := Option.bind_eq_some_iff.mp H
        obtain ⟨t326, A90, H⟩ := H
        replace H : (if t326 = 0 then (none) else (some (Int.tmod (wrap64 (Int.tdiv (wrap64 (bt a0 (ji5))) t326)) 2))) = some r := H
        have A9 := Aside0.mk A90
        clear A90
        by_cases c10 : t326 = 0
        · rw [if_pos c10] at H
          exact absurd H (by simp)
        · rw [if_neg c10] at H
          have c10b0 : (t326 == 0) = false := beq_eq_false_iff_ne.mpr c10
          have c10b1 : (t326 != 0) = true := bne_iff_ne.mpr c10
          obtain rfl := Option.some.inj H
          have p8 : 0 ≤ ((ji5) : Int) := of_decide_eq_true (by first | (with_reducible assumption) | assumption)
          have q8 : (ji5) < (a0.size : Int) := of_decide_eq_true (by first | (with_reducible assumption) | assumption)
          have hx8 := bt_at a0 (ji5)
          replace p8 := eq_true p8
          replace q8 := eq_true q8
          go_enter Try.func51, Try.ntmps51
          go_wp2_with (first | (go_at_call 27; (with_reducible refine (spec_l1Pow.calls k (wrap64 (7 - (Int.tmod a1 8))) t326 _ A9.out).mono ?_); rintro e w' ⟨rfl, ⟨nd, rfl⟩⟩; (try first | exact ⟨rfl, _, World.drewN_drewN _ _ _⟩ | exact ⟨rfl, _, Eq.trans (World.drewN_drewN _ _ _) (congrArg (World.drewN _) (Nat.add_assoc _ _ _))⟩)))
          repeat (go_quiet (first | (go_at_call 27; (with_reducible refine (spec_l1Pow.calls k (wrap64 (7 - (Int.tmod a1 8))) t326 _ A9.out).mono ?_); rintro e w' ⟨rfl, ⟨nd, rfl⟩⟩; (try first | exact ⟨rfl, _, World.drewN_drewN _ _ _⟩ | exact ⟨rfl, _, Eq.trans (World.drewN_drewN _ _ _) (congrArg (World.drewN _) (Nat.add_assoc _ _ _))⟩))); try go_wp2_with (first | (go_at_call 27; (with_reducible refine (spec_l1Pow.calls k (wrap64 (7 - (Int.tmod a1 8))) t326 _ A9.out).mono ?_); rintro e w' ⟨rfl, ⟨nd, rfl⟩⟩; (try first | exact ⟨rfl, _, World.drewN_drewN _ _ _⟩ | exact ⟨rfl, _, Eq.trans (World.drewN_drewN _ _ _) (congrArg (World.drewN _) (Nat.add_assoc _ _ _))⟩))))
          go_ret
          exact ⟨by first | rfl | (simp; done) | (simp only [← hji5] <;> (first | rfl | simp)) | (simp [*]; done), by repeat (first | exact Drawn0.refl _ | apply Drawn0.step)⟩
      · rw [if_neg c7] at H
        exact absurd H (by simp)
    · rw [if_neg c6] at H
      exact absurd H (by simp)
  · replace c4 := Bool.eq_false_iff.mpr c4
    subst c4
    have H1 : (if 0 ≤ (wrap64 (Int.tdiv a1 8)) then (if (wrap64 (Int.tdiv a1 8)) < (a0.size : Int) then ((spec_l1Pow.f k (Int.tmod a1 8)).bind fun t327 => (if t327 = 0 then (none) else (some (Int.tmod (wrap64 (Int.tdiv (wrap64 (bt a0 (wrap64 (Int.tdiv a1 8)))) t327)) 2)))) else (none)) else (none)) = some r := by first | (rw [if_neg (show ¬ (false = true) by decide)] at H; exact H) | rfl
    clear H
    have H := H1
    clear H1
    obtain ⟨ji11, hji11⟩ : ∃ j_ : Int, (wrap64 (Int.tdiv a1 8)) = j_ := ⟨_, rfl⟩
    replace H : (if 0 ≤ (ji11) then (if (ji11) < (a0.size : Int) then ((spec_l1Pow.f k (Int.tmod a1 8)).bind fun t327 => (if t327 = 0 then (none) else (some (Int.tmod (wrap64 (Int.tdiv (wrap64 (bt a0 (ji11))) t327)) 2)))) else (none)) else (none)) = some r := by first | (rw [hji11] at H; exact H) | (simp only [hji11] at H ⊢; exact H)
    have hji11w : (IntKind.i64.wrap (Int.tdiv a1 8)) = ji11 := (i64_w _).trans hji11
    by_cases c12 : 0 ≤ (ji11)
    · rw [if_pos c12] at H
      have c12b0 : decide (0 ≤ (ji11)) = true := decide_eq_true c12
      clear c12
      by_cases c13 : (ji11) < (a0.size : Int)
      · rw [if_pos c13] at H
        have c13b0 : decide ((ji11) < (a0.size : Int)) = true := decide_eq_true c13
        clear c13
        replace H := Option.bind_eq_some_iff.mp H
        obtain ⟨t327, A150, H⟩ := H
        replace H : (if t327 = 0 then (none) else (some (Int.tmod (wrap64 (Int.tdiv (wrap64 (bt a0 (ji11))) t327)) 2))) = some r := H
        have A15 := Aside0.mk A150
        clear A150
        by_cases c16 : t327 = 0
        · rw [if_pos c16] at H
          exact absurd H (by simp)
        · rw [if_neg c16] at H
          have c16b0 : (t327 == 0) = false := beq_eq_false_iff_ne.mpr c16
          have c16b1 : (t327 != 0) = true := bne_iff_ne.mpr c16
          obtain rfl := Option.some.inj H
          have p14 : 0 ≤ ((ji11) : Int) := of_decide_eq_true (by first | (with_reducible assumption) | assumption)
          have q14 : (ji11) < (a0.size : Int) := of_decide_eq_true (by first | (with_reducible assumption) | assumption)
          have hx14 := bt_at a0 (ji11)
          replace p14 := eq_true p14
          replace q14 := eq_true q14
          go_enter Try.func51, Try.ntmps51
          go_wp2_with (first | (go_at_call 27; (with_reducible refine (spec_l1Pow.calls k (Int.tmod a1 8) t327 _ A15.out).mono ?_); rintro e w' ⟨rfl, ⟨nd, rfl⟩⟩; (try first | exact ⟨rfl, _, World.drewN_drewN _ _ _⟩ | exact ⟨rfl, _, Eq.trans (World.drewN_drewN _ _ _) (congrArg (World.drewN _) (Nat.add_assoc _ _ _))⟩)))
          repeat (go_quiet (first | (go_at_call 27; (with_reducible refine (spec_l1Pow.calls k (Int.tmod a1 8) t327 _ A15.out).mono ?_); rintro e w' ⟨rfl, ⟨nd, rfl⟩⟩; (try first | exact ⟨rfl, _, World.drewN_drewN _ _ _⟩ | exact ⟨rfl, _, Eq.trans (World.drewN_drewN _ _ _) (congrArg (World.drewN _) (Nat.add_assoc _ _ _))⟩))); try go_wp2_with (first | (go_at_call 27; (with_reducible refine (spec_l1Pow.calls k (Int.tmod a1 8) t327 _ A15.out).mono ?_); rintro e w' ⟨rfl, ⟨nd, rfl⟩⟩; (try first | exact ⟨rfl, _, World.drewN_drewN _ _ _⟩ | exact ⟨rfl, _, Eq.trans (World.drewN_drewN _ _ _) (congrArg (World.drewN _) (Nat.add_assoc _ _ _))⟩))))
          go_ret
          exact ⟨by first | rfl | (simp; done) | (simp only [← hji11] <;> (first | rfl | simp)) | (simp [*]; done), by repeat (first | exact Drawn0.refl _ | apply Drawn0.step)⟩
      · rw [if_neg c13] at H
        exact absurd H (by simp)
    · rw [if_neg c12] at H
      exact absurd H (by simp)

/-! ### spec_l1Get: function 48 -/
def spec_l1Get.l0 : Nat → ByteArray → Int → Int → Bool → Int → Int → Option (Int)
  | 0, _, _, _, _, _, _ => none
  | k + 1, x0, x1, x2, x3, x9, x10 => if x10 < x2 then (if x3 = true then ((spec_l1Bit.f k x0 (wrap64 (x1 + x10)) true).bind fun t328 => (spec_l1Get.l0 k x0 x1 x2 x3 (wrap64 ((wrap64 (2 * x9)) + t328)) (wrap64 (x10 + 1)))) else ((spec_l1Bit.f k x0 (wrap64 (x1 + x10)) false).bind fun t329 => ((spec_l1Pow.f k x10).bind fun t330 => (spec_l1Get.l0 k x0 x1 x2 x3 (wrap64 (x9 + (wrap64 (t329 * t330)))) (wrap64 (x10 + 1)))))) else (some x9)
def spec_l1Get.f (k : Nat) (a0 : ByteArray) (a1 : Int) (a2 : Int) (a3 : Bool) : Option (Int) := spec_l1Get.l0 k a0 a1 a2 a3 0 0
theorem spec_l1Get.mono_l : ∀ k, (∀ y0 y1 y2 y3 y4 y5, LeO (spec_l1Get.l0 k y0 y1 y2 y3 y4 y5) (spec_l1Get.l0 (k + 1) y0 y1 y2 y3 y4 y5))
  | 0 => fun _ _ _ _ _ _ r h => by simp [spec_l1Get.l0] at h
  | k + 1 => by
    have ih0 := spec_l1Get.mono_l k
    · intro y0 y1 y2 y3 y4 y5
      unfold spec_l1Get.l0
      repeat' first
      | (with_reducible exact ih0 _ _ _ _ _ _)
      | (with_reducible exact spec_l1Bit.mono _ _ _ _)
      | (with_reducible exact spec_l1Pow.mono _ _)
      | (with_reducible exact LeO.refl _)
      | (with_reducible exact LeO.none _)
      | (with_reducible refine LeO.ite ?_ ?_)
      | (with_reducible refine LeO.bind ?_ (fun _ => ?_))
      | exact ih0 _ _ _ _ _ _
      | exact spec_l1Bit.mono _ _ _ _
      | exact spec_l1Pow.mono _ _
      | exact LeO.none _
      | refine LeO.ite ?_ ?_
      | refine LeO.bind ?_ (fun _ => ?_)
theorem spec_l1Get.mono : ∀ a0 a1 a2 a3 k, LeO (spec_l1Get.f k a0 a1 a2 a3) (spec_l1Get.f (k + 1) a0 a1 a2 a3) := by
  intro a0 a1 a2 a3 k
  have ih0 := spec_l1Get.mono_l k
  unfold spec_l1Get.f
  repeat' first
      | (with_reducible exact ih0 _ _ _ _ _ _)
      | (with_reducible exact spec_l1Bit.mono _ _ _ _)
      | (with_reducible exact spec_l1Pow.mono _ _)
      | (with_reducible exact LeO.refl _)
      | (with_reducible exact LeO.none _)
      | (with_reducible refine LeO.ite ?_ ?_)
      | (with_reducible refine LeO.bind ?_ (fun _ => ?_))
      | exact ih0 _ _ _ _ _ _
      | exact spec_l1Bit.mono _ _ _ _
      | exact spec_l1Pow.mono _ _
      | exact LeO.none _
      | refine LeO.ite ?_ ?_
      | refine LeO.bind ?_ (fun _ => ?_)
set_option maxHeartbeats 8000000 in
set_option maxRecDepth 100000 in
theorem spec_l1Get.calls (k : Nat) (a0 : ByteArray) (a1 : Int) (a2 : Int) (a3 : Bool) (r : Int) (w : World) (h : spec_l1Get.f k a0 a1 a2 a3 = some r) :
    Calls Try.prog 48 #[.string a0, .int .i64 a1, .int .i64 a2, .bool a3] w fun e w' => e = .returned (.int .i64 r) ∧ Drawn0 w w' := by
  have H : (spec_l1Get.l0 k a0 a1 a2 a3 0 0) = some r := h
  clear h
  have H' := Aside0.mk H
  clear H
  go_enter Try.func48, Try.ntmps48
  go_wp2
  go_loopg [9, 10] k (fun kq v9 v10 w' => ∃ (x9_1 : Int) (x10_1 : Int), v9 = .int .i64 x9_1 ∧ v10 = .int .i64 x10_1 ∧ Aside0 (spec_l1Get.l0 kq a0 a1 a2 a3 x9_1 x10_1 = some r) ∧ Aside0 (kq ≤ k) ∧ Drawn0 w w')
  case atStart => exact ⟨(0), (0), (by first | rfl | (simp; done) | (simp [*]; done)), (by first | rfl | (simp; done) | (simp [*]; done)), H', ⟨Nat.le_refl _⟩, by repeat (first | exact Drawn0.refl _ | apply Drawn0.step)⟩
  case round =>
    clear H'
    try clear p2
    try clear c4
    obtain ⟨x9_1, x10_1, rfl, rfl, HA, HK1, ⟨m1, rfl⟩⟩ := hrel
    cases gk with
    | zero => exact absurd HA.out (by simp [spec_l1Get.l0])
    | succ k1 =>
      have H := HA.out
      clear HA
      simp only [spec_l1Get.l0] at H
      by_cases c5 : x10_1 < a2
      · rw [if_pos c5] at H
        have c5b0 : decide (x10_1 < a2) = true := decide_eq_true c5
        clear c5
        by_cases c6 : a3 = true
        · subst c6
          have H1 : ((spec_l1Bit.f k1 a0 (wrap64 (a1 + x10_1)) true).bind fun t328 => (spec_l1Get.l0 k1 a0 a1 a2 true (wrap64 ((wrap64 (2 * x9_1)) + t328)) (wrap64 (x10_1 + 1)))) = some r := by first | (rw [if_pos rfl] at H; exact H) | rfl
          clear H
          have H := H1
          clear H1
          replace H := Option.bind_eq_some_iff.mp H
          obtain ⟨t328, A70, H⟩ := H
          replace H : (spec_l1Get.l0 k1 a0 a1 a2 true (wrap64 ((wrap64 (2 * x9_1)) + t328)) (wrap64 (x10_1 + 1))) = some r := H
          have A7 := Aside0.mk A70
          clear A70
          have H' := Aside0.mk H
          clear H
          go_wp2_with (first | ((with_reducible refine gate_callee (f := 51) rfl ?_); refine goesL_ (some 23) rfl rfl Try.func51 (by kernel_rfl) rfl #[.string a0, .int .i64 (wrap64 (a1 + x10_1)), .bool true] rfl (by (try simp only [List.map_toArray, List.map_cons, List.map_nil]); first | done | rfl | (simp only [List.length_drop, List.length_take]; rfl)) ?_; (with_reducible refine (spec_l1Bit.calls k1 a0 (wrap64 (a1 + x10_1)) true t328 _ A7.out).mono ?_); rintro e w' ⟨rfl, ⟨nd, rfl⟩⟩; refine ⟨_, rfl, ?_⟩))
          go_roundg k1
          case measure => have := HK1.out; omega
          case rel => exact ⟨(wrap64 ((wrap64 (2 * x9_1)) + t328)), (wrap64 (x10_1 + 1)), (by first | rfl | (simp; done) | (simp [*]; done)), (by first | rfl | (simp; done) | (simp [*]; done)), H', ⟨by have := HK1.out; omega⟩, by repeat (first | exact Drawn0.refl _ | apply Drawn0.step)⟩
        · replace c6 := Bool.eq_false_iff.mpr c6
          subst c6
          have H1 : ((spec_l1Bit.f k1 a0 (wrap64 (a1 + x10_1)) false).bind fun t329 => ((spec_l1Pow.f k1 x10_1).bind fun t330 => (spec_l1Get.l0 k1 a0 a1 a2 false (wrap64 (x9_1 + (wrap64 (t329 * t330)))) (wrap64 (x10_1 + 1))))) = some r := by first | (rw [if_neg (show ¬ (false = true) by decide)] at H; exact H) | rfl
          clear H
          have H := H1
          clear H1
          replace H := Option.bind_eq_some_iff.mp H
          obtain ⟨t329, A80, H⟩ := H
          replace H : ((spec_l1Pow.f k1 x10_1).bind fun t330 => (spec_l1Get.l0 k1 a0 a1 a2 false (wrap64 (x9_1 + (wrap64 (t329 * t330)))) (wrap64 (x10_1 + 1)))) = some r := H
          have A8 := Aside0.mk A80
          clear A80
          replace H := Option.bind_eq_some_iff.mp H
          obtain ⟨t330, A90, H⟩ := H
          replace H : (spec_l1Get.l0 k1 a0 a1 a2 false (wrap64 (x9_1 + (wrap64 (t329 * t330)))) (wrap64 (x10_1 + 1))) = some r := H
          have A9 := Aside0.mk A90
          clear A90
          have H' := Aside0.mk H
          clear H
          go_wp2_with (first | ((with_reducible refine gate_callee (f := 51) rfl ?_); refine goesL_ (some 30) rfl rfl Try.func51 (by kernel_rfl) rfl #[.string a0, .int .i64 (wrap64 (a1 + x10_1)), .bool false] rfl (by (try simp only [List.map_toArray, List.map_cons, List.map_nil]); first | done | rfl | (simp only [List.length_drop, List.length_take]; rfl)) ?_; (with_reducible refine (spec_l1Bit.calls k1 a0 (wrap64 (a1 + x10_1)) false t329 _ A8.out).mono ?_); rintro e w' ⟨rfl, ⟨nd, rfl⟩⟩; refine ⟨_, rfl, ?_⟩) | ((with_reducible refine gate_callee (f := 27) rfl ?_); refine goesL_ (some 32) rfl rfl Try.func27 (by kernel_rfl) rfl #[.int .i64 x10_1] rfl (by (try simp only [List.map_toArray, List.map_cons, List.map_nil]); first | done | rfl | (simp only [List.length_drop, List.length_take]; rfl)) ?_; (with_reducible refine (spec_l1Pow.calls k1 x10_1 t330 _ A9.out).mono ?_); rintro e w' ⟨rfl, ⟨nd, rfl⟩⟩; refine ⟨_, rfl, ?_⟩))
          go_roundg k1
          case measure => have := HK1.out; omega
          case rel => exact ⟨(wrap64 (x9_1 + (wrap64 (t329 * t330)))), (wrap64 (x10_1 + 1)), (by first | rfl | (simp; done) | (simp [*]; done)), (by first | rfl | (simp; done) | (simp [*]; done)), H', ⟨by have := HK1.out; omega⟩, by repeat (first | exact Drawn0.refl _ | apply Drawn0.step)⟩
      · rw [if_neg c5] at H
        have c5b0 : decide (x10_1 < a2) = false := decide_eq_false c5
        clear c5
        obtain rfl := Option.some.inj H
        go_wp2
        go_ret
        exact ⟨by first | rfl | (simp; done) | (simp [*]; done), by repeat (first | exact Drawn0.refl _ | apply Drawn0.step)⟩

end Go.Proofs.Ytdebckcphaocmaa.PFnLzwGet
