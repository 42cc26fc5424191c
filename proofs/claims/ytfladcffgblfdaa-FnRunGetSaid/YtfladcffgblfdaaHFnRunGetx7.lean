/- What the functions that the law comes to compute, as plain functions, and that the machine's calls come to just that: written by a program for this claim, and turned where Lean did not take it. No condition. -/
import Derived.Test.YtfladcffgblfdaaHFnRunGetx0
import Derived.Test.YtfladcffgblfdaaHFnRunGetx3
namespace Go.Proofs.Ytfladcffgblfdaa.PFnRunGet
open Go.RowKit Go.Proofs.YtfladcffgblfdaaW.PrintWords Go.Proofs.YtfladcffgblfdaaW.PrintLast Go.Proofs.YtfladcffgblfdaaW.PrintMore
attribute [local go_sem] max2_int min2_int max_two min_two max_three min_three max_four min_four   -- for this text's walks alone
set_option linter.unusedVariables false
set_option linter.unusedSimpArgs false

/-! ### spec_l1Field: function 79 -/
mutual
def spec_l1Field.j0 : Nat → ByteArray → Int → Int → Bool → Bool → Option (Int)
  | 0, _, _, _, _, _ => none
  | k + 1, x0, x1, x2, x3, x20 => if x20 = true then (some 0) else (spec_l1Field.l0 k x0 x1 x2 x3 0 0)
def spec_l1Field.l0 : Nat → ByteArray → Int → Int → Bool → Int → Int → Option (Int)
  | 0, _, _, _, _, _, _ => none
  | k + 1, x0, x1, x2, x3, x9, x10 => if x10 < x2 then (if x3 = true then (if 0 ≤ (wrap64 (x1 + x10)) then (if (wrap64 (x1 + x10)) < (x0.size : Int) then (spec_l1Field.l0 k x0 x1 x2 x3 (wrap64 ((wrap64 (256 * x9)) + (wrap64 (bt x0 (wrap64 (x1 + x10)))))) (wrap64 (x10 + 1))) else (none)) else (none)) else (if 0 ≤ (wrap64 ((wrap64 ((wrap64 (x1 + x2)) - 1)) - x10)) then (if (wrap64 ((wrap64 ((wrap64 (x1 + x2)) - 1)) - x10)) < (x0.size : Int) then (spec_l1Field.l0 k x0 x1 x2 x3 (wrap64 ((wrap64 (256 * x9)) + (wrap64 (bt x0 (wrap64 ((wrap64 ((wrap64 (x1 + x2)) - 1)) - x10)))))) (wrap64 (x10 + 1))) else (none)) else (none))) else (some x9)
end
def spec_l1Field.f (k : Nat) (a0 : ByteArray) (a1 : Int) (a2 : Int) (a3 : Bool) : Option (Int) := if a1 < 0 then (spec_l1Field.j0 k a0 a1 a2 a3 true) else (spec_l1Field.j0 k a0 a1 a2 a3 (decide ((wrap64 (a1 + a2)) > (a0.size : Int))))
theorem spec_l1Field.mono_l : ∀ k, (∀ y0 y1 y2 y3 y4, LeO (spec_l1Field.j0 k y0 y1 y2 y3 y4) (spec_l1Field.j0 (k + 1) y0 y1 y2 y3 y4)) ∧ (∀ y0 y1 y2 y3 y4 y5, LeO (spec_l1Field.l0 k y0 y1 y2 y3 y4 y5) (spec_l1Field.l0 (k + 1) y0 y1 y2 y3 y4 y5))
  | 0 => ⟨fun _ _ _ _ _ r h => by simp [spec_l1Field.j0] at h, fun _ _ _ _ _ _ r h => by simp [spec_l1Field.l0] at h⟩
  | k + 1 => by
    obtain ⟨ih0, ih1⟩ := spec_l1Field.mono_l k
    refine ⟨?_, ?_⟩
    · intro y0 y1 y2 y3 y4
      unfold spec_l1Field.j0
      repeat' first
      | (with_reducible exact ih0 _ _ _ _ _)
      | (with_reducible exact ih1 _ _ _ _ _ _)
      | (with_reducible exact LeO.refl _)
      | (with_reducible exact LeO.none _)
      | (with_reducible refine LeO.ite ?_ ?_)
      | (with_reducible refine LeO.bind ?_ (fun _ => ?_))
      | exact ih0 _ _ _ _ _
      | exact ih1 _ _ _ _ _ _
      | exact LeO.none _
      | refine LeO.ite ?_ ?_
      | refine LeO.bind ?_ (fun _ => ?_)
    · intro y0 y1 y2 y3 y4 y5
      unfold spec_l1Field.l0
      repeat' first
      | (with_reducible exact ih0 _ _ _ _ _)
      | (with_reducible exact ih1 _ _ _ _ _ _)
      | (with_reducible exact LeO.refl _)
      | (with_reducible exact LeO.none _)
      | (with_reducible refine LeO.ite ?_ ?_)
      | (with_reducible refine LeO.bind ?_ (fun _ => ?_))
      | exact ih0 _ _ _ _ _
      | exact ih1 _ _ _ _ _ _
      | exact LeO.none _
      | refine LeO.ite ?_ ?_
      | refine LeO.bind ?_ (fun _ => ?_)
theorem spec_l1Field.mono : ∀ a0 a1 a2 a3 k, LeO (spec_l1Field.f k a0 a1 a2 a3) (spec_l1Field.f (k + 1) a0 a1 a2 a3) := by
  intro a0 a1 a2 a3 k
  obtain ⟨ih0, ih1⟩ := spec_l1Field.mono_l k
  unfold spec_l1Field.f
  repeat' first
      | (with_reducible exact ih0 _ _ _ _ _)
      | (with_reducible exact ih1 _ _ _ _ _ _)
      | (with_reducible exact LeO.refl _)
      | (with_reducible exact LeO.none _)
      | (with_reducible refine LeO.ite ?_ ?_)
      | (with_reducible refine LeO.bind ?_ (fun _ => ?_))
      | exact ih0 _ _ _ _ _
      | exact ih1 _ _ _ _ _ _
      | exact LeO.none _
      | refine LeO.ite ?_ ?_
      | refine LeO.bind ?_ (fun _ => ?_)
set_option maxHeartbeats 8000000 in
set_option maxRecDepth 100000 in
theorem spec_l1Field.calls (k : Nat) (a0 : ByteArray) (a1 : Int) (a2 : Int) (a3 : Bool) (r : Int) (w : World) (h : spec_l1Field.f k a0 a1 a2 a3 = some r) :
    Calls Try.prog 79 #[.string a0, .int .i64 a1, .int .i64 a2, .bool a3] w fun e w' => e = .returned (.int .i64 r) ∧ Drawn0 w w' := by
  have H : (if a1 < 0 then (spec_l1Field.j0 k a0 a1 a2 a3 true) else (spec_l1Field.j0 k a0 a1 a2 a3 (decide ((wrap64 (a1 + a2)) > (a0.size : Int))))) = some r := h
  clear h
  have HC5 := Aside0.mk H
  clear H
  go_enter Try.func79, Try.ntmps79
  go_upto_region 1 with (fail)
  go_cut [20] (fun v20 wc => ∃ (kq : Nat) (x20_4 : Bool), v20 = .bool x20_4 ∧ Aside0 (spec_l1Field.j0 kq a0 a1 a2 a3 x20_4 = some r) ∧ Aside0 (kq ≤ k) ∧ Drawn0 w wc)
  case first =>
    have H := HC5.out
    clear HC5
    by_cases c6 : a1 < 0
    · rw [if_pos c6] at H
      have c6b0 : decide (a1 < 0) = true := decide_eq_true c6
      clear c6
      (first | rw [c6b0] | (simp only [i64_w, i32_w]; rw [c6b0]) | skip)
      have H' := Aside0.mk H
      clear H
      go_wp2
      go_meet
      case rel => exact ⟨_, (true), (by first | rfl | (simp; done) | (simp [*]; done)), H', ⟨by first | omega | exact Nat.le_refl _⟩, by repeat (first | exact Drawn0.refl _ | apply Drawn0.step)⟩
    · rw [if_neg c6] at H
      have c6b0 : decide (a1 < 0) = false := decide_eq_false c6
      clear c6
      (first | rw [c6b0] | (simp only [i64_w, i32_w]; rw [c6b0]) | skip)
      have H' := Aside0.mk H
      clear H
      go_wp2
      go_meet
      case rel => exact ⟨_, (decide ((wrap64 (a1 + a2)) > (a0.size : Int))), (by first | rfl | (simp; done) | (simp [*]; done)), H', ⟨by first | omega | exact Nat.le_refl _⟩, by repeat (first | exact Drawn0.refl _ | apply Drawn0.step)⟩
  case rest =>
    clear HC5
    try clear p2
    try clear c6
    try clear c6b0
    try clear p6
    obtain ⟨kq, x20_4, rfl, HA, HJ4, ⟨mc4, rfl⟩⟩ := hcut
    cases kq with
    | zero => exact absurd HA.out (by simp [spec_l1Field.j0])
    | succ kj4 =>
      have H := HA.out
      clear HA
      simp only [spec_l1Field.j0] at H
      by_cases c7 : x20_4 = true
      · subst c7
        have H1 : (some 0) = some r := by rw [if_pos rfl] at H; exact H
        clear H
        have H := H1
        clear H1
        obtain rfl := Option.some.inj H
        go_wp2
        go_ret
        exact ⟨by first | rfl | (simp; done) | (simp [*]; done), by repeat (first | exact Drawn0.refl _ | apply Drawn0.step)⟩
      · replace c7 := Bool.eq_false_iff.mpr c7
        subst c7
        have H1 : (spec_l1Field.l0 kj4 a0 a1 a2 a3 0 0) = some r := by rw [if_neg (show ¬ (false = true) by decide)] at H; exact H
        clear H
        have H := H1
        clear H1
        have H' := Aside0.mk H
        clear H
        go_wp2
        go_loopg [9, 10] kj4 (fun kq v9 v10 w' => ∃ (x9_2 : Int) (x10_2 : Int), v9 = .int .i64 x9_2 ∧ v10 = .int .i64 x10_2 ∧ Aside0 (spec_l1Field.l0 kq a0 a1 a2 a3 x9_2 x10_2 = some r) ∧ Aside0 (kq ≤ kj4) ∧ Drawn0 w w')
        case atStart => exact ⟨(0), (0), (by first | rfl | (simp; done) | (simp [*]; done)), (by first | rfl | (simp; done) | (simp [*]; done)), H', ⟨Nat.le_refl _⟩, by repeat (first | exact Drawn0.refl _ | apply Drawn0.step)⟩
        case round =>
          clear H'
          try clear p2
          try clear c4
          try clear c6
          try clear c6b0
          try clear p6
          try clear c7
          try clear p2
          try clear p6
          obtain ⟨x9_2, x10_2, rfl, rfl, HA, HK2, ⟨m2, rfl⟩⟩ := hrel
          cases gk with
          | zero => exact absurd HA.out (by simp [spec_l1Field.l0])
          | succ k2 =>
            have H := HA.out
            clear HA
            simp only [spec_l1Field.l0] at H
            by_cases c8 : x10_2 < a2
            · rw [if_pos c8] at H
              have c8b0 : decide (x10_2 < a2) = true := decide_eq_true c8
              clear c8
              by_cases c9 : a3 = true
              · subst c9
                have H1 : (if 0 ≤ (wrap64 (a1 + x10_2)) then (if (wrap64 (a1 + x10_2)) < (a0.size : Int) then (spec_l1Field.l0 k2 a0 a1 a2 true (wrap64 ((wrap64 (256 * x9_2)) + (wrap64 (bt a0 (wrap64 (a1 + x10_2)))))) (wrap64 (x10_2 + 1))) else (none)) else (none)) = some r := by rw [if_pos rfl] at H; exact H
                clear H
                have H := H1
                clear H1
                obtain ⟨ji10, hji10⟩ : ∃ j_ : Int, (wrap64 (a1 + x10_2)) = j_ := ⟨_, rfl⟩
                replace H : (if 0 ≤ (ji10) then (if (ji10) < (a0.size : Int) then (spec_l1Field.l0 k2 a0 a1 a2 true (wrap64 ((wrap64 (256 * x9_2)) + (wrap64 (bt a0 (ji10))))) (wrap64 (x10_2 + 1))) else (none)) else (none)) = some r := by first | (rw [hji10] at H; exact H) | (simp only [hji10] at H ⊢; exact H)
                have hji10w : (IntKind.i64.wrap (a1 + x10_2)) = ji10 := (i64_w _).trans hji10
                by_cases c11 : 0 ≤ (ji10)
                · rw [if_pos c11] at H
                  have c11b0 : decide (0 ≤ (ji10)) = true := decide_eq_true c11
                  clear c11
                  by_cases c12 : (ji10) < (a0.size : Int)
                  · rw [if_pos c12] at H
                    have c12b0 : decide ((ji10) < (a0.size : Int)) = true := decide_eq_true c12
                    clear c12
                    have H' := Aside0.mk H
                    clear H
                    have p13 : 0 ≤ ((ji10) : Int) := of_decide_eq_true (by first | (with_reducible assumption) | assumption)
                    have q13 : (ji10) < (a0.size : Int) := of_decide_eq_true (by first | (with_reducible assumption) | assumption)
                    have hx13 := bt_at a0 (ji10)
                    replace p13 := eq_true p13
                    replace q13 := eq_true q13
                    go_wp2
                    go_roundg k2
                    case measure => have := HJ4.out; have := HK2.out; omega
                    case rel => exact ⟨(wrap64 ((wrap64 (256 * x9_2)) + (wrap64 (bt a0 (ji10))))), (wrap64 (x10_2 + 1)), (by first | rfl | (simp; done) | (simp only [← hji10] <;> (first | rfl | simp)) | (simp [*]; done)), (by first | rfl | (simp; done) | (simp [*]; done)), H', ⟨by have := HJ4.out; have := HK2.out; omega⟩, by repeat (first | exact Drawn0.refl _ | apply Drawn0.step)⟩
                  · rw [if_neg c12] at H
                    exact absurd H (by simp)
                · rw [if_neg c11] at H
                  exact absurd H (by simp)
              · replace c9 := Bool.eq_false_iff.mpr c9
                subst c9
                have H1 : (if 0 ≤ (wrap64 ((wrap64 ((wrap64 (a1 + a2)) - 1)) - x10_2)) then (if (wrap64 ((wrap64 ((wrap64 (a1 + a2)) - 1)) - x10_2)) < (a0.size : Int) then (spec_l1Field.l0 k2 a0 a1 a2 false (wrap64 ((wrap64 (256 * x9_2)) + (wrap64 (bt a0 (wrap64 ((wrap64 ((wrap64 (a1 + a2)) - 1)) - x10_2)))))) (wrap64 (x10_2 + 1))) else (none)) else (none)) = some r := by rw [if_neg (show ¬ (false = true) by decide)] at H; exact H
                clear H
                have H := H1
                clear H1
                obtain ⟨ji14, hji14⟩ : ∃ j_ : Int, (wrap64 ((wrap64 ((wrap64 (a1 + a2)) - 1)) - x10_2)) = j_ := ⟨_, rfl⟩
                replace H : (if 0 ≤ (ji14) then (if (ji14) < (a0.size : Int) then (spec_l1Field.l0 k2 a0 a1 a2 false (wrap64 ((wrap64 (256 * x9_2)) + (wrap64 (bt a0 (ji14))))) (wrap64 (x10_2 + 1))) else (none)) else (none)) = some r := by first | (rw [hji14] at H; exact H) | (simp only [hji14] at H ⊢; exact H)
                have hji14w : (IntKind.i64.wrap ((wrap64 ((wrap64 (a1 + a2)) - 1)) - x10_2)) = ji14 := (i64_w _).trans hji14
                by_cases c15 : 0 ≤ (ji14)
                · rw [if_pos c15] at H
                  have c15b0 : decide (0 ≤ (ji14)) = true := decide_eq_true c15
                  clear c15
                  by_cases c16 : (ji14) < (a0.size : Int)
                  · rw [if_pos c16] at H
                    have c16b0 : decide ((ji14) < (a0.size : Int)) = true := decide_eq_true c16
                    clear c16
                    have H' := Aside0.mk H
                    clear H
                    have p17 : 0 ≤ ((ji14) : Int) := of_decide_eq_true (by first | (with_reducible assumption) | assumption)
                    have q17 : (ji14) < (a0.size : Int) := of_decide_eq_true (by first | (with_reducible assumption) | assumption)
                    have hx17 := bt_at a0 (ji14)
                    replace p17 := eq_true p17
                    replace q17 := eq_true q17
                    go_wp2
                    go_roundg k2
                    case measure => have := HJ4.out; have := HK2.out; omega
                    case rel => exact ⟨(wrap64 ((wrap64 (256 * x9_2)) + (wrap64 (bt a0 (ji14))))), (wrap64 (x10_2 + 1)), (by first | rfl | (simp; done) | (simp only [← hji14] <;> (first | rfl | simp)) | (simp [*]; done)), (by first | rfl | (simp; done) | (simp [*]; done)), H', ⟨by have := HJ4.out; have := HK2.out; omega⟩, by repeat (first | exact Drawn0.refl _ | apply Drawn0.step)⟩
                  · rw [if_neg c16] at H
                    exact absurd H (by simp)
                · rw [if_neg c15] at H
                  exact absurd H (by simp)
            · rw [if_neg c8] at H
              have c8b0 : decide (x10_2 < a2) = false := decide_eq_false c8
              clear c8
              obtain rfl := Option.some.inj H
              go_wp2
              go_ret
              exact ⟨by first | rfl | (simp; done) | (simp [*]; done), by repeat (first | exact Drawn0.refl _ | apply Drawn0.step)⟩

/-! ### spec_RunGet: function 53 -/
mutual
def spec_RunGet.j0 : Nat → ByteArray → Int → Int → Int → List Int → Bool → Option (List Int × Int × Bool)
  | 0, _, _, _, _, _, _ => none
  | k + 1, x0, x1, x2, x3, x11, x37 => if x37 = true then (some (x11, 0, false)) else (spec_RunGet.l0 k x0 x1 x2 x3 x11)
def spec_RunGet.l0 : Nat → ByteArray → Int → Int → Int → List Int → Option (List Int × Int × Bool)
  | 0, _, _, _, _, _ => none
  | k + 1, x0, x1, x2, x3, x11 => if (x11.length : Int) < x3 then (if x1 ≥ (x0.size : Int) then (some ((([] : List Int)), 0, false)) else (if 0 ≤ x1 then (if x1 < (x0.size : Int) then (if (bt x0 x1) ≥ 128 then (spec_RunGet.j2 k x0 (wrap64 (x1 + 1)) x2 x3 x11 (wrap64 ((Int.tmod (wrap64 (bt x0 x1)) 128) + 1)) (decide ((bt x0 x1) ≥ 128)) x2) else (spec_RunGet.j2 k x0 (wrap64 (x1 + 1)) x2 x3 x11 (wrap64 ((Int.tmod (wrap64 (bt x0 x1)) 128) + 1)) (decide ((bt x0 x1) ≥ 128)) (wrap64 ((wrap64 ((Int.tmod (wrap64 (bt x0 x1)) 128) + 1)) * x2)))) else (none)) else (none))) else (some (x11, x1, true))
def spec_RunGet.j2 : Nat → ByteArray → Int → Int → Int → List Int → Int → Bool → Int → Option (List Int × Int × Bool)
  | 0, _, _, _, _, _, _, _, _ => none
  | k + 1, x0, x1, x2, x3, x11, x12, x13, x14 => if (wrap64 (x1 + x14)) > (x0.size : Int) then (spec_RunGet.j3 k x0 x1 x2 x3 x11 x12 x13 x14 true) else (spec_RunGet.j3 k x0 x1 x2 x3 x11 x12 x13 x14 (decide ((wrap64 ((x11.length : Int) + x12)) > x3)))
def spec_RunGet.j3 : Nat → ByteArray → Int → Int → Int → List Int → Int → Bool → Int → Bool → Option (List Int × Int × Bool)
  | 0, _, _, _, _, _, _, _, _, _ => none
  | k + 1, x0, x1, x2, x3, x11, x12, x13, x14, x78 => if x78 = true then (some ((([] : List Int)), 0, false)) else (spec_RunGet.l1 k x0 x1 x2 x3 x11 x12 x13 x14 0)
def spec_RunGet.l1 : Nat → ByteArray → Int → Int → Int → List Int → Int → Bool → Int → Int → Option (List Int × Int × Bool)
  | 0, _, _, _, _, _, _, _, _, _ => none
  | k + 1, x0, x1, x2, x3, x11, x12, x13, x14, x15 => if x15 < x12 then (if x13 = true then ((spec_l1Field.f k x0 x1 x2 false).bind fun t260 => (if x11.length < 17592186044416 then (spec_RunGet.l1 k x0 x1 x2 x3 (x11 ++ [t260]) x12 x13 x14 (wrap64 (x15 + 1))) else (none))) else ((spec_l1Field.f k x0 (wrap64 (x1 + (wrap64 (x15 * x2)))) x2 false).bind fun t264 => (if x11.length < 17592186044416 then (spec_RunGet.l1 k x0 x1 x2 x3 (x11 ++ [t264]) x12 x13 x14 (wrap64 (x15 + 1))) else (none)))) else (spec_RunGet.l0 k x0 (wrap64 (x1 + x14)) x2 x3 x11)
end
def spec_RunGet.f (k : Nat) (a0 : ByteArray) (a1 : Int) (a2 : Int) (a3 : Int) : Option (List Int × Int × Bool) := (some (([] : List Int) : List Int)).bind fun y248 => ((spec_l1In.f a2 1 4).bind fun t251 => (if t251 = true then ((spec_l1In.f a3 0 1000).bind fun t252 => (if t252 = true then (if (a0.size : Int) > 9000 then (spec_RunGet.j0 k a0 a1 a2 a3 y248 true) else ((spec_l1In.f a1 0 (a0.size : Int)).bind fun t253 => (spec_RunGet.j0 k a0 a1 a2 a3 y248 (!t253)))) else (spec_RunGet.j0 k a0 a1 a2 a3 y248 true))) else (spec_RunGet.j0 k a0 a1 a2 a3 y248 true)))
theorem spec_RunGet.mono_l : ∀ k, (∀ y0 y1 y2 y3 y4 y5, LeO (spec_RunGet.j0 k y0 y1 y2 y3 y4 y5) (spec_RunGet.j0 (k + 1) y0 y1 y2 y3 y4 y5)) ∧ (∀ y0 y1 y2 y3 y4, LeO (spec_RunGet.l0 k y0 y1 y2 y3 y4) (spec_RunGet.l0 (k + 1) y0 y1 y2 y3 y4)) ∧ (∀ y0 y1 y2 y3 y4 y5 y6 y7, LeO (spec_RunGet.j2 k y0 y1 y2 y3 y4 y5 y6 y7) (spec_RunGet.j2 (k + 1) y0 y1 y2 y3 y4 y5 y6 y7)) ∧ (∀ y0 y1 y2 y3 y4 y5 y6 y7 y8, LeO (spec_RunGet.j3 k y0 y1 y2 y3 y4 y5 y6 y7 y8) (spec_RunGet.j3 (k + 1) y0 y1 y2 y3 y4 y5 y6 y7 y8)) ∧ (∀ y0 y1 y2 y3 y4 y5 y6 y7 y8, LeO (spec_RunGet.l1 k y0 y1 y2 y3 y4 y5 y6 y7 y8) (spec_RunGet.l1 (k + 1) y0 y1 y2 y3 y4 y5 y6 y7 y8))
  | 0 => ⟨fun _ _ _ _ _ _ r h => by simp [spec_RunGet.j0] at h, fun _ _ _ _ _ r h => by simp [spec_RunGet.l0] at h, fun _ _ _ _ _ _ _ _ r h => by simp [spec_RunGet.j2] at h, fun _ _ _ _ _ _ _ _ _ r h => by simp [spec_RunGet.j3] at h, fun _ _ _ _ _ _ _ _ _ r h => by simp [spec_RunGet.l1] at h⟩
  | k + 1 => by
    obtain ⟨ih0, ih1, ih2, ih3, ih4⟩ := spec_RunGet.mono_l k
    refine ⟨?_, ?_, ?_, ?_, ?_⟩
    · intro y0 y1 y2 y3 y4 y5
      unfold spec_RunGet.j0
      repeat' first
      | (with_reducible exact ih0 _ _ _ _ _ _)
      | (with_reducible exact ih1 _ _ _ _ _)
      | (with_reducible exact ih2 _ _ _ _ _ _ _ _)
      | (with_reducible exact ih3 _ _ _ _ _ _ _ _ _)
      | (with_reducible exact ih4 _ _ _ _ _ _ _ _ _)
      | (with_reducible exact spec_l1Field.mono _ _ _ _ _)
      | (with_reducible exact LeO.refl _)
      | (with_reducible exact LeO.none _)
      | (with_reducible refine LeO.ite ?_ ?_)
      | (with_reducible refine LeO.bind ?_ (fun _ => ?_))
      | exact ih0 _ _ _ _ _ _
      | exact ih1 _ _ _ _ _
      | exact ih2 _ _ _ _ _ _ _ _
      | exact ih3 _ _ _ _ _ _ _ _ _
      | exact ih4 _ _ _ _ _ _ _ _ _
      | exact spec_l1Field.mono _ _ _ _ _
      | exact LeO.none _
      | refine LeO.ite ?_ ?_
      | refine LeO.bind ?_ (fun _ => ?_)
    · intro y0 y1 y2 y3 y4
      unfold spec_RunGet.l0
      repeat' first
      | (with_reducible exact ih0 _ _ _ _ _ _)
      | (with_reducible exact ih1 _ _ _ _ _)
      | (with_reducible exact ih2 _ _ _ _ _ _ _ _)
      | (with_reducible exact ih3 _ _ _ _ _ _ _ _ _)
      | (with_reducible exact ih4 _ _ _ _ _ _ _ _ _)
      | (with_reducible exact spec_l1Field.mono _ _ _ _ _)
      | (with_reducible exact LeO.refl _)
      | (with_reducible exact LeO.none _)
      | (with_reducible refine LeO.ite ?_ ?_)
      | (with_reducible refine LeO.bind ?_ (fun _ => ?_))
      | exact ih0 _ _ _ _ _ _
      | exact ih1 _ _ _ _ _
      | exact ih2 _ _ _ _ _ _ _ _
      | exact ih3 _ _ _ _ _ _ _ _ _
      | exact ih4 _ _ _ _ _ _ _ _ _
      | exact spec_l1Field.mono _ _ _ _ _
      | exact LeO.none _
      | refine LeO.ite ?_ ?_
      | refine LeO.bind ?_ (fun _ => ?_)
    · intro y0 y1 y2 y3 y4 y5 y6 y7
      unfold spec_RunGet.j2
      repeat' first
      | (with_reducible exact ih0 _ _ _ _ _ _)
      | (with_reducible exact ih1 _ _ _ _ _)
      | (with_reducible exact ih2 _ _ _ _ _ _ _ _)
      | (with_reducible exact ih3 _ _ _ _ _ _ _ _ _)
      | (with_reducible exact ih4 _ _ _ _ _ _ _ _ _)
      | (with_reducible exact spec_l1Field.mono _ _ _ _ _)
      | (with_reducible exact LeO.refl _)
      | (with_reducible exact LeO.none _)
      | (with_reducible refine LeO.ite ?_ ?_)
      | (with_reducible refine LeO.bind ?_ (fun _ => ?_))
      | exact ih0 _ _ _ _ _ _
      | exact ih1 _ _ _ _ _
      | exact ih2 _ _ _ _ _ _ _ _
      | exact ih3 _ _ _ _ _ _ _ _ _
      | exact ih4 _ _ _ _ _ _ _ _ _
      | exact spec_l1Field.mono _ _ _ _ _
      | exact LeO.none _
      | refine LeO.ite ?_ ?_
      | refine LeO.bind ?_ (fun _ => ?_)
    · intro y0 y1 y2 y3 y4 y5 y6 y7 y8
      unfold spec_RunGet.j3
      repeat' first
      | (with_reducible exact ih0 _ _ _ _ _ _)
      | (with_reducible exact ih1 _ _ _ _ _)
      | (with_reducible exact ih2 _ _ _ _ _ _ _ _)
      | (with_reducible exact ih3 _ _ _ _ _ _ _ _ _)
      | (with_reducible exact ih4 _ _ _ _ _ _ _ _ _)
      | (with_reducible exact spec_l1Field.mono _ _ _ _ _)
      | (with_reducible exact LeO.refl _)
      | (with_reducible exact LeO.none _)
      | (with_reducible refine LeO.ite ?_ ?_)
      | (with_reducible refine LeO.bind ?_ (fun _ => ?_))
      | exact ih0 _ _ _ _ _ _
      | exact ih1 _ _ _ _ _
      | exact ih2 _ _ _ _ _ _ _ _
      | exact ih3 _ _ _ _ _ _ _ _ _
      | exact ih4 _ _ _ _ _ _ _ _ _
      | exact spec_l1Field.mono _ _ _ _ _
      | exact LeO.none _
      | refine LeO.ite ?_ ?_
      | refine LeO.bind ?_ (fun _ => ?_)
    · intro y0 y1 y2 y3 y4 y5 y6 y7 y8
      unfold spec_RunGet.l1
      repeat' first
      | (with_reducible exact ih0 _ _ _ _ _ _)
      | (with_reducible exact ih1 _ _ _ _ _)
      | (with_reducible exact ih2 _ _ _ _ _ _ _ _)
      | (with_reducible exact ih3 _ _ _ _ _ _ _ _ _)
      | (with_reducible exact ih4 _ _ _ _ _ _ _ _ _)
      | (with_reducible exact spec_l1Field.mono _ _ _ _ _)
      | (with_reducible exact LeO.refl _)
      | (with_reducible exact LeO.none _)
      | (with_reducible refine LeO.ite ?_ ?_)
      | (with_reducible refine LeO.bind ?_ (fun _ => ?_))
      | exact ih0 _ _ _ _ _ _
      | exact ih1 _ _ _ _ _
      | exact ih2 _ _ _ _ _ _ _ _
      | exact ih3 _ _ _ _ _ _ _ _ _
      | exact ih4 _ _ _ _ _ _ _ _ _
      | exact spec_l1Field.mono _ _ _ _ _
      | exact LeO.none _
      | refine LeO.ite ?_ ?_
      | refine LeO.bind ?_ (fun _ => ?_)
theorem spec_RunGet.mono : ∀ a0 a1 a2 a3 k, LeO (spec_RunGet.f k a0 a1 a2 a3) (spec_RunGet.f (k + 1) a0 a1 a2 a3) := by
  intro a0 a1 a2 a3 k
  obtain ⟨ih0, ih1, ih2, ih3, ih4⟩ := spec_RunGet.mono_l k
  unfold spec_RunGet.f
  repeat' first
      | (with_reducible exact ih0 _ _ _ _ _ _)
      | (with_reducible exact ih1 _ _ _ _ _)
      | (with_reducible exact ih2 _ _ _ _ _ _ _ _)
      | (with_reducible exact ih3 _ _ _ _ _ _ _ _ _)
      | (with_reducible exact ih4 _ _ _ _ _ _ _ _ _)
      | (with_reducible exact spec_l1Field.mono _ _ _ _ _)
      | (with_reducible exact LeO.refl _)
      | (with_reducible exact LeO.none _)
      | (with_reducible refine LeO.ite ?_ ?_)
      | (with_reducible refine LeO.bind ?_ (fun _ => ?_))
      | exact ih0 _ _ _ _ _ _
      | exact ih1 _ _ _ _ _
      | exact ih2 _ _ _ _ _ _ _ _
      | exact ih3 _ _ _ _ _ _ _ _ _
      | exact ih4 _ _ _ _ _ _ _ _ _
      | exact spec_l1Field.mono _ _ _ _ _
      | exact LeO.none _
      | refine LeO.ite ?_ ?_
      | refine LeO.bind ?_ (fun _ => ?_)
set_option maxHeartbeats 8000000 in
set_option maxRecDepth 100000 in
theorem spec_RunGet.calls (k : Nat) (a0 : ByteArray) (a1 : Int) (a2 : Int) (a3 : Int) (r1 : List Int) (r2 : Int) (r3 : Bool) (w : World) (h : spec_RunGet.f k a0 a1 a2 a3 = some (r1, r2, r3)) :
    Calls Try.prog 53 #[.string a0, .int .i64 a1, .int .i64 a2, .int .i64 a3] w fun e w' => ∃ v0_ : Value, e = .returned (.tuple #[v0_, .int .i64 r2, .bool r3]) ∧ Kd.R (Kd.int .i64) 3 w' w.heap.size (fun _ => True) v0_ r1 ∧ Below w.heap.size w w' := by
  have HB := Aside0.mk (Below.refl w.heap.size w)
  have H : ((some (([] : List Int) : List Int)).bind fun y248 => ((spec_l1In.f a2 1 4).bind fun t251 => (if t251 = true then ((spec_l1In.f a3 0 1000).bind fun t252 => (if t252 = true then (if (a0.size : Int) > 9000 then (spec_RunGet.j0 k a0 a1 a2 a3 y248 true) else ((spec_l1In.f a1 0 (a0.size : Int)).bind fun t253 => (spec_RunGet.j0 k a0 a1 a2 a3 y248 (!t253)))) else (spec_RunGet.j0 k a0 a1 a2 a3 y248 true))) else (spec_RunGet.j0 k a0 a1 a2 a3 y248 true)))) = some (r1, r2, r3) := h
  clear h
  obtain ⟨y248, hy248⟩ : ∃ y_ : List Int, y_ = (([] : List Int)) := ⟨_, rfl⟩
  replace H : ((spec_l1In.f a2 1 4).bind fun t251 => (if t251 = true then ((spec_l1In.f a3 0 1000).bind fun t252 => (if t252 = true then (if (a0.size : Int) > 9000 then (spec_RunGet.j0 k a0 a1 a2 a3 y248 true) else ((spec_l1In.f a1 0 (a0.size : Int)).bind fun t253 => (spec_RunGet.j0 k a0 a1 a2 a3 y248 (!t253)))) else (spec_RunGet.j0 k a0 a1 a2 a3 y248 true))) else (spec_RunGet.j0 k a0 a1 a2 a3 y248 true))) = some (r1, r2, r3) := by first | (rw [hy248]; with_reducible exact H) | (have H2_ := (Option.bind_some _ _).symm.trans H; rw [hy248]; with_reducible exact H2_) | (have H2_ := (Option.bind_some _ _).symm.trans H; with_reducible exact H2_) | with_reducible exact H | (rw [hy248]; exact H) | exact H
  have Ny248 := Aside0.mk hy248
  clear hy248
  have HC5 := Aside0.mk H
  clear H
  go_enter Try.func53, Try.ntmps53
  go_upto_region 2 with (first | ((with_reducible refine gate_dst (N := 17) rfl ?_); (try (refine gate_guard (by rfl) ?_; dsimp only)); refine Kd.R_lit (Kd.int .i64) _ 3 ?hg (N := 17) ?hd (xs := ([] : List Int)) (inner := []) (ok := fun _ => True) (okp := fun _ => True) ?hr ?hp (fun _ hk => hk) trivial (Below.refl _ _) (Nat.le_refl _) (by simp) ?_; (case hd => rfl); (case hg => rfl); (case hr => first | (go_simp; done) | (go_simp; rfl)); (case hp => exact (Reps.none _ _)); intro v249 w6 ho7 hb hg_ hnew_; clear hg_ hnew_; (first | rw [← Ny248.out] at ho7 | (simp only [Int.reduceToNat] at ho7; rw [← Ny248.out] at ho7)); have n0_ := Aside0.mk (Kd.R_lower ho7 (below_size (by repeat (first | (with_reducible first | exact HB.out | apply below_alloc | apply pw_below_drewN | apply below_drew1) | exact HB.out)))); have n1_ := Aside0.mk (below_step (by repeat (first | (with_reducible first | exact HB.out | apply below_alloc | apply pw_below_drewN | apply below_drew1) | exact HB.out)) hb); clear HB; have HO250 := n0_; have HB := n1_; clear n0_ n1_; clear hb ho7))
  (try simp only [Act.put, List.setIfInBounds_toArray, List.set_cons_zero, List.set_cons_succ])
  go_cut [37] (fun v37 wc => ∃ (kq : Nat) (x37_4 : Bool), v37 = .bool x37_4 ∧ Aside0 (spec_RunGet.j0 kq a0 a1 a2 a3 y248 x37_4 = some (r1, r2, r3)) ∧ Aside0 (kq ≤ k) ∧ Aside0 (Kd.R (Kd.int .i64) 3 wc w.heap.size (fun _ => True) v249 y248) ∧ Aside0 (Below w.heap.size w wc))
  case first =>
    have H := HC5.out
    clear HC5
    replace H := Option.bind_eq_some_iff.mp H
    obtain ⟨t251, A80, H⟩ := H
    replace H : (if t251 = true then ((spec_l1In.f a3 0 1000).bind fun t252 => (if t252 = true then (if (a0.size : Int) > 9000 then (spec_RunGet.j0 k a0 a1 a2 a3 y248 true) else ((spec_l1In.f a1 0 (a0.size : Int)).bind fun t253 => (spec_RunGet.j0 k a0 a1 a2 a3 y248 (!t253)))) else (spec_RunGet.j0 k a0 a1 a2 a3 y248 true))) else (spec_RunGet.j0 k a0 a1 a2 a3 y248 true)) = some (r1, r2, r3) := H
    have A8 := Aside0.mk A80
    clear A80
    by_cases c9 : t251 = true
    · subst c9
      have H1 : ((spec_l1In.f a3 0 1000).bind fun t252 => (if t252 = true then (if (a0.size : Int) > 9000 then (spec_RunGet.j0 k a0 a1 a2 a3 y248 true) else ((spec_l1In.f a1 0 (a0.size : Int)).bind fun t253 => (spec_RunGet.j0 k a0 a1 a2 a3 y248 (!t253)))) else (spec_RunGet.j0 k a0 a1 a2 a3 y248 true))) = some (r1, r2, r3) := by rw [if_pos rfl] at H; exact H
      clear H
      have H := H1
      clear H1
      replace H := Option.bind_eq_some_iff.mp H
      obtain ⟨t252, A100, H⟩ := H
      replace H : (if t252 = true then (if (a0.size : Int) > 9000 then (spec_RunGet.j0 k a0 a1 a2 a3 y248 true) else ((spec_l1In.f a1 0 (a0.size : Int)).bind fun t253 => (spec_RunGet.j0 k a0 a1 a2 a3 y248 (!t253)))) else (spec_RunGet.j0 k a0 a1 a2 a3 y248 true)) = some (r1, r2, r3) := H
      have A10 := Aside0.mk A100
      clear A100
      by_cases c11 : t252 = true
      · subst c11
        have H1 : (if (a0.size : Int) > 9000 then (spec_RunGet.j0 k a0 a1 a2 a3 y248 true) else ((spec_l1In.f a1 0 (a0.size : Int)).bind fun t253 => (spec_RunGet.j0 k a0 a1 a2 a3 y248 (!t253)))) = some (r1, r2, r3) := by rw [if_pos rfl] at H; exact H
        clear H
        have H := H1
        clear H1
        by_cases c12 : (a0.size : Int) > 9000
        · rw [if_pos c12] at H
          have c12b0 : decide (9000 < (a0.size : Int)) = true := decide_eq_true c12
          have c12b1 : decide (9000 < a0.size) = true := decide_eq_true (by omega)
          clear c12
          (first | rw [c12b0] | (simp only [i64_w, i32_w]; rw [c12b0]) | skip)
          have H' := Aside0.mk H
          clear H
          go_wp2_with (first | ((with_reducible refine gate_callee (f := 71) rfl ?_); refine goesL_ (some 19) rfl rfl Try.func71 (by kernel_rfl) rfl #[.int .i64 a2, .int .i64 1, .int .i64 4] rfl (by (try simp only [List.map_toArray, List.map_cons, List.map_nil]); first | done | rfl | (simp only [List.length_drop, List.length_take]; rfl)) ?_; (with_reducible refine (spec_l1In.calls a2 1 4 true _ A8.out).mono ?_); rintro e w' ⟨rfl, ⟨nd, rfl⟩⟩; refine ⟨_, rfl, ?_⟩) | (go_at_call 71; (with_reducible refine (spec_l1In.calls a3 0 1000 true _ A10.out).mono ?_); rintro e w' ⟨rfl, ⟨nd, rfl⟩⟩))
          go_meet
          case rel => exact ⟨_, (true), (by first | rfl | (simp; done) | (simp [*]; done)), H', ⟨by first | omega | exact Nat.le_refl _⟩, ⟨by (with_reducible repeat (first | apply Kd.R_alloc | apply Kd.R_drewN | apply Kd.R_drew)); exact HO250.out⟩, ⟨by repeat (first | (with_reducible first | exact HB.out | apply below_alloc | apply pw_below_drewN | apply below_drew1) | exact HB.out)⟩⟩
        · rw [if_neg c12] at H
          have c12b0 : decide (9000 < (a0.size : Int)) = false := decide_eq_false c12
          have c12b1 : decide (9000 < a0.size) = false := decide_eq_false (by omega)
          clear c12
          (first | rw [c12b0] | (simp only [i64_w, i32_w]; rw [c12b0]) | skip)
          replace H := Option.bind_eq_some_iff.mp H
          obtain ⟨t253, A130, H⟩ := H
          replace H : (spec_RunGet.j0 k a0 a1 a2 a3 y248 (!t253)) = some (r1, r2, r3) := H
          have A13 := Aside0.mk A130
          clear A130
          have H' := Aside0.mk H
          clear H
          go_wp2_with (first | ((with_reducible refine gate_callee (f := 71) rfl ?_); refine goesL_ (some 19) rfl rfl Try.func71 (by kernel_rfl) rfl #[.int .i64 a2, .int .i64 1, .int .i64 4] rfl (by (try simp only [List.map_toArray, List.map_cons, List.map_nil]); first | done | rfl | (simp only [List.length_drop, List.length_take]; rfl)) ?_; (with_reducible refine (spec_l1In.calls a2 1 4 true _ A8.out).mono ?_); rintro e w' ⟨rfl, ⟨nd, rfl⟩⟩; refine ⟨_, rfl, ?_⟩) | (go_at_call 71; (with_reducible refine (spec_l1In.calls a3 0 1000 true _ A10.out).mono ?_); rintro e w' ⟨rfl, ⟨nd, rfl⟩⟩) | (go_at_call 71; (with_reducible refine (spec_l1In.calls a1 0 (a0.size : Int) t253 _ A13.out).mono ?_); rintro e w' ⟨rfl, ⟨nd, rfl⟩⟩))
          go_meet
          case rel => exact ⟨_, (!t253), (by first | rfl | (simp; done) | (simp [*]; done)), H', ⟨by first | omega | exact Nat.le_refl _⟩, ⟨by (with_reducible repeat (first | apply Kd.R_alloc | apply Kd.R_drewN | apply Kd.R_drew)); exact HO250.out⟩, ⟨by repeat (first | (with_reducible first | exact HB.out | apply below_alloc | apply pw_below_drewN | apply below_drew1) | exact HB.out)⟩⟩
      · replace c11 := Bool.eq_false_iff.mpr c11
        subst c11
        have H1 : (spec_RunGet.j0 k a0 a1 a2 a3 y248 true) = some (r1, r2, r3) := by rw [if_neg (show ¬ (false = true) by decide)] at H; exact H
        clear H
        have H := H1
        clear H1
        have H' := Aside0.mk H
        clear H
        go_wp2_with (first | ((with_reducible refine gate_callee (f := 71) rfl ?_); refine goesL_ (some 19) rfl rfl Try.func71 (by kernel_rfl) rfl #[.int .i64 a2, .int .i64 1, .int .i64 4] rfl (by (try simp only [List.map_toArray, List.map_cons, List.map_nil]); first | done | rfl | (simp only [List.length_drop, List.length_take]; rfl)) ?_; (with_reducible refine (spec_l1In.calls a2 1 4 true _ A8.out).mono ?_); rintro e w' ⟨rfl, ⟨nd, rfl⟩⟩; refine ⟨_, rfl, ?_⟩) | (go_at_call 71; (with_reducible refine (spec_l1In.calls a3 0 1000 false _ A10.out).mono ?_); rintro e w' ⟨rfl, ⟨nd, rfl⟩⟩))
        go_meet
        case rel => exact ⟨_, (true), (by first | rfl | (simp; done) | (simp [*]; done)), H', ⟨by first | omega | exact Nat.le_refl _⟩, ⟨by (with_reducible repeat (first | apply Kd.R_alloc | apply Kd.R_drewN | apply Kd.R_drew)); exact HO250.out⟩, ⟨by repeat (first | (with_reducible first | exact HB.out | apply below_alloc | apply pw_below_drewN | apply below_drew1) | exact HB.out)⟩⟩
    · replace c9 := Bool.eq_false_iff.mpr c9
      subst c9
      have H1 : (spec_RunGet.j0 k a0 a1 a2 a3 y248 true) = some (r1, r2, r3) := by rw [if_neg (show ¬ (false = true) by decide)] at H; exact H
      clear H
      have H := H1
      clear H1
      have H' := Aside0.mk H
      clear H
      go_wp2_with (first | ((with_reducible refine gate_callee (f := 71) rfl ?_); refine goesL_ (some 19) rfl rfl Try.func71 (by kernel_rfl) rfl #[.int .i64 a2, .int .i64 1, .int .i64 4] rfl (by (try simp only [List.map_toArray, List.map_cons, List.map_nil]); first | done | rfl | (simp only [List.length_drop, List.length_take]; rfl)) ?_; (with_reducible refine (spec_l1In.calls a2 1 4 false _ A8.out).mono ?_); rintro e w' ⟨rfl, ⟨nd, rfl⟩⟩; refine ⟨_, rfl, ?_⟩))
      go_meet
      case rel => exact ⟨_, (true), (by first | rfl | (simp; done) | (simp [*]; done)), H', ⟨by first | omega | exact Nat.le_refl _⟩, ⟨by (with_reducible repeat (first | apply Kd.R_alloc | apply Kd.R_drewN | apply Kd.R_drew)); exact HO250.out⟩, ⟨by repeat (first | (with_reducible first | exact HB.out | apply below_alloc | apply pw_below_drewN | apply below_drew1) | exact HB.out)⟩⟩
  case rest =>
    clear HC5
    try clear c1
    try clear p2
    try clear c5
    try clear c7
    try clear c9
    try clear c11
    try clear c12
    try clear c12b0
    try clear c12b1
    obtain ⟨kq, x37_4, rfl, HA, HJ4, HO_11, HB⟩ := hcut
    cases kq with
    | zero => exact absurd HA.out (by simp [spec_RunGet.j0])
    | succ kj4 =>
      have H := HA.out
      clear HA
      simp only [spec_RunGet.j0] at H
      by_cases c14 : x37_4 = true
      · subst c14
        have H1 : (some (y248, 0, false)) = some (r1, r2, r3) := by rw [if_pos rfl] at H; exact H
        clear H
        have H := H1
        clear H1
        simp only [Option.some.injEq, Prod.mk.injEq] at H
        obtain ⟨rfl, rfl, rfl⟩ := H
        go_wp2
        go_ret3
        exact ⟨_, by first | rfl | (simp [errW_none, errW_some] <;> rfl) | (simp [*, errW_none, errW_some] <;> rfl), by (with_reducible repeat (first | apply Kd.R_alloc | apply Kd.R_drewN | apply Kd.R_drew)); exact HO_11.out, by repeat (first | (with_reducible first | exact HB.out | apply below_alloc | apply pw_below_drewN | apply below_drew1) | exact HB.out)⟩
      · replace c14 := Bool.eq_false_iff.mpr c14
        subst c14
        have H1 : (spec_RunGet.l0 kj4 a0 a1 a2 a3 y248) = some (r1, r2, r3) := by rw [if_neg (show ¬ (false = true) by decide)] at H; exact H
        clear H
        have H := H1
        clear H1
        have H' := Aside0.mk H
        clear H
        go_wp2
        go_loopg [1, 11] kj4 (fun kq v1 v11 w' => ∃ (x1_2 : Int) (x11_2 : List Int), v1 = .int .i64 x1_2 ∧ Aside0 (spec_RunGet.l0 kq a0 x1_2 a2 a3 x11_2 = some (r1, r2, r3)) ∧ Aside0 (kq ≤ kj4) ∧ Aside0 (Kd.R (Kd.int .i64) 3 w' w.heap.size (fun _ => True) v11 x11_2) ∧ Aside0 (Below w.heap.size w w'))
        case atStart => exact ⟨(a1), (y248), (by first | rfl | (simp; done) | (simp [*]; done)), H', ⟨Nat.le_refl _⟩, ⟨by (with_reducible repeat (first | apply Kd.R_alloc | apply Kd.R_drewN | apply Kd.R_drew)); exact HO_11.out⟩, ⟨by repeat (first | (with_reducible first | exact HB.out | apply below_alloc | apply pw_below_drewN | apply below_drew1) | exact HB.out)⟩⟩
        case round =>
          clear H'
          try clear c1
          try clear p2
          try clear c5
          try clear c7
          try clear c9
          try clear c11
          try clear c12
          try clear c12b0
          try clear c12b1
          try clear c14
          try clear p2
          obtain ⟨x1_2, x11_2, rfl, HA, HK2, HO_11, HB⟩ := hrel
          cases gk with
          | zero => exact absurd HA.out (by simp [spec_RunGet.l0])
          | succ k2 =>
            have H := HA.out
            clear HA
            simp only [spec_RunGet.l0] at H
            by_cases c15 : (x11_2.length : Int) < a3
            · rw [if_pos c15] at H
              have c15b0 : decide ((x11_2.length : Int) < a3) = true := decide_eq_true c15
              clear c15
              by_cases c16 : x1_2 ≥ (a0.size : Int)
              · rw [if_pos c16] at H
                have c16b0 : decide ((a0.size : Int) ≤ x1_2) = true := decide_eq_true c16
                clear c16
                obtain ⟨y254, hy254⟩ : ∃ y_ : List Int, y_ = (([] : List Int)) := ⟨_, rfl⟩
                replace H : (some (y254, 0, false)) = some (r1, r2, r3) := by first | (rw [hy254]; with_reducible exact H) | (have H2_ := (Option.bind_some _ _).symm.trans H; rw [hy254]; with_reducible exact H2_) | (have H2_ := (Option.bind_some _ _).symm.trans H; with_reducible exact H2_) | with_reducible exact H | (rw [hy254]; exact H) | exact H
                have Ny254 := Aside0.mk hy254
                clear hy254
                simp only [Option.some.injEq, Prod.mk.injEq] at H
                obtain ⟨rfl, rfl, rfl⟩ := H
                obtain ⟨Ao17, co17, eo17⟩ := Kd.R_slice HO_11.out
                subst eo17
                go_wp2_with (first | ((with_reducible refine gate_dst (N := 47) rfl ?_); (try (refine gate_guard (by rfl) ?_; dsimp only)); refine Kd.R_lit (Kd.int .i64) _ 3 ?hg (N := 47) ?hd (xs := ([] : List Int)) (inner := []) (ok := fun _ => True) (okp := fun _ => True) ?hr ?hp (fun _ hk => hk) trivial (Below.refl _ _) (Nat.le_refl _) (by simp) ?_; (case hd => rfl); (case hg => rfl); (case hr => first | (go_simp; done) | (go_simp; rfl)); (case hp => exact (Reps.none _ _)); intro v255 w18 ho19 hb hg_ hnew_; clear hg_ hnew_; (first | rw [← Ny254.out] at ho19 | (simp only [Int.reduceToNat] at ho19; rw [← Ny254.out] at ho19)); have n0_ := Aside0.mk (Kd.R_elder' (by (with_reducible repeat (first | apply Kd.R_alloc | apply Kd.R_drewN | apply Kd.R_drew)); exact HO_11.out) (Kd.R_base ho19) hb); have n1_ := Aside0.mk (Kd.R_lower (Kd.R_new' ho19 (Kd.R_lt (by (with_reducible repeat (first | apply Kd.R_alloc | apply Kd.R_drewN | apply Kd.R_drew)); exact HO_11.out))) (below_size (by repeat (first | (with_reducible first | exact HB.out | apply below_alloc | apply pw_below_drewN | apply below_drew1) | exact HB.out)))); have n2_ := Aside0.mk (below_step (by repeat (first | (with_reducible first | exact HB.out | apply below_alloc | apply pw_below_drewN | apply below_drew1) | exact HB.out)) hb); clear HO_11; clear HB; have HO_11 := n0_; have HO256 := n1_; have HB := n2_; clear n0_ n1_ n2_; clear hb ho19))
                go_ret3
                exact ⟨_, by first | rfl | (simp [errW_none, errW_some] <;> rfl) | (simp [*, errW_none, errW_some] <;> rfl), by (with_reducible repeat (first | apply Kd.R_alloc | apply Kd.R_drewN | apply Kd.R_drew)); exact Kd.R_mono HO256.out (fun _ hk => trivial), by repeat (first | (with_reducible first | exact HB.out | apply below_alloc | apply pw_below_drewN | apply below_drew1) | exact HB.out)⟩
              · rw [if_neg c16] at H
                have c16b0 : decide ((a0.size : Int) ≤ x1_2) = false := decide_eq_false c16
                clear c16
                by_cases c20 : 0 ≤ x1_2
                · rw [if_pos c20] at H
                  have c20b0 : decide (0 ≤ x1_2) = true := decide_eq_true c20
                  clear c20
                  by_cases c21 : x1_2 < (a0.size : Int)
                  · rw [if_pos c21] at H
                    have c21b0 : decide (x1_2 < (a0.size : Int)) = true := decide_eq_true c21
                    clear c21
                    have HC24 := Aside0.mk H
                    clear H
                    obtain ⟨Ao25, co25, eo25⟩ := Kd.R_slice HO_11.out
                    subst eo25
                    have p22 : 0 ≤ (x1_2 : Int) := of_decide_eq_true (by first | (with_reducible assumption) | assumption)
                    have q22 : x1_2 < (a0.size : Int) := of_decide_eq_true (by first | (with_reducible assumption) | assumption)
                    have hx22 := bt_at a0 x1_2
                    replace p22 := eq_true p22
                    replace q22 := eq_true q22
                    have p23 : 0 ≤ (x1_2 : Int) := of_decide_eq_true (by first | (with_reducible assumption) | assumption)
                    have q23 : x1_2 < (a0.size : Int) := of_decide_eq_true (by first | (with_reducible assumption) | assumption)
                    have hx23 := bt_at a0 x1_2
                    replace p23 := eq_true p23
                    replace q23 := eq_true q23
                    go_upto_if 63 with (fail)
                    obtain ⟨bq_, hbq_⟩ : ∃ b_ : Bool, decide (128 ≤ bt a0 x1_2) = b_ := ⟨_, rfl⟩
                    rw [hbq_]
                    go_cut [14] (fun v14 wc => ∃ (kq : Nat) (x14_23 : Int), v14 = .int .i64 x14_23 ∧ Aside0 (spec_RunGet.j2 kq a0 (wrap64 (x1_2 + 1)) a2 a3 x11_2 (wrap64 ((Int.tmod (wrap64 (bt a0 x1_2)) 128) + 1)) (decide ((bt a0 x1_2) ≥ 128)) x14_23 = some (r1, r2, r3)) ∧ Aside0 (kq ≤ k2) ∧ Aside0 (Kd.R (Kd.int .i64) 3 wc w.heap.size (fun _ => True) (.slice Ao25 x11_2.length co25) x11_2) ∧ Aside0 (Below w.heap.size w wc))
                    case first =>
                      have H := HC24.out
                      clear HC24
                      by_cases c26 : (bt a0 x1_2) ≥ 128
                      · rw [if_pos c26] at H
                        have c26b0 : decide (128 ≤ (bt a0 x1_2)) = true := decide_eq_true c26
                        rw [c26b0] at hbq_
                        subst hbq_
                        clear c26
                        (first | rw [c26b0] | (simp only [i64_w, i32_w]; rw [c26b0]) | skip)
                        have H' := Aside0.mk H
                        clear H
                        go_wp2
                        go_meet
                        case rel => exact ⟨_, (a2), (by first | rfl | (simp; done) | (simp [*]; done)), H', ⟨by have := HJ4.out; have := HK2.out; first | omega | exact Nat.le_refl _⟩, ⟨by (with_reducible repeat (first | apply Kd.R_alloc | apply Kd.R_drewN | apply Kd.R_drew)); exact HO_11.out⟩, ⟨by repeat (first | (with_reducible first | exact HB.out | apply below_alloc | apply pw_below_drewN | apply below_drew1) | exact HB.out)⟩⟩
                      · rw [if_neg c26] at H
                        have c26b0 : decide (128 ≤ (bt a0 x1_2)) = false := decide_eq_false c26
                        rw [c26b0] at hbq_
                        subst hbq_
                        clear c26
                        (first | rw [c26b0] | (simp only [i64_w, i32_w]; rw [c26b0]) | skip)
                        have H' := Aside0.mk H
                        clear H
                        go_wp2
                        go_meet
                        case rel => exact ⟨_, (wrap64 ((wrap64 ((Int.tmod (wrap64 (bt a0 x1_2)) 128) + 1)) * a2)), (by first | rfl | (simp; done) | (simp [*]; done)), H', ⟨by have := HJ4.out; have := HK2.out; first | omega | exact Nat.le_refl _⟩, ⟨by (with_reducible repeat (first | apply Kd.R_alloc | apply Kd.R_drewN | apply Kd.R_drew)); exact HO_11.out⟩, ⟨by repeat (first | (with_reducible first | exact HB.out | apply below_alloc | apply pw_below_drewN | apply below_drew1) | exact HB.out)⟩⟩
                    case rest =>
                      clear HC24
                      try clear c1
                      try clear c2
                      try clear p2
                      try clear q2
                      try clear hx2
                      try clear c5
                      try clear p6
                      try clear c7
                      try clear c9
                      try clear c11
                      try clear c12
                      try clear c12b0
                      try clear c12b1
                      try clear c14
                      try clear c15
                      try clear c15b0
                      try clear c16
                      try clear c16b0
                      try clear c20
                      try clear c20b0
                      try clear c21
                      try clear c21b0
                      try clear p22
                      try clear q22
                      try clear hx22
                      try clear p23
                      try clear q23
                      try clear hx23
                      try clear c26
                      try clear c26b0
                      try clear p2
                      try clear p22
                      try clear p23
                      try clear q22
                      try clear q23
                      obtain ⟨kq, x14_23, rfl, HA, HJ23, HO_11, HB⟩ := hcut
                      have HA1_ := HA.out
                      clear HA
                      rw [show (decide ((bt a0 x1_2) ≥ 128)) = bq_ from hbq_] at HA1_
                      have HA := Aside0.mk HA1_
                      clear HA1_
                      clear hbq_
                      cases kq with
                      | zero => exact absurd HA.out (by simp [spec_RunGet.j2])
                      | succ kj23 =>
                        have H := HA.out
                        clear HA
                        simp only [spec_RunGet.j2] at H
                        have HC27 := Aside0.mk H
                        clear H
                        go_upto_region 13 with (fail)
                        go_cut [78] (fun v78 wc => ∃ (kq : Nat) (x78_26 : Bool), v78 = .bool x78_26 ∧ Aside0 (spec_RunGet.j3 kq a0 (wrap64 (x1_2 + 1)) a2 a3 x11_2 (wrap64 ((Int.tmod (wrap64 (bt a0 x1_2)) 128) + 1)) bq_ x14_23 x78_26 = some (r1, r2, r3)) ∧ Aside0 (kq ≤ kj23) ∧ Aside0 (Kd.R (Kd.int .i64) 3 wc w.heap.size (fun _ => True) (.slice Ao25 x11_2.length co25) x11_2) ∧ Aside0 (Below w.heap.size w wc))
                        case first =>
                          have H := HC27.out
                          clear HC27
                          by_cases c28 : (wrap64 ((wrap64 (x1_2 + 1)) + x14_23)) > (a0.size : Int)
                          · rw [if_pos c28] at H
                            have c28b0 : decide ((a0.size : Int) < (wrap64 ((wrap64 (x1_2 + 1)) + x14_23))) = true := decide_eq_true c28
                            clear c28
                            (first | rw [c28b0] | (simp only [i64_w, i32_w]; rw [c28b0]) | skip)
                            have H' := Aside0.mk H
                            clear H
                            go_wp2
                            go_meet
                            case rel => exact ⟨_, (true), (by first | rfl | (simp; done) | (simp [*]; done)), H', ⟨by have := HJ4.out; have := HK2.out; have := HJ23.out; first | omega | exact Nat.le_refl _⟩, ⟨by (with_reducible repeat (first | apply Kd.R_alloc | apply Kd.R_drewN | apply Kd.R_drew)); exact HO_11.out⟩, ⟨by repeat (first | (with_reducible first | exact HB.out | apply below_alloc | apply pw_below_drewN | apply below_drew1) | exact HB.out)⟩⟩
                          · rw [if_neg c28] at H
                            have c28b0 : decide ((a0.size : Int) < (wrap64 ((wrap64 (x1_2 + 1)) + x14_23))) = false := decide_eq_false c28
                            clear c28
                            (first | rw [c28b0] | (simp only [i64_w, i32_w]; rw [c28b0]) | skip)
                            have H' := Aside0.mk H
                            clear H
                            go_wp2
                            go_meet
                            case rel => exact ⟨_, (decide ((wrap64 ((x11_2.length : Int) + (wrap64 ((Int.tmod (wrap64 (bt a0 x1_2)) 128) + 1)))) > a3)), (by first | rfl | (simp; done) | (simp [*]; done)), H', ⟨by have := HJ4.out; have := HK2.out; have := HJ23.out; first | omega | exact Nat.le_refl _⟩, ⟨by (with_reducible repeat (first | apply Kd.R_alloc | apply Kd.R_drewN | apply Kd.R_drew)); exact HO_11.out⟩, ⟨by repeat (first | (with_reducible first | exact HB.out | apply below_alloc | apply pw_below_drewN | apply below_drew1) | exact HB.out)⟩⟩
                        case rest =>
                          clear HC27
                          try clear c1
                          try clear c2
                          try clear p2
                          try clear q2
                          try clear hx2
                          try clear c5
                          try clear p6
                          try clear c7
                          try clear c9
                          try clear c11
                          try clear c12
                          try clear c12b0
                          try clear c12b1
                          try clear c14
                          try clear c15
                          try clear c15b0
                          try clear c16
                          try clear c16b0
                          try clear c20
                          try clear c20b0
                          try clear c21
                          try clear c21b0
                          try clear p22
                          try clear q22
                          try clear hx22
                          try clear p23
                          try clear q23
                          try clear hx23
                          try clear c26
                          try clear c26b0
                          try clear c28
                          try clear c28b0
                          try clear p2
                          try clear p22
                          try clear p23
                          try clear p6
                          try clear q2
                          try clear q22
                          try clear q23
                          obtain ⟨kq, x78_26, rfl, HA, HJ26, HO_11, HB⟩ := hcut
                          cases kq with
                          | zero => exact absurd HA.out (by simp [spec_RunGet.j3])
                          | succ kj26 =>
                            have H := HA.out
                            clear HA
                            simp only [spec_RunGet.j3] at H
                            by_cases c29 : x78_26 = true
                            · subst c29
                              have H1 : (some ((([] : List Int)), 0, false)) = some (r1, r2, r3) := by rw [if_pos rfl] at H; exact H
                              clear H
                              have H := H1
                              clear H1
                              obtain ⟨y257, hy257⟩ : ∃ y_ : List Int, y_ = (([] : List Int)) := ⟨_, rfl⟩
                              replace H : (some (y257, 0, false)) = some (r1, r2, r3) := by first | (rw [hy257]; with_reducible exact H) | (have H2_ := (Option.bind_some _ _).symm.trans H; rw [hy257]; with_reducible exact H2_) | (have H2_ := (Option.bind_some _ _).symm.trans H; with_reducible exact H2_) | with_reducible exact H | (rw [hy257]; exact H) | exact H
                              have Ny257 := Aside0.mk hy257
                              clear hy257
                              simp only [Option.some.injEq, Prod.mk.injEq] at H
                              obtain ⟨rfl, rfl, rfl⟩ := H
                              go_wp2_with (first | ((with_reducible refine gate_dst (N := 79) rfl ?_); (try (refine gate_guard (by rfl) ?_; dsimp only)); refine Kd.R_lit (Kd.int .i64) _ 3 ?hg (N := 79) ?hd (xs := ([] : List Int)) (inner := []) (ok := fun _ => True) (okp := fun _ => True) ?hr ?hp (fun _ hk => hk) trivial (Below.refl _ _) (Nat.le_refl _) (by simp) ?_; (case hd => rfl); (case hg => rfl); (case hr => first | (go_simp; done) | (go_simp; rfl)); (case hp => exact (Reps.none _ _)); intro v258 w30 ho31 hb hg_ hnew_; clear hg_ hnew_; (first | rw [← Ny257.out] at ho31 | (simp only [Int.reduceToNat] at ho31; rw [← Ny257.out] at ho31)); have n0_ := Aside0.mk (Kd.R_elder' (by (with_reducible repeat (first | apply Kd.R_alloc | apply Kd.R_drewN | apply Kd.R_drew)); exact HO_11.out) (Kd.R_base ho31) hb); have n1_ := Aside0.mk (Kd.R_lower (Kd.R_new' ho31 (Kd.R_lt (by (with_reducible repeat (first | apply Kd.R_alloc | apply Kd.R_drewN | apply Kd.R_drew)); exact HO_11.out))) (below_size (by repeat (first | (with_reducible first | exact HB.out | apply below_alloc | apply pw_below_drewN | apply below_drew1) | exact HB.out)))); have n2_ := Aside0.mk (below_step (by repeat (first | (with_reducible first | exact HB.out | apply below_alloc | apply pw_below_drewN | apply below_drew1) | exact HB.out)) hb); clear HO_11; clear HB; have HO_11 := n0_; have HO259 := n1_; have HB := n2_; clear n0_ n1_ n2_; clear hb ho31))
                              go_ret3
                              exact ⟨_, by first | rfl | (simp [errW_none, errW_some] <;> rfl) | (simp [*, errW_none, errW_some] <;> rfl), by (with_reducible repeat (first | apply Kd.R_alloc | apply Kd.R_drewN | apply Kd.R_drew)); exact Kd.R_mono HO259.out (fun _ hk => trivial), by repeat (first | (with_reducible first | exact HB.out | apply below_alloc | apply pw_below_drewN | apply below_drew1) | exact HB.out)⟩
                            · replace c29 := Bool.eq_false_iff.mpr c29
                              subst c29
                              have H1 : (spec_RunGet.l1 kj26 a0 (wrap64 (x1_2 + 1)) a2 a3 x11_2 (wrap64 ((Int.tmod (wrap64 (bt a0 x1_2)) 128) + 1)) bq_ x14_23 0) = some (r1, r2, r3) := by rw [if_neg (show ¬ (false = true) by decide)] at H; exact H
                              clear H
                              have H := H1
                              clear H1
                              have H' := Aside0.mk H
                              clear H
                              go_wp2
                              go_loopg [11, 15] kj26 (fun kq v11 v15 w' => ∃ (x11_5 : List Int) (x15_5 : Int), v15 = .int .i64 x15_5 ∧ Aside0 (spec_RunGet.l1 kq a0 (wrap64 (x1_2 + 1)) a2 a3 x11_5 (wrap64 ((Int.tmod (wrap64 (bt a0 x1_2)) 128) + 1)) bq_ x14_23 x15_5 = some (r1, r2, r3)) ∧ Aside0 (kq ≤ kj26) ∧ Aside0 (Kd.R (Kd.int .i64) 3 w' w.heap.size (fun _ => True) v11 x11_5) ∧ Aside0 (Below w.heap.size w w'))
                              case atStart => exact ⟨(x11_2), (0), (by first | rfl | (simp; done) | (simp [*]; done)), H', ⟨Nat.le_refl _⟩, ⟨by (with_reducible repeat (first | apply Kd.R_alloc | apply Kd.R_drewN | apply Kd.R_drew)); exact HO_11.out⟩, ⟨by repeat (first | (with_reducible first | exact HB.out | apply below_alloc | apply pw_below_drewN | apply below_drew1) | exact HB.out)⟩⟩
                              case round =>
                                clear H'
                                try clear c1
                                try clear c2
                                try clear p2
                                try clear q2
                                try clear hx2
                                try clear c5
                                try clear p6
                                try clear c7
                                try clear c9
                                try clear c11
                                try clear c12
                                try clear c12b0
                                try clear c12b1
                                try clear c14
                                try clear c15
                                try clear c15b0
                                try clear c16
                                try clear c16b0
                                try clear c20
                                try clear c20b0
                                try clear c21
                                try clear c21b0
                                try clear p22
                                try clear q22
                                try clear hx22
                                try clear p23
                                try clear q23
                                try clear hx23
                                try clear c26
                                try clear c26b0
                                try clear c28
                                try clear c28b0
                                try clear c29
                                try clear p2
                                try clear p22
                                try clear p23
                                try clear p6
                                try clear q2
                                try clear q22
                                try clear q23
                                obtain ⟨x11_5, x15_5, rfl, HA, HK5, HO_11, HB⟩ := hrel
                                cases gk with
                                | zero => exact absurd HA.out (by simp [spec_RunGet.l1])
                                | succ k5 =>
                                  have H := HA.out
                                  clear HA
                                  simp only [spec_RunGet.l1] at H
                                  by_cases c32 : x15_5 < (wrap64 ((Int.tmod (wrap64 (bt a0 x1_2)) 128) + 1))
                                  · rw [if_pos c32] at H
                                    have c32b0 : decide (x15_5 < (wrap64 ((Int.tmod (wrap64 (bt a0 x1_2)) 128) + 1))) = true := decide_eq_true c32
                                    clear c32
                                    by_cases c33 : bq_ = true
                                    · rw [if_pos c33] at H
                                      have c33b0 : bq_ = true := c33
                                      clear c33
                                      subst c33b0
                                      replace H := Option.bind_eq_some_iff.mp H
                                      obtain ⟨t260, A340, H⟩ := H
                                      replace H : (if x11_5.length < 17592186044416 then (spec_RunGet.l1 k5 a0 (wrap64 (x1_2 + 1)) a2 a3 (x11_5 ++ [t260]) (wrap64 ((Int.tmod (wrap64 (bt a0 x1_2)) 128) + 1)) true x14_23 (wrap64 (x15_5 + 1))) else (none)) = some (r1, r2, r3) := H
                                      have A34 := Aside0.mk A340
                                      clear A340
                                      by_cases c35 : x11_5.length < 17592186044416
                                      · rw [if_pos c35] at H
                                        have LMc35 := Aside0.mk c35
                                        clear c35
                                        obtain ⟨y261, hy261⟩ : ∃ y_ : List Int, y_ = (x11_5 ++ [t260]) := ⟨_, rfl⟩
                                        replace H : (spec_RunGet.l1 k5 a0 (wrap64 (x1_2 + 1)) a2 a3 y261 (wrap64 ((Int.tmod (wrap64 (bt a0 x1_2)) 128) + 1)) true x14_23 (wrap64 (x15_5 + 1))) = some (r1, r2, r3) := by first | (rw [hy261]; with_reducible exact H) | (have H2_ := (Option.bind_some _ _).symm.trans H; rw [hy261]; with_reducible exact H2_) | (have H2_ := (Option.bind_some _ _).symm.trans H; with_reducible exact H2_) | with_reducible exact H | (rw [hy261]; exact H) | exact H
                                        have Ny261 := Aside0.mk hy261
                                        clear hy261
                                        have H' := Aside0.mk H
                                        clear H
                                        go_wp2_with (first | ((with_reducible refine gate_callee (f := 79) rfl ?_); refine goesL_ (some 97) rfl rfl Try.func79 (by kernel_rfl) rfl #[.string a0, .int .i64 (wrap64 (x1_2 + 1)), .int .i64 a2, .bool false] rfl (by (try simp only [List.map_toArray, List.map_cons, List.map_nil]); first | done | rfl | (simp only [List.length_drop, List.length_take]; rfl)) ?_; (with_reducible refine (spec_l1Field.calls k5 a0 (wrap64 (x1_2 + 1)) a2 false t260 _ A34.out).mono ?_); rintro e w' ⟨rfl, ⟨nd, rfl⟩⟩; refine ⟨_, rfl, ?_⟩) | ((with_reducible refine gate_builtin (b := .append) (xs := #[.tmp 93, .tmp 98]) rfl ?_); (try (refine gate_guard (by rfl) ?_; dsimp only)); at_builtin; refine Kd.R_append (Kd.int .i64) (w0 := w) w.heap.size rfl (.tmp 93) (.tmp 98) 51 3 (.int .i64 0) 8 rfl Try.underlying51 info3 rfl (by decide) (by omega) u11 x11_5 t260 [.int .i64 t260] (fun _ => True) (fun _ => False) rfl rfl ?aP (fun _ hk => hk.elim) ?aF ?aO ?aB ?aS ?aL ?_; (case aP => exact rfl); (case aB => exact (by repeat (first | (with_reducible first | exact HB.out | apply below_alloc | apply pw_below_drewN | apply below_drew1) | exact HB.out))); (case aF => exact (fun _ _ => trivial)); (case aO => exact (by (with_reducible repeat (first | apply Kd.R_alloc | apply Kd.R_drewN | apply Kd.R_drew)); exact HO_11.out)); (case aS => exact (below_size (by repeat (first | (with_reducible first | exact HB.out | apply below_alloc | apply pw_below_drewN | apply below_drew1) | exact HB.out)))); (case aL => have := LMc35.out; omega); intro v262 w36 ho hb hg hat; rw [← Ny261.out] at ho; have n0_ := Aside0.mk (hb); have n1_ := Aside0.mk (ho); clear HB; clear HO_11; have HB := n0_; have HO263 := n1_; clear n0_ n1_; clear ho hb hg hat))
                                        go_roundg k5
                                        case measure => have := HJ4.out; have := HK2.out; have := HJ23.out; have := HJ26.out; have := HK5.out; omega
                                        case rel => exact ⟨(y261), (wrap64 (x15_5 + 1)), (by first | rfl | (simp; done) | (simp [*]; done)), H', ⟨by have := HJ4.out; have := HK2.out; have := HJ23.out; have := HJ26.out; have := HK5.out; omega⟩, ⟨by (with_reducible repeat (first | apply Kd.R_alloc | apply Kd.R_drewN | apply Kd.R_drew)); exact HO263.out⟩, ⟨by repeat (first | (with_reducible first | exact HB.out | apply below_alloc | apply pw_below_drewN | apply below_drew1) | exact HB.out)⟩⟩
                                      · rw [if_neg c35] at H
                                        exact absurd H (by simp)
                                    · rw [if_neg c33] at H
                                      have c33b0 : bq_ = false := by simpa using c33
                                      subst c33b0
                                      clear c33
                                      replace H := Option.bind_eq_some_iff.mp H
                                      obtain ⟨t264, A370, H⟩ := H
                                      replace H : (if x11_5.length < 17592186044416 then (spec_RunGet.l1 k5 a0 (wrap64 (x1_2 + 1)) a2 a3 (x11_5 ++ [t264]) (wrap64 ((Int.tmod (wrap64 (bt a0 x1_2)) 128) + 1)) false x14_23 (wrap64 (x15_5 + 1))) else (none)) = some (r1, r2, r3) := H
                                      have A37 := Aside0.mk A370
                                      clear A370
                                      by_cases c38 : x11_5.length < 17592186044416
                                      · rw [if_pos c38] at H
                                        have LMc38 := Aside0.mk c38
                                        clear c38
                                        obtain ⟨y265, hy265⟩ : ∃ y_ : List Int, y_ = (x11_5 ++ [t264]) := ⟨_, rfl⟩
                                        replace H : (spec_RunGet.l1 k5 a0 (wrap64 (x1_2 + 1)) a2 a3 y265 (wrap64 ((Int.tmod (wrap64 (bt a0 x1_2)) 128) + 1)) false x14_23 (wrap64 (x15_5 + 1))) = some (r1, r2, r3) := by first | (rw [hy265]; with_reducible exact H) | (have H2_ := (Option.bind_some _ _).symm.trans H; rw [hy265]; with_reducible exact H2_) | (have H2_ := (Option.bind_some _ _).symm.trans H; with_reducible exact H2_) | with_reducible exact H | (rw [hy265]; exact H) | exact H
                                        have Ny265 := Aside0.mk hy265
                                        clear hy265
                                        have H' := Aside0.mk H
                                        clear H
                                        go_wp2_with (first | ((with_reducible refine gate_callee (f := 79) rfl ?_); refine goesL_ (some 97) rfl rfl Try.func79 (by kernel_rfl) rfl #[.string a0, .int .i64 (wrap64 ((wrap64 (x1_2 + 1)) + (wrap64 (x15_5 * a2)))), .int .i64 a2, .bool false] rfl (by (try simp only [List.map_toArray, List.map_cons, List.map_nil]); first | done | rfl | (simp only [List.length_drop, List.length_take]; rfl)) ?_; (with_reducible refine (spec_l1Field.calls k5 a0 (wrap64 ((wrap64 (x1_2 + 1)) + (wrap64 (x15_5 * a2)))) a2 false t264 _ A37.out).mono ?_); rintro e w' ⟨rfl, ⟨nd, rfl⟩⟩; refine ⟨_, rfl, ?_⟩) | ((with_reducible refine gate_builtin (b := .append) (xs := #[.tmp 93, .tmp 98]) rfl ?_); (try (refine gate_guard (by rfl) ?_; dsimp only)); at_builtin; refine Kd.R_append (Kd.int .i64) (w0 := w) w.heap.size rfl (.tmp 93) (.tmp 98) 51 3 (.int .i64 0) 8 rfl Try.underlying51 info3 rfl (by decide) (by omega) u11 x11_5 t264 [.int .i64 t264] (fun _ => True) (fun _ => False) rfl rfl ?aP (fun _ hk => hk.elim) ?aF ?aO ?aB ?aS ?aL ?_; (case aP => exact rfl); (case aB => exact (by repeat (first | (with_reducible first | exact HB.out | apply below_alloc | apply pw_below_drewN | apply below_drew1) | exact HB.out))); (case aF => exact (fun _ _ => trivial)); (case aO => exact (by (with_reducible repeat (first | apply Kd.R_alloc | apply Kd.R_drewN | apply Kd.R_drew)); exact HO_11.out)); (case aS => exact (below_size (by repeat (first | (with_reducible first | exact HB.out | apply below_alloc | apply pw_below_drewN | apply below_drew1) | exact HB.out)))); (case aL => have := LMc38.out; omega); intro v266 w39 ho hb hg hat; rw [← Ny265.out] at ho; have n0_ := Aside0.mk (hb); have n1_ := Aside0.mk (ho); clear HB; clear HO_11; have HB := n0_; have HO267 := n1_; clear n0_ n1_; clear ho hb hg hat))
                                        go_roundg k5
                                        case measure => have := HJ4.out; have := HK2.out; have := HJ23.out; have := HJ26.out; have := HK5.out; omega
                                        case rel => exact ⟨(y265), (wrap64 (x15_5 + 1)), (by first | rfl | (simp; done) | (simp [*]; done)), H', ⟨by have := HJ4.out; have := HK2.out; have := HJ23.out; have := HJ26.out; have := HK5.out; omega⟩, ⟨by (with_reducible repeat (first | apply Kd.R_alloc | apply Kd.R_drewN | apply Kd.R_drew)); exact HO267.out⟩, ⟨by repeat (first | (with_reducible first | exact HB.out | apply below_alloc | apply pw_below_drewN | apply below_drew1) | exact HB.out)⟩⟩
                                      · rw [if_neg c38] at H
                                        exact absurd H (by simp)
                                  · rw [if_neg c32] at H
                                    have c32b0 : decide (x15_5 < (wrap64 ((Int.tmod (wrap64 (bt a0 x1_2)) 128) + 1))) = false := decide_eq_false c32
                                    clear c32
                                    have H' := Aside0.mk H
                                    clear H
                                    go_wp2
                                    go_roundg k5
                                    case measure => have := HJ4.out; have := HK2.out; have := HJ23.out; have := HJ26.out; have := HK5.out; omega
                                    case rel => exact ⟨(wrap64 ((wrap64 (x1_2 + 1)) + x14_23)), (x11_5), (by first | rfl | (simp; done) | (simp [*]; done)), H', ⟨by have := HJ4.out; have := HK2.out; have := HJ23.out; have := HJ26.out; have := HK5.out; omega⟩, ⟨by (with_reducible repeat (first | apply Kd.R_alloc | apply Kd.R_drewN | apply Kd.R_drew)); exact HO_11.out⟩, ⟨by repeat (first | (with_reducible first | exact HB.out | apply below_alloc | apply pw_below_drewN | apply below_drew1) | exact HB.out)⟩⟩
                  · rw [if_neg c21] at H
                    exact absurd H (by simp)
                · rw [if_neg c20] at H
                  exact absurd H (by simp)
            · rw [if_neg c15] at H
              have c15b0 : decide ((x11_2.length : Int) < a3) = false := decide_eq_false c15
              clear c15
              simp only [Option.some.injEq, Prod.mk.injEq] at H
              obtain ⟨rfl, rfl, rfl⟩ := H
              obtain ⟨Ao40, co40, eo40⟩ := Kd.R_slice HO_11.out
              subst eo40
              go_wp2
              go_ret3
              exact ⟨_, by first | rfl | (simp [errW_none, errW_some] <;> rfl) | (simp [*, errW_none, errW_some] <;> rfl), by (with_reducible repeat (first | apply Kd.R_alloc | apply Kd.R_drewN | apply Kd.R_drew)); exact HO_11.out, by repeat (first | (with_reducible first | exact HB.out | apply below_alloc | apply pw_below_drewN | apply below_drew1) | exact HB.out)⟩

end Go.Proofs.Ytfladcffgblfdaa.PFnRunGet
