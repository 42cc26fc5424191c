/- What the functions that the law comes to compute, as plain functions, and that the machine's calls come to just that: written by a program for this claim, and turned where Lean did not take it. No condition. -/
import Derived.Test.YtpjkcdgamlllgaaHFnAdlerMorex0
import Derived.Test.YtpjkcdgamlllgaaHFnAdlerMorex1
namespace Go.Proofs.Ytpjkcdgamlllgaa.PFnAdlerMore
open Go.RowKit Go.Proofs.YtpjkcdgamlllgaaW.PrintWords Go.Proofs.YtpjkcdgamlllgaaW.PrintLast Go.Proofs.YtpjkcdgamlllgaaW.PrintMore
attribute [local go_sem] max2_int min2_int max_two min_two max_three min_three max_four min_four   -- for this text's walks alone
set_option linter.unusedVariables false
set_option linter.unusedSimpArgs false

/-! ### spec_AdlerMore: function 56 -/
mutual
def spec_AdlerMore.j0 : Nat → ByteArray → Int → Int → Bool → Option (Int)
  | 0, _, _, _, _ => none
  | k + 1, x1, x5, x6, x27 => if x27 = true then (some 0) else (spec_AdlerMore.l0 k x1 x5 x6 0)
def spec_AdlerMore.l0 : Nat → ByteArray → Int → Int → Int → Option (Int)
  | 0, _, _, _, _ => none
  | k + 1, x1, x5, x6, x7 => if x7 < (x1.size : Int) then (if 0 ≤ x7 then (spec_AdlerMore.l0 k x1 (Int.tmod (wrap64 (x5 + (wrap64 (bt x1 x7)))) 65521) (Int.tmod (wrap64 (x6 + (Int.tmod (wrap64 (x5 + (wrap64 (bt x1 x7)))) 65521))) 65521) (wrap64 (x7 + 1))) else (none)) else (some (wrap64 ((wrap64 (x6 * 65536)) + x5)))
end
def spec_AdlerMore.f (k : Nat) (a0 : Int) (a1 : ByteArray) : Option (Int) := (spec_l1In.f a0 0 4294967295).bind fun t144 => (if t144 = true then (if (Int.tmod a0 65536) > 65520 then (spec_AdlerMore.j0 k a1 (Int.tmod a0 65536) (wrap64 (Int.tdiv a0 65536)) true) else (if (wrap64 (Int.tdiv a0 65536)) > 65520 then (spec_AdlerMore.j0 k a1 (Int.tmod a0 65536) (wrap64 (Int.tdiv a0 65536)) true) else (spec_AdlerMore.j0 k a1 (Int.tmod a0 65536) (wrap64 (Int.tdiv a0 65536)) (decide ((a1.size : Int) > 9000))))) else (spec_AdlerMore.j0 k a1 (Int.tmod a0 65536) (wrap64 (Int.tdiv a0 65536)) true))
theorem spec_AdlerMore.mono_l : ∀ k, (∀ y0 y1 y2 y3, LeO (spec_AdlerMore.j0 k y0 y1 y2 y3) (spec_AdlerMore.j0 (k + 1) y0 y1 y2 y3)) ∧ (∀ y0 y1 y2 y3, LeO (spec_AdlerMore.l0 k y0 y1 y2 y3) (spec_AdlerMore.l0 (k + 1) y0 y1 y2 y3))
  | 0 => ⟨fun _ _ _ _ r h => by simp [spec_AdlerMore.j0] at h, fun _ _ _ _ r h => by simp [spec_AdlerMore.l0] at h⟩
  | k + 1 => by
    obtain ⟨ih0, ih1⟩ := spec_AdlerMore.mono_l k
    refine ⟨?_, ?_⟩
    · intro y0 y1 y2 y3
      unfold spec_AdlerMore.j0
      repeat' first
      | (with_reducible exact ih0 _ _ _ _)
      | (with_reducible exact ih1 _ _ _ _)
      | (with_reducible exact LeO.refl _)
      | (with_reducible exact LeO.none _)
      | (with_reducible refine LeO.ite ?_ ?_)
      | (with_reducible refine LeO.bind ?_ (fun _ => ?_))
      | exact ih0 _ _ _ _
      | exact ih1 _ _ _ _
      | exact LeO.none _
      | refine LeO.ite ?_ ?_
      | refine LeO.bind ?_ (fun _ => ?_)
    · intro y0 y1 y2 y3
      unfold spec_AdlerMore.l0
      repeat' first
      | (with_reducible exact ih0 _ _ _ _)
      | (with_reducible exact ih1 _ _ _ _)
      | (with_reducible exact LeO.refl _)
      | (with_reducible exact LeO.none _)
      | (with_reducible refine LeO.ite ?_ ?_)
      | (with_reducible refine LeO.bind ?_ (fun _ => ?_))
      | exact ih0 _ _ _ _
      | exact ih1 _ _ _ _
      | exact LeO.none _
      | refine LeO.ite ?_ ?_
      | refine LeO.bind ?_ (fun _ => ?_)
theorem spec_AdlerMore.mono : ∀ a0 a1 k, LeO (spec_AdlerMore.f k a0 a1) (spec_AdlerMore.f (k + 1) a0 a1) := by
  intro a0 a1 k
  obtain ⟨ih0, ih1⟩ := spec_AdlerMore.mono_l k
  unfold spec_AdlerMore.f
  repeat' first
      | (with_reducible exact ih0 _ _ _ _)
      | (with_reducible exact ih1 _ _ _ _)
      | (with_reducible exact LeO.refl _)
      | (with_reducible exact LeO.none _)
      | (with_reducible refine LeO.ite ?_ ?_)
      | (with_reducible refine LeO.bind ?_ (fun _ => ?_))
      | exact ih0 _ _ _ _
      | exact ih1 _ _ _ _
      | exact LeO.none _
      | refine LeO.ite ?_ ?_
      | refine LeO.bind ?_ (fun _ => ?_)
set_option maxHeartbeats 8000000 in
set_option maxRecDepth 100000 in
theorem spec_AdlerMore.calls (k : Nat) (a0 : Int) (a1 : ByteArray) (r : Int) (w : World) (h : spec_AdlerMore.f k a0 a1 = some r) :
    Calls Try.prog 56 #[.int .i64 a0, .string a1] w fun e w' => e = .returned (.int .i64 r) ∧ Drawn0 w w' := by
  have H : ((spec_l1In.f a0 0 4294967295).bind fun t144 => (if t144 = true then (if (Int.tmod a0 65536) > 65520 then (spec_AdlerMore.j0 k a1 (Int.tmod a0 65536) (wrap64 (Int.tdiv a0 65536)) true) else (if (wrap64 (Int.tdiv a0 65536)) > 65520 then (spec_AdlerMore.j0 k a1 (Int.tmod a0 65536) (wrap64 (Int.tdiv a0 65536)) true) else (spec_AdlerMore.j0 k a1 (Int.tmod a0 65536) (wrap64 (Int.tdiv a0 65536)) (decide ((a1.size : Int) > 9000))))) else (spec_AdlerMore.j0 k a1 (Int.tmod a0 65536) (wrap64 (Int.tdiv a0 65536)) true))) = some r := h
  clear h
  have HC3 := Aside0.mk H
  clear H
  go_enter Try.func56, Try.ntmps56
  go_upto_region 3 with (fail)
  go_cut [27] (fun v27 wc => ∃ (kq : Nat) (x27_2 : Bool), v27 = .bool x27_2 ∧ Aside0 (spec_AdlerMore.j0 kq a1 (Int.tmod a0 65536) (wrap64 (Int.tdiv a0 65536)) x27_2 = some r) ∧ Aside0 (kq ≤ k) ∧ Drawn0 w wc)
  case first =>
    have H := HC3.out
    clear HC3
    replace H := Option.bind_eq_some_iff.mp H
    obtain ⟨t144, A40, H⟩ := H
    replace H : (if t144 = true then (if (Int.tmod a0 65536) > 65520 then (spec_AdlerMore.j0 k a1 (Int.tmod a0 65536) (wrap64 (Int.tdiv a0 65536)) true) else (if (wrap64 (Int.tdiv a0 65536)) > 65520 then (spec_AdlerMore.j0 k a1 (Int.tmod a0 65536) (wrap64 (Int.tdiv a0 65536)) true) else (spec_AdlerMore.j0 k a1 (Int.tmod a0 65536) (wrap64 (Int.tdiv a0 65536)) (decide ((a1.size : Int) > 9000))))) else (spec_AdlerMore.j0 k a1 (Int.tmod a0 65536) (wrap64 (Int.tdiv a0 65536)) true)) = some r := H
    have A4 := Aside0.mk A40
    clear A40
    by_cases c5 : t144 = true
    · subst c5
      have H1 : (if (Int.tmod a0 65536) > 65520 then (spec_AdlerMore.j0 k a1 (Int.tmod a0 65536) (wrap64 (Int.tdiv a0 65536)) true) else (if (wrap64 (Int.tdiv a0 65536)) > 65520 then (spec_AdlerMore.j0 k a1 (Int.tmod a0 65536) (wrap64 (Int.tdiv a0 65536)) true) else (spec_AdlerMore.j0 k a1 (Int.tmod a0 65536) (wrap64 (Int.tdiv a0 65536)) (decide ((a1.size : Int) > 9000))))) = some r := by rw [if_pos rfl] at H; exact H
      clear H
      have H := H1
      clear H1
      by_cases c6 : (Int.tmod a0 65536) > 65520
      · rw [if_pos c6] at H
        have c6b0 : decide (65520 < (Int.tmod a0 65536)) = true := decide_eq_true c6
        clear c6
        (first | rw [c6b0] | (simp only [i64_w, i32_w]; rw [c6b0]) | skip)
        have H' := Aside0.mk H
        clear H
        go_wp2_with (first | ((with_reducible refine gate_callee (f := 57) rfl ?_); refine goesL_ (some 13) rfl rfl Try.func57 (by kernel_rfl) rfl #[.int .i64 a0, .int .i64 0, .int .i64 4294967295] rfl (by (try simp only [List.map_toArray, List.map_cons, List.map_nil]); first | done | rfl | (simp only [List.length_drop, List.length_take]; rfl)) ?_; (with_reducible refine (spec_l1In.calls a0 0 4294967295 true _ A4.out).mono ?_); rintro e w' ⟨rfl, ⟨nd, rfl⟩⟩; refine ⟨_, rfl, ?_⟩))
        go_meet
        case rel => exact ⟨_, (true), (by first | rfl | (simp; done) | (simp [*]; done)), H', ⟨by first | omega | exact Nat.le_refl _⟩, by repeat (first | exact Drawn0.refl _ | apply Drawn0.step)⟩
      · rw [if_neg c6] at H
        have c6b0 : decide (65520 < (Int.tmod a0 65536)) = false := decide_eq_false c6
        clear c6
        (first | rw [c6b0] | (simp only [i64_w, i32_w]; rw [c6b0]) | skip)
        by_cases c7 : (wrap64 (Int.tdiv a0 65536)) > 65520
        · rw [if_pos c7] at H
          have c7b0 : decide (65520 < (wrap64 (Int.tdiv a0 65536))) = true := decide_eq_true c7
          clear c7
          have H' := Aside0.mk H
          clear H
          go_wp2_with (first | ((with_reducible refine gate_callee (f := 57) rfl ?_); refine goesL_ (some 13) rfl rfl Try.func57 (by kernel_rfl) rfl #[.int .i64 a0, .int .i64 0, .int .i64 4294967295] rfl (by (try simp only [List.map_toArray, List.map_cons, List.map_nil]); first | done | rfl | (simp only [List.length_drop, List.length_take]; rfl)) ?_; (with_reducible refine (spec_l1In.calls a0 0 4294967295 true _ A4.out).mono ?_); rintro e w' ⟨rfl, ⟨nd, rfl⟩⟩; refine ⟨_, rfl, ?_⟩))
          go_meet
          case rel => exact ⟨_, (true), (by first | rfl | (simp; done) | (simp [*]; done)), H', ⟨by first | omega | exact Nat.le_refl _⟩, by repeat (first | exact Drawn0.refl _ | apply Drawn0.step)⟩
        · rw [if_neg c7] at H
          have c7b0 : decide (65520 < (wrap64 (Int.tdiv a0 65536))) = false := decide_eq_false c7
          clear c7
          have H' := Aside0.mk H
          clear H
          go_wp2_with (first | ((with_reducible refine gate_callee (f := 57) rfl ?_); refine goesL_ (some 13) rfl rfl Try.func57 (by kernel_rfl) rfl #[.int .i64 a0, .int .i64 0, .int .i64 4294967295] rfl (by (try simp only [List.map_toArray, List.map_cons, List.map_nil]); first | done | rfl | (simp only [List.length_drop, List.length_take]; rfl)) ?_; (with_reducible refine (spec_l1In.calls a0 0 4294967295 true _ A4.out).mono ?_); rintro e w' ⟨rfl, ⟨nd, rfl⟩⟩; refine ⟨_, rfl, ?_⟩))
          go_meet
          case rel => exact ⟨_, (decide ((a1.size : Int) > 9000)), (by first | rfl | (simp; done) | (simp [*]; done)), H', ⟨by first | omega | exact Nat.le_refl _⟩, by repeat (first | exact Drawn0.refl _ | apply Drawn0.step)⟩
    · replace c5 := Bool.eq_false_iff.mpr c5
      subst c5
      have H1 : (spec_AdlerMore.j0 k a1 (Int.tmod a0 65536) (wrap64 (Int.tdiv a0 65536)) true) = some r := by rw [if_neg (show ¬ (false = true) by decide)] at H; exact H
      clear H
      have H := H1
      clear H1
      have H' := Aside0.mk H
      clear H
      go_wp2_with (first | ((with_reducible refine gate_callee (f := 57) rfl ?_); refine goesL_ (some 13) rfl rfl Try.func57 (by kernel_rfl) rfl #[.int .i64 a0, .int .i64 0, .int .i64 4294967295] rfl (by (try simp only [List.map_toArray, List.map_cons, List.map_nil]); first | done | rfl | (simp only [List.length_drop, List.length_take]; rfl)) ?_; (with_reducible refine (spec_l1In.calls a0 0 4294967295 false _ A4.out).mono ?_); rintro e w' ⟨rfl, ⟨nd, rfl⟩⟩; refine ⟨_, rfl, ?_⟩))
      go_meet
      case rel => exact ⟨_, (true), (by first | rfl | (simp; done) | (simp [*]; done)), H', ⟨by first | omega | exact Nat.le_refl _⟩, by repeat (first | exact Drawn0.refl _ | apply Drawn0.step)⟩
  case rest =>
    clear HC3
    try clear p2
    try clear c5
    try clear c6
    try clear c6b0
    try clear p6
    try clear c7
    try clear c7b0
    obtain ⟨kq, x27_2, rfl, HA, HJ2, ⟨mc2, rfl⟩⟩ := hcut
    cases kq with
    | zero => exact absurd HA.out (by simp [spec_AdlerMore.j0])
    | succ kj2 =>
      have H := HA.out
      clear HA
      simp only [spec_AdlerMore.j0] at H
      by_cases c8 : x27_2 = true
      · subst c8
        have H1 : (some 0) = some r := by rw [if_pos rfl] at H; exact H
        clear H
        have H := H1
        clear H1
        obtain rfl := Option.some.inj H
        go_wp2
        go_ret
        exact ⟨by first | rfl | (simp; done) | (simp [*]; done), by repeat (first | exact Drawn0.refl _ | apply Drawn0.step)⟩
      · replace c8 := Bool.eq_false_iff.mpr c8
        subst c8
        have H1 : (spec_AdlerMore.l0 kj2 a1 (Int.tmod a0 65536) (wrap64 (Int.tdiv a0 65536)) 0) = some r := by rw [if_neg (show ¬ (false = true) by decide)] at H; exact H
        clear H
        have H := H1
        clear H1
        have H' := Aside0.mk H
        clear H
        go_wp2
        go_loopg [5, 6, 7] kj2 (fun kq v5 v6 v7 w' => ∃ (x5_2 : Int) (x6_2 : Int) (x7_2 : Int), v5 = .int .i64 x5_2 ∧ v6 = .int .i64 x6_2 ∧ v7 = .int .i64 x7_2 ∧ Aside0 (spec_AdlerMore.l0 kq a1 x5_2 x6_2 x7_2 = some r) ∧ Aside0 (kq ≤ kj2) ∧ Drawn0 w w')
        case atStart => exact ⟨((Int.tmod a0 65536)), ((wrap64 (Int.tdiv a0 65536))), (0), (by first | rfl | (simp; done) | (simp [*]; done)), (by first | rfl | (simp; done) | (simp [*]; done)), (by first | rfl | (simp; done) | (simp [*]; done)), H', ⟨Nat.le_refl _⟩, by repeat (first | exact Drawn0.refl _ | apply Drawn0.step)⟩
        case round =>
          clear H'
          try clear c2
          try clear p2
          try clear c5
          try clear c6
          try clear c6b0
          try clear p6
          try clear c7
          try clear c7b0
          try clear c8
          try clear p2
          try clear p6
          obtain ⟨x5_2, x6_2, x7_2, rfl, rfl, rfl, HA, HK2, ⟨m2, rfl⟩⟩ := hrel
          cases gk with
          | zero => exact absurd HA.out (by simp [spec_AdlerMore.l0])
          | succ k2 =>
            have H := HA.out
            clear HA
            simp only [spec_AdlerMore.l0] at H
            by_cases c9 : x7_2 < (a1.size : Int)
            · rw [if_pos c9] at H
              have c9b0 : decide (x7_2 < (a1.size : Int)) = true := decide_eq_true c9
              clear c9
              by_cases c10 : 0 ≤ x7_2
              · rw [if_pos c10] at H
                have c10b0 : decide (0 ≤ x7_2) = true := decide_eq_true c10
                clear c10
                have H' := Aside0.mk H
                clear H
                have p11 : 0 ≤ (x7_2 : Int) := of_decide_eq_true (by first | (with_reducible assumption) | assumption)
                have q11 : x7_2 < (a1.size : Int) := of_decide_eq_true (by first | (with_reducible assumption) | assumption)
                have hx11 := bt_at a1 x7_2
                replace p11 := eq_true p11
                replace q11 := eq_true q11
                go_wp2
                go_roundg k2
                case measure => have := HJ2.out; have := HK2.out; omega
                case rel => exact ⟨(Int.tmod (wrap64 (x5_2 + (wrap64 (bt a1 x7_2)))) 65521), (Int.tmod (wrap64 (x6_2 + (Int.tmod (wrap64 (x5_2 + (wrap64 (bt a1 x7_2)))) 65521))) 65521), (wrap64 (x7_2 + 1)), (by first | rfl | (simp; done) | (simp [*]; done)), (by first | rfl | (simp; done) | (simp [*]; done)), (by first | rfl | (simp; done) | (simp [*]; done)), H', ⟨by have := HJ2.out; have := HK2.out; omega⟩, by repeat (first | exact Drawn0.refl _ | apply Drawn0.step)⟩
              · rw [if_neg c10] at H
                exact absurd H (by simp)
            · rw [if_neg c9] at H
              have c9b0 : decide (x7_2 < (a1.size : Int)) = false := decide_eq_false c9
              clear c9
              obtain rfl := Option.some.inj H
              go_wp2
              go_ret
              exact ⟨by first | rfl | (simp; done) | (simp [*]; done), by repeat (first | exact Drawn0.refl _ | apply Drawn0.step)⟩

/-! ### spec_DrawAdlerMore: function 52 -/
def spec_DrawAdlerMore.f (k : Nat) (l0 : List Int) : Option (Int × ByteArray) := (spec_l1Open.f l0).bind fun bt145 => ((spec_AdlerMore.f k 1 (⟨#[97, 104, 101, 97, 100]⟩ : ByteArray)).bind fun t148 => ((some (([t148, 1, 65520, 65521, (-1), 4294967296] : List Int) : List Int)).bind fun y149 => ((spec_l1Rd_pick.f k bt145.1 bt145.2 6).bind fun bt152 => (if 0 ≤ bt152.1 then (if bt152.1 < (y149.length : Int) then ((spec_l14Text.f k bt145.1 bt152.2).bind fun bt155 => (some (rd y149 bt152.1, bt155.1))) else (none)) else (none)))))
theorem spec_DrawAdlerMore.mono : ∀ a0 k, LeO (spec_DrawAdlerMore.f k a0) (spec_DrawAdlerMore.f (k + 1) a0) := by
  intro a0 k
  unfold spec_DrawAdlerMore.f
  repeat' first
      | (with_reducible exact spec_AdlerMore.mono _ _ _)
      | (with_reducible exact spec_l14Text.mono _ _ _)
      | (with_reducible exact spec_l1Rd_pick.mono _ _ _ _)
      | (with_reducible exact LeO.refl _)
      | (with_reducible exact LeO.none _)
      | (with_reducible refine LeO.ite ?_ ?_)
      | (with_reducible refine LeO.bind ?_ (fun _ => ?_))
      | exact spec_AdlerMore.mono _ _ _
      | exact spec_l14Text.mono _ _ _
      | exact spec_l1Rd_pick.mono _ _ _ _
      | exact LeO.none _
      | refine LeO.ite ?_ ?_
      | refine LeO.bind ?_ (fun _ => ?_)
def spec_DrawAdlerMore.T2 : Bool × List (List Nat × List Nat) := (true, [([], []), ([0], [0]), ([], []), ([2, 0], [2]), ([1, 3], [1, 3]), ([4], [4]), ([], []), ([6, 3], [6]), ([5, 7, 0, 1, 2, 3, 4, 5], [5]), ([7, 8, 0, 1, 2, 3, 4, 5, 6, 7, 8], [7])])
def spec_DrawAdlerMore.B2 : List Nat := [0, 1, 0, 5, 15, 31, 0, 77, 255, 511]
theorem spec_DrawAdlerMore.tab2 : rtab .any (opsOf Try.f52 2) = spec_DrawAdlerMore.T2 := by kernel_rfl
theorem spec_DrawAdlerMore.bits2 : waitsOk spec_DrawAdlerMore.T2.2 spec_DrawAdlerMore.B2 = true := by kernel_rfl
set_option maxHeartbeats 8000000 in
set_option maxRecDepth 100000 in
theorem spec_DrawAdlerMore.calls (k : Nat) (A0 : Option Addr) (c0 : Nat) (l0 : List Int) (r1 : Int) (r2 : ByteArray) (w : World) (hr0 : Kd.C (Kd.int .u8) w A0 l0.length l0) (hc0 : l0.length ≤ c0) (h : spec_DrawAdlerMore.f k l0 = some (r1, r2)) :
    Calls Try.prog 52 #[.slice A0 l0.length c0] w fun e w' => e = .returned (.tuple #[.int .i64 r1, .string r2]) ∧ Below w.heap.size w w' := by
  have HR0 := Aside0.mk hr0
  have HC0 := Aside0.mk hc0
  clear hr0 hc0
  have HB := Aside0.mk (Below.refl w.heap.size w)
  have H : ((spec_l1Open.f l0).bind fun bt145 => ((spec_AdlerMore.f k 1 (⟨#[97, 104, 101, 97, 100]⟩ : ByteArray)).bind fun t148 => ((some (([t148, 1, 65520, 65521, (-1), 4294967296] : List Int) : List Int)).bind fun y149 => ((spec_l1Rd_pick.f k bt145.1 bt145.2 6).bind fun bt152 => (if 0 ≤ bt152.1 then (if bt152.1 < (y149.length : Int) then ((spec_l14Text.f k bt145.1 bt152.2).bind fun bt155 => (some (rd y149 bt152.1, bt155.1))) else (none)) else (none)))))) = some (r1, r2) := h
  clear h
  replace H := Option.bind_eq_some_iff.mp H
  obtain ⟨⟨t145, t146⟩, A20, H⟩ := H
  replace H : ((spec_AdlerMore.f k 1 (⟨#[97, 104, 101, 97, 100]⟩ : ByteArray)).bind fun t148 => ((some (([t148, 1, 65520, 65521, (-1), 4294967296] : List Int) : List Int)).bind fun y149 => ((spec_l1Rd_pick.f k t145 t146 6).bind fun bt152 => (if 0 ≤ bt152.1 then (if bt152.1 < (y149.length : Int) then ((spec_l14Text.f k t145 bt152.2).bind fun bt155 => (some (rd y149 bt152.1, bt155.1))) else (none)) else (none))))) = some (r1, r2) := H
  have A2 := Aside0.mk A20
  clear A20
  replace H := Option.bind_eq_some_iff.mp H
  obtain ⟨t148, A30, H⟩ := H
  replace H : ((some (([t148, 1, 65520, 65521, (-1), 4294967296] : List Int) : List Int)).bind fun y149 => ((spec_l1Rd_pick.f k t145 t146 6).bind fun bt152 => (if 0 ≤ bt152.1 then (if bt152.1 < (y149.length : Int) then ((spec_l14Text.f k t145 bt152.2).bind fun bt155 => (some (rd y149 bt152.1, bt155.1))) else (none)) else (none)))) = some (r1, r2) := H
  have A3 := Aside0.mk A30
  clear A30
  obtain ⟨y149, hy149⟩ : ∃ y_ : List Int, y_ = (([t148, 1, 65520, 65521, (-1), 4294967296] : List Int)) := ⟨_, rfl⟩
  replace H : ((spec_l1Rd_pick.f k t145 t146 6).bind fun bt152 => (if 0 ≤ bt152.1 then (if bt152.1 < (y149.length : Int) then ((spec_l14Text.f k t145 bt152.2).bind fun bt155 => (some (rd y149 bt152.1, bt155.1))) else (none)) else (none))) = some (r1, r2) := by first | (rw [hy149]; with_reducible exact H) | (have H2_ := (Option.bind_some _ _).symm.trans H; rw [hy149]; with_reducible exact H2_) | (have H2_ := (Option.bind_some _ _).symm.trans H; with_reducible exact H2_) | with_reducible exact H | (rw [hy149]; exact H) | exact H
  have Ny149 := Aside0.mk hy149
  clear hy149
  replace H := Option.bind_eq_some_iff.mp H
  obtain ⟨⟨t152, t153⟩, A40, H⟩ := H
  replace H : (if 0 ≤ t152 then (if t152 < (y149.length : Int) then ((spec_l14Text.f k t145 t153).bind fun bt155 => (some (rd y149 t152, bt155.1))) else (none)) else (none)) = some (r1, r2) := H
  have A4 := Aside0.mk A40
  clear A40
  by_cases c5 : 0 ≤ t152
  · rw [if_pos c5] at H
    have c5b0 : decide (0 ≤ t152) = true := decide_eq_true c5
    clear c5
    by_cases c6 : t152 < (y149.length : Int)
    · rw [if_pos c6] at H
      have c6b0 : decide (t152 < (y149.length : Int)) = true := decide_eq_true c6
      clear c6
      replace H := Option.bind_eq_some_iff.mp H
      obtain ⟨⟨t155, t156⟩, A70, H⟩ := H
      replace H : (some (rd y149 t152, t155)) = some (r1, r2) := H
      have A7 := Aside0.mk A70
      clear A70
      simp only [Option.some.injEq, Prod.mk.injEq] at H
      obtain ⟨rfl, rfl⟩ := H
      go_enter Try.func52, Try.ntmps52
      try go_wp2_with (first | ((with_reducible refine gate_callee (f := 87) rfl ?_); refine goesL_ (some 6) rfl rfl Try.func87 (by kernel_rfl) rfl #[.slice A0 l0.length c0] rfl (by (try simp only [List.map_toArray, List.map_cons, List.map_nil]); first | done | rfl | (simp only [List.length_drop, List.length_take]; rfl)) ?_; (with_reducible refine (spec_l1Open.calls _ _ l0 t145 t146 w _ ?side1 ?side2 ?side3 A2.out).mono ?_); (case side1 => repeat (first | (with_reducible first | exact HB.out | apply below_alloc | apply pw_below_drewN | apply below_drew1) | exact HB.out)); (case side2 => exact HR0.out); (case side3 => exact HC0.out); rintro e w8 ⟨g147, rfl, hi, hb, hb2⟩; refine ⟨_, rfl, ?_⟩; have n0_ := Aside0.mk (hb); have n1_ := Aside0.mk (hi); clear HB; have HB := n0_; have HI147 := n1_; clear n0_ n1_; (try clear hb); (try clear hb2); (try clear hk); (try clear hi)))
      have pi154 : (0 ≤ (t152 : Int)) = True := eq_true (of_decide_eq_true (by first | (with_reducible assumption) | assumption))
      have qi154 : (t152 < (y149.length : Int)) = True := eq_true (of_decide_eq_true (by first | (with_reducible assumption) | assumption))
      have n0_ := Aside0.mk (IsS100.drew HI147.out)
      have n1_ := Aside0.mk (below_drew1 HB.out)
      clear HI147
      clear HB
      have HI147 := n0_
      have HB := n1_
      clear n0_ n1_
      refine start_ (n := 10) (S := fun w' => True) (ds := []) #[false, false, false, false, false, false, false, false, false, false] (by kernel_rfl) rfl rfl trivial (fun hHeld => ?_); refine with_tabW spec_DrawAdlerMore.tab2 spec_DrawAdlerMore.bits2 (fun HT_ HW_ => ?_)
      generalize w8.drew = w9 at HI147 HB hHeld ⊢
      refine pure_ (i := 2) (N := some 9) (v := ?_) (a' := ?_) #[false, false, true, false, false, false, false, false, false, false] rfl rfl (any_of HT_.out (by kernel_rfl)) (fun _ _ _ h => h) (Or.inl ⟨by rfl, ?_⟩) ?_ ?_
      rotate_left
      · intro w'
        go_simp
        with_reducible rfl
      rotate_left
      · simp only [Act.put, List.setIfInBounds_toArray, List.set_cons_zero, List.set_cons_succ, i64_w, i32_w]
        rfl
      refine pure_ (i := 6) (N := some 13) (v := ?_) (a' := ?_) #[false, false, true, false, false, false, true, false, false, false] rfl rfl (any_of HT_.out (by kernel_rfl)) (fun _ _ _ h => h) (Or.inl ⟨by rfl, ?_⟩) ?_ ?_
      rotate_left
      · intro w'
        go_simp
        with_reducible rfl
      rotate_left
      · simp only [Act.put, List.setIfInBounds_toArray, List.set_cons_zero, List.set_cons_succ, i64_w, i32_w]
        rfl
      refine one_ (i := 0) (N := some 7) #[true, false, true, false, false, false, true, false, false, false] rfl rfl (one_of HT_.out (by kernel_rfl)) (by decide) (fun K hK => ?_)
      refine goes_ Try.func56 (by kernel_rfl) rfl #[.int .i64 1, .string (⟨#[97, 104, 101, 97, 100]⟩ : ByteArray)] (by rfl) rfl rfl (by (try simp only [List.map_toArray, List.map_cons, List.map_nil]); first | done | rfl | (simp only [List.length_drop, List.length_take]; rfl)) ?_
      with_reducible refine (spec_AdlerMore.calls k 1 (⟨#[97, 104, 101, 97, 100]⟩ : ByteArray) t148 _ A3.out).mono ?_
      rintro e w' ⟨rfl, ⟨nd, rfl⟩⟩
      refine ⟨_, rfl, ?_⟩
      refine hK.out _ _ trivial (fun hHeld => ?_)
      clear hK K
      refine norm_ (a' := ?_) ?_ ?_
      rotate_left
      · show Act.put _ (some 7) _ = _
        simp only [Act.put, List.setIfInBounds_toArray, List.set_cons_zero, List.set_cons_succ, i64_w, i32_w]
        rfl
      refine join_ (σ := Value × Addr) 2 #[true, true, true, true, true, true, true, true, false, false] (fun s_ => [(8, s_.1), (10, .int .i64 t152), (12, .int .i64 (rd y149 t152)), (14, .string t155), (11, .pointer (some (s_.2.add (t152).toNat)))]) (fun s_ w' => (Kd.R (Kd.int .i64) 3 w' w.heap.size (fun _ => True) s_.1 y149) ∧ (∃ c_, (s_.1 : Value) = .slice (some s_.2) y149.length c_) ∧ (IsS100 w w' g147 t145 t156) ∧ (Below w.heap.size w w')) ?_ ?_
      rotate_left
      · intro hJ1_3_5_7
        refine join_ (σ := Value × Addr) 3 #[true, true, true, true, true, true, true, false, false, false] (fun s_ => [(8, s_.1), (10, .int .i64 t152), (12, .int .i64 (rd y149 t152)), (11, .pointer (some (s_.2.add (t152).toNat)))]) (fun s_ w' => (Kd.R (Kd.int .i64) 3 w' w.heap.size (fun _ => True) s_.1 y149) ∧ (∃ c_, (s_.1 : Value) = .slice (some s_.2) y149.length c_) ∧ (IsS100 w w' g147 t145 t153) ∧ (Below w.heap.size w w')) ?_ ?_
        rotate_left
        · intro hJ1_3_5
          refine join_ (σ := Value × Addr) 3 #[true, true, true, true, true, false, true, true, false, false] (fun s_ => [(8, s_.1), (10, .int .i64 t152), (14, .string t155), (11, .pointer (some (s_.2.add (t152).toNat)))]) (fun s_ w' => (Kd.R (Kd.int .i64) 3 w' w.heap.size (fun _ => True) s_.1 y149) ∧ (∃ c_, (s_.1 : Value) = .slice (some s_.2) y149.length c_) ∧ (IsS100 w w' g147 t145 t156) ∧ (Below w.heap.size w w')) ?_ ?_
          rotate_left
          · intro hJ1_3_7
            refine join_ (σ := Value × Addr) 4 #[true, true, true, true, true, false, true, false, false, false] (fun s_ => [(8, s_.1), (10, .int .i64 t152), (11, .pointer (some (s_.2.add (t152).toNat)))]) (fun s_ w' => (Kd.R (Kd.int .i64) 3 w' w.heap.size (fun _ => True) s_.1 y149) ∧ (∃ c_, (s_.1 : Value) = .slice (some s_.2) y149.length c_) ∧ (IsS100 w w' g147 t145 t153) ∧ (Below w.heap.size w w')) ?_ ?_
            rotate_left
            · intro hJ1_3
              refine join_ (σ := Unit) 5 #[true, false, true, true, false, false, true, true, false, false] (fun s_ => [(10, .int .i64 t152), (14, .string t155)]) (fun s_ w' => (IsS100 w w' g147 t145 t156) ∧ (Below w.heap.size w w')) ?_ ?_
              rotate_left
              · intro hJ3_7
                refine join_ (σ := Value × Addr) 6 #[true, true, true, false, false, false, true, false, false, false] (fun s_ => [(8, s_.1)]) (fun s_ w' => (Kd.R (Kd.int .i64) 3 w' w.heap.size (fun _ => True) s_.1 y149) ∧ (∃ c_, (s_.1 : Value) = .slice (some s_.2) y149.length c_) ∧ (IsS100 w w' g147 t145 t146) ∧ (Below w.heap.size w w')) ?_ ?_
                rotate_left
                · intro hJ1
                  refine join_ (σ := Unit) 6 #[true, false, true, true, false, false, true, false, false, false] (fun s_ => [(10, .int .i64 t152)]) (fun s_ w' => (IsS100 w w' g147 t145 t153) ∧ (Below w.heap.size w w')) ?_ ?_
                  rotate_left
                  · intro hJ3
                    refine two_ (i := 1) (j := 3) (Ni := some 8) (Nj := some 10) #[true, true, true, false, false, false, true, false, false, false] #[true, false, true, true, false, false, true, false, false, false] rfl rfl rfl rfl (two_of HT_.out (by kernel_rfl)) (by decide) (by decide) (fun K hK => ?_) (fun K hK => ?_)
                    · skip
                      refine Kd.R_lit_step (Kd.int .i64) _ 3 ?hg (N := 8) ?hd (xs := ([t148, 1, 65520, 65521, (-1), 4294967296] : List Int)) (inner := [.int .i64 t148, .int .i64 1, .int .i64 65520, .int .i64 65521, .int .i64 (-1), .int .i64 4294967296]) (ok := fun _ => True) (okp := fun _ => True) ?hr ?hp (fun _ hk => hk) trivial (Below.refl _ _) (Nat.le_refl _) (by simp) ?_; (case hd => rfl); (case hg => rfl); (case hr => first | (go_simp; done) | (go_simp; rfl)); (case hp => exact (Reps.one (show Kd.M (Kd.int .i64) _ _ _ t148 [.int .i64 t148] from rfl) (Reps.one (show Kd.M (Kd.int .i64) _ _ _ 1 [.int .i64 1] from rfl) (Reps.one (show Kd.M (Kd.int .i64) _ _ _ 65520 [.int .i64 65520] from rfl) (Reps.one (show Kd.M (Kd.int .i64) _ _ _ 65521 [.int .i64 65521] from rfl) (Reps.one (show Kd.M (Kd.int .i64) _ _ _ (-1) [.int .i64 (-1)] from rfl) (Reps.one (show Kd.M (Kd.int .i64) _ _ _ 4294967296 [.int .i64 4294967296] from rfl) (Reps.none _ _))))))))
                      intro v150 w10 ho11 hb hg_ hnew_
                      clear hg_ hnew_
                      (first | rw [← Ny149.out] at ho11 | (simp only [Int.reduceToNat] at ho11; rw [← Ny149.out] at ho11))
                      have n0_ := Aside0.mk (Kd.R_lower ho11 (below_size (by repeat (first | (with_reducible first | exact HB.out | apply below_alloc | apply pw_below_drewN | apply below_drew1 | refine below_set ?_ (IsS100.ge HI147.out)) | exact HB.out))))
                      have n1_ := Aside0.mk (IsS100.below (by repeat (first | (with_reducible first | exact HI147.out | apply IsS100.alloc | apply IsS100.drewN | apply IsS100.drew | apply IsS100.set_1) | exact HI147.out)) hb)
                      have n2_ := Aside0.mk (below_step (by repeat (first | (with_reducible first | exact HB.out | apply below_alloc | apply pw_below_drewN | apply below_drew1 | refine below_set ?_ (IsS100.ge HI147.out)) | exact HB.out)) hb)
                      clear HI147
                      clear HB
                      have HO151 := n0_
                      have HI147 := n1_
                      have HB := n2_
                      clear n0_ n1_ n2_
                      clear hb ho11
                      obtain ⟨Ao12, co12, eo12⟩ := Kd.R_slice HO151.out
                      subst eo12
                      obtain ⟨ado12, fo12, _⟩ := Kd.at_int (Kd.R_reads' HO151.out).2.2 0 (by decide) (by rw [Ny149.out]; simp)
                      cases fo12
                      refine hK.out _ _ trivial (fun hHeld => ?_)
                      clear hK K
                      refine norm_ (a' := ?_) ?_ ?_
                      rotate_left
                      · show Act.put _ (some 8) _ = _
                        simp only [Act.put, List.setIfInBounds_toArray, List.set_cons_zero, List.set_cons_succ, i64_w, i32_w]
                        rfl
                      exact norm_ (by first | (simp only [putAll, Act.put, List.setIfInBounds_toArray, List.set_cons_zero, List.set_cons_succ]; done) | (simp only [putAll, Act.put, List.setIfInBounds_toArray, List.set_cons_zero, List.set_cons_succ]; rfl)) (hJ1 (.slice (some ado12) y149.length co12, ado12) _ ⟨(by (with_reducible repeat (first | apply Kd.R_alloc | apply Kd.R_drewN | apply Kd.R_drew)); exact HO151.out), ⟨_, rfl⟩, (by repeat (first | (with_reducible first | exact HI147.out | apply IsS100.alloc | apply IsS100.drewN | apply IsS100.drew | apply IsS100.set_1) | exact HI147.out)), (by repeat (first | (with_reducible first | exact HB.out | apply below_alloc | apply pw_below_drewN | apply below_drew1 | refine below_set ?_ (IsS100.ge HI147.out)) | exact HB.out))⟩)
                    · skip
                      refine goes_ Try.func88 (by kernel_rfl) rfl #[.pointer (some ⟨g147, 0, none⟩), .int .i64 6] (by rfl) rfl rfl (by (try simp only [List.map_toArray, List.map_cons, List.map_nil]); first | done | rfl | (simp only [List.length_drop, List.length_take]; rfl)) ?_
                      with_reducible refine (spec_l1Rd_pick.calls k g147 t145 t146 6 t152 t153 w _ ?side1 ?side2 A4.out).mono ?_
                      (case side1 => repeat (first | (with_reducible first | exact HI147.out | apply IsS100.alloc | apply IsS100.drewN | apply IsS100.drew | apply IsS100.set_1) | exact HI147.out))
                      (case side2 => repeat (first | (with_reducible first | exact HB.out | apply below_alloc | apply pw_below_drewN | apply below_drew1 | refine below_set ?_ (IsS100.ge HI147.out)) | exact HB.out))
                      rintro e w10 ⟨rfl, hi, hb, hk⟩
                      refine ⟨_, rfl, ?_⟩
                      have n0_ := Aside0.mk (hb)
                      have n1_ := Aside0.mk (hi)
                      clear HB
                      clear HI147
                      have HB := n0_
                      have HI147 := n1_
                      clear n0_ n1_
                      (try clear hb)
                      (try clear hb2)
                      (try clear hk)
                      (try clear hi)
                      refine hK.out _ _ trivial (fun hHeld => ?_)
                      clear hK K
                      refine norm_ (a' := ?_) ?_ ?_
                      rotate_left
                      · show Act.put _ (some 10) _ = _
                        simp only [Act.put, List.setIfInBounds_toArray, List.set_cons_zero, List.set_cons_succ, i64_w, i32_w]
                        rfl
                      exact norm_ (by first | (simp only [putAll, Act.put, List.setIfInBounds_toArray, List.set_cons_zero, List.set_cons_succ]; done) | (simp only [putAll, Act.put, List.setIfInBounds_toArray, List.set_cons_zero, List.set_cons_succ]; rfl)) (hJ3 () _ ⟨(by repeat (first | (with_reducible first | exact HI147.out | apply IsS100.alloc | apply IsS100.drewN | apply IsS100.drew | apply IsS100.set_1) | exact HI147.out)), (by repeat (first | (with_reducible first | exact HB.out | apply below_alloc | apply pw_below_drewN | apply below_drew1 | refine below_set ?_ (IsS100.ge HI147.out)) | exact HB.out))⟩)
                  · skip
                    rintro _ w11 ⟨h0_, h1_⟩
                    have n0_ : Aside0 (IsS100 w w11 g147 t145 t153) := ⟨h0_⟩
                    have n1_ : Aside0 (Below w.heap.size w w11) := ⟨h1_⟩
                    clear HI147
                    clear HB
                    clear h0_ h1_
                    have HI147 := n0_
                    have HB := n1_
                    clear n0_ n1_
                    have hHeld := trivial
                    refine norm_ (a' := ?_) ?_ ?_
                    rotate_left
                    · simp only [putAll, Act.put, List.setIfInBounds_toArray, List.set_cons_zero, List.set_cons_succ]
                      rfl
                    refine two_ (i := 1) (j := 7) (Ni := some 8) (Nj := some 14) #[true, true, true, true, false, false, true, false, false, false] #[true, false, true, true, false, false, true, true, false, false] rfl rfl rfl rfl (two_of HT_.out (by kernel_rfl)) (by decide) (by decide) (fun K hK => ?_) (fun K hK => ?_)
                    · skip
                      refine Kd.R_lit_step (Kd.int .i64) _ 3 ?hg (N := 8) ?hd (xs := ([t148, 1, 65520, 65521, (-1), 4294967296] : List Int)) (inner := [.int .i64 t148, .int .i64 1, .int .i64 65520, .int .i64 65521, .int .i64 (-1), .int .i64 4294967296]) (ok := fun _ => True) (okp := fun _ => True) ?hr ?hp (fun _ hk => hk) trivial (Below.refl _ _) (Nat.le_refl _) (by simp) ?_; (case hd => rfl); (case hg => rfl); (case hr => first | (go_simp; done) | (go_simp; rfl)); (case hp => exact (Reps.one (show Kd.M (Kd.int .i64) _ _ _ t148 [.int .i64 t148] from rfl) (Reps.one (show Kd.M (Kd.int .i64) _ _ _ 1 [.int .i64 1] from rfl) (Reps.one (show Kd.M (Kd.int .i64) _ _ _ 65520 [.int .i64 65520] from rfl) (Reps.one (show Kd.M (Kd.int .i64) _ _ _ 65521 [.int .i64 65521] from rfl) (Reps.one (show Kd.M (Kd.int .i64) _ _ _ (-1) [.int .i64 (-1)] from rfl) (Reps.one (show Kd.M (Kd.int .i64) _ _ _ 4294967296 [.int .i64 4294967296] from rfl) (Reps.none _ _))))))))
                      intro v150 w12 ho13 hb hg_ hnew_
                      clear hg_ hnew_
                      (first | rw [← Ny149.out] at ho13 | (simp only [Int.reduceToNat] at ho13; rw [← Ny149.out] at ho13))
                      have n0_ := Aside0.mk (Kd.R_lower ho13 (below_size (by repeat (first | (with_reducible first | exact HB.out | apply below_alloc | apply pw_below_drewN | apply below_drew1 | refine below_set ?_ (IsS100.ge HI147.out)) | exact HB.out))))
                      have n1_ := Aside0.mk (IsS100.below (by repeat (first | (with_reducible first | exact HI147.out | apply IsS100.alloc | apply IsS100.drewN | apply IsS100.drew | apply IsS100.set_1) | exact HI147.out)) hb)
                      have n2_ := Aside0.mk (below_step (by repeat (first | (with_reducible first | exact HB.out | apply below_alloc | apply pw_below_drewN | apply below_drew1 | refine below_set ?_ (IsS100.ge HI147.out)) | exact HB.out)) hb)
                      clear HI147
                      clear HB
                      have HO151 := n0_
                      have HI147 := n1_
                      have HB := n2_
                      clear n0_ n1_ n2_
                      clear hb ho13
                      obtain ⟨Ao14, co14, eo14⟩ := Kd.R_slice HO151.out
                      subst eo14
                      obtain ⟨ado14, fo14, _⟩ := Kd.at_int (Kd.R_reads' HO151.out).2.2 0 (by decide) (by rw [Ny149.out]; simp)
                      cases fo14
                      refine hK.out _ _ trivial (fun hHeld => ?_)
                      clear hK K
                      refine norm_ (a' := ?_) ?_ ?_
                      rotate_left
                      · show Act.put _ (some 8) _ = _
                        simp only [Act.put, List.setIfInBounds_toArray, List.set_cons_zero, List.set_cons_succ, i64_w, i32_w]
                        rfl
                      refine pure_ (i := 4) (N := some 11) (v := ?_) (a' := ?_) #[true, true, true, true, true, false, true, false, false, false] rfl rfl (any_of HT_.out (by kernel_rfl)) (fun _ _ _ h => h) (Or.inl ⟨by rfl, ?_⟩) ?_ ?_
                      rotate_left
                      · intro w'
                        go_simp
                        with_reducible rfl
                      rotate_left
                      · simp only [Act.put, List.setIfInBounds_toArray, List.set_cons_zero, List.set_cons_succ, i64_w, i32_w]
                        rfl
                      exact norm_ (by first | (simp only [putAll, Act.put, List.setIfInBounds_toArray, List.set_cons_zero, List.set_cons_succ]; done) | (simp only [putAll, Act.put, List.setIfInBounds_toArray, List.set_cons_zero, List.set_cons_succ]; rfl)) (hJ1_3 (.slice (some ado14) y149.length co14, ado14) _ ⟨(by (with_reducible repeat (first | apply Kd.R_alloc | apply Kd.R_drewN | apply Kd.R_drew)); exact HO151.out), ⟨_, rfl⟩, (by repeat (first | (with_reducible first | exact HI147.out | apply IsS100.alloc | apply IsS100.drewN | apply IsS100.drew | apply IsS100.set_1) | exact HI147.out)), (by repeat (first | (with_reducible first | exact HB.out | apply below_alloc | apply pw_below_drewN | apply below_drew1 | refine below_set ?_ (IsS100.ge HI147.out)) | exact HB.out))⟩)
                    · skip
                      refine goes_ Try.func90 (by kernel_rfl) rfl #[.pointer (some ⟨g147, 0, none⟩)] (by rfl) rfl rfl (by (try simp only [List.map_toArray, List.map_cons, List.map_nil]); first | done | rfl | (simp only [List.length_drop, List.length_take]; rfl)) ?_
                      with_reducible refine (spec_l14Text.calls k g147 t145 t153 t155 t156 w _ ?side1 ?side2 A7.out).mono ?_
                      (case side1 => repeat (first | (with_reducible first | exact HI147.out | apply IsS100.alloc | apply IsS100.drewN | apply IsS100.drew | apply IsS100.set_1) | exact HI147.out))
                      (case side2 => repeat (first | (with_reducible first | exact HB.out | apply below_alloc | apply pw_below_drewN | apply below_drew1 | refine below_set ?_ (IsS100.ge HI147.out)) | exact HB.out))
                      rintro e w12 ⟨rfl, hi, hb, hk⟩
                      refine ⟨_, rfl, ?_⟩
                      have n0_ := Aside0.mk (hb)
                      have n1_ := Aside0.mk (hi)
                      clear HB
                      clear HI147
                      have HB := n0_
                      have HI147 := n1_
                      clear n0_ n1_
                      (try clear hb)
                      (try clear hb2)
                      (try clear hk)
                      (try clear hi)
                      refine hK.out _ _ trivial (fun hHeld => ?_)
                      clear hK K
                      refine norm_ (a' := ?_) ?_ ?_
                      rotate_left
                      · show Act.put _ (some 14) _ = _
                        simp only [Act.put, List.setIfInBounds_toArray, List.set_cons_zero, List.set_cons_succ, i64_w, i32_w]
                        rfl
                      exact norm_ (by first | (simp only [putAll, Act.put, List.setIfInBounds_toArray, List.set_cons_zero, List.set_cons_succ]; done) | (simp only [putAll, Act.put, List.setIfInBounds_toArray, List.set_cons_zero, List.set_cons_succ]; rfl)) (hJ3_7 () _ ⟨(by repeat (first | (with_reducible first | exact HI147.out | apply IsS100.alloc | apply IsS100.drewN | apply IsS100.drew | apply IsS100.set_1) | exact HI147.out)), (by repeat (first | (with_reducible first | exact HB.out | apply below_alloc | apply pw_below_drewN | apply below_drew1 | refine below_set ?_ (IsS100.ge HI147.out)) | exact HB.out))⟩)
                · skip
                  rintro ⟨v150, adz_v150⟩ w13 ⟨h0_, h1_, h2_, h3_⟩
                  have n0_ : Aside0 (Kd.R (Kd.int .i64) 3 w13 w.heap.size (fun _ => True) v150 y149) := ⟨h0_⟩
                  have n1_ : Aside0 (∃ c_, (v150 : Value) = .slice (some adz_v150) y149.length c_) := ⟨h1_⟩
                  have n2_ : Aside0 (IsS100 w w13 g147 t145 t146) := ⟨h2_⟩
                  have n3_ : Aside0 (Below w.heap.size w w13) := ⟨h3_⟩
                  clear HI147
                  clear HB
                  clear h0_ h1_ h2_ h3_
                  have HO151 := n0_
                  have HA_HO151 := n1_
                  have HI147 := n2_
                  have HB := n3_
                  clear n0_ n1_ n2_ n3_
                  have hHeld := trivial
                  obtain ⟨co14, eo14⟩ := HA_HO151.out
                  clear HA_HO151
                  subst eo14
                  refine norm_ (a' := ?_) ?_ ?_
                  rotate_left
                  · simp only [putAll, Act.put, List.setIfInBounds_toArray, List.set_cons_zero, List.set_cons_succ]
                    rfl
                  refine one_ (i := 3) (N := some 10) #[true, true, true, true, false, false, true, false, false, false] rfl rfl (one_of HT_.out (by kernel_rfl)) (by decide) (fun K hK => ?_)
                  refine goes_ Try.func88 (by kernel_rfl) rfl #[.pointer (some ⟨g147, 0, none⟩), .int .i64 6] (by rfl) rfl rfl (by (try simp only [List.map_toArray, List.map_cons, List.map_nil]); first | done | rfl | (simp only [List.length_drop, List.length_take]; rfl)) ?_
                  with_reducible refine (spec_l1Rd_pick.calls k g147 t145 t146 6 t152 t153 w _ ?side1 ?side2 A4.out).mono ?_
                  (case side1 => repeat (first | (with_reducible first | exact HI147.out | apply IsS100.alloc | apply IsS100.drewN | apply IsS100.drew | apply IsS100.set_1) | exact HI147.out))
                  (case side2 => repeat (first | (with_reducible first | exact HB.out | apply below_alloc | apply pw_below_drewN | apply below_drew1 | refine below_set ?_ (IsS100.ge HI147.out)) | exact HB.out))
                  rintro e w15 ⟨rfl, hi, hb, hk⟩
                  refine ⟨_, rfl, ?_⟩
                  have n0_ := Aside0.mk (Kd.R_mono (Kd.R_keep (IsS100.apart (show IsS100 w _ g147 t145 t146 from by repeat (first | (with_reducible first | exact HI147.out | apply IsS100.alloc | apply IsS100.drewN | apply IsS100.drew | apply IsS100.set_1) | exact HI147.out)) (by (with_reducible repeat (first | apply Kd.R_alloc | apply Kd.R_drewN | apply Kd.R_drew)); exact HO151.out) (by decide)) hk (fun _ h => h.2)) (fun _ h => h.1))
                  have n1_ := Aside0.mk (hb)
                  have n2_ := Aside0.mk (hi)
                  clear HO151
                  clear HB
                  clear HI147
                  have HO151 := n0_
                  have HB := n1_
                  have HI147 := n2_
                  clear n0_ n1_ n2_
                  (try clear hb)
                  (try clear hb2)
                  (try clear hk)
                  (try clear hi)
                  refine hK.out _ _ trivial (fun hHeld => ?_)
                  clear hK K
                  refine norm_ (a' := ?_) ?_ ?_
                  rotate_left
                  · show Act.put _ (some 10) _ = _
                    simp only [Act.put, List.setIfInBounds_toArray, List.set_cons_zero, List.set_cons_succ, i64_w, i32_w]
                    rfl
                  refine pure_ (i := 4) (N := some 11) (v := ?_) (a' := ?_) #[true, true, true, true, true, false, true, false, false, false] rfl rfl (any_of HT_.out (by kernel_rfl)) (fun _ _ _ h => h) (Or.inl ⟨by rfl, ?_⟩) ?_ ?_
                  rotate_left
                  · intro w'
                    go_simp
                    with_reducible rfl
                  rotate_left
                  · simp only [Act.put, List.setIfInBounds_toArray, List.set_cons_zero, List.set_cons_succ, i64_w, i32_w]
                    rfl
                  exact norm_ (by first | (simp only [putAll, Act.put, List.setIfInBounds_toArray, List.set_cons_zero, List.set_cons_succ]; done) | (simp only [putAll, Act.put, List.setIfInBounds_toArray, List.set_cons_zero, List.set_cons_succ]; rfl)) (hJ1_3 (.slice (some adz_v150) y149.length co14, adz_v150) _ ⟨(by (with_reducible repeat (first | apply Kd.R_alloc | apply Kd.R_drewN | apply Kd.R_drew)); exact HO151.out), ⟨_, rfl⟩, (by repeat (first | (with_reducible first | exact HI147.out | apply IsS100.alloc | apply IsS100.drewN | apply IsS100.drew | apply IsS100.set_1) | exact HI147.out)), (by repeat (first | (with_reducible first | exact HB.out | apply below_alloc | apply pw_below_drewN | apply below_drew1 | refine below_set ?_ (IsS100.ge HI147.out)) | exact HB.out))⟩)
              · skip
                rintro _ w12 ⟨h0_, h1_⟩
                have n0_ : Aside0 (IsS100 w w12 g147 t145 t156) := ⟨h0_⟩
                have n1_ : Aside0 (Below w.heap.size w w12) := ⟨h1_⟩
                clear HI147
                clear HB
                clear h0_ h1_
                have HI147 := n0_
                have HB := n1_
                clear n0_ n1_
                have hHeld := trivial
                refine norm_ (a' := ?_) ?_ ?_
                rotate_left
                · simp only [putAll, Act.put, List.setIfInBounds_toArray, List.set_cons_zero, List.set_cons_succ]
                  rfl
                refine one_ (i := 1) (N := some 8) #[true, true, true, true, false, false, true, true, false, false] rfl rfl (one_of HT_.out (by kernel_rfl)) (by decide) (fun K hK => ?_)
                refine Kd.R_lit_step (Kd.int .i64) _ 3 ?hg (N := 8) ?hd (xs := ([t148, 1, 65520, 65521, (-1), 4294967296] : List Int)) (inner := [.int .i64 t148, .int .i64 1, .int .i64 65520, .int .i64 65521, .int .i64 (-1), .int .i64 4294967296]) (ok := fun _ => True) (okp := fun _ => True) ?hr ?hp (fun _ hk => hk) trivial (Below.refl _ _) (Nat.le_refl _) (by simp) ?_; (case hd => rfl); (case hg => rfl); (case hr => first | (go_simp; done) | (go_simp; rfl)); (case hp => exact (Reps.one (show Kd.M (Kd.int .i64) _ _ _ t148 [.int .i64 t148] from rfl) (Reps.one (show Kd.M (Kd.int .i64) _ _ _ 1 [.int .i64 1] from rfl) (Reps.one (show Kd.M (Kd.int .i64) _ _ _ 65520 [.int .i64 65520] from rfl) (Reps.one (show Kd.M (Kd.int .i64) _ _ _ 65521 [.int .i64 65521] from rfl) (Reps.one (show Kd.M (Kd.int .i64) _ _ _ (-1) [.int .i64 (-1)] from rfl) (Reps.one (show Kd.M (Kd.int .i64) _ _ _ 4294967296 [.int .i64 4294967296] from rfl) (Reps.none _ _))))))))
                intro v150 w13 ho14 hb hg_ hnew_
                clear hg_ hnew_
                (first | rw [← Ny149.out] at ho14 | (simp only [Int.reduceToNat] at ho14; rw [← Ny149.out] at ho14))
                have n0_ := Aside0.mk (Kd.R_lower ho14 (below_size (by repeat (first | (with_reducible first | exact HB.out | apply below_alloc | apply pw_below_drewN | apply below_drew1 | refine below_set ?_ (IsS100.ge HI147.out)) | exact HB.out))))
                have n1_ := Aside0.mk (IsS100.below (by repeat (first | (with_reducible first | exact HI147.out | apply IsS100.alloc | apply IsS100.drewN | apply IsS100.drew | apply IsS100.set_1) | exact HI147.out)) hb)
                have n2_ := Aside0.mk (below_step (by repeat (first | (with_reducible first | exact HB.out | apply below_alloc | apply pw_below_drewN | apply below_drew1 | refine below_set ?_ (IsS100.ge HI147.out)) | exact HB.out)) hb)
                clear HI147
                clear HB
                have HO151 := n0_
                have HI147 := n1_
                have HB := n2_
                clear n0_ n1_ n2_
                clear hb ho14
                obtain ⟨Ao15, co15, eo15⟩ := Kd.R_slice HO151.out
                subst eo15
                obtain ⟨ado15, fo15, _⟩ := Kd.at_int (Kd.R_reads' HO151.out).2.2 0 (by decide) (by rw [Ny149.out]; simp)
                cases fo15
                refine hK.out _ _ trivial (fun hHeld => ?_)
                clear hK K
                refine norm_ (a' := ?_) ?_ ?_
                rotate_left
                · show Act.put _ (some 8) _ = _
                  simp only [Act.put, List.setIfInBounds_toArray, List.set_cons_zero, List.set_cons_succ, i64_w, i32_w]
                  rfl
                refine pure_ (i := 4) (N := some 11) (v := ?_) (a' := ?_) #[true, true, true, true, true, false, true, true, false, false] rfl rfl (any_of HT_.out (by kernel_rfl)) (fun _ _ _ h => h) (Or.inl ⟨by rfl, ?_⟩) ?_ ?_
                rotate_left
                · intro w'
                  go_simp
                  with_reducible rfl
                rotate_left
                · simp only [Act.put, List.setIfInBounds_toArray, List.set_cons_zero, List.set_cons_succ, i64_w, i32_w]
                  rfl
                exact norm_ (by first | (simp only [putAll, Act.put, List.setIfInBounds_toArray, List.set_cons_zero, List.set_cons_succ]; done) | (simp only [putAll, Act.put, List.setIfInBounds_toArray, List.set_cons_zero, List.set_cons_succ]; rfl)) (hJ1_3_7 (.slice (some ado15) y149.length co15, ado15) _ ⟨(by (with_reducible repeat (first | apply Kd.R_alloc | apply Kd.R_drewN | apply Kd.R_drew)); exact HO151.out), ⟨_, rfl⟩, (by repeat (first | (with_reducible first | exact HI147.out | apply IsS100.alloc | apply IsS100.drewN | apply IsS100.drew | apply IsS100.set_1) | exact HI147.out)), (by repeat (first | (with_reducible first | exact HB.out | apply below_alloc | apply pw_below_drewN | apply below_drew1 | refine below_set ?_ (IsS100.ge HI147.out)) | exact HB.out))⟩)
            · skip
              rintro ⟨v150, adz_v150⟩ w14 ⟨h0_, h1_, h2_, h3_⟩
              have n0_ : Aside0 (Kd.R (Kd.int .i64) 3 w14 w.heap.size (fun _ => True) v150 y149) := ⟨h0_⟩
              have n1_ : Aside0 (∃ c_, (v150 : Value) = .slice (some adz_v150) y149.length c_) := ⟨h1_⟩
              have n2_ : Aside0 (IsS100 w w14 g147 t145 t153) := ⟨h2_⟩
              have n3_ : Aside0 (Below w.heap.size w w14) := ⟨h3_⟩
              clear HI147
              clear HB
              clear h0_ h1_ h2_ h3_
              have HO151 := n0_
              have HA_HO151 := n1_
              have HI147 := n2_
              have HB := n3_
              clear n0_ n1_ n2_ n3_
              have hHeld := trivial
              obtain ⟨co15, eo15⟩ := HA_HO151.out
              clear HA_HO151
              subst eo15
              refine norm_ (a' := ?_) ?_ ?_
              rotate_left
              · simp only [putAll, Act.put, List.setIfInBounds_toArray, List.set_cons_zero, List.set_cons_succ]
                rfl
              refine two_ (i := 5) (j := 7) (Ni := some 12) (Nj := some 14) #[true, true, true, true, true, true, true, false, false, false] #[true, true, true, true, true, false, true, true, false, false] rfl rfl rfl rfl (two_of HT_.out (by kernel_rfl)) (by decide) (by decide) (fun K hK => ?_) (fun K hK => ?_)
              · skip
                (have p154 : 0 ≤ (t152 : Int) := of_decide_eq_true (by first | (with_reducible assumption) | assumption); have q154 : t152 < (y149.length : Int) := of_decide_eq_true (by first | (with_reducible assumption) | assumption); obtain ⟨ad154, e154, hx154_0⟩ := Kd.at_int (Kd.R_reads' HO151.out).2.2 t152 p154 q154; obtain rfl : adz_v150 = ad154 := (by injection e154))
                refine value_ (w1 := ?_) (v := ?_) (by rfl) rfl ?_ ?_
                rotate_left 2
                · go_simp
                  constructor
                  · rfl
                  · rfl
                clear hx154_0
                refine hK.out _ _ trivial (fun hHeld => ?_)
                clear hK K
                refine norm_ (a' := ?_) ?_ ?_
                rotate_left
                · show Act.put _ (some 12) _ = _
                  simp only [Act.put, List.setIfInBounds_toArray, List.set_cons_zero, List.set_cons_succ, i64_w, i32_w]
                  rfl
                exact norm_ (by first | (simp only [putAll, Act.put, List.setIfInBounds_toArray, List.set_cons_zero, List.set_cons_succ]; done) | (simp only [putAll, Act.put, List.setIfInBounds_toArray, List.set_cons_zero, List.set_cons_succ]; rfl)) (hJ1_3_5 (.slice (some adz_v150) y149.length co15, adz_v150) _ ⟨(by (with_reducible repeat (first | apply Kd.R_alloc | apply Kd.R_drewN | apply Kd.R_drew)); exact HO151.out), ⟨_, rfl⟩, (by repeat (first | (with_reducible first | exact HI147.out | apply IsS100.alloc | apply IsS100.drewN | apply IsS100.drew | apply IsS100.set_1) | exact HI147.out)), (by repeat (first | (with_reducible first | exact HB.out | apply below_alloc | apply pw_below_drewN | apply below_drew1 | refine below_set ?_ (IsS100.ge HI147.out)) | exact HB.out))⟩)
              · skip
                refine goes_ Try.func90 (by kernel_rfl) rfl #[.pointer (some ⟨g147, 0, none⟩)] (by rfl) rfl rfl (by (try simp only [List.map_toArray, List.map_cons, List.map_nil]); first | done | rfl | (simp only [List.length_drop, List.length_take]; rfl)) ?_
                with_reducible refine (spec_l14Text.calls k g147 t145 t153 t155 t156 w _ ?side1 ?side2 A7.out).mono ?_
                (case side1 => repeat (first | (with_reducible first | exact HI147.out | apply IsS100.alloc | apply IsS100.drewN | apply IsS100.drew | apply IsS100.set_1) | exact HI147.out))
                (case side2 => repeat (first | (with_reducible first | exact HB.out | apply below_alloc | apply pw_below_drewN | apply below_drew1 | refine below_set ?_ (IsS100.ge HI147.out)) | exact HB.out))
                rintro e w16 ⟨rfl, hi, hb, hk⟩
                refine ⟨_, rfl, ?_⟩
                have n0_ := Aside0.mk (Kd.R_mono (Kd.R_keep (IsS100.apart (show IsS100 w _ g147 t145 t153 from by repeat (first | (with_reducible first | exact HI147.out | apply IsS100.alloc | apply IsS100.drewN | apply IsS100.drew | apply IsS100.set_1) | exact HI147.out)) (by (with_reducible repeat (first | apply Kd.R_alloc | apply Kd.R_drewN | apply Kd.R_drew)); exact HO151.out) (by decide)) hk (fun _ h => h.2)) (fun _ h => h.1))
                have n1_ := Aside0.mk (hb)
                have n2_ := Aside0.mk (hi)
                clear HO151
                clear HB
                clear HI147
                have HO151 := n0_
                have HB := n1_
                have HI147 := n2_
                clear n0_ n1_ n2_
                (try clear hb)
                (try clear hb2)
                (try clear hk)
                (try clear hi)
                refine hK.out _ _ trivial (fun hHeld => ?_)
                clear hK K
                refine norm_ (a' := ?_) ?_ ?_
                rotate_left
                · show Act.put _ (some 14) _ = _
                  simp only [Act.put, List.setIfInBounds_toArray, List.set_cons_zero, List.set_cons_succ, i64_w, i32_w]
                  rfl
                exact norm_ (by first | (simp only [putAll, Act.put, List.setIfInBounds_toArray, List.set_cons_zero, List.set_cons_succ]; done) | (simp only [putAll, Act.put, List.setIfInBounds_toArray, List.set_cons_zero, List.set_cons_succ]; rfl)) (hJ1_3_7 (.slice (some adz_v150) y149.length co15, adz_v150) _ ⟨(by (with_reducible repeat (first | apply Kd.R_alloc | apply Kd.R_drewN | apply Kd.R_drew)); exact HO151.out), ⟨_, rfl⟩, (by repeat (first | (with_reducible first | exact HI147.out | apply IsS100.alloc | apply IsS100.drewN | apply IsS100.drew | apply IsS100.set_1) | exact HI147.out)), (by repeat (first | (with_reducible first | exact HB.out | apply below_alloc | apply pw_below_drewN | apply below_drew1 | refine below_set ?_ (IsS100.ge HI147.out)) | exact HB.out))⟩)
          · skip
            rintro ⟨v150, adz_v150⟩ w15 ⟨h0_, h1_, h2_, h3_⟩
            have n0_ : Aside0 (Kd.R (Kd.int .i64) 3 w15 w.heap.size (fun _ => True) v150 y149) := ⟨h0_⟩
            have n1_ : Aside0 (∃ c_, (v150 : Value) = .slice (some adz_v150) y149.length c_) := ⟨h1_⟩
            have n2_ : Aside0 (IsS100 w w15 g147 t145 t156) := ⟨h2_⟩
            have n3_ : Aside0 (Below w.heap.size w w15) := ⟨h3_⟩
            clear HI147
            clear HB
            clear h0_ h1_ h2_ h3_
            have HO151 := n0_
            have HA_HO151 := n1_
            have HI147 := n2_
            have HB := n3_
            clear n0_ n1_ n2_ n3_
            have hHeld := trivial
            obtain ⟨co16, eo16⟩ := HA_HO151.out
            clear HA_HO151
            subst eo16
            refine norm_ (a' := ?_) ?_ ?_
            rotate_left
            · simp only [putAll, Act.put, List.setIfInBounds_toArray, List.set_cons_zero, List.set_cons_succ]
              rfl
            refine one_ (i := 5) (N := some 12) #[true, true, true, true, true, true, true, true, false, false] rfl rfl (one_of HT_.out (by kernel_rfl)) (by decide) (fun K hK => ?_)
            (have p154 : 0 ≤ (t152 : Int) := of_decide_eq_true (by first | (with_reducible assumption) | assumption); have q154 : t152 < (y149.length : Int) := of_decide_eq_true (by first | (with_reducible assumption) | assumption); obtain ⟨ad154, e154, hx154_0⟩ := Kd.at_int (Kd.R_reads' HO151.out).2.2 t152 p154 q154; obtain rfl : adz_v150 = ad154 := (by injection e154))
            refine value_ (w1 := ?_) (v := ?_) (by rfl) rfl ?_ ?_
            rotate_left 2
            · go_simp
              constructor
              · rfl
              · rfl
            clear hx154_0
            refine hK.out _ _ trivial (fun hHeld => ?_)
            clear hK K
            refine norm_ (a' := ?_) ?_ ?_
            rotate_left
            · show Act.put _ (some 12) _ = _
              simp only [Act.put, List.setIfInBounds_toArray, List.set_cons_zero, List.set_cons_succ, i64_w, i32_w]
              rfl
            exact norm_ (by first | (simp only [putAll, Act.put, List.setIfInBounds_toArray, List.set_cons_zero, List.set_cons_succ]; done) | (simp only [putAll, Act.put, List.setIfInBounds_toArray, List.set_cons_zero, List.set_cons_succ]; rfl)) (hJ1_3_5_7 (.slice (some adz_v150) y149.length co16, adz_v150) _ ⟨(by (with_reducible repeat (first | apply Kd.R_alloc | apply Kd.R_drewN | apply Kd.R_drew)); exact HO151.out), ⟨_, rfl⟩, (by repeat (first | (with_reducible first | exact HI147.out | apply IsS100.alloc | apply IsS100.drewN | apply IsS100.drew | apply IsS100.set_1) | exact HI147.out)), (by repeat (first | (with_reducible first | exact HB.out | apply below_alloc | apply pw_below_drewN | apply below_drew1 | refine below_set ?_ (IsS100.ge HI147.out)) | exact HB.out))⟩)
        · skip
          rintro ⟨v150, adz_v150⟩ w14 ⟨h0_, h1_, h2_, h3_⟩
          have n0_ : Aside0 (Kd.R (Kd.int .i64) 3 w14 w.heap.size (fun _ => True) v150 y149) := ⟨h0_⟩
          have n1_ : Aside0 (∃ c_, (v150 : Value) = .slice (some adz_v150) y149.length c_) := ⟨h1_⟩
          have n2_ : Aside0 (IsS100 w w14 g147 t145 t153) := ⟨h2_⟩
          have n3_ : Aside0 (Below w.heap.size w w14) := ⟨h3_⟩
          clear HI147
          clear HB
          clear h0_ h1_ h2_ h3_
          have HO151 := n0_
          have HA_HO151 := n1_
          have HI147 := n2_
          have HB := n3_
          clear n0_ n1_ n2_ n3_
          have hHeld := trivial
          obtain ⟨co15, eo15⟩ := HA_HO151.out
          clear HA_HO151
          subst eo15
          refine norm_ (a' := ?_) ?_ ?_
          rotate_left
          · simp only [putAll, Act.put, List.setIfInBounds_toArray, List.set_cons_zero, List.set_cons_succ]
            rfl
          refine one_ (i := 7) (N := some 14) #[true, true, true, true, true, true, true, true, false, false] rfl rfl (one_of HT_.out (by kernel_rfl)) (by decide) (fun K hK => ?_)
          refine goes_ Try.func90 (by kernel_rfl) rfl #[.pointer (some ⟨g147, 0, none⟩)] (by rfl) rfl rfl (by (try simp only [List.map_toArray, List.map_cons, List.map_nil]); first | done | rfl | (simp only [List.length_drop, List.length_take]; rfl)) ?_
          with_reducible refine (spec_l14Text.calls k g147 t145 t153 t155 t156 w _ ?side1 ?side2 A7.out).mono ?_
          (case side1 => repeat (first | (with_reducible first | exact HI147.out | apply IsS100.alloc | apply IsS100.drewN | apply IsS100.drew | apply IsS100.set_1) | exact HI147.out))
          (case side2 => repeat (first | (with_reducible first | exact HB.out | apply below_alloc | apply pw_below_drewN | apply below_drew1 | refine below_set ?_ (IsS100.ge HI147.out)) | exact HB.out))
          rintro e w16 ⟨rfl, hi, hb, hk⟩
          refine ⟨_, rfl, ?_⟩
          have n0_ := Aside0.mk (Kd.R_mono (Kd.R_keep (IsS100.apart (show IsS100 w _ g147 t145 t153 from by repeat (first | (with_reducible first | exact HI147.out | apply IsS100.alloc | apply IsS100.drewN | apply IsS100.drew | apply IsS100.set_1) | exact HI147.out)) (by (with_reducible repeat (first | apply Kd.R_alloc | apply Kd.R_drewN | apply Kd.R_drew)); exact HO151.out) (by decide)) hk (fun _ h => h.2)) (fun _ h => h.1))
          have n1_ := Aside0.mk (hb)
          have n2_ := Aside0.mk (hi)
          clear HO151
          clear HB
          clear HI147
          have HO151 := n0_
          have HB := n1_
          have HI147 := n2_
          clear n0_ n1_ n2_
          (try clear hb)
          (try clear hb2)
          (try clear hk)
          (try clear hi)
          refine hK.out _ _ trivial (fun hHeld => ?_)
          clear hK K
          refine norm_ (a' := ?_) ?_ ?_
          rotate_left
          · show Act.put _ (some 14) _ = _
            simp only [Act.put, List.setIfInBounds_toArray, List.set_cons_zero, List.set_cons_succ, i64_w, i32_w]
            rfl
          exact norm_ (by first | (simp only [putAll, Act.put, List.setIfInBounds_toArray, List.set_cons_zero, List.set_cons_succ]; done) | (simp only [putAll, Act.put, List.setIfInBounds_toArray, List.set_cons_zero, List.set_cons_succ]; rfl)) (hJ1_3_5_7 (.slice (some adz_v150) y149.length co15, adz_v150) _ ⟨(by (with_reducible repeat (first | apply Kd.R_alloc | apply Kd.R_drewN | apply Kd.R_drew)); exact HO151.out), ⟨_, rfl⟩, (by repeat (first | (with_reducible first | exact HI147.out | apply IsS100.alloc | apply IsS100.drewN | apply IsS100.drew | apply IsS100.set_1) | exact HI147.out)), (by repeat (first | (with_reducible first | exact HB.out | apply below_alloc | apply pw_below_drewN | apply below_drew1 | refine below_set ?_ (IsS100.ge HI147.out)) | exact HB.out))⟩)
      rintro ⟨v150, adz_v150⟩ w15 ⟨h0_, h1_, h2_, h3_⟩
      have n0_ : Aside0 (Kd.R (Kd.int .i64) 3 w15 w.heap.size (fun _ => True) v150 y149) := ⟨h0_⟩
      have n1_ : Aside0 (∃ c_, (v150 : Value) = .slice (some adz_v150) y149.length c_) := ⟨h1_⟩
      have n2_ : Aside0 (IsS100 w w15 g147 t145 t156) := ⟨h2_⟩
      have n3_ : Aside0 (Below w.heap.size w w15) := ⟨h3_⟩
      clear HI147
      clear HB
      clear h0_ h1_ h2_ h3_
      have HO151 := n0_
      have HA_HO151 := n1_
      have HI147 := n2_
      have HB := n3_
      clear n0_ n1_ n2_ n3_
      have hHeld := trivial
      obtain ⟨co16, eo16⟩ := HA_HO151.out
      clear HA_HO151
      subst eo16
      refine norm_ (a' := ?_) ?_ ?_
      rotate_left
      · simp only [putAll, Act.put, List.setIfInBounds_toArray, List.set_cons_zero, List.set_cons_succ]
        rfl
      refine pure_ (i := 8) (N := some 2) (v := ?_) (a' := ?_) #[true, true, true, true, true, true, true, true, true, false] rfl rfl (any_of HT_.out (by kernel_rfl)) (fun _ _ _ h => h) (Or.inl ⟨by rfl, ?_⟩) ?_ ?_
      rotate_left
      · intro w'
        go_simp
        with_reducible rfl
      rotate_left
      · simp only [Act.put, List.setIfInBounds_toArray, List.set_cons_zero, List.set_cons_succ, i64_w, i32_w]
        rfl
      refine pure_ (i := 9) (N := some 3) (v := ?_) (a' := ?_) #[true, true, true, true, true, true, true, true, true, true] rfl rfl (any_of HT_.out (by kernel_rfl)) (fun _ _ _ h => h) (Or.inl ⟨by rfl, ?_⟩) ?_ ?_
      rotate_left
      · intro w'
        go_simp
        with_reducible rfl
      rotate_left
      · simp only [Act.put, List.setIfInBounds_toArray, List.set_cons_zero, List.set_cons_succ, i64_w, i32_w]
        rfl
      refine done_ (done_of HT_.out (by kernel_rfl)) ?_
      try go_wp2
      go_ret2
      exact ⟨by first | rfl | (simp [errW_none, errW_some] <;> rfl) | (simp [*, errW_none, errW_some] <;> rfl), by repeat (first | (with_reducible first | exact HB.out | apply below_alloc | apply pw_below_drewN | apply below_drew1 | refine below_set ?_ (IsS100.ge HI147.out)) | exact HB.out)⟩
    · rw [if_neg c6] at H
      exact absurd H (by simp)
  · rw [if_neg c5] at H
    exact absurd H (by simp)

/-! ### impl_in: function 59 -/
def impl_in.f (a0 : Int) (a1 : Int) (a2 : Int) : Option (Bool) := if a0 ≥ a1 then (some (decide (a0 ≤ a2))) else (some false)
set_option maxHeartbeats 8000000 in
set_option maxRecDepth 100000 in
theorem impl_in.calls (a0 : Int) (a1 : Int) (a2 : Int) (r : Bool) (w : World) (h : impl_in.f a0 a1 a2 = some r) :
    Calls Try.prog 59 #[.int .i64 a0, .int .i64 a1, .int .i64 a2] w fun e w' => e = .returned (.bool r) ∧ Drawn0 w w' := by
  have H : (if a0 ≥ a1 then (some (decide (a0 ≤ a2))) else (some false)) = some r := h
  clear h
  by_cases c4 : a0 ≥ a1
  · rw [if_pos c4] at H
    have c4b0 : decide (a1 ≤ a0) = true := decide_eq_true c4
    clear c4
    obtain rfl := Option.some.inj H
    go_enter Try.func59, Try.ntmps59
    go_wp2
    go_ret
    exact ⟨by first | rfl | (simp; done) | (simp [*]; done), by repeat (first | exact Drawn0.refl _ | apply Drawn0.step)⟩
  · rw [if_neg c4] at H
    have c4b0 : decide (a1 ≤ a0) = false := decide_eq_false c4
    clear c4
    obtain rfl := Option.some.inj H
    go_enter Try.func59, Try.ntmps59
    go_wp2
    go_ret
    exact ⟨by first | rfl | (simp; done) | (simp [*]; done), by repeat (first | exact Drawn0.refl _ | apply Drawn0.step)⟩

end Go.Proofs.Ytpjkcdgamlllgaa.PFnAdlerMore
