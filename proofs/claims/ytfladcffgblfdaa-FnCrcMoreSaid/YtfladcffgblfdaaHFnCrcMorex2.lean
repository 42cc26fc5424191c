/- What the functions that the law comes to compute, as plain functions, and that the machine's calls come to just that: written by a program for this claim, and turned where Lean did not take it. No condition. -/
import Derived.Test.YtfladcffgblfdaaHFnCrcMorex0
import Derived.Test.YtfladcffgblfdaaHFnCrcMorex1
namespace Go.Proofs.Ytfladcffgblfdaa.PFnCrcMore
open Go.RowKit Go.Proofs.YtfladcffgblfdaaW.PrintWords Go.Proofs.YtfladcffgblfdaaW.PrintLast Go.Proofs.YtfladcffgblfdaaW.PrintMore
attribute [local go_sem] max2_int min2_int max_two min_two max_three min_three max_four min_four   -- for this text's walks alone
set_option linter.unusedVariables false
set_option linter.unusedSimpArgs false

/-! ### spec_l2Crc: function 73 -/
mutual
def spec_l2Crc.l0 : Nat → Int → ByteArray → Int → Option (Int)
  | 0, _, _, _ => none
  | k + 1, x0, x1, x5 => if x5 < (x1.size : Int) then (if 0 ≤ x5 then ((spec_l2Xor.f x0 (wrap64 (bt x1 x5))).bind fun t144 => (spec_l2Crc.l1 k t144 x1 x5 0)) else (none)) else (some x0)
def spec_l2Crc.l1 : Nat → Int → ByteArray → Int → Int → Option (Int)
  | 0, _, _, _, _ => none
  | k + 1, x0, x1, x5, x6 => if x6 < 8 then (if (Int.tmod x0 2) = 1 then ((spec_l2Xor.f (wrap64 (Int.tdiv x0 2)) 3988292384).bind fun t145 => (spec_l2Crc.l1 k t145 x1 x5 (wrap64 (x6 + 1)))) else (spec_l2Crc.l1 k (wrap64 (Int.tdiv x0 2)) x1 x5 (wrap64 (x6 + 1)))) else (spec_l2Crc.l0 k x0 x1 (wrap64 (x5 + 1)))
end
def spec_l2Crc.f (k : Nat) (a0 : Int) (a1 : ByteArray) : Option (Int) := spec_l2Crc.l0 k a0 a1 0
theorem spec_l2Crc.mono_l : ∀ k, (∀ y0 y1 y2, LeO (spec_l2Crc.l0 k y0 y1 y2) (spec_l2Crc.l0 (k + 1) y0 y1 y2)) ∧ (∀ y0 y1 y2 y3, LeO (spec_l2Crc.l1 k y0 y1 y2 y3) (spec_l2Crc.l1 (k + 1) y0 y1 y2 y3))
  | 0 => ⟨fun _ _ _ r h => by simp [spec_l2Crc.l0] at h, fun _ _ _ _ r h => by simp [spec_l2Crc.l1] at h⟩
  | k + 1 => by
    obtain ⟨ih0, ih1⟩ := spec_l2Crc.mono_l k
    refine ⟨?_, ?_⟩
    · intro y0 y1 y2
      unfold spec_l2Crc.l0
      repeat' first
      | (with_reducible exact ih0 _ _ _)
      | (with_reducible exact ih1 _ _ _ _)
      | (with_reducible exact LeO.refl _)
      | (with_reducible exact LeO.none _)
      | (with_reducible refine LeO.ite ?_ ?_)
      | (with_reducible refine LeO.bind ?_ (fun _ => ?_))
      | exact ih0 _ _ _
      | exact ih1 _ _ _ _
      | exact LeO.none _
      | refine LeO.ite ?_ ?_
      | refine LeO.bind ?_ (fun _ => ?_)
    · intro y0 y1 y2 y3
      unfold spec_l2Crc.l1
      repeat' first
      | (with_reducible exact ih0 _ _ _)
      | (with_reducible exact ih1 _ _ _ _)
      | (with_reducible exact LeO.refl _)
      | (with_reducible exact LeO.none _)
      | (with_reducible refine LeO.ite ?_ ?_)
      | (with_reducible refine LeO.bind ?_ (fun _ => ?_))
      | exact ih0 _ _ _
      | exact ih1 _ _ _ _
      | exact LeO.none _
      | refine LeO.ite ?_ ?_
      | refine LeO.bind ?_ (fun _ => ?_)
theorem spec_l2Crc.mono : ∀ a0 a1 k, LeO (spec_l2Crc.f k a0 a1) (spec_l2Crc.f (k + 1) a0 a1) := by
  intro a0 a1 k
  obtain ⟨ih0, ih1⟩ := spec_l2Crc.mono_l k
  unfold spec_l2Crc.f
  repeat' first
      | (with_reducible exact ih0 _ _ _)
      | (with_reducible exact ih1 _ _ _ _)
      | (with_reducible exact LeO.refl _)
      | (with_reducible exact LeO.none _)
      | (with_reducible refine LeO.ite ?_ ?_)
      | (with_reducible refine LeO.bind ?_ (fun _ => ?_))
      | exact ih0 _ _ _
      | exact ih1 _ _ _ _
      | exact LeO.none _
      | refine LeO.ite ?_ ?_
      | refine LeO.bind ?_ (fun _ => ?_)
set_option maxHeartbeats 8000000 in
set_option maxRecDepth 100000 in
theorem spec_l2Crc.calls (k : Nat) (a0 : Int) (a1 : ByteArray) (r : Int) (w : World) (h : spec_l2Crc.f k a0 a1 = some r) :
    Calls Try.prog 73 #[.int .i64 a0, .string a1] w fun e w' => e = .returned (.int .i64 r) ∧ Drawn0 w w' := by
  have H : (spec_l2Crc.l0 k a0 a1 0) = some r := h
  clear h
  have H' := Aside0.mk H
  clear H
  go_enter Try.func73, Try.ntmps73
  go_wp2
  go_loopg [0, 5] k (fun kq v0 v5 w' => ∃ (x0_1 : Int) (x5_1 : Int), v0 = .int .i64 x0_1 ∧ v5 = .int .i64 x5_1 ∧ Aside0 (spec_l2Crc.l0 kq x0_1 a1 x5_1 = some r) ∧ Aside0 (kq ≤ k) ∧ Drawn0 w w')
  case atStart => exact ⟨(a0), (0), (by first | rfl | (simp; done) | (simp [*]; done)), (by first | rfl | (simp; done) | (simp [*]; done)), H', ⟨Nat.le_refl _⟩, by repeat (first | exact Drawn0.refl _ | apply Drawn0.step)⟩
  case round =>
    clear H'
    try clear p2
    obtain ⟨x0_1, x5_1, rfl, rfl, HA, HK1, ⟨m1, rfl⟩⟩ := hrel
    cases gk with
    | zero => exact absurd HA.out (by simp [spec_l2Crc.l0])
    | succ k1 =>
      have H := HA.out
      clear HA
      simp only [spec_l2Crc.l0] at H
      by_cases c3 : x5_1 < (a1.size : Int)
      · rw [if_pos c3] at H
        have c3b0 : decide (x5_1 < (a1.size : Int)) = true := decide_eq_true c3
        clear c3
        by_cases c4 : 0 ≤ x5_1
        · rw [if_pos c4] at H
          have c4b0 : decide (0 ≤ x5_1) = true := decide_eq_true c4
          clear c4
          replace H := Option.bind_eq_some_iff.mp H
          obtain ⟨t144, A60, H⟩ := H
          replace H : (spec_l2Crc.l1 k1 t144 a1 x5_1 0) = some r := H
          have A6 := Aside0.mk A60
          clear A60
          have H' := Aside0.mk H
          clear H
          have p5 : 0 ≤ (x5_1 : Int) := of_decide_eq_true (by first | (with_reducible assumption) | assumption)
          have q5 : x5_1 < (a1.size : Int) := of_decide_eq_true (by first | (with_reducible assumption) | assumption)
          have hx5 := bt_at a1 x5_1
          replace p5 := eq_true p5
          replace q5 := eq_true q5
          go_wp2_with (first | ((with_reducible refine gate_callee (f := 72) rfl ?_); refine goesL_ (some 18) rfl rfl Try.func72 (by kernel_rfl) rfl #[.int .i64 x0_1, .int .i64 (wrap64 (bt a1 x5_1))] rfl (by (try simp only [List.map_toArray, List.map_cons, List.map_nil]); first | done | rfl | (simp only [List.length_drop, List.length_take]; rfl)) ?_; (with_reducible refine (spec_l2Xor.calls x0_1 (wrap64 (bt a1 x5_1)) t144 _ A6.out).mono ?_); rintro e w' ⟨rfl, ⟨nd, rfl⟩⟩; refine ⟨_, rfl, ?_⟩))
          go_loopg [0, 6] k1 (fun kq v0 v6 w' => ∃ (x0_2 : Int) (x6_2 : Int), v0 = .int .i64 x0_2 ∧ v6 = .int .i64 x6_2 ∧ Aside0 (spec_l2Crc.l1 kq x0_2 a1 x5_1 x6_2 = some r) ∧ Aside0 (kq ≤ k1) ∧ Drawn0 w w')
          case atStart => exact ⟨(t144), (0), (by first | rfl | (simp; done) | (simp [*]; done)), (by first | rfl | (simp; done) | (simp [*]; done)), H', ⟨Nat.le_refl _⟩, by repeat (first | exact Drawn0.refl _ | apply Drawn0.step)⟩
          case round =>
            clear H'
            try clear p2
            try clear c3
            try clear c3b0
            try clear c4
            try clear c4b0
            try clear p5
            try clear q5
            try clear hx5
            try clear p6
            try clear p2
            try clear p5
            try clear q5
            obtain ⟨x0_2, x6_2, rfl, rfl, HA, HK2, ⟨m2, rfl⟩⟩ := hrel
            cases gk with
            | zero => exact absurd HA.out (by simp [spec_l2Crc.l1])
            | succ k2 =>
              have H := HA.out
              clear HA
              simp only [spec_l2Crc.l1] at H
              by_cases c7 : x6_2 < 8
              · rw [if_pos c7] at H
                have c7b0 : decide (x6_2 < 8) = true := decide_eq_true c7
                clear c7
                by_cases c8 : (Int.tmod x0_2 2) = 1
                · rw [if_pos c8] at H
                  have c8b0 : ((Int.tmod x0_2 2) == 1) = true := beq_iff_eq.mpr c8
                  have c8b1 : ((Int.tmod x0_2 2) != 1) = false := bne_eq_false_iff_eq.mpr c8
                  clear c8
                  replace H := Option.bind_eq_some_iff.mp H
                  obtain ⟨t145, A90, H⟩ := H
                  replace H : (spec_l2Crc.l1 k2 t145 a1 x5_1 (wrap64 (x6_2 + 1))) = some r := H
                  have A9 := Aside0.mk A90
                  clear A90
                  have H' := Aside0.mk H
                  clear H
                  go_wp2_with (first | ((with_reducible refine gate_callee (f := 72) rfl ?_); refine goesL_ (some 28) rfl rfl Try.func72 (by kernel_rfl) rfl #[.int .i64 (wrap64 (Int.tdiv x0_2 2)), .int .i64 3988292384] rfl (by (try simp only [List.map_toArray, List.map_cons, List.map_nil]); first | done | rfl | (simp only [List.length_drop, List.length_take]; rfl)) ?_; (with_reducible refine (spec_l2Xor.calls (wrap64 (Int.tdiv x0_2 2)) 3988292384 t145 _ A9.out).mono ?_); rintro e w' ⟨rfl, ⟨nd, rfl⟩⟩; refine ⟨_, rfl, ?_⟩))
                  go_roundg k2
                  case measure => have := HK1.out; have := HK2.out; omega
                  case rel => exact ⟨(t145), (wrap64 (x6_2 + 1)), (by first | rfl | (simp; done) | (simp [*]; done)), (by first | rfl | (simp; done) | (simp [*]; done)), H', ⟨by have := HK1.out; have := HK2.out; omega⟩, by repeat (first | exact Drawn0.refl _ | apply Drawn0.step)⟩
                · rw [if_neg c8] at H
                  have c8b0 : ((Int.tmod x0_2 2) == 1) = false := beq_eq_false_iff_ne.mpr c8
                  have c8b1 : ((Int.tmod x0_2 2) != 1) = true := bne_iff_ne.mpr c8
                  have H' := Aside0.mk H
                  clear H
                  go_wp2
                  go_roundg k2
                  case measure => have := HK1.out; have := HK2.out; omega
                  case rel => exact ⟨(wrap64 (Int.tdiv x0_2 2)), (wrap64 (x6_2 + 1)), (by first | rfl | (simp; done) | (simp [*]; done)), (by first | rfl | (simp; done) | (simp [*]; done)), H', ⟨by have := HK1.out; have := HK2.out; omega⟩, by repeat (first | exact Drawn0.refl _ | apply Drawn0.step)⟩
              · rw [if_neg c7] at H
                have c7b0 : decide (x6_2 < 8) = false := decide_eq_false c7
                clear c7
                have H' := Aside0.mk H
                clear H
                go_wp2
                go_roundg k2
                case measure => have := HK1.out; have := HK2.out; omega
                case rel => exact ⟨(x0_2), (wrap64 (x5_1 + 1)), (by first | rfl | (simp; done) | (simp [*]; done)), (by first | rfl | (simp; done) | (simp [*]; done)), H', ⟨by have := HK1.out; have := HK2.out; omega⟩, by repeat (first | exact Drawn0.refl _ | apply Drawn0.step)⟩
        · rw [if_neg c4] at H
          exact absurd H (by simp)
      · rw [if_neg c3] at H
        have c3b0 : decide (x5_1 < (a1.size : Int)) = false := decide_eq_false c3
        clear c3
        obtain rfl := Option.some.inj H
        go_wp2
        go_ret
        exact ⟨by first | rfl | (simp; done) | (simp [*]; done), by repeat (first | exact Drawn0.refl _ | apply Drawn0.step)⟩

/-! ### spec_CrcMore: function 20 -/
def spec_CrcMore.j0 : Nat → Int → ByteArray → Bool → Option (Int)
  | 0, _, _, _ => none
  | k + 1, x0, x1, x12 => if x12 = true then (some 0) else ((spec_l2Xor.f x0 4294967295).bind fun t147 => ((spec_l2Crc.f k t147 x1).bind fun t148 => ((spec_l2Xor.f t148 4294967295).bind fun t149 => (some t149))))
def spec_CrcMore.f (k : Nat) (a0 : Int) (a1 : ByteArray) : Option (Int) := (spec_l1In.f a0 0 4294967295).bind fun t146 => (if t146 = true then (spec_CrcMore.j0 k a0 a1 (decide ((a1.size : Int) > 9000))) else (spec_CrcMore.j0 k a0 a1 true))
theorem spec_CrcMore.mono_l : ∀ k, (∀ y0 y1 y2, LeO (spec_CrcMore.j0 k y0 y1 y2) (spec_CrcMore.j0 (k + 1) y0 y1 y2))
  | 0 => fun _ _ _ r h => by simp [spec_CrcMore.j0] at h
  | k + 1 => by
    have ih0 := spec_CrcMore.mono_l k
    · intro y0 y1 y2
      unfold spec_CrcMore.j0
      repeat' first
      | (with_reducible exact ih0 _ _ _)
      | (with_reducible exact spec_l2Crc.mono _ _ _)
      | (with_reducible exact LeO.refl _)
      | (with_reducible exact LeO.none _)
      | (with_reducible refine LeO.ite ?_ ?_)
      | (with_reducible refine LeO.bind ?_ (fun _ => ?_))
      | exact ih0 _ _ _
      | exact spec_l2Crc.mono _ _ _
      | exact LeO.none _
      | refine LeO.ite ?_ ?_
      | refine LeO.bind ?_ (fun _ => ?_)
theorem spec_CrcMore.mono : ∀ a0 a1 k, LeO (spec_CrcMore.f k a0 a1) (spec_CrcMore.f (k + 1) a0 a1) := by
  intro a0 a1 k
  have ih0 := spec_CrcMore.mono_l k
  unfold spec_CrcMore.f
  repeat' first
      | (with_reducible exact ih0 _ _ _)
      | (with_reducible exact spec_l2Crc.mono _ _ _)
      | (with_reducible exact LeO.refl _)
      | (with_reducible exact LeO.none _)
      | (with_reducible refine LeO.ite ?_ ?_)
      | (with_reducible refine LeO.bind ?_ (fun _ => ?_))
      | exact ih0 _ _ _
      | exact spec_l2Crc.mono _ _ _
      | exact LeO.none _
      | refine LeO.ite ?_ ?_
      | refine LeO.bind ?_ (fun _ => ?_)
set_option maxHeartbeats 8000000 in
set_option maxRecDepth 100000 in
theorem spec_CrcMore.calls (k : Nat) (a0 : Int) (a1 : ByteArray) (r : Int) (w : World) (h : spec_CrcMore.f k a0 a1 = some r) :
    Calls Try.prog 20 #[.int .i64 a0, .string a1] w fun e w' => e = .returned (.int .i64 r) ∧ Drawn0 w w' := by
  have H : ((spec_l1In.f a0 0 4294967295).bind fun t146 => (if t146 = true then (spec_CrcMore.j0 k a0 a1 (decide ((a1.size : Int) > 9000))) else (spec_CrcMore.j0 k a0 a1 true))) = some r := h
  clear h
  have HC3 := Aside0.mk H
  clear H
  go_enter Try.func20, Try.ntmps20
  go_upto_region 1 with (fail)
  go_cut [12] (fun v12 wc => ∃ (kq : Nat) (x12_2 : Bool), v12 = .bool x12_2 ∧ Aside0 (spec_CrcMore.j0 kq a0 a1 x12_2 = some r) ∧ Aside0 (kq ≤ k) ∧ Drawn0 w wc)
  case first =>
    have H := HC3.out
    clear HC3
    replace H := Option.bind_eq_some_iff.mp H
    obtain ⟨t146, A40, H⟩ := H
    replace H : (if t146 = true then (spec_CrcMore.j0 k a0 a1 (decide ((a1.size : Int) > 9000))) else (spec_CrcMore.j0 k a0 a1 true)) = some r := H
    have A4 := Aside0.mk A40
    clear A40
    by_cases c5 : t146 = true
    · subst c5
      have H1 : (spec_CrcMore.j0 k a0 a1 (decide ((a1.size : Int) > 9000))) = some r := by rw [if_pos rfl] at H; exact H
      clear H
      have H := H1
      clear H1
      have H' := Aside0.mk H
      clear H
      go_wp2_with (first | ((with_reducible refine gate_callee (f := 71) rfl ?_); refine goesL_ (some 6) rfl rfl Try.func71 (by kernel_rfl) rfl #[.int .i64 a0, .int .i64 0, .int .i64 4294967295] rfl (by (try simp only [List.map_toArray, List.map_cons, List.map_nil]); first | done | rfl | (simp only [List.length_drop, List.length_take]; rfl)) ?_; (with_reducible refine (spec_l1In.calls a0 0 4294967295 true _ A4.out).mono ?_); rintro e w' ⟨rfl, ⟨nd, rfl⟩⟩; refine ⟨_, rfl, ?_⟩))
      go_meet
      case rel => exact ⟨_, (decide ((a1.size : Int) > 9000)), (by first | rfl | (simp; done) | (simp [*]; done)), H', ⟨by first | omega | exact Nat.le_refl _⟩, by repeat (first | exact Drawn0.refl _ | apply Drawn0.step)⟩
    · replace c5 := Bool.eq_false_iff.mpr c5
      subst c5
      have H1 : (spec_CrcMore.j0 k a0 a1 true) = some r := by rw [if_neg (show ¬ (false = true) by decide)] at H; exact H
      clear H
      have H := H1
      clear H1
      have H' := Aside0.mk H
      clear H
      go_wp2_with (first | ((with_reducible refine gate_callee (f := 71) rfl ?_); refine goesL_ (some 6) rfl rfl Try.func71 (by kernel_rfl) rfl #[.int .i64 a0, .int .i64 0, .int .i64 4294967295] rfl (by (try simp only [List.map_toArray, List.map_cons, List.map_nil]); first | done | rfl | (simp only [List.length_drop, List.length_take]; rfl)) ?_; (with_reducible refine (spec_l1In.calls a0 0 4294967295 false _ A4.out).mono ?_); rintro e w' ⟨rfl, ⟨nd, rfl⟩⟩; refine ⟨_, rfl, ?_⟩))
      go_meet
      case rel => exact ⟨_, (true), (by first | rfl | (simp; done) | (simp [*]; done)), H', ⟨by first | omega | exact Nat.le_refl _⟩, by repeat (first | exact Drawn0.refl _ | apply Drawn0.step)⟩
  case rest =>
    clear HC3
    try clear c2
    try clear p2
    try clear c5
    obtain ⟨kq, x12_2, rfl, HA, HJ2, ⟨mc2, rfl⟩⟩ := hcut
    cases kq with
    | zero => exact absurd HA.out (by simp [spec_CrcMore.j0])
    | succ kj2 =>
      have H := HA.out
      clear HA
      simp only [spec_CrcMore.j0] at H
      by_cases c6 : x12_2 = true
      · subst c6
        have H1 : (some 0) = some r := by rw [if_pos rfl] at H; exact H
        clear H
        have H := H1
        clear H1
        obtain rfl := Option.some.inj H
        go_wp2
        go_ret
        exact ⟨by first | rfl | (simp; done) | (simp [*]; done), by repeat (first | exact Drawn0.refl _ | apply Drawn0.step)⟩
      · replace c6 := Bool.eq_false_iff.mpr c6
        subst c6
        have H1 : ((spec_l2Xor.f a0 4294967295).bind fun t147 => ((spec_l2Crc.f kj2 t147 a1).bind fun t148 => ((spec_l2Xor.f t148 4294967295).bind fun t149 => (some t149)))) = some r := by rw [if_neg (show ¬ (false = true) by decide)] at H; exact H
        clear H
        have H := H1
        clear H1
        replace H := Option.bind_eq_some_iff.mp H
        obtain ⟨t147, A70, H⟩ := H
        replace H : ((spec_l2Crc.f kj2 t147 a1).bind fun t148 => ((spec_l2Xor.f t148 4294967295).bind fun t149 => (some t149))) = some r := H
        have A7 := Aside0.mk A70
        clear A70
        replace H := Option.bind_eq_some_iff.mp H
        obtain ⟨t148, A80, H⟩ := H
        replace H : ((spec_l2Xor.f t148 4294967295).bind fun t149 => (some t149)) = some r := H
        have A8 := Aside0.mk A80
        clear A80
        replace H := Option.bind_eq_some_iff.mp H
        obtain ⟨t149, A90, H⟩ := H
        replace H : (some t149) = some r := H
        have A9 := Aside0.mk A90
        clear A90
        obtain rfl := Option.some.inj H
        go_wp2_with (first | ((with_reducible refine gate_callee (f := 72) rfl ?_); refine goesL_ (some 14) rfl rfl Try.func72 (by kernel_rfl) rfl #[.int .i64 a0, .int .i64 4294967295] rfl (by (try simp only [List.map_toArray, List.map_cons, List.map_nil]); first | done | rfl | (simp only [List.length_drop, List.length_take]; rfl)) ?_; (with_reducible refine (spec_l2Xor.calls a0 4294967295 t147 _ A7.out).mono ?_); rintro e w' ⟨rfl, ⟨nd, rfl⟩⟩; refine ⟨_, rfl, ?_⟩) | ((with_reducible refine gate_callee (f := 73) rfl ?_); refine goesL_ (some 16) rfl rfl Try.func73 (by kernel_rfl) rfl #[.int .i64 t147, .string a1] rfl (by (try simp only [List.map_toArray, List.map_cons, List.map_nil]); first | done | rfl | (simp only [List.length_drop, List.length_take]; rfl)) ?_; (with_reducible refine (spec_l2Crc.calls kj2 t147 a1 t148 _ A8.out).mono ?_); rintro e w' ⟨rfl, ⟨nd, rfl⟩⟩; refine ⟨_, rfl, ?_⟩) | ((with_reducible refine gate_callee (f := 72) rfl ?_); refine goesL_ (some 17) rfl rfl Try.func72 (by kernel_rfl) rfl #[.int .i64 t148, .int .i64 4294967295] rfl (by (try simp only [List.map_toArray, List.map_cons, List.map_nil]); first | done | rfl | (simp only [List.length_drop, List.length_take]; rfl)) ?_; (with_reducible refine (spec_l2Xor.calls t148 4294967295 t149 _ A9.out).mono ?_); rintro e w' ⟨rfl, ⟨nd, rfl⟩⟩; refine ⟨_, rfl, ?_⟩))
        go_ret
        exact ⟨by first | rfl | (simp; done) | (simp [*]; done), by repeat (first | exact Drawn0.refl _ | apply Drawn0.step)⟩

/-! ### spec_DrawCrcMore: function 16 -/
def spec_DrawCrcMore.f (k : Nat) (l0 : List Int) : Option (Int × ByteArray) := (spec_l1Open.f l0).bind fun bt150 => ((spec_CrcMore.f k 0 (⟨#[97, 104, 101, 97, 100]⟩ : ByteArray)).bind fun t153 => ((some (([t153, 0, 4294967295, (-1), 4294967296] : List Int) : List Int)).bind fun y154 => ((spec_l1Rd_pick.f k bt150.1 bt150.2 5).bind fun bt157 => (if 0 ≤ bt157.1 then (if bt157.1 < (y154.length : Int) then ((spec_l14Text.f k bt150.1 bt157.2).bind fun bt160 => (some (rd y154 bt157.1, bt160.1))) else (none)) else (none)))))
theorem spec_DrawCrcMore.mono : ∀ a0 k, LeO (spec_DrawCrcMore.f k a0) (spec_DrawCrcMore.f (k + 1) a0) := by
  intro a0 k
  unfold spec_DrawCrcMore.f
  repeat' first
      | (with_reducible exact spec_CrcMore.mono _ _ _)
      | (with_reducible exact spec_l14Text.mono _ _ _)
      | (with_reducible exact spec_l1Rd_pick.mono _ _ _ _)
      | (with_reducible exact LeO.refl _)
      | (with_reducible exact LeO.none _)
      | (with_reducible refine LeO.ite ?_ ?_)
      | (with_reducible refine LeO.bind ?_ (fun _ => ?_))
      | exact spec_CrcMore.mono _ _ _
      | exact spec_l14Text.mono _ _ _
      | exact spec_l1Rd_pick.mono _ _ _ _
      | exact LeO.none _
      | refine LeO.ite ?_ ?_
      | refine LeO.bind ?_ (fun _ => ?_)
def spec_DrawCrcMore.T2 : Bool × List (List Nat × List Nat) := (true, [([], []), ([0], [0]), ([], []), ([2, 0], [2]), ([1, 3], [1, 3]), ([4], [4]), ([], []), ([6, 3], [6]), ([5, 7, 0, 1, 2, 3, 4, 5], [5]), ([7, 8, 0, 1, 2, 3, 4, 5, 6, 7, 8], [7])])
def spec_DrawCrcMore.B2 : List Nat := [0, 1, 0, 5, 15, 31, 0, 77, 255, 511]
theorem spec_DrawCrcMore.tab2 : rtab .any (opsOf Try.f16 2) = spec_DrawCrcMore.T2 := by kernel_rfl
theorem spec_DrawCrcMore.bits2 : waitsOk spec_DrawCrcMore.T2.2 spec_DrawCrcMore.B2 = true := by kernel_rfl
set_option maxHeartbeats 8000000 in
set_option maxRecDepth 100000 in
theorem spec_DrawCrcMore.calls (k : Nat) (A0 : Option Addr) (c0 : Nat) (l0 : List Int) (r1 : Int) (r2 : ByteArray) (w : World) (hr0 : Kd.C (Kd.int .u8) w A0 l0.length l0) (hc0 : l0.length ≤ c0) (h : spec_DrawCrcMore.f k l0 = some (r1, r2)) :
    Calls Try.prog 16 #[.slice A0 l0.length c0] w fun e w' => e = .returned (.tuple #[.int .i64 r1, .string r2]) ∧ Below w.heap.size w w' := by
  have HR0 := Aside0.mk hr0
  have HC0 := Aside0.mk hc0
  clear hr0 hc0
  have HB := Aside0.mk (Below.refl w.heap.size w)
  have H : ((spec_l1Open.f l0).bind fun bt150 => ((spec_CrcMore.f k 0 (⟨#[97, 104, 101, 97, 100]⟩ : ByteArray)).bind fun t153 => ((some (([t153, 0, 4294967295, (-1), 4294967296] : List Int) : List Int)).bind fun y154 => ((spec_l1Rd_pick.f k bt150.1 bt150.2 5).bind fun bt157 => (if 0 ≤ bt157.1 then (if bt157.1 < (y154.length : Int) then ((spec_l14Text.f k bt150.1 bt157.2).bind fun bt160 => (some (rd y154 bt157.1, bt160.1))) else (none)) else (none)))))) = some (r1, r2) := h
  clear h
  replace H := Option.bind_eq_some_iff.mp H
  obtain ⟨⟨t150, t151⟩, A20, H⟩ := H
  replace H : ((spec_CrcMore.f k 0 (⟨#[97, 104, 101, 97, 100]⟩ : ByteArray)).bind fun t153 => ((some (([t153, 0, 4294967295, (-1), 4294967296] : List Int) : List Int)).bind fun y154 => ((spec_l1Rd_pick.f k t150 t151 5).bind fun bt157 => (if 0 ≤ bt157.1 then (if bt157.1 < (y154.length : Int) then ((spec_l14Text.f k t150 bt157.2).bind fun bt160 => (some (rd y154 bt157.1, bt160.1))) else (none)) else (none))))) = some (r1, r2) := H
  have A2 := Aside0.mk A20
  clear A20
  replace H := Option.bind_eq_some_iff.mp H
  obtain ⟨t153, A30, H⟩ := H
  replace H : ((some (([t153, 0, 4294967295, (-1), 4294967296] : List Int) : List Int)).bind fun y154 => ((spec_l1Rd_pick.f k t150 t151 5).bind fun bt157 => (if 0 ≤ bt157.1 then (if bt157.1 < (y154.length : Int) then ((spec_l14Text.f k t150 bt157.2).bind fun bt160 => (some (rd y154 bt157.1, bt160.1))) else (none)) else (none)))) = some (r1, r2) := H
  have A3 := Aside0.mk A30
  clear A30
  obtain ⟨y154, hy154⟩ : ∃ y_ : List Int, y_ = (([t153, 0, 4294967295, (-1), 4294967296] : List Int)) := ⟨_, rfl⟩
  replace H : ((spec_l1Rd_pick.f k t150 t151 5).bind fun bt157 => (if 0 ≤ bt157.1 then (if bt157.1 < (y154.length : Int) then ((spec_l14Text.f k t150 bt157.2).bind fun bt160 => (some (rd y154 bt157.1, bt160.1))) else (none)) else (none))) = some (r1, r2) := by first | (rw [hy154]; with_reducible exact H) | (have H2_ := (Option.bind_some _ _).symm.trans H; rw [hy154]; with_reducible exact H2_) | (have H2_ := (Option.bind_some _ _).symm.trans H; with_reducible exact H2_) | with_reducible exact H | (rw [hy154]; exact H) | exact H
  have Ny154 := Aside0.mk hy154
  clear hy154
  replace H := Option.bind_eq_some_iff.mp H
  obtain ⟨⟨t157, t158⟩, A40, H⟩ := H
  replace H : (if 0 ≤ t157 then (if t157 < (y154.length : Int) then ((spec_l14Text.f k t150 t158).bind fun bt160 => (some (rd y154 t157, bt160.1))) else (none)) else (none)) = some (r1, r2) := H
  have A4 := Aside0.mk A40
  clear A40
  by_cases c5 : 0 ≤ t157
  · rw [if_pos c5] at H
    have c5b0 : decide (0 ≤ t157) = true := decide_eq_true c5
    clear c5
    by_cases c6 : t157 < (y154.length : Int)
    · rw [if_pos c6] at H
      have c6b0 : decide (t157 < (y154.length : Int)) = true := decide_eq_true c6
      clear c6
      replace H := Option.bind_eq_some_iff.mp H
      obtain ⟨⟨t160, t161⟩, A70, H⟩ := H
      replace H : (some (rd y154 t157, t160)) = some (r1, r2) := H
      have A7 := Aside0.mk A70
      clear A70
      simp only [Option.some.injEq, Prod.mk.injEq] at H
      obtain ⟨rfl, rfl⟩ := H
      go_enter Try.func16, Try.ntmps16
      try go_wp2_with (first | ((with_reducible refine gate_callee (f := 68) rfl ?_); refine goesL_ (some 6) rfl rfl Try.func68 (by kernel_rfl) rfl #[.slice A0 l0.length c0] rfl (by (try simp only [List.map_toArray, List.map_cons, List.map_nil]); first | done | rfl | (simp only [List.length_drop, List.length_take]; rfl)) ?_; (with_reducible refine (spec_l1Open.calls _ _ l0 t150 t151 w _ ?side1 ?side2 ?side3 A2.out).mono ?_); (case side1 => repeat (first | (with_reducible first | exact HB.out | apply below_alloc | apply pw_below_drewN | apply below_drew1) | exact HB.out)); (case side2 => exact HR0.out); (case side3 => exact HC0.out); rintro e w8 ⟨g152, rfl, hi, hb, hb2⟩; refine ⟨_, rfl, ?_⟩; have n0_ := Aside0.mk (hb); have n1_ := Aside0.mk (hi); clear HB; have HB := n0_; have HI152 := n1_; clear n0_ n1_; (try clear hb); (try clear hb2); (try clear hk); (try clear hi)))
      have pi159 : (0 ≤ (t157 : Int)) = True := eq_true (of_decide_eq_true (by first | (with_reducible assumption) | assumption))
      have qi159 : (t157 < (y154.length : Int)) = True := eq_true (of_decide_eq_true (by first | (with_reducible assumption) | assumption))
      have n0_ := Aside0.mk (IsS93.drew HI152.out)
      have n1_ := Aside0.mk (below_drew1 HB.out)
      clear HI152
      clear HB
      have HI152 := n0_
      have HB := n1_
      clear n0_ n1_
      refine start_ (n := 10) (S := fun w' => True) (ds := []) #[false, false, false, false, false, false, false, false, false, false] (by kernel_rfl) rfl rfl trivial (fun hHeld => ?_); refine with_tabW spec_DrawCrcMore.tab2 spec_DrawCrcMore.bits2 (fun HT_ HW_ => ?_)
      generalize w8.drew = w9 at HI152 HB hHeld ⊢
      refine pure_ (i := 2) (N := some 9) (v := ?_) (a' := ?_) #[false, false, true, false, false, false, false, false, false, false] rfl rfl (any_of HT_.out (by kernel_rfl)) (fun _ _ _ h => h) (Or.inl ⟨by rfl, ?_⟩) ?_ ?_
      rotate_left
      · intro w'
        go_simp
        with_reducible rfl
      rotate_left
      · simp only [Act.put, List.setIfInBounds_toArray, List.set_cons_zero, List.set_cons_succ, i64_w, i32_w]
        rfl
      refine pure_ (i := 6) (N := some 13) (v := ?_) (a' := ?_) #[false, false, true, false, false, false, true, false, false, false] rfl rfl (any_of HT_.out (by kernel_rfl)) (fun _ _ _ h => h) (Or.inl ⟨by rfl, ?_⟩) ?_ ?_
      rotate_left
      · intro w'
        go_simp
        with_reducible rfl
      rotate_left
      · simp only [Act.put, List.setIfInBounds_toArray, List.set_cons_zero, List.set_cons_succ, i64_w, i32_w]
        rfl
      refine one_ (i := 0) (N := some 7) #[true, false, true, false, false, false, true, false, false, false] rfl rfl (one_of HT_.out (by kernel_rfl)) (by decide) (fun K hK => ?_)
      refine goes_ Try.func20 (by kernel_rfl) rfl #[.int .i64 0, .string (⟨#[97, 104, 101, 97, 100]⟩ : ByteArray)] (by rfl) rfl rfl (by (try simp only [List.map_toArray, List.map_cons, List.map_nil]); first | done | rfl | (simp only [List.length_drop, List.length_take]; rfl)) ?_
      with_reducible refine (spec_CrcMore.calls k 0 (⟨#[97, 104, 101, 97, 100]⟩ : ByteArray) t153 _ A3.out).mono ?_
      rintro e w' ⟨rfl, ⟨nd, rfl⟩⟩
      refine ⟨_, rfl, ?_⟩
      refine hK.out _ _ trivial (fun hHeld => ?_)
      clear hK K
      refine norm_ (a' := ?_) ?_ ?_
      rotate_left
      · show Act.put _ (some 7) _ = _
        simp only [Act.put, List.setIfInBounds_toArray, List.set_cons_zero, List.set_cons_succ, i64_w, i32_w]
        rfl
      refine join_ (σ := Value × Addr) 2 #[true, true, true, true, true, true, true, true, false, false] (fun s_ => [(8, s_.1), (10, .int .i64 t157), (12, .int .i64 (rd y154 t157)), (14, .string t160), (11, .pointer (some (s_.2.add (t157).toNat)))]) (fun s_ w' => (Kd.R (Kd.int .i64) 3 w' w.heap.size (fun _ => True) s_.1 y154) ∧ (∃ c_, (s_.1 : Value) = .slice (some s_.2) y154.length c_) ∧ (IsS93 w w' g152 t150 t161) ∧ (Below w.heap.size w w')) ?_ ?_
      rotate_left
      · intro hJ1_3_5_7
        refine join_ (σ := Value × Addr) 3 #[true, true, true, true, true, true, true, false, false, false] (fun s_ => [(8, s_.1), (10, .int .i64 t157), (12, .int .i64 (rd y154 t157)), (11, .pointer (some (s_.2.add (t157).toNat)))]) (fun s_ w' => (Kd.R (Kd.int .i64) 3 w' w.heap.size (fun _ => True) s_.1 y154) ∧ (∃ c_, (s_.1 : Value) = .slice (some s_.2) y154.length c_) ∧ (IsS93 w w' g152 t150 t158) ∧ (Below w.heap.size w w')) ?_ ?_
        rotate_left
        · intro hJ1_3_5
          refine join_ (σ := Value × Addr) 3 #[true, true, true, true, true, false, true, true, false, false] (fun s_ => [(8, s_.1), (10, .int .i64 t157), (14, .string t160), (11, .pointer (some (s_.2.add (t157).toNat)))]) (fun s_ w' => (Kd.R (Kd.int .i64) 3 w' w.heap.size (fun _ => True) s_.1 y154) ∧ (∃ c_, (s_.1 : Value) = .slice (some s_.2) y154.length c_) ∧ (IsS93 w w' g152 t150 t161) ∧ (Below w.heap.size w w')) ?_ ?_
          rotate_left
          · intro hJ1_3_7
            refine join_ (σ := Value × Addr) 4 #[true, true, true, true, true, false, true, false, false, false] (fun s_ => [(8, s_.1), (10, .int .i64 t157), (11, .pointer (some (s_.2.add (t157).toNat)))]) (fun s_ w' => (Kd.R (Kd.int .i64) 3 w' w.heap.size (fun _ => True) s_.1 y154) ∧ (∃ c_, (s_.1 : Value) = .slice (some s_.2) y154.length c_) ∧ (IsS93 w w' g152 t150 t158) ∧ (Below w.heap.size w w')) ?_ ?_
            rotate_left
            · intro hJ1_3
              refine join_ (σ := Unit) 5 #[true, false, true, true, false, false, true, true, false, false] (fun s_ => [(10, .int .i64 t157), (14, .string t160)]) (fun s_ w' => (IsS93 w w' g152 t150 t161) ∧ (Below w.heap.size w w')) ?_ ?_
              rotate_left
              · intro hJ3_7
                refine join_ (σ := Value × Addr) 6 #[true, true, true, false, false, false, true, false, false, false] (fun s_ => [(8, s_.1)]) (fun s_ w' => (Kd.R (Kd.int .i64) 3 w' w.heap.size (fun _ => True) s_.1 y154) ∧ (∃ c_, (s_.1 : Value) = .slice (some s_.2) y154.length c_) ∧ (IsS93 w w' g152 t150 t151) ∧ (Below w.heap.size w w')) ?_ ?_
                rotate_left
                · intro hJ1
                  refine join_ (σ := Unit) 6 #[true, false, true, true, false, false, true, false, false, false] (fun s_ => [(10, .int .i64 t157)]) (fun s_ w' => (IsS93 w w' g152 t150 t158) ∧ (Below w.heap.size w w')) ?_ ?_
                  rotate_left
                  · intro hJ3
                    refine two_ (i := 1) (j := 3) (Ni := some 8) (Nj := some 10) #[true, true, true, false, false, false, true, false, false, false] #[true, false, true, true, false, false, true, false, false, false] rfl rfl rfl rfl (two_of HT_.out (by kernel_rfl)) (by decide) (by decide) (fun K hK => ?_) (fun K hK => ?_)
                    · skip
                      refine Kd.R_lit_step (Kd.int .i64) _ 3 ?hg (N := 8) ?hd (xs := ([t153, 0, 4294967295, (-1), 4294967296] : List Int)) (inner := [.int .i64 t153, .int .i64 0, .int .i64 4294967295, .int .i64 (-1), .int .i64 4294967296]) (ok := fun _ => True) (okp := fun _ => True) ?hr ?hp (fun _ hk => hk) trivial (Below.refl _ _) (Nat.le_refl _) (by simp) ?_; (case hd => rfl); (case hg => rfl); (case hr => first | (go_simp; done) | (go_simp; rfl)); (case hp => exact (Reps.one (show Kd.M (Kd.int .i64) _ _ _ t153 [.int .i64 t153] from rfl) (Reps.one (show Kd.M (Kd.int .i64) _ _ _ 0 [.int .i64 0] from rfl) (Reps.one (show Kd.M (Kd.int .i64) _ _ _ 4294967295 [.int .i64 4294967295] from rfl) (Reps.one (show Kd.M (Kd.int .i64) _ _ _ (-1) [.int .i64 (-1)] from rfl) (Reps.one (show Kd.M (Kd.int .i64) _ _ _ 4294967296 [.int .i64 4294967296] from rfl) (Reps.none _ _)))))))
                      intro v155 w10 ho11 hb hg_ hnew_
                      clear hg_ hnew_
                      (first | rw [← Ny154.out] at ho11 | (simp only [Int.reduceToNat] at ho11; rw [← Ny154.out] at ho11))
                      have n0_ := Aside0.mk (Kd.R_lower ho11 (below_size (by repeat (first | (with_reducible first | exact HB.out | apply below_alloc | apply pw_below_drewN | apply below_drew1 | refine below_set ?_ (IsS93.ge HI152.out)) | exact HB.out))))
                      have n1_ := Aside0.mk (IsS93.below (by repeat (first | (with_reducible first | exact HI152.out | apply IsS93.alloc | apply IsS93.drewN | apply IsS93.drew | apply IsS93.set_1) | exact HI152.out)) hb)
                      have n2_ := Aside0.mk (below_step (by repeat (first | (with_reducible first | exact HB.out | apply below_alloc | apply pw_below_drewN | apply below_drew1 | refine below_set ?_ (IsS93.ge HI152.out)) | exact HB.out)) hb)
                      clear HI152
                      clear HB
                      have HO156 := n0_
                      have HI152 := n1_
                      have HB := n2_
                      clear n0_ n1_ n2_
                      clear hb ho11
                      obtain ⟨Ao12, co12, eo12⟩ := Kd.R_slice HO156.out
                      subst eo12
                      obtain ⟨ado12, fo12, _⟩ := Kd.at_int (Kd.R_reads' HO156.out).2.2 0 (by decide) (by rw [Ny154.out]; simp)
                      cases fo12
                      refine hK.out _ _ trivial (fun hHeld => ?_)
                      clear hK K
                      refine norm_ (a' := ?_) ?_ ?_
                      rotate_left
                      · show Act.put _ (some 8) _ = _
                        simp only [Act.put, List.setIfInBounds_toArray, List.set_cons_zero, List.set_cons_succ, i64_w, i32_w]
                        rfl
                      exact norm_ (by first | (simp only [putAll, Act.put, List.setIfInBounds_toArray, List.set_cons_zero, List.set_cons_succ]; done) | (simp only [putAll, Act.put, List.setIfInBounds_toArray, List.set_cons_zero, List.set_cons_succ]; rfl)) (hJ1 (.slice (some ado12) y154.length co12, ado12) _ ⟨(by (with_reducible repeat (first | apply Kd.R_alloc | apply Kd.R_drewN | apply Kd.R_drew)); exact HO156.out), ⟨_, rfl⟩, (by repeat (first | (with_reducible first | exact HI152.out | apply IsS93.alloc | apply IsS93.drewN | apply IsS93.drew | apply IsS93.set_1) | exact HI152.out)), (by repeat (first | (with_reducible first | exact HB.out | apply below_alloc | apply pw_below_drewN | apply below_drew1 | refine below_set ?_ (IsS93.ge HI152.out)) | exact HB.out))⟩)
                    · skip
                      refine goes_ Try.func69 (by kernel_rfl) rfl #[.pointer (some ⟨g152, 0, none⟩), .int .i64 5] (by rfl) rfl rfl (by (try simp only [List.map_toArray, List.map_cons, List.map_nil]); first | done | rfl | (simp only [List.length_drop, List.length_take]; rfl)) ?_
                      with_reducible refine (spec_l1Rd_pick.calls k g152 t150 t151 5 t157 t158 w _ ?side1 ?side2 A4.out).mono ?_
                      (case side1 => repeat (first | (with_reducible first | exact HI152.out | apply IsS93.alloc | apply IsS93.drewN | apply IsS93.drew | apply IsS93.set_1) | exact HI152.out))
                      (case side2 => repeat (first | (with_reducible first | exact HB.out | apply below_alloc | apply pw_below_drewN | apply below_drew1 | refine below_set ?_ (IsS93.ge HI152.out)) | exact HB.out))
                      rintro e w10 ⟨rfl, hi, hb, hk⟩
                      refine ⟨_, rfl, ?_⟩
                      have n0_ := Aside0.mk (hb)
                      have n1_ := Aside0.mk (hi)
                      clear HB
                      clear HI152
                      have HB := n0_
                      have HI152 := n1_
                      clear n0_ n1_
                      (try clear hb)
                      (try clear hb2)
                      (try clear hk)
                      (try clear hi)
                      refine hK.out _ _ trivial (fun hHeld => ?_)
                      clear hK K
                      refine norm_ (a' := ?_) ?_ ?_
                      rotate_left
                      · show Act.put _ (some 10) _ = _
                        simp only [Act.put, List.setIfInBounds_toArray, List.set_cons_zero, List.set_cons_succ, i64_w, i32_w]
                        rfl
                      exact norm_ (by first | (simp only [putAll, Act.put, List.setIfInBounds_toArray, List.set_cons_zero, List.set_cons_succ]; done) | (simp only [putAll, Act.put, List.setIfInBounds_toArray, List.set_cons_zero, List.set_cons_succ]; rfl)) (hJ3 () _ ⟨(by repeat (first | (with_reducible first | exact HI152.out | apply IsS93.alloc | apply IsS93.drewN | apply IsS93.drew | apply IsS93.set_1) | exact HI152.out)), (by repeat (first | (with_reducible first | exact HB.out | apply below_alloc | apply pw_below_drewN | apply below_drew1 | refine below_set ?_ (IsS93.ge HI152.out)) | exact HB.out))⟩)
                  · skip
                    rintro _ w11 ⟨h0_, h1_⟩
                    have n0_ : Aside0 (IsS93 w w11 g152 t150 t158) := ⟨h0_⟩
                    have n1_ : Aside0 (Below w.heap.size w w11) := ⟨h1_⟩
                    clear HI152
                    clear HB
                    clear h0_ h1_
                    have HI152 := n0_
                    have HB := n1_
                    clear n0_ n1_
                    have hHeld := trivial
                    refine norm_ (a' := ?_) ?_ ?_
                    rotate_left
                    · simp only [putAll, Act.put, List.setIfInBounds_toArray, List.set_cons_zero, List.set_cons_succ]
                      rfl
                    refine two_ (i := 1) (j := 7) (Ni := some 8) (Nj := some 14) #[true, true, true, true, false, false, true, false, false, false] #[true, false, true, true, false, false, true, true, false, false] rfl rfl rfl rfl (two_of HT_.out (by kernel_rfl)) (by decide) (by decide) (fun K hK => ?_) (fun K hK => ?_)
                    · skip
                      refine Kd.R_lit_step (Kd.int .i64) _ 3 ?hg (N := 8) ?hd (xs := ([t153, 0, 4294967295, (-1), 4294967296] : List Int)) (inner := [.int .i64 t153, .int .i64 0, .int .i64 4294967295, .int .i64 (-1), .int .i64 4294967296]) (ok := fun _ => True) (okp := fun _ => True) ?hr ?hp (fun _ hk => hk) trivial (Below.refl _ _) (Nat.le_refl _) (by simp) ?_; (case hd => rfl); (case hg => rfl); (case hr => first | (go_simp; done) | (go_simp; rfl)); (case hp => exact (Reps.one (show Kd.M (Kd.int .i64) _ _ _ t153 [.int .i64 t153] from rfl) (Reps.one (show Kd.M (Kd.int .i64) _ _ _ 0 [.int .i64 0] from rfl) (Reps.one (show Kd.M (Kd.int .i64) _ _ _ 4294967295 [.int .i64 4294967295] from rfl) (Reps.one (show Kd.M (Kd.int .i64) _ _ _ (-1) [.int .i64 (-1)] from rfl) (Reps.one (show Kd.M (Kd.int .i64) _ _ _ 4294967296 [.int .i64 4294967296] from rfl) (Reps.none _ _)))))))
                      intro v155 w12 ho13 hb hg_ hnew_
                      clear hg_ hnew_
                      (first | rw [← Ny154.out] at ho13 | (simp only [Int.reduceToNat] at ho13; rw [← Ny154.out] at ho13))
                      have n0_ := Aside0.mk (Kd.R_lower ho13 (below_size (by repeat (first | (with_reducible first | exact HB.out | apply below_alloc | apply pw_below_drewN | apply below_drew1 | refine below_set ?_ (IsS93.ge HI152.out)) | exact HB.out))))
                      have n1_ := Aside0.mk (IsS93.below (by repeat (first | (with_reducible first | exact HI152.out | apply IsS93.alloc | apply IsS93.drewN | apply IsS93.drew | apply IsS93.set_1) | exact HI152.out)) hb)
                      have n2_ := Aside0.mk (below_step (by repeat (first | (with_reducible first | exact HB.out | apply below_alloc | apply pw_below_drewN | apply below_drew1 | refine below_set ?_ (IsS93.ge HI152.out)) | exact HB.out)) hb)
                      clear HI152
                      clear HB
                      have HO156 := n0_
                      have HI152 := n1_
                      have HB := n2_
                      clear n0_ n1_ n2_
                      clear hb ho13
                      obtain ⟨Ao14, co14, eo14⟩ := Kd.R_slice HO156.out
                      subst eo14
                      obtain ⟨ado14, fo14, _⟩ := Kd.at_int (Kd.R_reads' HO156.out).2.2 0 (by decide) (by rw [Ny154.out]; simp)
                      cases fo14
                      refine hK.out _ _ trivial (fun hHeld => ?_)
                      clear hK K
                      refine norm_ (a' := ?_) ?_ ?_
                      rotate_left
                      · show Act.put _ (some 8) _ = _
                        simp only [Act.put, List.setIfInBounds_toArray, List.set_cons_zero, List.set_cons_succ, i64_w, i32_w]
                        rfl
                      refine pure_ (i := 4) (N := some 11) (v := ?_) (a' := ?_) #[true, true, true, true, true, false, true, false, false, false] rfl rfl (any_of HT_.out (by kernel_rfl)) (fun _ _ _ h => h) (Or.inl ⟨by rfl, ?_⟩) ?_ ?_
                      rotate_left
                      · intro w'
                        go_simp
                        with_reducible rfl
                      rotate_left
                      · simp only [Act.put, List.setIfInBounds_toArray, List.set_cons_zero, List.set_cons_succ, i64_w, i32_w]
                        rfl
                      exact norm_ (by first | (simp only [putAll, Act.put, List.setIfInBounds_toArray, List.set_cons_zero, List.set_cons_succ]; done) | (simp only [putAll, Act.put, List.setIfInBounds_toArray, List.set_cons_zero, List.set_cons_succ]; rfl)) (hJ1_3 (.slice (some ado14) y154.length co14, ado14) _ ⟨(by (with_reducible repeat (first | apply Kd.R_alloc | apply Kd.R_drewN | apply Kd.R_drew)); exact HO156.out), ⟨_, rfl⟩, (by repeat (first | (with_reducible first | exact HI152.out | apply IsS93.alloc | apply IsS93.drewN | apply IsS93.drew | apply IsS93.set_1) | exact HI152.out)), (by repeat (first | (with_reducible first | exact HB.out | apply below_alloc | apply pw_below_drewN | apply below_drew1 | refine below_set ?_ (IsS93.ge HI152.out)) | exact HB.out))⟩)
                    · skip
                      refine goes_ Try.func67 (by kernel_rfl) rfl #[.pointer (some ⟨g152, 0, none⟩)] (by rfl) rfl rfl (by (try simp only [List.map_toArray, List.map_cons, List.map_nil]); first | done | rfl | (simp only [List.length_drop, List.length_take]; rfl)) ?_
                      with_reducible refine (spec_l14Text.calls k g152 t150 t158 t160 t161 w _ ?side1 ?side2 A7.out).mono ?_
                      (case side1 => repeat (first | (with_reducible first | exact HI152.out | apply IsS93.alloc | apply IsS93.drewN | apply IsS93.drew | apply IsS93.set_1) | exact HI152.out))
                      (case side2 => repeat (first | (with_reducible first | exact HB.out | apply below_alloc | apply pw_below_drewN | apply below_drew1 | refine below_set ?_ (IsS93.ge HI152.out)) | exact HB.out))
                      rintro e w12 ⟨rfl, hi, hb, hk⟩
                      refine ⟨_, rfl, ?_⟩
                      have n0_ := Aside0.mk (hb)
                      have n1_ := Aside0.mk (hi)
                      clear HB
                      clear HI152
                      have HB := n0_
                      have HI152 := n1_
                      clear n0_ n1_
                      (try clear hb)
                      (try clear hb2)
                      (try clear hk)
                      (try clear hi)
                      refine hK.out _ _ trivial (fun hHeld => ?_)
                      clear hK K
                      refine norm_ (a' := ?_) ?_ ?_
                      rotate_left
                      · show Act.put _ (some 14) _ = _
                        simp only [Act.put, List.setIfInBounds_toArray, List.set_cons_zero, List.set_cons_succ, i64_w, i32_w]
                        rfl
                      exact norm_ (by first | (simp only [putAll, Act.put, List.setIfInBounds_toArray, List.set_cons_zero, List.set_cons_succ]; done) | (simp only [putAll, Act.put, List.setIfInBounds_toArray, List.set_cons_zero, List.set_cons_succ]; rfl)) (hJ3_7 () _ ⟨(by repeat (first | (with_reducible first | exact HI152.out | apply IsS93.alloc | apply IsS93.drewN | apply IsS93.drew | apply IsS93.set_1) | exact HI152.out)), (by repeat (first | (with_reducible first | exact HB.out | apply below_alloc | apply pw_below_drewN | apply below_drew1 | refine below_set ?_ (IsS93.ge HI152.out)) | exact HB.out))⟩)
                · skip
                  rintro ⟨v155, adz_v155⟩ w13 ⟨h0_, h1_, h2_, h3_⟩
                  have n0_ : Aside0 (Kd.R (Kd.int .i64) 3 w13 w.heap.size (fun _ => True) v155 y154) := ⟨h0_⟩
                  have n1_ : Aside0 (∃ c_, (v155 : Value) = .slice (some adz_v155) y154.length c_) := ⟨h1_⟩
                  have n2_ : Aside0 (IsS93 w w13 g152 t150 t151) := ⟨h2_⟩
                  have n3_ : Aside0 (Below w.heap.size w w13) := ⟨h3_⟩
                  clear HI152
                  clear HB
                  clear h0_ h1_ h2_ h3_
                  have HO156 := n0_
                  have HA_HO156 := n1_
                  have HI152 := n2_
                  have HB := n3_
                  clear n0_ n1_ n2_ n3_
                  have hHeld := trivial
                  obtain ⟨co14, eo14⟩ := HA_HO156.out
                  clear HA_HO156
                  subst eo14
                  refine norm_ (a' := ?_) ?_ ?_
                  rotate_left
                  · simp only [putAll, Act.put, List.setIfInBounds_toArray, List.set_cons_zero, List.set_cons_succ]
                    rfl
                  refine one_ (i := 3) (N := some 10) #[true, true, true, true, false, false, true, false, false, false] rfl rfl (one_of HT_.out (by kernel_rfl)) (by decide) (fun K hK => ?_)
                  refine goes_ Try.func69 (by kernel_rfl) rfl #[.pointer (some ⟨g152, 0, none⟩), .int .i64 5] (by rfl) rfl rfl (by (try simp only [List.map_toArray, List.map_cons, List.map_nil]); first | done | rfl | (simp only [List.length_drop, List.length_take]; rfl)) ?_
                  with_reducible refine (spec_l1Rd_pick.calls k g152 t150 t151 5 t157 t158 w _ ?side1 ?side2 A4.out).mono ?_
                  (case side1 => repeat (first | (with_reducible first | exact HI152.out | apply IsS93.alloc | apply IsS93.drewN | apply IsS93.drew | apply IsS93.set_1) | exact HI152.out))
                  (case side2 => repeat (first | (with_reducible first | exact HB.out | apply below_alloc | apply pw_below_drewN | apply below_drew1 | refine below_set ?_ (IsS93.ge HI152.out)) | exact HB.out))
                  rintro e w15 ⟨rfl, hi, hb, hk⟩
                  refine ⟨_, rfl, ?_⟩
                  have n0_ := Aside0.mk (Kd.R_mono (Kd.R_keep (IsS93.apart (show IsS93 w _ g152 t150 t151 from by repeat (first | (with_reducible first | exact HI152.out | apply IsS93.alloc | apply IsS93.drewN | apply IsS93.drew | apply IsS93.set_1) | exact HI152.out)) (by (with_reducible repeat (first | apply Kd.R_alloc | apply Kd.R_drewN | apply Kd.R_drew)); exact HO156.out) (by decide)) hk (fun _ h => h.2)) (fun _ h => h.1))
                  have n1_ := Aside0.mk (hb)
                  have n2_ := Aside0.mk (hi)
                  clear HO156
                  clear HB
                  clear HI152
                  have HO156 := n0_
                  have HB := n1_
                  have HI152 := n2_
                  clear n0_ n1_ n2_
                  (try clear hb)
                  (try clear hb2)
                  (try clear hk)
                  (try clear hi)
                  refine hK.out _ _ trivial (fun hHeld => ?_)
                  clear hK K
                  refine norm_ (a' := ?_) ?_ ?_
                  rotate_left
                  · show Act.put _ (some 10) _ = _
                    simp only [Act.put, List.setIfInBounds_toArray, List.set_cons_zero, List.set_cons_succ, i64_w, i32_w]
                    rfl
                  refine pure_ (i := 4) (N := some 11) (v := ?_) (a' := ?_) #[true, true, true, true, true, false, true, false, false, false] rfl rfl (any_of HT_.out (by kernel_rfl)) (fun _ _ _ h => h) (Or.inl ⟨by rfl, ?_⟩) ?_ ?_
                  rotate_left
                  · intro w'
                    go_simp
                    with_reducible rfl
                  rotate_left
                  · simp only [Act.put, List.setIfInBounds_toArray, List.set_cons_zero, List.set_cons_succ, i64_w, i32_w]
                    rfl
                  exact norm_ (by first | (simp only [putAll, Act.put, List.setIfInBounds_toArray, List.set_cons_zero, List.set_cons_succ]; done) | (simp only [putAll, Act.put, List.setIfInBounds_toArray, List.set_cons_zero, List.set_cons_succ]; rfl)) (hJ1_3 (.slice (some adz_v155) y154.length co14, adz_v155) _ ⟨(by (with_reducible repeat (first | apply Kd.R_alloc | apply Kd.R_drewN | apply Kd.R_drew)); exact HO156.out), ⟨_, rfl⟩, (by repeat (first | (with_reducible first | exact HI152.out | apply IsS93.alloc | apply IsS93.drewN | apply IsS93.drew | apply IsS93.set_1) | exact HI152.out)), (by repeat (first | (with_reducible first | exact HB.out | apply below_alloc | apply pw_below_drewN | apply below_drew1 | refine below_set ?_ (IsS93.ge HI152.out)) | exact HB.out))⟩)
              · skip
                rintro _ w12 ⟨h0_, h1_⟩
                have n0_ : Aside0 (IsS93 w w12 g152 t150 t161) := ⟨h0_⟩
                have n1_ : Aside0 (Below w.heap.size w w12) := ⟨h1_⟩
                clear HI152
                clear HB
                clear h0_ h1_
                have HI152 := n0_
                have HB := n1_
                clear n0_ n1_
                have hHeld := trivial
                refine norm_ (a' := ?_) ?_ ?_
                rotate_left
                · simp only [putAll, Act.put, List.setIfInBounds_toArray, List.set_cons_zero, List.set_cons_succ]
                  rfl
                refine one_ (i := 1) (N := some 8) #[true, true, true, true, false, false, true, true, false, false] rfl rfl (one_of HT_.out (by kernel_rfl)) (by decide) (fun K hK => ?_)
                refine Kd.R_lit_step (Kd.int .i64) _ 3 ?hg (N := 8) ?hd (xs := ([t153, 0, 4294967295, (-1), 4294967296] : List Int)) (inner := [.int .i64 t153, .int .i64 0, .int .i64 4294967295, .int .i64 (-1), .int .i64 4294967296]) (ok := fun _ => True) (okp := fun _ => True) ?hr ?hp (fun _ hk => hk) trivial (Below.refl _ _) (Nat.le_refl _) (by simp) ?_; (case hd => rfl); (case hg => rfl); (case hr => first | (go_simp; done) | (go_simp; rfl)); (case hp => exact (Reps.one (show Kd.M (Kd.int .i64) _ _ _ t153 [.int .i64 t153] from rfl) (Reps.one (show Kd.M (Kd.int .i64) _ _ _ 0 [.int .i64 0] from rfl) (Reps.one (show Kd.M (Kd.int .i64) _ _ _ 4294967295 [.int .i64 4294967295] from rfl) (Reps.one (show Kd.M (Kd.int .i64) _ _ _ (-1) [.int .i64 (-1)] from rfl) (Reps.one (show Kd.M (Kd.int .i64) _ _ _ 4294967296 [.int .i64 4294967296] from rfl) (Reps.none _ _)))))))
                intro v155 w13 ho14 hb hg_ hnew_
                clear hg_ hnew_
                (first | rw [← Ny154.out] at ho14 | (simp only [Int.reduceToNat] at ho14; rw [← Ny154.out] at ho14))
                have n0_ := Aside0.mk (Kd.R_lower ho14 (below_size (by repeat (first | (with_reducible first | exact HB.out | apply below_alloc | apply pw_below_drewN | apply below_drew1 | refine below_set ?_ (IsS93.ge HI152.out)) | exact HB.out))))
                have n1_ := Aside0.mk (IsS93.below (by repeat (first | (with_reducible first | exact HI152.out | apply IsS93.alloc | apply IsS93.drewN | apply IsS93.drew | apply IsS93.set_1) | exact HI152.out)) hb)
                have n2_ := Aside0.mk (below_step (by repeat (first | (with_reducible first | exact HB.out | apply below_alloc | apply pw_below_drewN | apply below_drew1 | refine below_set ?_ (IsS93.ge HI152.out)) | exact HB.out)) hb)
                clear HI152
                clear HB
                have HO156 := n0_
                have HI152 := n1_
                have HB := n2_
                clear n0_ n1_ n2_
                clear hb ho14
                obtain ⟨Ao15, co15, eo15⟩ := Kd.R_slice HO156.out
                subst eo15
                obtain ⟨ado15, fo15, _⟩ := Kd.at_int (Kd.R_reads' HO156.out).2.2 0 (by decide) (by rw [Ny154.out]; simp)
                cases fo15
                refine hK.out _ _ trivial (fun hHeld => ?_)
                clear hK K
                refine norm_ (a' := ?_) ?_ ?_
                rotate_left
                · show Act.put _ (some 8) _ = _
                  simp only [Act.put, List.setIfInBounds_toArray, List.set_cons_zero, List.set_cons_succ, i64_w, i32_w]
                  rfl
                refine pure_ (i := 4) (N := some 11) (v := ?_) (a' := ?_) #[true, true, true, true, true, false, true, true, false, false] rfl rfl (any_of HT_.out (by kernel_rfl)) (fun _ _ _ h => h) (Or.inl ⟨by rfl, ?_⟩) ?_ ?_
                rotate_left
                · intro w'
                  go_simp
                  with_reducible rfl
                rotate_left
                · simp only [Act.put, List.setIfInBounds_toArray, List.set_cons_zero, List.set_cons_succ, i64_w, i32_w]
                  rfl
                exact norm_ (by first | (simp only [putAll, Act.put, List.setIfInBounds_toArray, List.set_cons_zero, List.set_cons_succ]; done) | (simp only [putAll, Act.put, List.setIfInBounds_toArray, List.set_cons_zero, List.set_cons_succ]; rfl)) (hJ1_3_7 (.slice (some ado15) y154.length co15, ado15) _ ⟨(by (with_reducible repeat (first | apply Kd.R_alloc | apply Kd.R_drewN | apply Kd.R_drew)); exact HO156.out), ⟨_, rfl⟩, (by repeat (first | (with_reducible first | exact HI152.out | apply IsS93.alloc | apply IsS93.drewN | apply IsS93.drew | apply IsS93.set_1) | exact HI152.out)), (by repeat (first | (with_reducible first | exact HB.out | apply below_alloc | apply pw_below_drewN | apply below_drew1 | refine below_set ?_ (IsS93.ge HI152.out)) | exact HB.out))⟩)
            · skip
              rintro ⟨v155, adz_v155⟩ w14 ⟨h0_, h1_, h2_, h3_⟩
              have n0_ : Aside0 (Kd.R (Kd.int .i64) 3 w14 w.heap.size (fun _ => True) v155 y154) := ⟨h0_⟩
              have n1_ : Aside0 (∃ c_, (v155 : Value) = .slice (some adz_v155) y154.length c_) := ⟨h1_⟩
              have n2_ : Aside0 (IsS93 w w14 g152 t150 t158) := ⟨h2_⟩
              have n3_ : Aside0 (Below w.heap.size w w14) := ⟨h3_⟩
              clear HI152
              clear HB
              clear h0_ h1_ h2_ h3_
              have HO156 := n0_
              have HA_HO156 := n1_
              have HI152 := n2_
              have HB := n3_
              clear n0_ n1_ n2_ n3_
              have hHeld := trivial
              obtain ⟨co15, eo15⟩ := HA_HO156.out
              clear HA_HO156
              subst eo15
              refine norm_ (a' := ?_) ?_ ?_
              rotate_left
              · simp only [putAll, Act.put, List.setIfInBounds_toArray, List.set_cons_zero, List.set_cons_succ]
                rfl
              refine two_ (i := 5) (j := 7) (Ni := some 12) (Nj := some 14) #[true, true, true, true, true, true, true, false, false, false] #[true, true, true, true, true, false, true, true, false, false] rfl rfl rfl rfl (two_of HT_.out (by kernel_rfl)) (by decide) (by decide) (fun K hK => ?_) (fun K hK => ?_)
              · skip
                (have p159 : 0 ≤ (t157 : Int) := of_decide_eq_true (by first | (with_reducible assumption) | assumption); have q159 : t157 < (y154.length : Int) := of_decide_eq_true (by first | (with_reducible assumption) | assumption); obtain ⟨ad159, e159, hx159_0⟩ := Kd.at_int (Kd.R_reads' HO156.out).2.2 t157 p159 q159; obtain rfl : adz_v155 = ad159 := (by injection e159))
                refine value_ (w1 := ?_) (v := ?_) (by rfl) rfl ?_ ?_
                rotate_left 2
                · go_simp
                  constructor
                  · rfl
                  · rfl
                clear hx159_0
                refine hK.out _ _ trivial (fun hHeld => ?_)
                clear hK K
                refine norm_ (a' := ?_) ?_ ?_
                rotate_left
                · show Act.put _ (some 12) _ = _
                  simp only [Act.put, List.setIfInBounds_toArray, List.set_cons_zero, List.set_cons_succ, i64_w, i32_w]
                  rfl
                exact norm_ (by first | (simp only [putAll, Act.put, List.setIfInBounds_toArray, List.set_cons_zero, List.set_cons_succ]; done) | (simp only [putAll, Act.put, List.setIfInBounds_toArray, List.set_cons_zero, List.set_cons_succ]; rfl)) (hJ1_3_5 (.slice (some adz_v155) y154.length co15, adz_v155) _ ⟨(by (with_reducible repeat (first | apply Kd.R_alloc | apply Kd.R_drewN | apply Kd.R_drew)); exact HO156.out), ⟨_, rfl⟩, (by repeat (first | (with_reducible first | exact HI152.out | apply IsS93.alloc | apply IsS93.drewN | apply IsS93.drew | apply IsS93.set_1) | exact HI152.out)), (by repeat (first | (with_reducible first | exact HB.out | apply below_alloc | apply pw_below_drewN | apply below_drew1 | refine below_set ?_ (IsS93.ge HI152.out)) | exact HB.out))⟩)
              · skip
                refine goes_ Try.func67 (by kernel_rfl) rfl #[.pointer (some ⟨g152, 0, none⟩)] (by rfl) rfl rfl (by (try simp only [List.map_toArray, List.map_cons, List.map_nil]); first | done | rfl | (simp only [List.length_drop, List.length_take]; rfl)) ?_
                with_reducible refine (spec_l14Text.calls k g152 t150 t158 t160 t161 w _ ?side1 ?side2 A7.out).mono ?_
                (case side1 => repeat (first | (with_reducible first | exact HI152.out | apply IsS93.alloc | apply IsS93.drewN | apply IsS93.drew | apply IsS93.set_1) | exact HI152.out))
                (case side2 => repeat (first | (with_reducible first | exact HB.out | apply below_alloc | apply pw_below_drewN | apply below_drew1 | refine below_set ?_ (IsS93.ge HI152.out)) | exact HB.out))
                rintro e w16 ⟨rfl, hi, hb, hk⟩
                refine ⟨_, rfl, ?_⟩
                have n0_ := Aside0.mk (Kd.R_mono (Kd.R_keep (IsS93.apart (show IsS93 w _ g152 t150 t158 from by repeat (first | (with_reducible first | exact HI152.out | apply IsS93.alloc | apply IsS93.drewN | apply IsS93.drew | apply IsS93.set_1) | exact HI152.out)) (by (with_reducible repeat (first | apply Kd.R_alloc | apply Kd.R_drewN | apply Kd.R_drew)); exact HO156.out) (by decide)) hk (fun _ h => h.2)) (fun _ h => h.1))
                have n1_ := Aside0.mk (hb)
                have n2_ := Aside0.mk (hi)
                clear HO156
                clear HB
                clear HI152
                have HO156 := n0_
                have HB := n1_
                have HI152 := n2_
                clear n0_ n1_ n2_
                (try clear hb)
                (try clear hb2)
                (try clear hk)
                (try clear hi)
                refine hK.out _ _ trivial (fun hHeld => ?_)
                clear hK K
                refine norm_ (a' := ?_) ?_ ?_
                rotate_left
                · show Act.put _ (some 14) _ = _
                  simp only [Act.put, List.setIfInBounds_toArray, List.set_cons_zero, List.set_cons_succ, i64_w, i32_w]
                  rfl
                exact norm_ (by first | (simp only [putAll, Act.put, List.setIfInBounds_toArray, List.set_cons_zero, List.set_cons_succ]; done) | (simp only [putAll, Act.put, List.setIfInBounds_toArray, List.set_cons_zero, List.set_cons_succ]; rfl)) (hJ1_3_7 (.slice (some adz_v155) y154.length co15, adz_v155) _ ⟨(by (with_reducible repeat (first | apply Kd.R_alloc | apply Kd.R_drewN | apply Kd.R_drew)); exact HO156.out), ⟨_, rfl⟩, (by repeat (first | (with_reducible first | exact HI152.out | apply IsS93.alloc | apply IsS93.drewN | apply IsS93.drew | apply IsS93.set_1) | exact HI152.out)), (by repeat (first | (with_reducible first | exact HB.out | apply below_alloc | apply pw_below_drewN | apply below_drew1 | refine below_set ?_ (IsS93.ge HI152.out)) | exact HB.out))⟩)
          · skip
            rintro ⟨v155, adz_v155⟩ w15 ⟨h0_, h1_, h2_, h3_⟩
            have n0_ : Aside0 (Kd.R (Kd.int .i64) 3 w15 w.heap.size (fun _ => True) v155 y154) := ⟨h0_⟩
            have n1_ : Aside0 (∃ c_, (v155 : Value) = .slice (some adz_v155) y154.length c_) := ⟨h1_⟩
            have n2_ : Aside0 (IsS93 w w15 g152 t150 t161) := ⟨h2_⟩
            have n3_ : Aside0 (Below w.heap.size w w15) := ⟨h3_⟩
            clear HI152
            clear HB
            clear h0_ h1_ h2_ h3_
            have HO156 := n0_
            have HA_HO156 := n1_
            have HI152 := n2_
            have HB := n3_
            clear n0_ n1_ n2_ n3_
            have hHeld := trivial
            obtain ⟨co16, eo16⟩ := HA_HO156.out
            clear HA_HO156
            subst eo16
            refine norm_ (a' := ?_) ?_ ?_
            rotate_left
            · simp only [putAll, Act.put, List.setIfInBounds_toArray, List.set_cons_zero, List.set_cons_succ]
              rfl
            refine one_ (i := 5) (N := some 12) #[true, true, true, true, true, true, true, true, false, false] rfl rfl (one_of HT_.out (by kernel_rfl)) (by decide) (fun K hK => ?_)
            (have p159 : 0 ≤ (t157 : Int) := of_decide_eq_true (by first | (with_reducible assumption) | assumption); have q159 : t157 < (y154.length : Int) := of_decide_eq_true (by first | (with_reducible assumption) | assumption); obtain ⟨ad159, e159, hx159_0⟩ := Kd.at_int (Kd.R_reads' HO156.out).2.2 t157 p159 q159; obtain rfl : adz_v155 = ad159 := (by injection e159))
            refine value_ (w1 := ?_) (v := ?_) (by rfl) rfl ?_ ?_
            rotate_left 2
            · go_simp
              constructor
              · rfl
              · rfl
            clear hx159_0
            refine hK.out _ _ trivial (fun hHeld => ?_)
            clear hK K
            refine norm_ (a' := ?_) ?_ ?_
            rotate_left
            · show Act.put _ (some 12) _ = _
              simp only [Act.put, List.setIfInBounds_toArray, List.set_cons_zero, List.set_cons_succ, i64_w, i32_w]
              rfl
            exact norm_ (by first | (simp only [putAll, Act.put, List.setIfInBounds_toArray, List.set_cons_zero, List.set_cons_succ]; done) | (simp only [putAll, Act.put, List.setIfInBounds_toArray, List.set_cons_zero, List.set_cons_succ]; rfl)) (hJ1_3_5_7 (.slice (some adz_v155) y154.length co16, adz_v155) _ ⟨(by (with_reducible repeat (first | apply Kd.R_alloc | apply Kd.R_drewN | apply Kd.R_drew)); exact HO156.out), ⟨_, rfl⟩, (by repeat (first | (with_reducible first | exact HI152.out | apply IsS93.alloc | apply IsS93.drewN | apply IsS93.drew | apply IsS93.set_1) | exact HI152.out)), (by repeat (first | (with_reducible first | exact HB.out | apply below_alloc | apply pw_below_drewN | apply below_drew1 | refine below_set ?_ (IsS93.ge HI152.out)) | exact HB.out))⟩)
        · skip
          rintro ⟨v155, adz_v155⟩ w14 ⟨h0_, h1_, h2_, h3_⟩
          have n0_ : Aside0 (Kd.R (Kd.int .i64) 3 w14 w.heap.size (fun _ => True) v155 y154) := ⟨h0_⟩
          have n1_ : Aside0 (∃ c_, (v155 : Value) = .slice (some adz_v155) y154.length c_) := ⟨h1_⟩
          have n2_ : Aside0 (IsS93 w w14 g152 t150 t158) := ⟨h2_⟩
          have n3_ : Aside0 (Below w.heap.size w w14) := ⟨h3_⟩
          clear HI152
          clear HB
          clear h0_ h1_ h2_ h3_
          have HO156 := n0_
          have HA_HO156 := n1_
          have HI152 := n2_
          have HB := n3_
          clear n0_ n1_ n2_ n3_
          have hHeld := trivial
          obtain ⟨co15, eo15⟩ := HA_HO156.out
          clear HA_HO156
          subst eo15
          refine norm_ (a' := ?_) ?_ ?_
          rotate_left
          · simp only [putAll, Act.put, List.setIfInBounds_toArray, List.set_cons_zero, List.set_cons_succ]
            rfl
          refine one_ (i := 7) (N := some 14) #[true, true, true, true, true, true, true, true, false, false] rfl rfl (one_of HT_.out (by kernel_rfl)) (by decide) (fun K hK => ?_)
          refine goes_ Try.func67 (by kernel_rfl) rfl #[.pointer (some ⟨g152, 0, none⟩)] (by rfl) rfl rfl (by (try simp only [List.map_toArray, List.map_cons, List.map_nil]); first | done | rfl | (simp only [List.length_drop, List.length_take]; rfl)) ?_
          with_reducible refine (spec_l14Text.calls k g152 t150 t158 t160 t161 w _ ?side1 ?side2 A7.out).mono ?_
          (case side1 => repeat (first | (with_reducible first | exact HI152.out | apply IsS93.alloc | apply IsS93.drewN | apply IsS93.drew | apply IsS93.set_1) | exact HI152.out))
          (case side2 => repeat (first | (with_reducible first | exact HB.out | apply below_alloc | apply pw_below_drewN | apply below_drew1 | refine below_set ?_ (IsS93.ge HI152.out)) | exact HB.out))
          rintro e w16 ⟨rfl, hi, hb, hk⟩
          refine ⟨_, rfl, ?_⟩
          have n0_ := Aside0.mk (Kd.R_mono (Kd.R_keep (IsS93.apart (show IsS93 w _ g152 t150 t158 from by repeat (first | (with_reducible first | exact HI152.out | apply IsS93.alloc | apply IsS93.drewN | apply IsS93.drew | apply IsS93.set_1) | exact HI152.out)) (by (with_reducible repeat (first | apply Kd.R_alloc | apply Kd.R_drewN | apply Kd.R_drew)); exact HO156.out) (by decide)) hk (fun _ h => h.2)) (fun _ h => h.1))
          have n1_ := Aside0.mk (hb)
          have n2_ := Aside0.mk (hi)
          clear HO156
          clear HB
          clear HI152
          have HO156 := n0_
          have HB := n1_
          have HI152 := n2_
          clear n0_ n1_ n2_
          (try clear hb)
          (try clear hb2)
          (try clear hk)
          (try clear hi)
          refine hK.out _ _ trivial (fun hHeld => ?_)
          clear hK K
          refine norm_ (a' := ?_) ?_ ?_
          rotate_left
          · show Act.put _ (some 14) _ = _
            simp only [Act.put, List.setIfInBounds_toArray, List.set_cons_zero, List.set_cons_succ, i64_w, i32_w]
            rfl
          exact norm_ (by first | (simp only [putAll, Act.put, List.setIfInBounds_toArray, List.set_cons_zero, List.set_cons_succ]; done) | (simp only [putAll, Act.put, List.setIfInBounds_toArray, List.set_cons_zero, List.set_cons_succ]; rfl)) (hJ1_3_5_7 (.slice (some adz_v155) y154.length co15, adz_v155) _ ⟨(by (with_reducible repeat (first | apply Kd.R_alloc | apply Kd.R_drewN | apply Kd.R_drew)); exact HO156.out), ⟨_, rfl⟩, (by repeat (first | (with_reducible first | exact HI152.out | apply IsS93.alloc | apply IsS93.drewN | apply IsS93.drew | apply IsS93.set_1) | exact HI152.out)), (by repeat (first | (with_reducible first | exact HB.out | apply below_alloc | apply pw_below_drewN | apply below_drew1 | refine below_set ?_ (IsS93.ge HI152.out)) | exact HB.out))⟩)
      rintro ⟨v155, adz_v155⟩ w15 ⟨h0_, h1_, h2_, h3_⟩
      have n0_ : Aside0 (Kd.R (Kd.int .i64) 3 w15 w.heap.size (fun _ => True) v155 y154) := ⟨h0_⟩
      have n1_ : Aside0 (∃ c_, (v155 : Value) = .slice (some adz_v155) y154.length c_) := ⟨h1_⟩
      have n2_ : Aside0 (IsS93 w w15 g152 t150 t161) := ⟨h2_⟩
      have n3_ : Aside0 (Below w.heap.size w w15) := ⟨h3_⟩
      clear HI152
      clear HB
      clear h0_ h1_ h2_ h3_
      have HO156 := n0_
      have HA_HO156 := n1_
      have HI152 := n2_
      have HB := n3_
      clear n0_ n1_ n2_ n3_
      have hHeld := trivial
      obtain ⟨co16, eo16⟩ := HA_HO156.out
      clear HA_HO156
      subst eo16
      refine norm_ (a' := ?_) ?_ ?_
      rotate_left
      · simp only [putAll, Act.put, List.setIfInBounds_toArray, List.set_cons_zero, List.set_cons_succ]
        rfl
      refine pure_ (i := 8) (N := some 2) (v := ?_) (a' := ?_) #[true, true, true, true, true, true, true, true, true, false] rfl rfl (any_of HT_.out (by kernel_rfl)) (fun _ _ _ h => h) (Or.inl ⟨by rfl, ?_⟩) ?_ ?_
      rotate_left
      · intro w'
        go_simp
        with_reducible rfl
      rotate_left
      · simp only [Act.put, List.setIfInBounds_toArray, List.set_cons_zero, List.set_cons_succ, i64_w, i32_w]
        rfl
      refine pure_ (i := 9) (N := some 3) (v := ?_) (a' := ?_) #[true, true, true, true, true, true, true, true, true, true] rfl rfl (any_of HT_.out (by kernel_rfl)) (fun _ _ _ h => h) (Or.inl ⟨by rfl, ?_⟩) ?_ ?_
      rotate_left
      · intro w'
        go_simp
        with_reducible rfl
      rotate_left
      · simp only [Act.put, List.setIfInBounds_toArray, List.set_cons_zero, List.set_cons_succ, i64_w, i32_w]
        rfl
      refine done_ (done_of HT_.out (by kernel_rfl)) ?_
      try go_wp2
      go_ret2
      exact ⟨by first | rfl | (simp [errW_none, errW_some] <;> rfl) | (simp [*, errW_none, errW_some] <;> rfl), by repeat (first | (with_reducible first | exact HB.out | apply below_alloc | apply pw_below_drewN | apply below_drew1 | refine below_set ?_ (IsS93.ge HI152.out)) | exact HB.out)⟩
    · rw [if_neg c6] at H
      exact absurd H (by simp)
  · rw [if_neg c5] at H
    exact absurd H (by simp)

/-! ### impl_in: function 70 -/
def impl_in.f (a0 : Int) (a1 : Int) (a2 : Int) : Option (Bool) := if a0 ≥ a1 then (some (decide (a0 ≤ a2))) else (some false)
set_option maxHeartbeats 8000000 in
set_option maxRecDepth 100000 in
theorem impl_in.calls (a0 : Int) (a1 : Int) (a2 : Int) (r : Bool) (w : World) (h : impl_in.f a0 a1 a2 = some r) :
    Calls Try.prog 70 #[.int .i64 a0, .int .i64 a1, .int .i64 a2] w fun e w' => e = .returned (.bool r) ∧ Drawn0 w w' := by
  have H : (if a0 ≥ a1 then (some (decide (a0 ≤ a2))) else (some false)) = some r := h
  clear h
  by_cases c4 : a0 ≥ a1
  · rw [if_pos c4] at H
    have c4b0 : decide (a1 ≤ a0) = true := decide_eq_true c4
    clear c4
    obtain rfl := Option.some.inj H
    go_enter Try.func70, Try.ntmps70
    go_wp2
    go_ret
    exact ⟨by first | rfl | (simp; done) | (simp [*]; done), by repeat (first | exact Drawn0.refl _ | apply Drawn0.step)⟩
  · rw [if_neg c4] at H
    have c4b0 : decide (a1 ≤ a0) = false := decide_eq_false c4
    clear c4
    obtain rfl := Option.some.inj H
    go_enter Try.func70, Try.ntmps70
    go_wp2
    go_ret
    exact ⟨by first | rfl | (simp; done) | (simp [*]; done), by repeat (first | exact Drawn0.refl _ | apply Drawn0.step)⟩

end Go.Proofs.Ytfladcffgblfdaa.PFnCrcMore
