/- What the functions that the law comes to compute, as plain functions, and that the machine's calls come to just that: written by a program for this claim, and turned where Lean did not take it. No condition. -/
import Derived.Test.YtfladcffgblfdaaHFnRunGetx0
import Derived.Test.YtfladcffgblfdaaHFnRunGetx3
namespace Go.Proofs.Ytfladcffgblfdaa.PFnRunGet
open Go.RowKit Go.Proofs.YtfladcffgblfdaaW.PrintWords Go.Proofs.YtfladcffgblfdaaW.PrintLast Go.Proofs.YtfladcffgblfdaaW.PrintMore
attribute [local go_sem] max2_int min2_int max_two min_two max_three min_three max_four min_four   -- for this text's walks alone
set_option linter.unusedVariables false
set_option linter.unusedSimpArgs false

/-! ### spec_l7Other: function 107 -/
def spec_l7Other.l0 : Nat → List Int → Int → Int → Int → Option (Int)
  | 0, _, _, _, _ => none
  | k + 1, x0, x1, x2, x7 => if x7 < x2 then (if (wrap64 (x1 + x7)) < (x0.length : Int) then ((spec_l7Equal.f k x0 (wrap64 (x1 + x7)) 2).bind fun t181 => (if t181 < 2 then (spec_l7Other.l0 k x0 x1 x2 (wrap64 (x7 + 1))) else (some x7))) else (some x7)) else (some x7)
def spec_l7Other.f (k : Nat) (l0 : List Int) (a1 : Int) (a2 : Int) : Option (Int) := spec_l7Other.l0 k l0 a1 a2 1
theorem spec_l7Other.mono_l : ∀ k, (∀ y0 y1 y2 y3, LeO (spec_l7Other.l0 k y0 y1 y2 y3) (spec_l7Other.l0 (k + 1) y0 y1 y2 y3))
  | 0 => fun _ _ _ _ r h => by simp [spec_l7Other.l0] at h
  | k + 1 => by
    have ih0 := spec_l7Other.mono_l k
    · intro y0 y1 y2 y3
      unfold spec_l7Other.l0
      repeat' first
      | (with_reducible exact ih0 _ _ _ _)
      | (with_reducible exact spec_l7Equal.mono _ _ _ _)
      | (with_reducible exact LeO.refl _)
      | (with_reducible exact LeO.none _)
      | (with_reducible refine LeO.ite ?_ ?_)
      | (with_reducible refine LeO.bind ?_ (fun _ => ?_))
      | exact ih0 _ _ _ _
      | exact spec_l7Equal.mono _ _ _ _
      | exact LeO.none _
      | refine LeO.ite ?_ ?_
      | refine LeO.bind ?_ (fun _ => ?_)
theorem spec_l7Other.mono : ∀ a0 a1 a2 k, LeO (spec_l7Other.f k a0 a1 a2) (spec_l7Other.f (k + 1) a0 a1 a2) := by
  intro a0 a1 a2 k
  have ih0 := spec_l7Other.mono_l k
  unfold spec_l7Other.f
  repeat' first
      | (with_reducible exact ih0 _ _ _ _)
      | (with_reducible exact spec_l7Equal.mono _ _ _ _)
      | (with_reducible exact LeO.refl _)
      | (with_reducible exact LeO.none _)
      | (with_reducible refine LeO.ite ?_ ?_)
      | (with_reducible refine LeO.bind ?_ (fun _ => ?_))
      | exact ih0 _ _ _ _
      | exact spec_l7Equal.mono _ _ _ _
      | exact LeO.none _
      | refine LeO.ite ?_ ?_
      | refine LeO.bind ?_ (fun _ => ?_)
set_option maxHeartbeats 8000000 in
set_option maxRecDepth 100000 in
theorem spec_l7Other.calls (k : Nat) (A0 : Option Addr) (c0 : Nat) (l0 : List Int) (a1 : Int) (a2 : Int) (r : Int) (w : World) (hr0 : Kd.C (Kd.int .i64) w A0 l0.length l0) (hc0 : l0.length ≤ c0) (h : spec_l7Other.f k l0 a1 a2 = some r) :
    Calls Try.prog 107 #[.slice A0 l0.length c0, .int .i64 a1, .int .i64 a2] w fun e w' => e = .returned (.int .i64 r) ∧ Drawn0 w w' := by
  have HR0 := Aside0.mk hr0
  have HC0 := Aside0.mk hc0
  clear hr0 hc0
  have H : (spec_l7Other.l0 k l0 a1 a2 1) = some r := h
  clear h
  have H' := Aside0.mk H
  clear H
  go_enter Try.func107, Try.ntmps107
  go_wp2
  go_loopg [7] k (fun kq v7 w' => ∃ (x7_1 : Int), v7 = .int .i64 x7_1 ∧ Aside0 (spec_l7Other.l0 kq l0 a1 a2 x7_1 = some r) ∧ Aside0 (kq ≤ k) ∧ Drawn0 w w')
  case atStart => exact ⟨(1), (by first | rfl | (simp; done) | (simp [*]; done)), H', ⟨Nat.le_refl _⟩, by repeat (first | exact Drawn0.refl _ | apply Drawn0.step)⟩
  case round =>
    clear H'
    try clear c1
    try clear p2
    obtain ⟨x7_1, rfl, HA, HK1, ⟨m1, rfl⟩⟩ := hrel
    cases gk with
    | zero => exact absurd HA.out (by simp [spec_l7Other.l0])
    | succ k1 =>
      have H := HA.out
      clear HA
      simp only [spec_l7Other.l0] at H
      by_cases c4 : x7_1 < a2
      · rw [if_pos c4] at H
        have c4b0 : decide (x7_1 < a2) = true := decide_eq_true c4
        clear c4
        by_cases c5 : (wrap64 (a1 + x7_1)) < (l0.length : Int)
        · rw [if_pos c5] at H
          have c5b0 : decide ((wrap64 (a1 + x7_1)) < (l0.length : Int)) = true := decide_eq_true c5
          clear c5
          replace H := Option.bind_eq_some_iff.mp H
          obtain ⟨t181, A60, H⟩ := H
          replace H : (if t181 < 2 then (spec_l7Other.l0 k1 l0 a1 a2 (wrap64 (x7_1 + 1))) else (some x7_1)) = some r := H
          have A6 := Aside0.mk A60
          clear A60
          by_cases c7 : t181 < 2
          · rw [if_pos c7] at H
            have c7b0 : decide (t181 < 2) = true := decide_eq_true c7
            clear c7
            have H' := Aside0.mk H
            clear H
            go_wp2_with (first | (go_at_call 106; (with_reducible refine (spec_l7Equal.calls k1 _ _ l0 (wrap64 (a1 + x7_1)) 2 t181 _ ?side1 ?side2 A6.out).mono ?_); (case side1 => repeat (first | exact HR0.out | (with_reducible refine Kd.C_alloc ?_ _) | (with_reducible refine Kd.C_drewN ?_ _) | (with_reducible refine Kd.C_drew ?_))); (case side2 => exact HC0.out); rintro e w' ⟨rfl, ⟨nd, rfl⟩⟩))
            go_roundg k1
            case measure => have := HK1.out; omega
            case rel => exact ⟨(wrap64 (x7_1 + 1)), (by first | rfl | (simp; done) | (simp [*]; done)), H', ⟨by have := HK1.out; omega⟩, by repeat (first | exact Drawn0.refl _ | apply Drawn0.step)⟩
          · rw [if_neg c7] at H
            have c7b0 : decide (t181 < 2) = false := decide_eq_false c7
            clear c7
            obtain rfl := Option.some.inj H
            go_wp2_with (first | (go_at_call 106; (with_reducible refine (spec_l7Equal.calls k1 _ _ l0 (wrap64 (a1 + x7_1)) 2 t181 _ ?side1 ?side2 A6.out).mono ?_); (case side1 => repeat (first | exact HR0.out | (with_reducible refine Kd.C_alloc ?_ _) | (with_reducible refine Kd.C_drewN ?_ _) | (with_reducible refine Kd.C_drew ?_))); (case side2 => exact HC0.out); rintro e w' ⟨rfl, ⟨nd, rfl⟩⟩))
            go_ret
            exact ⟨by first | rfl | (simp; done) | (simp [*]; done), by repeat (first | exact Drawn0.refl _ | apply Drawn0.step)⟩
        · rw [if_neg c5] at H
          have c5b0 : decide ((wrap64 (a1 + x7_1)) < (l0.length : Int)) = false := decide_eq_false c5
          clear c5
          obtain rfl := Option.some.inj H
          go_wp2
          go_ret
          exact ⟨by first | rfl | (simp; done) | (simp [*]; done), by repeat (first | exact Drawn0.refl _ | apply Drawn0.step)⟩
      · rw [if_neg c4] at H
        have c4b0 : decide (x7_1 < a2) = false := decide_eq_false c4
        clear c4
        obtain rfl := Option.some.inj H
        go_wp2
        go_ret
        exact ⟨by first | rfl | (simp; done) | (simp [*]; done), by repeat (first | exact Drawn0.refl _ | apply Drawn0.step)⟩

/-! ### spec_l7Run: function 92 -/
mutual
def spec_l7Run.l0 : Nat → List Int → Int → ByteArray → Int → Option (ByteArray)
  | 0, _, _, _, _ => none
  | k + 1, x0, x1, x5, x6 => if x6 < (x0.length : Int) then ((spec_l7Equal.f k x0 x6 128).bind fun t182 => (if t182 ≥ 2 then ((some (([(wrap64 (127 + t182)) % 256] : List Int) : List Int)).bind fun y183 => (if x5.size + (strOfNums y183).size ≤ 9223372036854775807 then (if 0 ≤ x6 then ((spec_l1Num.f k (rd x0 x6) x1 false).bind fun t187 => (if (x5 ++ (strOfNums y183)).size + t187.size ≤ 9223372036854775807 then (spec_l7Run.l0 k x0 x1 ((x5 ++ (strOfNums y183)) ++ t187) (wrap64 (x6 + t182))) else (none))) else (none)) else (none))) else ((spec_l7Other.f k x0 x6 128).bind fun t188 => ((some (([(wrap64 (t188 - 1)) % 256] : List Int) : List Int)).bind fun y189 => (if x5.size + (strOfNums y189).size ≤ 9223372036854775807 then (spec_l7Run.l1 k x0 x1 (x5 ++ (strOfNums y189)) x6 t188 0) else (none)))))) else (some x5)
def spec_l7Run.l1 : Nat → List Int → Int → ByteArray → Int → Int → Int → Option (ByteArray)
  | 0, _, _, _, _, _, _ => none
  | k + 1, x0, x1, x5, x6, x7, x8 => if x8 < x7 then (if 0 ≤ (wrap64 (x6 + x8)) then (if (wrap64 (x6 + x8)) < (x0.length : Int) then ((spec_l1Num.f k (rd x0 (wrap64 (x6 + x8))) x1 false).bind fun t193 => (if x5.size + t193.size ≤ 9223372036854775807 then (spec_l7Run.l1 k x0 x1 (x5 ++ t193) x6 x7 (wrap64 (x8 + 1))) else (none))) else (none)) else (none)) else (spec_l7Run.l0 k x0 x1 x5 (wrap64 (x6 + x7)))
end
def spec_l7Run.f (k : Nat) (l0 : List Int) (a1 : Int) : Option (ByteArray) := spec_l7Run.l0 k l0 a1 (⟨#[]⟩ : ByteArray) 0
theorem spec_l7Run.mono_l : ∀ k, (∀ y0 y1 y2 y3, LeO (spec_l7Run.l0 k y0 y1 y2 y3) (spec_l7Run.l0 (k + 1) y0 y1 y2 y3)) ∧ (∀ y0 y1 y2 y3 y4 y5, LeO (spec_l7Run.l1 k y0 y1 y2 y3 y4 y5) (spec_l7Run.l1 (k + 1) y0 y1 y2 y3 y4 y5))
  | 0 => ⟨fun _ _ _ _ r h => by simp [spec_l7Run.l0] at h, fun _ _ _ _ _ _ r h => by simp [spec_l7Run.l1] at h⟩
  | k + 1 => by
    obtain ⟨ih0, ih1⟩ := spec_l7Run.mono_l k
    refine ⟨?_, ?_⟩
    · intro y0 y1 y2 y3
      unfold spec_l7Run.l0
      repeat' first
      | (with_reducible exact ih0 _ _ _ _)
      | (with_reducible exact ih1 _ _ _ _ _ _)
      | (with_reducible exact spec_l1Num.mono _ _ _ _)
      | (with_reducible exact spec_l7Equal.mono _ _ _ _)
      | (with_reducible exact spec_l7Other.mono _ _ _ _)
      | (with_reducible exact LeO.refl _)
      | (with_reducible exact LeO.none _)
      | (with_reducible refine LeO.ite ?_ ?_)
      | (with_reducible refine LeO.bind ?_ (fun _ => ?_))
      | exact ih0 _ _ _ _
      | exact ih1 _ _ _ _ _ _
      | exact spec_l1Num.mono _ _ _ _
      | exact spec_l7Equal.mono _ _ _ _
      | exact spec_l7Other.mono _ _ _ _
      | exact LeO.none _
      | refine LeO.ite ?_ ?_
      | refine LeO.bind ?_ (fun _ => ?_)
    · intro y0 y1 y2 y3 y4 y5
      unfold spec_l7Run.l1
      repeat' first
      | (with_reducible exact ih0 _ _ _ _)
      | (with_reducible exact ih1 _ _ _ _ _ _)
      | (with_reducible exact spec_l1Num.mono _ _ _ _)
      | (with_reducible exact spec_l7Equal.mono _ _ _ _)
      | (with_reducible exact spec_l7Other.mono _ _ _ _)
      | (with_reducible exact LeO.refl _)
      | (with_reducible exact LeO.none _)
      | (with_reducible refine LeO.ite ?_ ?_)
      | (with_reducible refine LeO.bind ?_ (fun _ => ?_))
      | exact ih0 _ _ _ _
      | exact ih1 _ _ _ _ _ _
      | exact spec_l1Num.mono _ _ _ _
      | exact spec_l7Equal.mono _ _ _ _
      | exact spec_l7Other.mono _ _ _ _
      | exact LeO.none _
      | refine LeO.ite ?_ ?_
      | refine LeO.bind ?_ (fun _ => ?_)
theorem spec_l7Run.mono : ∀ a0 a1 k, LeO (spec_l7Run.f k a0 a1) (spec_l7Run.f (k + 1) a0 a1) := by
  intro a0 a1 k
  obtain ⟨ih0, ih1⟩ := spec_l7Run.mono_l k
  unfold spec_l7Run.f
  repeat' first
      | (with_reducible exact ih0 _ _ _ _)
      | (with_reducible exact ih1 _ _ _ _ _ _)
      | (with_reducible exact spec_l1Num.mono _ _ _ _)
      | (with_reducible exact spec_l7Equal.mono _ _ _ _)
      | (with_reducible exact spec_l7Other.mono _ _ _ _)
      | (with_reducible exact LeO.refl _)
      | (with_reducible exact LeO.none _)
      | (with_reducible refine LeO.ite ?_ ?_)
      | (with_reducible refine LeO.bind ?_ (fun _ => ?_))
      | exact ih0 _ _ _ _
      | exact ih1 _ _ _ _ _ _
      | exact spec_l1Num.mono _ _ _ _
      | exact spec_l7Equal.mono _ _ _ _
      | exact spec_l7Other.mono _ _ _ _
      | exact LeO.none _
      | refine LeO.ite ?_ ?_
      | refine LeO.bind ?_ (fun _ => ?_)
def spec_l7Run.T6 : Bool × List (List Nat × List Nat) := (true, [([], []), ([], []), ([1], [1]), ([2], [2]), ([3], [3]), ([4], [4]), ([0, 5], [0, 5]), ([], []), ([], []), ([7, 8], [7, 8]), ([9], [9]), ([], []), ([10, 11], [10, 11]), ([6, 12], [6, 12]), ([13, 12, 0, 1, 2, 3, 4, 5, 6, 7, 8, 9, 10, 11, 12, 13], [0, 13])])
def spec_l7Run.B6 : List Nat := [0, 0, 2, 6, 14, 30, 63, 0, 0, 384, 896, 0, 3968, 8191, 16383]
theorem spec_l7Run.tab6 : rtab .any (opsOf Try.f92 6) = spec_l7Run.T6 := by kernel_rfl
theorem spec_l7Run.bits6 : waitsOk spec_l7Run.T6.2 spec_l7Run.B6 = true := by kernel_rfl
set_option maxHeartbeats 8000000 in
set_option maxRecDepth 100000 in
theorem spec_l7Run.calls (k : Nat) (A0 : Option Addr) (c0 : Nat) (l0 : List Int) (a1 : Int) (r : ByteArray) (w : World) (hr0 : Kd.C (Kd.int .i64) w A0 l0.length l0) (hc0 : l0.length ≤ c0) (h : spec_l7Run.f k l0 a1 = some r) :
    Calls Try.prog 92 #[.slice A0 l0.length c0, .int .i64 a1] w fun e w' => e = .returned (.string r) ∧ Below w.heap.size w w' := by
  have HR0 := Aside0.mk hr0
  have HC0 := Aside0.mk hc0
  clear hr0 hc0
  have HB := Aside0.mk (Below.refl w.heap.size w)
  have H : (spec_l7Run.l0 k l0 a1 (⟨#[]⟩ : ByteArray) 0) = some r := h
  clear h
  have H' := Aside0.mk H
  clear H
  go_enter Try.func92, Try.ntmps92
  go_wp2
  go_loopg [5, 6] k (fun kq v5 v6 w' => ∃ (x5_1 : ByteArray) (x6_1 : Int), v5 = .string x5_1 ∧ v6 = .int .i64 x6_1 ∧ Aside0 (spec_l7Run.l0 kq l0 a1 x5_1 x6_1 = some r) ∧ Aside0 (kq ≤ k) ∧ Aside0 (Below w.heap.size w w'))
  case atStart => exact ⟨((⟨#[]⟩ : ByteArray)), (0), (by first | rfl | (simp; done) | (simp [*]; done)), (by first | rfl | (simp; done) | (simp [*]; done)), H', ⟨Nat.le_refl _⟩, ⟨by repeat (first | (with_reducible first | exact HB.out | apply below_alloc | apply pw_below_drewN | apply below_drew1) | exact HB.out)⟩⟩
  case round =>
    clear H'
    try clear p2
    obtain ⟨x5_1, x6_1, rfl, rfl, HA, HK1, HB⟩ := hrel
    cases gk with
    | zero => exact absurd HA.out (by simp [spec_l7Run.l0])
    | succ k1 =>
      have H := HA.out
      clear HA
      simp only [spec_l7Run.l0] at H
      by_cases c3 : x6_1 < (l0.length : Int)
      · rw [if_pos c3] at H
        have c3b0 : decide (x6_1 < (l0.length : Int)) = true := decide_eq_true c3
        clear c3
        replace H := Option.bind_eq_some_iff.mp H
        obtain ⟨t182, A40, H⟩ := H
        replace H : (if t182 ≥ 2 then ((some (([(wrap64 (127 + t182)) % 256] : List Int) : List Int)).bind fun y183 => (if x5_1.size + (strOfNums y183).size ≤ 9223372036854775807 then (if 0 ≤ x6_1 then ((spec_l1Num.f k1 (rd l0 x6_1) a1 false).bind fun t187 => (if (x5_1 ++ (strOfNums y183)).size + t187.size ≤ 9223372036854775807 then (spec_l7Run.l0 k1 l0 a1 ((x5_1 ++ (strOfNums y183)) ++ t187) (wrap64 (x6_1 + t182))) else (none))) else (none)) else (none))) else ((spec_l7Other.f k1 l0 x6_1 128).bind fun t188 => ((some (([(wrap64 (t188 - 1)) % 256] : List Int) : List Int)).bind fun y189 => (if x5_1.size + (strOfNums y189).size ≤ 9223372036854775807 then (spec_l7Run.l1 k1 l0 a1 (x5_1 ++ (strOfNums y189)) x6_1 t188 0) else (none))))) = some r := H
        have A4 := Aside0.mk A40
        clear A40
        by_cases c5 : t182 ≥ 2
        · rw [if_pos c5] at H
          have c5b0 : decide (2 ≤ t182) = true := decide_eq_true c5
          clear c5
          obtain ⟨y183, hy183⟩ : ∃ y_ : List Int, y_ = (([(wrap64 (127 + t182)) % 256] : List Int)) := ⟨_, rfl⟩
          replace H : (if x5_1.size + (strOfNums y183).size ≤ 9223372036854775807 then (if 0 ≤ x6_1 then ((spec_l1Num.f k1 (rd l0 x6_1) a1 false).bind fun t187 => (if (x5_1 ++ (strOfNums y183)).size + t187.size ≤ 9223372036854775807 then (spec_l7Run.l0 k1 l0 a1 ((x5_1 ++ (strOfNums y183)) ++ t187) (wrap64 (x6_1 + t182))) else (none))) else (none)) else (none)) = some r := by first | (rw [hy183]; with_reducible exact H) | (have H2_ := (Option.bind_some _ _).symm.trans H; rw [hy183]; with_reducible exact H2_) | (have H2_ := (Option.bind_some _ _).symm.trans H; with_reducible exact H2_) | with_reducible exact H | (rw [hy183]; exact H) | exact H
          have Ny183 := Aside0.mk hy183
          clear hy183
          by_cases c6 : x5_1.size + (strOfNums y183).size ≤ 9223372036854775807
          · rw [if_pos c6] at H
            have c6b0 := eq_true c6
            have c6b1 : decide (x5_1.size + (strOfNums y183).size ≤ 9223372036854775807) = true := decide_eq_true c6
            try have c6b2 : (9223372036854775807 < x5_1.size + (strOfNums y183).size) = False := eq_false (Nat.not_lt.2 c6)
            by_cases c7 : 0 ≤ x6_1
            · rw [if_pos c7] at H
              have c7b0 : decide (0 ≤ x6_1) = true := decide_eq_true c7
              clear c7
              replace H := Option.bind_eq_some_iff.mp H
              obtain ⟨t187, A80, H⟩ := H
              replace H : (if (x5_1 ++ (strOfNums y183)).size + t187.size ≤ 9223372036854775807 then (spec_l7Run.l0 k1 l0 a1 ((x5_1 ++ (strOfNums y183)) ++ t187) (wrap64 (x6_1 + t182))) else (none)) = some r := H
              have A8 := Aside0.mk A80
              clear A80
              by_cases c9 : (x5_1 ++ (strOfNums y183)).size + t187.size ≤ 9223372036854775807
              · rw [if_pos c9] at H
                have c9b0 := eq_true c9
                have c9b1 : decide ((x5_1 ++ (strOfNums y183)).size + t187.size ≤ 9223372036854775807) = true := decide_eq_true c9
                try have c9b2 : (9223372036854775807 < (x5_1 ++ (strOfNums y183)).size + t187.size) = False := eq_false (Nat.not_lt.2 c9)
                try have c9b2q := c9b2
                try simp only [ByteArray.size_append] at c9b2q
                have H' := Aside0.mk H
                clear H
                try go_wp2_with (first | ((with_reducible refine gate_callee (f := 106) rfl ?_); refine goesL_ (some 15) rfl rfl Try.func106 (by kernel_rfl) rfl #[.slice A0 l0.length c0, .int .i64 x6_1, .int .i64 128] rfl (by (try simp only [List.map_toArray, List.map_cons, List.map_nil]); first | done | rfl | (simp only [List.length_drop, List.length_take]; rfl)) ?_; (with_reducible refine (spec_l7Equal.calls k1 _ _ l0 x6_1 128 t182 _ ?side1 ?side2 A4.out).mono ?_); (case side1 => repeat (first | exact (Kd.C_below HR0.out HB.out) | (with_reducible refine Kd.C_alloc ?_ _) | (with_reducible refine Kd.C_drewN ?_ _) | (with_reducible refine Kd.C_drew ?_))); (case side2 => exact HC0.out); rintro e w' ⟨rfl, ⟨nd, rfl⟩⟩; refine ⟨_, rfl, ?_⟩))
                (try (rw [drewN_self wr]; generalize hq_ : World.drewN wr _ = wr; have n0_ : Aside0 (Below w.heap.size w wr) := ⟨by rw [← hq_]; exact (by repeat (first | (with_reducible first | exact HB.out | apply below_alloc | apply pw_below_drewN | apply below_drew1) | exact HB.out))⟩; clear HB hq_; have HB := n0_; clear n0_))
                have n0_ := Aside0.mk (below_drew1 HB.out)
                clear HB
                have HB := n0_
                clear n0_
                have p186 : 0 ≤ (x6_1 : Int) := of_decide_eq_true (by first | (with_reducible assumption) | assumption)
                have q186 : x6_1 < (l0.length : Int) := of_decide_eq_true (by first | (with_reducible assumption) | assumption)
                obtain ⟨ad186, e186, hx186_0⟩ := Kd.at_int HR0.out x6_1 p186 q186
                have hw186_0 := hx186_0
                cases e186
                replace hx186_0 := (HB.out.cell (World.block_lt_of_cell? w _ hx186_0)).trans hx186_0
                replace p186 := eq_true p186
                replace q186 := eq_true q186
                refine start_ (n := 15) (S := fun w' => w'.cell? (ad186.add (x6_1).toNat) = some (.int .i64 (rd l0 x6_1))) (ds := []) #[false, false, false, false, false, false, false, false, false, false, false, false, false, false, false] (by kernel_rfl) rfl rfl (((HB.out.cell (World.block_lt_of_cell? w _ hw186_0)).trans hw186_0)) (fun hHeld => ?_); refine with_tabW spec_l7Run.tab6 spec_l7Run.bits6 (fun HT_ HW_ => ?_)
                generalize wr.drew = w10 at HB hx186_0 hHeld ⊢
                refine pure_ (i := 0) (N := some 18) (v := ?_) (a' := ?_) #[true, false, false, false, false, false, false, false, false, false, false, false, false, false, false] rfl rfl (any_of HT_.out (by kernel_rfl)) (fun _ _ _ h => h) (Or.inl ⟨by rfl, ?_⟩) ?_ ?_
                rotate_left
                · intro w'
                  go_simp
                  with_reducible rfl
                rotate_left
                · simp only [Act.put, List.setIfInBounds_toArray, List.set_cons_zero, List.set_cons_succ, i64_w, i32_w]
                  rfl
                refine pure_ (i := 1) (N := some 19) (v := ?_) (a' := ?_) #[true, true, false, false, false, false, false, false, false, false, false, false, false, false, false] rfl rfl (any_of HT_.out (by kernel_rfl)) (fun _ _ _ h => h) (Or.inl ⟨by rfl, ?_⟩) ?_ ?_
                rotate_left
                · intro w'
                  go_simp
                  with_reducible rfl
                rotate_left
                · simp only [Act.put, List.setIfInBounds_toArray, List.set_cons_zero, List.set_cons_succ, i64_w, i32_w]
                  rfl
                refine pure_ (i := 2) (N := some 20) (v := ?_) (a' := ?_) #[true, true, true, false, false, false, false, false, false, false, false, false, false, false, false] rfl rfl (any_of HT_.out (by kernel_rfl)) (fun _ _ _ h => h) (Or.inl ⟨by rfl, ?_⟩) ?_ ?_
                rotate_left
                · intro w'
                  go_simp
                  with_reducible rfl
                rotate_left
                · simp only [Act.put, List.setIfInBounds_toArray, List.set_cons_zero, List.set_cons_succ, i64_w, i32_w]
                  rfl
                refine pure_ (i := 3) (N := some 21) (v := ?_) (a' := ?_) #[true, true, true, true, false, false, false, false, false, false, false, false, false, false, false] rfl rfl (any_of HT_.out (by kernel_rfl)) (fun _ _ _ h => h) (Or.inl ⟨by rfl, ?_⟩) ?_ ?_
                rotate_left
                · intro w'
                  go_simp
                  with_reducible rfl
                rotate_left
                · simp only [Act.put, List.setIfInBounds_toArray, List.set_cons_zero, List.set_cons_succ, i64_w, i32_w]
                  rfl
                refine pure_ (i := 7) (N := some 25) (v := ?_) (a' := ?_) #[true, true, true, true, false, false, false, true, false, false, false, false, false, false, false] rfl rfl (any_of HT_.out (by kernel_rfl)) (fun _ _ _ h => h) (Or.inl ⟨by rfl, ?_⟩) ?_ ?_
                rotate_left
                · intro w'
                  go_simp
                  with_reducible rfl
                rotate_left
                · simp only [Act.put, List.setIfInBounds_toArray, List.set_cons_zero, List.set_cons_succ, i64_w, i32_w]
                  rfl
                refine pure_ (i := 8) (N := some 26) (v := ?_) (a' := ?_) #[true, true, true, true, false, false, false, true, true, false, false, false, false, false, false] rfl rfl (any_of HT_.out (by kernel_rfl)) (fun _ _ _ h => h) (Or.inl ⟨by rfl, ?_⟩) ?_ ?_
                rotate_left
                · intro w'
                  go_simp
                  with_reducible rfl
                rotate_left
                · simp only [Act.put, List.setIfInBounds_toArray, List.set_cons_zero, List.set_cons_succ, i64_w, i32_w]
                  rfl
                refine pure_ (i := 9) (N := some 27) (v := ?_) (a' := ?_) #[true, true, true, true, false, false, false, true, true, true, false, false, false, false, false] rfl rfl (any_of HT_.out (by kernel_rfl)) (fun _ _ _ h => h) (Or.inl ⟨by rfl, ?_⟩) ?_ ?_
                rotate_left
                · intro w'
                  go_simp
                  with_reducible rfl
                rotate_left
                · simp only [Act.put, List.setIfInBounds_toArray, List.set_cons_zero, List.set_cons_succ, i64_w, i32_w]
                  rfl
                refine pure_ (i := 11) (N := some 29) (v := ?_) (a' := ?_) #[true, true, true, true, false, false, false, true, true, true, false, true, false, false, false] rfl rfl (any_of HT_.out (by kernel_rfl)) (fun _ _ _ h => h) (Or.inl ⟨by rfl, ?_⟩) ?_ ?_
                rotate_left
                · intro w'
                  go_simp
                  with_reducible rfl
                rotate_left
                · simp only [Act.put, List.setIfInBounds_toArray, List.set_cons_zero, List.set_cons_succ, i64_w, i32_w]
                  rfl
                refine take_ (i := 10) (N := some 28) (v := ?_) (a' := ?_) #[true, true, true, true, false, false, false, true, true, true, true, true, false, false, false] rfl rfl (take_ofW HT_.out HW_.out (by kernel_rfl)) (fun _ _ _ h => h) (Or.inl ⟨by rfl, ?_⟩) hHeld ?_ ?_
                rotate_left
                · intro w' s0
                  go_simp
                  with_reducible rfl
                rotate_left
                · simp only [Act.put, List.setIfInBounds_toArray, List.set_cons_zero, List.set_cons_succ, i64_w, i32_w]
                  rfl
                refine join_ (σ := Value) 2 #[true, true, true, true, true, true, true, true, true, true, true, true, true, false, false] (fun s_ => [(22, s_), (23, .string (strOfNums y183)), (30, .string t187), (24, .string (x5_1 ++ (strOfNums y183)))]) (fun s_ w' => (w'.cell? (ad186.add (x6_1).toNat) = some (.int .i64 (rd l0 x6_1))) ∧ (Kd.R (Kd.int .u8) 5 w' w.heap.size (fun _ => True) s_ y183) ∧ (Below w.heap.size w w')) ?_ ?_
                rotate_left
                · intro hCont
                  refine two_ (i := 4) (j := 12) (Ni := some 22) (Nj := some 30) #[true, true, true, true, true, false, false, true, true, true, true, true, false, false, false] #[true, true, true, true, false, false, false, true, true, true, true, true, true, false, false] rfl rfl rfl rfl (two_of HT_.out (by kernel_rfl)) (by decide) (by decide) (fun K hK => ?_) (fun K hK => ?_)
                  · skip
                    refine Kd.R_lit_step (Kd.int .u8) _ 5 ?hg (N := 22) ?hd (xs := ([(wrap64 (127 + t182)) % 256] : List Int)) (inner := [.int .u8 ((wrap64 (127 + t182)) % 256)]) (ok := fun _ => True) (okp := fun _ => True) ?hr ?hp (fun _ hk => hk) trivial (Below.refl _ _) (Nat.le_refl _) (by simp) ?_; (case hd => rfl); (case hg => rfl); (case hr => first | (go_simp; done) | (go_simp; rfl)); (case hp => exact (Reps.one (show Kd.M (Kd.int .u8) _ _ _ ((wrap64 (127 + t182)) % 256) [.int .u8 ((wrap64 (127 + t182)) % 256)] from rfl) (Reps.none _ _)))
                    intro v184 w11 ho12 hb hg_ hnew_
                    clear hg_ hnew_
                    (first | rw [← Ny183.out] at ho12 | (simp only [Int.reduceToNat] at ho12; rw [← Ny183.out] at ho12))
                    have n0_ := Aside0.mk (Kd.R_lower ho12 (below_size (by repeat (first | (with_reducible first | exact HB.out | apply below_alloc | apply pw_below_drewN | apply below_drew1) | exact HB.out))))
                    have n1_ := Aside0.mk (below_step (by repeat (first | (with_reducible first | exact HB.out | apply below_alloc | apply pw_below_drewN | apply below_drew1) | exact HB.out)) hb)
                    clear HB
                    have HO185 := n0_
                    have HB := n1_
                    clear n0_ n1_
                    clear hb ho12
                    refine hK.out _ _ (((HB.out.cell (World.block_lt_of_cell? w _ hw186_0)).trans hw186_0)) (fun hHeld => ?_)
                    clear hK K
                    refine norm_ (a' := ?_) ?_ ?_
                    rotate_left
                    · show Act.put _ (some 22) _ = _
                      simp only [Act.put, List.setIfInBounds_toArray, List.set_cons_zero, List.set_cons_succ, i64_w, i32_w]
                      rfl
                    refine two_ (i := 5) (j := 12) (Ni := some 23) (Nj := some 30) #[true, true, true, true, true, true, false, true, true, true, true, true, false, false, false] #[true, true, true, true, true, false, false, true, true, true, true, true, true, false, false] rfl rfl rfl rfl (two_of HT_.out (by kernel_rfl)) (by decide) (by decide) (fun K hK => ?_) (fun K hK => ?_)
                    · skip
                      have hcv13 := own_string (P := Try.prog) Try.underlying22 Try.underlying5 Try.underlying9 (Kd.own_of_R HO185.out)
                      refine value_ (w1 := ?_) (v := ?_) (by rfl) rfl ?_ ?_
                      rotate_left 2
                      · go_simp
                        constructor
                        · rfl
                        · rfl
                      clear hcv13
                      refine hK.out _ _ (((HB.out.cell (World.block_lt_of_cell? w _ hw186_0)).trans hw186_0)) (fun hHeld => ?_)
                      clear hK K
                      refine norm_ (a' := ?_) ?_ ?_
                      rotate_left
                      · show Act.put _ (some 23) _ = _
                        simp only [Act.put, List.setIfInBounds_toArray, List.set_cons_zero, List.set_cons_succ, i64_w, i32_w]
                        rfl
                      refine pure_ (i := 6) (N := some 24) (v := ?_) (a' := ?_) #[true, true, true, true, true, true, true, true, true, true, true, true, false, false, false] rfl rfl (any_of HT_.out (by kernel_rfl)) (fun _ _ _ h => h) (Or.inl ⟨by rfl, ?_⟩) ?_ ?_
                      rotate_left
                      · intro w'
                        go_simp
                        with_reducible rfl
                      rotate_left
                      · simp only [Act.put, List.setIfInBounds_toArray, List.set_cons_zero, List.set_cons_succ, i64_w, i32_w]
                        rfl
                      refine one_ (i := 12) (N := some 30) #[true, true, true, true, true, true, true, true, true, true, true, true, true, false, false] rfl rfl (one_of HT_.out (by kernel_rfl)) (by decide) (fun K hK => ?_)
                      refine goes_ Try.func80 (by kernel_rfl) rfl #[.int .i64 (rd l0 x6_1), .int .i64 a1, .bool false] (by rfl) rfl rfl (by (try simp only [List.map_toArray, List.map_cons, List.map_nil]); first | done | rfl | (simp only [List.length_drop, List.length_take]; rfl)) ?_
                      with_reducible refine (spec_l1Num.calls k1 (rd l0 x6_1) a1 false t187 _ A8.out).mono ?_
                      rintro e w14 ⟨rfl, hb⟩
                      refine ⟨_, rfl, ?_⟩
                      have n0_ := Aside0.mk (Kd.R_below (by (with_reducible repeat (first | apply Kd.R_alloc | apply Kd.R_drewN | apply Kd.R_drew)); exact HO185.out) hb)
                      have n1_ := Aside0.mk (below_step (by repeat (first | (with_reducible first | exact HB.out | apply below_alloc | apply pw_below_drewN | apply below_drew1) | exact HB.out)) hb)
                      clear HO185
                      clear HB
                      have HO185 := n0_
                      have HB := n1_
                      clear n0_ n1_
                      (try clear hb)
                      (try clear hb2)
                      (try clear hk)
                      (try clear hi)
                      refine hK.out _ _ (((HB.out.cell (World.block_lt_of_cell? w _ hw186_0)).trans hw186_0)) (fun hHeld => ?_)
                      clear hK K
                      refine norm_ (a' := ?_) ?_ ?_
                      rotate_left
                      · show Act.put _ (some 30) _ = _
                        simp only [Act.put, List.setIfInBounds_toArray, List.set_cons_zero, List.set_cons_succ, i64_w, i32_w]
                        rfl
                      exact norm_ (by simp only [putAll, Act.put, List.setIfInBounds_toArray, List.set_cons_zero, List.set_cons_succ]) (hCont (v184) _ ⟨hHeld, (by (with_reducible repeat (first | apply Kd.R_alloc | apply Kd.R_drewN | apply Kd.R_drew)); exact HO185.out), (by repeat (first | (with_reducible first | exact HB.out | apply below_alloc | apply pw_below_drewN | apply below_drew1) | exact HB.out))⟩)
                    · skip
                      refine goes_ Try.func80 (by kernel_rfl) rfl #[.int .i64 (rd l0 x6_1), .int .i64 a1, .bool false] (by rfl) rfl rfl (by (try simp only [List.map_toArray, List.map_cons, List.map_nil]); first | done | rfl | (simp only [List.length_drop, List.length_take]; rfl)) ?_
                      with_reducible refine (spec_l1Num.calls k1 (rd l0 x6_1) a1 false t187 _ A8.out).mono ?_
                      rintro e w13 ⟨rfl, hb⟩
                      refine ⟨_, rfl, ?_⟩
                      have n0_ := Aside0.mk (Kd.R_below (by (with_reducible repeat (first | apply Kd.R_alloc | apply Kd.R_drewN | apply Kd.R_drew)); exact HO185.out) hb)
                      have n1_ := Aside0.mk (below_step (by repeat (first | (with_reducible first | exact HB.out | apply below_alloc | apply pw_below_drewN | apply below_drew1) | exact HB.out)) hb)
                      clear HO185
                      clear HB
                      have HO185 := n0_
                      have HB := n1_
                      clear n0_ n1_
                      (try clear hb)
                      (try clear hb2)
                      (try clear hk)
                      (try clear hi)
                      refine hK.out _ _ (((HB.out.cell (World.block_lt_of_cell? w _ hw186_0)).trans hw186_0)) (fun hHeld => ?_)
                      clear hK K
                      refine norm_ (a' := ?_) ?_ ?_
                      rotate_left
                      · show Act.put _ (some 30) _ = _
                        simp only [Act.put, List.setIfInBounds_toArray, List.set_cons_zero, List.set_cons_succ, i64_w, i32_w]
                        rfl
                      refine one_ (i := 5) (N := some 23) #[true, true, true, true, true, true, false, true, true, true, true, true, true, false, false] rfl rfl (one_of HT_.out (by kernel_rfl)) (by decide) (fun K hK => ?_)
                      have hcv14 := own_string (P := Try.prog) Try.underlying22 Try.underlying5 Try.underlying9 (Kd.own_of_R HO185.out)
                      refine value_ (w1 := ?_) (v := ?_) (by rfl) rfl ?_ ?_
                      rotate_left 2
                      · go_simp
                        constructor
                        · rfl
                        · rfl
                      clear hcv14
                      refine hK.out _ _ (((HB.out.cell (World.block_lt_of_cell? w _ hw186_0)).trans hw186_0)) (fun hHeld => ?_)
                      clear hK K
                      refine norm_ (a' := ?_) ?_ ?_
                      rotate_left
                      · show Act.put _ (some 23) _ = _
                        simp only [Act.put, List.setIfInBounds_toArray, List.set_cons_zero, List.set_cons_succ, i64_w, i32_w]
                        rfl
                      refine pure_ (i := 6) (N := some 24) (v := ?_) (a' := ?_) #[true, true, true, true, true, true, true, true, true, true, true, true, true, false, false] rfl rfl (any_of HT_.out (by kernel_rfl)) (fun _ _ _ h => h) (Or.inl ⟨by rfl, ?_⟩) ?_ ?_
                      rotate_left
                      · intro w'
                        go_simp
                        with_reducible rfl
                      rotate_left
                      · simp only [Act.put, List.setIfInBounds_toArray, List.set_cons_zero, List.set_cons_succ, i64_w, i32_w]
                        rfl
                      exact norm_ (by simp only [putAll, Act.put, List.setIfInBounds_toArray, List.set_cons_zero, List.set_cons_succ]) (hCont (v184) _ ⟨hHeld, (by (with_reducible repeat (first | apply Kd.R_alloc | apply Kd.R_drewN | apply Kd.R_drew)); exact HO185.out), (by repeat (first | (with_reducible first | exact HB.out | apply below_alloc | apply pw_below_drewN | apply below_drew1) | exact HB.out))⟩)
                  · skip
                    refine goes_ Try.func80 (by kernel_rfl) rfl #[.int .i64 (rd l0 x6_1), .int .i64 a1, .bool false] (by rfl) rfl rfl (by (try simp only [List.map_toArray, List.map_cons, List.map_nil]); first | done | rfl | (simp only [List.length_drop, List.length_take]; rfl)) ?_
                    with_reducible refine (spec_l1Num.calls k1 (rd l0 x6_1) a1 false t187 _ A8.out).mono ?_
                    rintro e w11 ⟨rfl, hb⟩
                    refine ⟨_, rfl, ?_⟩
                    have n0_ := Aside0.mk (below_step (by repeat (first | (with_reducible first | exact HB.out | apply below_alloc | apply pw_below_drewN | apply below_drew1) | exact HB.out)) hb)
                    clear HB
                    have HB := n0_
                    clear n0_
                    (try clear hb)
                    (try clear hb2)
                    (try clear hk)
                    (try clear hi)
                    refine hK.out _ _ (((HB.out.cell (World.block_lt_of_cell? w _ hw186_0)).trans hw186_0)) (fun hHeld => ?_)
                    clear hK K
                    refine norm_ (a' := ?_) ?_ ?_
                    rotate_left
                    · show Act.put _ (some 30) _ = _
                      simp only [Act.put, List.setIfInBounds_toArray, List.set_cons_zero, List.set_cons_succ, i64_w, i32_w]
                      rfl
                    refine one_ (i := 4) (N := some 22) #[true, true, true, true, true, false, false, true, true, true, true, true, true, false, false] rfl rfl (one_of HT_.out (by kernel_rfl)) (by decide) (fun K hK => ?_)
                    refine Kd.R_lit_step (Kd.int .u8) _ 5 ?hg (N := 22) ?hd (xs := ([(wrap64 (127 + t182)) % 256] : List Int)) (inner := [.int .u8 ((wrap64 (127 + t182)) % 256)]) (ok := fun _ => True) (okp := fun _ => True) ?hr ?hp (fun _ hk => hk) trivial (Below.refl _ _) (Nat.le_refl _) (by simp) ?_; (case hd => rfl); (case hg => rfl); (case hr => first | (go_simp; done) | (go_simp; rfl)); (case hp => exact (Reps.one (show Kd.M (Kd.int .u8) _ _ _ ((wrap64 (127 + t182)) % 256) [.int .u8 ((wrap64 (127 + t182)) % 256)] from rfl) (Reps.none _ _)))
                    intro v184 w12 ho13 hb hg_ hnew_
                    clear hg_ hnew_
                    (first | rw [← Ny183.out] at ho13 | (simp only [Int.reduceToNat] at ho13; rw [← Ny183.out] at ho13))
                    have n0_ := Aside0.mk (Kd.R_lower ho13 (below_size (by repeat (first | (with_reducible first | exact HB.out | apply below_alloc | apply pw_below_drewN | apply below_drew1) | exact HB.out))))
                    have n1_ := Aside0.mk (below_step (by repeat (first | (with_reducible first | exact HB.out | apply below_alloc | apply pw_below_drewN | apply below_drew1) | exact HB.out)) hb)
                    clear HB
                    have HO185 := n0_
                    have HB := n1_
                    clear n0_ n1_
                    clear hb ho13
                    refine hK.out _ _ (((HB.out.cell (World.block_lt_of_cell? w _ hw186_0)).trans hw186_0)) (fun hHeld => ?_)
                    clear hK K
                    refine norm_ (a' := ?_) ?_ ?_
                    rotate_left
                    · show Act.put _ (some 22) _ = _
                      simp only [Act.put, List.setIfInBounds_toArray, List.set_cons_zero, List.set_cons_succ, i64_w, i32_w]
                      rfl
                    refine one_ (i := 5) (N := some 23) #[true, true, true, true, true, true, false, true, true, true, true, true, true, false, false] rfl rfl (one_of HT_.out (by kernel_rfl)) (by decide) (fun K hK => ?_)
                    have hcv14 := own_string (P := Try.prog) Try.underlying22 Try.underlying5 Try.underlying9 (Kd.own_of_R HO185.out)
                    refine value_ (w1 := ?_) (v := ?_) (by rfl) rfl ?_ ?_
                    rotate_left 2
                    · go_simp
                      constructor
                      · rfl
                      · rfl
                    clear hcv14
                    refine hK.out _ _ (((HB.out.cell (World.block_lt_of_cell? w _ hw186_0)).trans hw186_0)) (fun hHeld => ?_)
                    clear hK K
                    refine norm_ (a' := ?_) ?_ ?_
                    rotate_left
                    · show Act.put _ (some 23) _ = _
                      simp only [Act.put, List.setIfInBounds_toArray, List.set_cons_zero, List.set_cons_succ, i64_w, i32_w]
                      rfl
                    refine pure_ (i := 6) (N := some 24) (v := ?_) (a' := ?_) #[true, true, true, true, true, true, true, true, true, true, true, true, true, false, false] rfl rfl (any_of HT_.out (by kernel_rfl)) (fun _ _ _ h => h) (Or.inl ⟨by rfl, ?_⟩) ?_ ?_
                    rotate_left
                    · intro w'
                      go_simp
                      with_reducible rfl
                    rotate_left
                    · simp only [Act.put, List.setIfInBounds_toArray, List.set_cons_zero, List.set_cons_succ, i64_w, i32_w]
                      rfl
                    exact norm_ (by simp only [putAll, Act.put, List.setIfInBounds_toArray, List.set_cons_zero, List.set_cons_succ]) (hCont (v184) _ ⟨hHeld, (by (with_reducible repeat (first | apply Kd.R_alloc | apply Kd.R_drewN | apply Kd.R_drew)); exact HO185.out), (by repeat (first | (with_reducible first | exact HB.out | apply below_alloc | apply pw_below_drewN | apply below_drew1) | exact HB.out))⟩)
                rintro v184 w15 ⟨hS_, h0_, h1_⟩
                have n0_ : Aside0 (Kd.R (Kd.int .u8) 5 w15 w.heap.size (fun _ => True) v184 y183) := ⟨h0_⟩
                have n1_ : Aside0 (Below w.heap.size w w15) := ⟨h1_⟩
                clear HB
                clear h0_ h1_
                have HO185 := n0_
                have HB := n1_
                clear n0_ n1_
                have hHeld : w15.cell? (ad186.add (x6_1).toNat) = some (.int .i64 (rd l0 x6_1)) := hS_
                refine norm_ (a' := ?_) ?_ ?_
                rotate_left
                · simp only [putAll, Act.put, List.setIfInBounds_toArray, List.set_cons_zero, List.set_cons_succ]
                  rfl
                refine pure_ (i := 13) (N := some 31) (v := ?_) (a' := ?_) #[true, true, true, true, true, true, true, true, true, true, true, true, true, true, false] rfl rfl (any_of HT_.out (by kernel_rfl)) (fun _ _ _ h => h) (Or.inl ⟨by rfl, ?_⟩) ?_ ?_
                rotate_left
                · intro w'
                  go_simp
                  with_reducible rfl
                rotate_left
                · simp only [Act.put, List.setIfInBounds_toArray, List.set_cons_zero, List.set_cons_succ, i64_w, i32_w]
                  rfl
                refine pure_ (i := 14) (N := some 5) (v := ?_) (a' := ?_) #[true, true, true, true, true, true, true, true, true, true, true, true, true, true, true] rfl rfl (any_of HT_.out (by kernel_rfl)) (fun _ _ _ h => h) (Or.inl ⟨by rfl, ?_⟩) ?_ ?_
                rotate_left
                · intro w'
                  go_simp
                  with_reducible rfl
                rotate_left
                · simp only [Act.put, List.setIfInBounds_toArray, List.set_cons_zero, List.set_cons_succ, i64_w, i32_w]
                  rfl
                refine done_ (done_of HT_.out (by kernel_rfl)) ?_
                try go_wp2
                go_roundg k1
                case measure => have := HK1.out; omega
                case rel => exact ⟨((x5_1 ++ (strOfNums y183)) ++ t187), (wrap64 (x6_1 + t182)), (by first | rfl | (simp; done) | (simp [*]; done)), (by first | rfl | (simp; done) | (simp [*]; done)), H', ⟨by have := HK1.out; omega⟩, ⟨by repeat (first | (with_reducible first | exact HB.out | apply below_alloc | apply pw_below_drewN | apply below_drew1) | exact HB.out)⟩⟩
              · rw [if_neg c9] at H
                exact absurd H (by simp)
            · rw [if_neg c7] at H
              exact absurd H (by simp)
          · rw [if_neg c6] at H
            exact absurd H (by simp)
        · rw [if_neg c5] at H
          have c5b0 : decide (2 ≤ t182) = false := decide_eq_false c5
          clear c5
          replace H := Option.bind_eq_some_iff.mp H
          obtain ⟨t188, A160, H⟩ := H
          replace H : ((some (([(wrap64 (t188 - 1)) % 256] : List Int) : List Int)).bind fun y189 => (if x5_1.size + (strOfNums y189).size ≤ 9223372036854775807 then (spec_l7Run.l1 k1 l0 a1 (x5_1 ++ (strOfNums y189)) x6_1 t188 0) else (none))) = some r := H
          have A16 := Aside0.mk A160
          clear A160
          obtain ⟨y189, hy189⟩ : ∃ y_ : List Int, y_ = (([(wrap64 (t188 - 1)) % 256] : List Int)) := ⟨_, rfl⟩
          replace H : (if x5_1.size + (strOfNums y189).size ≤ 9223372036854775807 then (spec_l7Run.l1 k1 l0 a1 (x5_1 ++ (strOfNums y189)) x6_1 t188 0) else (none)) = some r := by first | (rw [hy189]; with_reducible exact H) | (have H2_ := (Option.bind_some _ _).symm.trans H; rw [hy189]; with_reducible exact H2_) | (have H2_ := (Option.bind_some _ _).symm.trans H; with_reducible exact H2_) | with_reducible exact H | (rw [hy189]; exact H) | exact H
          have Ny189 := Aside0.mk hy189
          clear hy189
          by_cases c17 : x5_1.size + (strOfNums y189).size ≤ 9223372036854775807
          · rw [if_pos c17] at H
            have c17b0 := eq_true c17
            have c17b1 : decide (x5_1.size + (strOfNums y189).size ≤ 9223372036854775807) = true := decide_eq_true c17
            try have c17b2 : (9223372036854775807 < x5_1.size + (strOfNums y189).size) = False := eq_false (Nat.not_lt.2 c17)
            have H' := Aside0.mk H
            clear H
            go_wp2_with (first | ((with_reducible refine gate_callee (f := 106) rfl ?_); refine goesL_ (some 15) rfl rfl Try.func106 (by kernel_rfl) rfl #[.slice A0 l0.length c0, .int .i64 x6_1, .int .i64 128] rfl (by (try simp only [List.map_toArray, List.map_cons, List.map_nil]); first | done | rfl | (simp only [List.length_drop, List.length_take]; rfl)) ?_; (with_reducible refine (spec_l7Equal.calls k1 _ _ l0 x6_1 128 t182 _ ?side1 ?side2 A4.out).mono ?_); (case side1 => repeat (first | exact (Kd.C_below HR0.out HB.out) | (with_reducible refine Kd.C_alloc ?_ _) | (with_reducible refine Kd.C_drewN ?_ _) | (with_reducible refine Kd.C_drew ?_))); (case side2 => exact HC0.out); rintro e w' ⟨rfl, ⟨nd, rfl⟩⟩; refine ⟨_, rfl, ?_⟩) | ((with_reducible refine gate_callee (f := 107) rfl ?_); refine goesL_ (some 34) rfl rfl Try.func107 (by kernel_rfl) rfl #[.slice A0 l0.length c0, .int .i64 x6_1, .int .i64 128] rfl (by (try simp only [List.map_toArray, List.map_cons, List.map_nil]); first | done | rfl | (simp only [List.length_drop, List.length_take]; rfl)) ?_; (with_reducible refine (spec_l7Other.calls k1 _ _ l0 x6_1 128 t188 _ ?side1 ?side2 A16.out).mono ?_); (case side1 => repeat (first | exact (Kd.C_below HR0.out (by repeat (first | (with_reducible first | exact HB.out | apply below_alloc | apply pw_below_drewN | apply below_drew1) | exact HB.out))) | (with_reducible refine Kd.C_alloc ?_ _) | (with_reducible refine Kd.C_drewN ?_ _) | (with_reducible refine Kd.C_drew ?_))); (case side2 => exact HC0.out); rintro e w' ⟨rfl, ⟨nd, rfl⟩⟩; refine ⟨_, rfl, ?_⟩) | ((with_reducible refine gate_dst (N := 39) rfl ?_); refine Kd.R_lit (Kd.int .u8) _ 5 ?hg (N := 39) ?hd (xs := ([(wrap64 (t188 - 1)) % 256] : List Int)) (inner := [.int .u8 ((wrap64 (t188 - 1)) % 256)]) (ok := fun _ => True) (okp := fun _ => True) ?hr ?hp (fun _ hk => hk) trivial (Below.refl _ _) (Nat.le_refl _) (by simp) ?_; (case hd => rfl); (case hg => rfl); (case hr => first | (go_simp; done) | (go_simp; rfl)); (case hp => exact (Reps.one (show Kd.M (Kd.int .u8) _ _ _ ((wrap64 (t188 - 1)) % 256) [.int .u8 ((wrap64 (t188 - 1)) % 256)] from rfl) (Reps.none _ _))); intro v190 w18 ho19 hb hg_ hnew_; clear hg_ hnew_; (first | rw [← Ny189.out] at ho19 | (simp only [Int.reduceToNat] at ho19; rw [← Ny189.out] at ho19)); have n0_ := Aside0.mk (Kd.R_lower ho19 (below_size (by repeat (first | (with_reducible first | exact HB.out | apply below_alloc | apply pw_below_drewN | apply below_drew1) | exact HB.out)))); have n1_ := Aside0.mk (below_step (by repeat (first | (with_reducible first | exact HB.out | apply below_alloc | apply pw_below_drewN | apply below_drew1) | exact HB.out)) hb); clear HB; have HO191 := n0_; have HB := n1_; clear n0_ n1_; clear hb ho19; have hcv20 := own_string (P := Try.prog) Try.underlying22 Try.underlying5 Try.underlying9 (Kd.own_of_R HO191.out)))
            go_loopg [5, 8] k1 (fun kq v5 v8 w' => ∃ (x5_2 : ByteArray) (x8_2 : Int), v5 = .string x5_2 ∧ v8 = .int .i64 x8_2 ∧ Aside0 (spec_l7Run.l1 kq l0 a1 x5_2 x6_1 t188 x8_2 = some r) ∧ Aside0 (kq ≤ k1) ∧ Aside0 (Below w.heap.size w w'))
            case atStart => exact ⟨(x5_1 ++ (strOfNums y189)), (0), (by first | rfl | (simp; done) | (simp [*]; done)), (by first | rfl | (simp; done) | (simp [*]; done)), H', ⟨Nat.le_refl _⟩, ⟨by repeat (first | (with_reducible first | exact HB.out | apply below_alloc | apply pw_below_drewN | apply below_drew1) | exact HB.out)⟩⟩
            case round =>
              clear H'
              try clear c1
              try clear p1
              try clear q1
              try clear hx1
              try clear hcv1
              try clear p2
              try clear hcv2
              try clear c3
              try clear c3b0
              try clear c5
              try clear c5b0
              try clear c6
              try clear c6b0
              try clear c6b1
              try clear c6b2
              try clear p6
              try clear c7
              try clear c7b0
              try clear c8
              try clear c9
              try clear c9b0
              try clear c9b1
              try clear c9b2
              try clear c10
              try clear hcv13
              try clear hcv14
              try clear c17
              try clear c17b0
              try clear c17b1
              try clear c17b2
              try clear p18
              try clear q18
              try clear hx18
              try clear hcv20
              try clear hx186_0
              try clear p186
              try clear p2
              try clear q186
              obtain ⟨x5_2, x8_2, rfl, rfl, HA, HK2, HB⟩ := hrel
              cases gk with
              | zero => exact absurd HA.out (by simp [spec_l7Run.l1])
              | succ k2 =>
                have H := HA.out
                clear HA
                simp only [spec_l7Run.l1] at H
                by_cases c21 : x8_2 < t188
                · rw [if_pos c21] at H
                  have c21b0 : decide (x8_2 < t188) = true := decide_eq_true c21
                  clear c21
                  obtain ⟨ji22, hji22⟩ : ∃ j_ : Int, (wrap64 (x6_1 + x8_2)) = j_ := ⟨_, rfl⟩
                  replace H : (if 0 ≤ (ji22) then (if (ji22) < (l0.length : Int) then ((spec_l1Num.f k2 (rd l0 (ji22)) a1 false).bind fun t193 => (if x5_2.size + t193.size ≤ 9223372036854775807 then (spec_l7Run.l1 k2 l0 a1 (x5_2 ++ t193) x6_1 t188 (wrap64 (x8_2 + 1))) else (none))) else (none)) else (none)) = some r := by first | (rw [hji22] at H; exact H) | (simp only [hji22] at H ⊢; exact H)
                  have hji22w : (IntKind.i64.wrap (x6_1 + x8_2)) = ji22 := (i64_w _).trans hji22
                  by_cases c23 : 0 ≤ (ji22)
                  · rw [if_pos c23] at H
                    have c23b0 : decide (0 ≤ (ji22)) = true := decide_eq_true c23
                    clear c23
                    by_cases c24 : (ji22) < (l0.length : Int)
                    · rw [if_pos c24] at H
                      have c24b0 : decide ((ji22) < (l0.length : Int)) = true := decide_eq_true c24
                      clear c24
                      replace H := Option.bind_eq_some_iff.mp H
                      obtain ⟨t193, A250, H⟩ := H
                      replace H : (if x5_2.size + t193.size ≤ 9223372036854775807 then (spec_l7Run.l1 k2 l0 a1 (x5_2 ++ t193) x6_1 t188 (wrap64 (x8_2 + 1))) else (none)) = some r := H
                      have A25 := Aside0.mk A250
                      clear A250
                      by_cases c26 : x5_2.size + t193.size ≤ 9223372036854775807
                      · rw [if_pos c26] at H
                        have c26b0 := eq_true c26
                        have c26b1 : decide (x5_2.size + t193.size ≤ 9223372036854775807) = true := decide_eq_true c26
                        try have c26b2 : (9223372036854775807 < x5_2.size + t193.size) = False := eq_false (Nat.not_lt.2 c26)
                        have H' := Aside0.mk H
                        clear H
                        have p192 : 0 ≤ ((ji22) : Int) := of_decide_eq_true (by first | (with_reducible assumption) | assumption)
                        have q192 : (ji22) < (l0.length : Int) := of_decide_eq_true (by first | (with_reducible assumption) | assumption)
                        obtain ⟨ad192, e192, hx192_0⟩ := Kd.at_int HR0.out (ji22) p192 q192
                        cases e192
                        replace hx192_0 := (HB.out.cell (World.block_lt_of_cell? w _ hx192_0)).trans hx192_0
                        replace p192 := eq_true p192
                        replace q192 := eq_true q192
                        go_wp2_with (first | ((with_reducible refine gate_callee (f := 80) rfl ?_); refine goesL_ (some 55) rfl rfl Try.func80 (by kernel_rfl) rfl #[.int .i64 (rd l0 (ji22)), .int .i64 a1, .bool false] rfl (by (try simp only [List.map_toArray, List.map_cons, List.map_nil]); first | done | (simp only [hji22]; rfl) | rfl | (simp only [List.length_drop, List.length_take]; rfl)) ?_; (with_reducible refine (spec_l1Num.calls k2 (rd l0 (ji22)) a1 false t193 _ A25.out).mono ?_); rintro e w27 ⟨rfl, hb⟩; refine ⟨_, rfl, ?_⟩; have n0_ := Aside0.mk (below_step (by repeat (first | (with_reducible first | exact HB.out | apply below_alloc | apply pw_below_drewN | apply below_drew1) | exact HB.out)) hb); clear HB; have HB := n0_; clear n0_; (try clear hb); (try clear hb2); (try clear hk); (try clear hi)))
                        go_roundg k2
                        case measure => have := HK1.out; have := HK2.out; omega
                        case rel => exact ⟨(x5_2 ++ t193), (wrap64 (x8_2 + 1)), (by first | rfl | (simp; done) | (simp [*]; done)), (by first | rfl | (simp; done) | (simp [*]; done)), H', ⟨by have := HK1.out; have := HK2.out; omega⟩, ⟨by repeat (first | (with_reducible first | exact HB.out | apply below_alloc | apply pw_below_drewN | apply below_drew1) | exact HB.out)⟩⟩
                      · rw [if_neg c26] at H
                        exact absurd H (by simp)
                    · rw [if_neg c24] at H
                      exact absurd H (by simp)
                  · rw [if_neg c23] at H
                    exact absurd H (by simp)
                · rw [if_neg c21] at H
                  have c21b0 : decide (x8_2 < t188) = false := decide_eq_false c21
                  clear c21
                  have H' := Aside0.mk H
                  clear H
                  go_wp2
                  go_roundg k2
                  case measure => have := HK1.out; have := HK2.out; omega
                  case rel => exact ⟨(x5_2), (wrap64 (x6_1 + t188)), (by first | rfl | (simp; done) | (simp [*]; done)), (by first | rfl | (simp; done) | (simp [*]; done)), H', ⟨by have := HK1.out; have := HK2.out; omega⟩, ⟨by repeat (first | (with_reducible first | exact HB.out | apply below_alloc | apply pw_below_drewN | apply below_drew1) | exact HB.out)⟩⟩
          · rw [if_neg c17] at H
            exact absurd H (by simp)
      · rw [if_neg c3] at H
        have c3b0 : decide (x6_1 < (l0.length : Int)) = false := decide_eq_false c3
        clear c3
        obtain rfl := Option.some.inj H
        go_wp2
        go_ret
        exact ⟨by first | rfl | (simp [errW_none, errW_some] <;> rfl) | (simp [*, errW_none, errW_some] <;> rfl), by repeat (first | (with_reducible first | exact HB.out | apply below_alloc | apply pw_below_drewN | apply below_drew1) | exact HB.out)⟩

end Go.Proofs.Ytfladcffgblfdaa.PFnRunGet
