/- What the functions that the law comes to compute, as plain functions, and that the machine's calls come to just that: written by a program for this claim, and turned where Lean did not take it. No condition. -/
import Derived.Test.YtfladcffgblfdaaThRowZ
import Derived.Test.YtfladcffgblfdaaHFnRunGetx0
import Derived.Test.YtfladcffgblfdaaHFnRunGetx2
import Derived.Test.YtfladcffgblfdaaHFnRunGetx3
import Derived.Test.YtfladcffgblfdaaHFnRunGetx4
namespace Go.Proofs.Ytfladcffgblfdaa.PFnRunGet
open Go.RowKit Go.Proofs.YtfladcffgblfdaaW.PrintWords Go.Proofs.YtfladcffgblfdaaW.PrintLast Go.Proofs.YtfladcffgblfdaaW.PrintMore
attribute [local go_sem] max2_int min2_int max_two min_two max_three min_three max_four min_four   -- for this text's walks alone
set_option linter.unusedVariables false
set_option linter.unusedSimpArgs false

/-! ### spec_RunPut: function 49 -/
mutual
def spec_RunPut.j0 : Nat → List Int → Int → Bool → Option (ByteArray)
  | 0, _, _, _ => none
  | k + 1, x0, x1, x13 => if x13 = true then (some (⟨#[]⟩ : ByteArray)) else (spec_RunPut.l0 k x0 x1 0)
def spec_RunPut.l0 : Nat → List Int → Int → Int → Option (ByteArray)
  | 0, _, _, _ => none
  | k + 1, x0, x1, x5 => if x5 < (x0.length : Int) then (if 0 ≤ x5 then ((spec_l1Pow.f k (wrap64 (8 * x1))).bind fun t197 => ((spec_l1In.f (rd x0 x5) 0 (wrap64 (t197 - 1))).bind fun t198 => (if t198 = true then (spec_RunPut.l0 k x0 x1 (wrap64 (x5 + 1))) else (some (⟨#[]⟩ : ByteArray))))) else (none)) else ((spec_l7Run.f k x0 x1).bind fun t195 => (some t195))
end
def spec_RunPut.f (k : Nat) (l0 : List Int) (a1 : Int) : Option (ByteArray) := (spec_l1In.f a1 1 4).bind fun t194 => (if t194 = true then (spec_RunPut.j0 k l0 a1 (decide ((l0.length : Int) > 1000))) else (spec_RunPut.j0 k l0 a1 true))
theorem spec_RunPut.mono_l : ∀ k, (∀ y0 y1 y2, LeO (spec_RunPut.j0 k y0 y1 y2) (spec_RunPut.j0 (k + 1) y0 y1 y2)) ∧ (∀ y0 y1 y2, LeO (spec_RunPut.l0 k y0 y1 y2) (spec_RunPut.l0 (k + 1) y0 y1 y2))
  | 0 => ⟨fun _ _ _ r h => by simp [spec_RunPut.j0] at h, fun _ _ _ r h => by simp [spec_RunPut.l0] at h⟩
  | k + 1 => by
    obtain ⟨ih0, ih1⟩ := spec_RunPut.mono_l k
    refine ⟨?_, ?_⟩
    · intro y0 y1 y2
      unfold spec_RunPut.j0
      repeat' first
      | (with_reducible exact ih0 _ _ _)
      | (with_reducible exact ih1 _ _ _)
      | (with_reducible exact spec_l1Pow.mono _ _)
      | (with_reducible exact spec_l7Run.mono _ _ _)
      | (with_reducible exact LeO.refl _)
      | (with_reducible exact LeO.none _)
      | (with_reducible refine LeO.ite ?_ ?_)
      | (with_reducible refine LeO.bind ?_ (fun _ => ?_))
      | exact ih0 _ _ _
      | exact ih1 _ _ _
      | exact spec_l1Pow.mono _ _
      | exact spec_l7Run.mono _ _ _
      | exact LeO.none _
      | refine LeO.ite ?_ ?_
      | refine LeO.bind ?_ (fun _ => ?_)
    · intro y0 y1 y2
      unfold spec_RunPut.l0
      repeat' first
      | (with_reducible exact ih0 _ _ _)
      | (with_reducible exact ih1 _ _ _)
      | (with_reducible exact spec_l1Pow.mono _ _)
      | (with_reducible exact spec_l7Run.mono _ _ _)
      | (with_reducible exact LeO.refl _)
      | (with_reducible exact LeO.none _)
      | (with_reducible refine LeO.ite ?_ ?_)
      | (with_reducible refine LeO.bind ?_ (fun _ => ?_))
      | exact ih0 _ _ _
      | exact ih1 _ _ _
      | exact spec_l1Pow.mono _ _
      | exact spec_l7Run.mono _ _ _
      | exact LeO.none _
      | refine LeO.ite ?_ ?_
      | refine LeO.bind ?_ (fun _ => ?_)
theorem spec_RunPut.mono : ∀ a0 a1 k, LeO (spec_RunPut.f k a0 a1) (spec_RunPut.f (k + 1) a0 a1) := by
  intro a0 a1 k
  obtain ⟨ih0, ih1⟩ := spec_RunPut.mono_l k
  unfold spec_RunPut.f
  repeat' first
      | (with_reducible exact ih0 _ _ _)
      | (with_reducible exact ih1 _ _ _)
      | (with_reducible exact spec_l1Pow.mono _ _)
      | (with_reducible exact spec_l7Run.mono _ _ _)
      | (with_reducible exact LeO.refl _)
      | (with_reducible exact LeO.none _)
      | (with_reducible refine LeO.ite ?_ ?_)
      | (with_reducible refine LeO.bind ?_ (fun _ => ?_))
      | exact ih0 _ _ _
      | exact ih1 _ _ _
      | exact spec_l1Pow.mono _ _
      | exact spec_l7Run.mono _ _ _
      | exact LeO.none _
      | refine LeO.ite ?_ ?_
      | refine LeO.bind ?_ (fun _ => ?_)
set_option maxHeartbeats 8000000 in
set_option maxRecDepth 100000 in
theorem spec_RunPut.calls (k : Nat) (A0 : Option Addr) (c0 : Nat) (l0 : List Int) (a1 : Int) (r : ByteArray) (w : World) (hr0 : Kd.C (Kd.int .i64) w A0 l0.length l0) (hc0 : l0.length ≤ c0) (h : spec_RunPut.f k l0 a1 = some r) :
    Calls Try.prog 49 #[.slice A0 l0.length c0, .int .i64 a1] w fun e w' => e = .returned (.string r) ∧ Below w.heap.size w w' := by
  have HR0 := Aside0.mk hr0
  have HC0 := Aside0.mk hc0
  clear hr0 hc0
  have HB := Aside0.mk (Below.refl w.heap.size w)
  have H : ((spec_l1In.f a1 1 4).bind fun t194 => (if t194 = true then (spec_RunPut.j0 k l0 a1 (decide ((l0.length : Int) > 1000))) else (spec_RunPut.j0 k l0 a1 true))) = some r := h
  clear h
  have HC3 := Aside0.mk H
  clear H
  go_enter Try.func49, Try.ntmps49
  go_upto_region 1 with (fail)
  repeat (go_quiet (fail); go_upto_region 1 with (fail))
  go_cut [13] (fun v13 wc => ∃ (kq : Nat) (x13_2 : Bool), v13 = .bool x13_2 ∧ Aside0 (spec_RunPut.j0 kq l0 a1 x13_2 = some r) ∧ Aside0 (kq ≤ k) ∧ Aside0 (Below w.heap.size w wc))
  case first =>
    have H := HC3.out
    clear HC3
    replace H := Option.bind_eq_some_iff.mp H
    obtain ⟨t194, A40, H⟩ := H
    replace H : (if t194 = true then (spec_RunPut.j0 k l0 a1 (decide ((l0.length : Int) > 1000))) else (spec_RunPut.j0 k l0 a1 true)) = some r := H
    have A4 := Aside0.mk A40
    clear A40
    by_cases c5 : t194 = true
    · subst c5
      have H1 : (spec_RunPut.j0 k l0 a1 (decide ((l0.length : Int) > 1000))) = some r := by rw [if_pos rfl] at H; exact H
      clear H
      have H := H1
      clear H1
      have H' := Aside0.mk H
      clear H
      go_wp2_with (first | (go_at_call 71; (with_reducible refine (spec_l1In.calls a1 1 4 true _ A4.out).mono ?_); rintro e w' ⟨rfl, ⟨nd, rfl⟩⟩; (try first | exact ⟨rfl, _, World.drewN_drewN _ _ _⟩ | exact ⟨rfl, _, Eq.trans (World.drewN_drewN _ _ _) (congrArg (World.drewN _) (Nat.add_assoc _ _ _))⟩)))
      repeat (go_quiet (first | (go_at_call 71; (with_reducible refine (spec_l1In.calls a1 1 4 true _ A4.out).mono ?_); rintro e w' ⟨rfl, ⟨nd, rfl⟩⟩; (try first | exact ⟨rfl, _, World.drewN_drewN _ _ _⟩ | exact ⟨rfl, _, Eq.trans (World.drewN_drewN _ _ _) (congrArg (World.drewN _) (Nat.add_assoc _ _ _))⟩))); try go_wp2_with (first | (go_at_call 71; (with_reducible refine (spec_l1In.calls a1 1 4 true _ A4.out).mono ?_); rintro e w' ⟨rfl, ⟨nd, rfl⟩⟩; (try first | exact ⟨rfl, _, World.drewN_drewN _ _ _⟩ | exact ⟨rfl, _, Eq.trans (World.drewN_drewN _ _ _) (congrArg (World.drewN _) (Nat.add_assoc _ _ _))⟩))))
      go_meet
      case rel => exact ⟨_, (decide ((l0.length : Int) > 1000)), (by first | rfl | (simp; done) | (simp [*]; done)), H', ⟨by first | omega | exact Nat.le_refl _⟩, ⟨by repeat (first | (with_reducible first | exact HB.out | apply below_alloc | apply pw_below_drewN | apply below_drew1) | exact HB.out)⟩⟩
    · replace c5 := Bool.eq_false_iff.mpr c5
      subst c5
      have H1 : (spec_RunPut.j0 k l0 a1 true) = some r := by rw [if_neg (show ¬ (false = true) by decide)] at H; exact H
      clear H
      have H := H1
      clear H1
      have H' := Aside0.mk H
      clear H
      go_wp2_with (first | (go_at_call 71; (with_reducible refine (spec_l1In.calls a1 1 4 false _ A4.out).mono ?_); rintro e w' ⟨rfl, ⟨nd, rfl⟩⟩; (try first | exact ⟨rfl, _, World.drewN_drewN _ _ _⟩ | exact ⟨rfl, _, Eq.trans (World.drewN_drewN _ _ _) (congrArg (World.drewN _) (Nat.add_assoc _ _ _))⟩)))
      repeat (go_quiet (first | (go_at_call 71; (with_reducible refine (spec_l1In.calls a1 1 4 false _ A4.out).mono ?_); rintro e w' ⟨rfl, ⟨nd, rfl⟩⟩; (try first | exact ⟨rfl, _, World.drewN_drewN _ _ _⟩ | exact ⟨rfl, _, Eq.trans (World.drewN_drewN _ _ _) (congrArg (World.drewN _) (Nat.add_assoc _ _ _))⟩))); try go_wp2_with (first | (go_at_call 71; (with_reducible refine (spec_l1In.calls a1 1 4 false _ A4.out).mono ?_); rintro e w' ⟨rfl, ⟨nd, rfl⟩⟩; (try first | exact ⟨rfl, _, World.drewN_drewN _ _ _⟩ | exact ⟨rfl, _, Eq.trans (World.drewN_drewN _ _ _) (congrArg (World.drewN _) (Nat.add_assoc _ _ _))⟩))))
      go_meet
      case rel => exact ⟨_, (true), (by first | rfl | (simp; done) | (simp [*]; done)), H', ⟨by first | omega | exact Nat.le_refl _⟩, ⟨by repeat (first | (with_reducible first | exact HB.out | apply below_alloc | apply pw_below_drewN | apply below_drew1) | exact HB.out)⟩⟩
  case rest =>
    clear HC3
    try clear p2
    try clear c4
    try clear c5
    obtain ⟨kq, x13_2, rfl, HA, HJ2, HB⟩ := hcut
    cases kq with
    | zero => exact absurd HA.out (by simp [spec_RunPut.j0])
    | succ kj2 =>
      have H := HA.out
      clear HA
      simp only [spec_RunPut.j0] at H
      by_cases c6 : x13_2 = true
      · subst c6
        have H1 : (some (⟨#[]⟩ : ByteArray)) = some r := by rw [if_pos rfl] at H; exact H
        clear H
        have H := H1
        clear H1
        obtain rfl := Option.some.inj H
        go_wp2
        repeat (go_quiet (fail); try go_wp2)
        go_ret
        exact ⟨by first | rfl | (simp [errW_none, errW_some] <;> rfl) | (simp [*, errW_none, errW_some] <;> rfl), by repeat (first | (with_reducible first | exact HB.out | apply below_alloc | apply pw_below_drewN | apply below_drew1) | exact HB.out)⟩
      · replace c6 := Bool.eq_false_iff.mpr c6
        subst c6
        have H1 : (spec_RunPut.l0 kj2 l0 a1 0) = some r := by rw [if_neg (show ¬ (false = true) by decide)] at H; exact H
        clear H
        have H := H1
        clear H1
        have H' := Aside0.mk H
        clear H
        go_wp2
        repeat (go_quiet (fail); try go_wp2)
        go_loopg [5] kj2 (fun kq v5 w' => ∃ (x5_2 : Int), v5 = .int .i64 x5_2 ∧ Aside0 (spec_RunPut.l0 kq l0 a1 x5_2 = some r) ∧ Aside0 (kq ≤ kj2) ∧ Aside0 (Below w.heap.size w w'))
        case atStart => exact ⟨(0), (by first | rfl | (simp; done) | (simp [*]; done)), H', ⟨Nat.le_refl _⟩, ⟨by repeat (first | (with_reducible first | exact HB.out | apply below_alloc | apply pw_below_drewN | apply below_drew1) | exact HB.out)⟩⟩
        case round =>
          clear H'
          try clear p2
          try clear c4
          try clear c5
          try clear c6
          try clear p2
          obtain ⟨x5_2, rfl, HA, HK2, HB⟩ := hrel
          cases gk with
          | zero => exact absurd HA.out (by simp [spec_RunPut.l0])
          | succ k2 =>
            have H := HA.out
            clear HA
            simp only [spec_RunPut.l0] at H
            by_cases c7 : x5_2 < (l0.length : Int)
            · rw [if_pos c7] at H
              have c7b0 : decide (x5_2 < (l0.length : Int)) = true := decide_eq_true c7
              clear c7
              by_cases c8 : 0 ≤ x5_2
              · rw [if_pos c8] at H
                have c8b0 : decide (0 ≤ x5_2) = true := decide_eq_true c8
                clear c8
                replace H := Option.bind_eq_some_iff.mp H
                obtain ⟨t197, A90, H⟩ := H
                replace H : ((spec_l1In.f (rd l0 x5_2) 0 (wrap64 (t197 - 1))).bind fun t198 => (if t198 = true then (spec_RunPut.l0 k2 l0 a1 (wrap64 (x5_2 + 1))) else (some (⟨#[]⟩ : ByteArray)))) = some r := H
                have A9 := Aside0.mk A90
                clear A90
                replace H := Option.bind_eq_some_iff.mp H
                obtain ⟨t198, A100, H⟩ := H
                replace H : (if t198 = true then (spec_RunPut.l0 k2 l0 a1 (wrap64 (x5_2 + 1))) else (some (⟨#[]⟩ : ByteArray))) = some r := H
                have A10 := Aside0.mk A100
                clear A100
                by_cases c11 : t198 = true
                · subst c11
                  have H1 : (spec_RunPut.l0 k2 l0 a1 (wrap64 (x5_2 + 1))) = some r := by rw [if_pos rfl] at H; exact H
                  clear H
                  have H := H1
                  clear H1
                  have H' := Aside0.mk H
                  clear H
                  have p196 : 0 ≤ (x5_2 : Int) := of_decide_eq_true (by first | (with_reducible assumption) | assumption)
                  have q196 : x5_2 < (l0.length : Int) := of_decide_eq_true (by first | (with_reducible assumption) | assumption)
                  obtain ⟨ad196, e196, hx196_0⟩ := Kd.at_int HR0.out x5_2 p196 q196
                  cases e196
                  replace hx196_0 := (HB.out.cell (World.block_lt_of_cell? w _ hx196_0)).trans hx196_0
                  replace p196 := eq_true p196
                  replace q196 := eq_true q196
                  go_wp2_with (first | (go_at_call 78; (with_reducible refine (spec_l1Pow.calls k2 (wrap64 (8 * a1)) t197 _ A9.out).mono ?_); rintro e w' ⟨rfl, ⟨nd, rfl⟩⟩; (try first | exact ⟨rfl, _, World.drewN_drewN _ _ _⟩ | exact ⟨rfl, _, Eq.trans (World.drewN_drewN _ _ _) (congrArg (World.drewN _) (Nat.add_assoc _ _ _))⟩)) | (go_at_call 71; (with_reducible refine (spec_l1In.calls (rd l0 x5_2) 0 (wrap64 (t197 - 1)) true _ A10.out).mono ?_); rintro e w' ⟨rfl, ⟨nd, rfl⟩⟩; (try first | exact ⟨rfl, _, World.drewN_drewN _ _ _⟩ | exact ⟨rfl, _, Eq.trans (World.drewN_drewN _ _ _) (congrArg (World.drewN _) (Nat.add_assoc _ _ _))⟩)))
                  repeat (go_quiet (first | (go_at_call 78; (with_reducible refine (spec_l1Pow.calls k2 (wrap64 (8 * a1)) t197 _ A9.out).mono ?_); rintro e w' ⟨rfl, ⟨nd, rfl⟩⟩; (try first | exact ⟨rfl, _, World.drewN_drewN _ _ _⟩ | exact ⟨rfl, _, Eq.trans (World.drewN_drewN _ _ _) (congrArg (World.drewN _) (Nat.add_assoc _ _ _))⟩)) | (go_at_call 71; (with_reducible refine (spec_l1In.calls (rd l0 x5_2) 0 (wrap64 (t197 - 1)) true _ A10.out).mono ?_); rintro e w' ⟨rfl, ⟨nd, rfl⟩⟩; (try first | exact ⟨rfl, _, World.drewN_drewN _ _ _⟩ | exact ⟨rfl, _, Eq.trans (World.drewN_drewN _ _ _) (congrArg (World.drewN _) (Nat.add_assoc _ _ _))⟩))); try go_wp2_with (first | (go_at_call 78; (with_reducible refine (spec_l1Pow.calls k2 (wrap64 (8 * a1)) t197 _ A9.out).mono ?_); rintro e w' ⟨rfl, ⟨nd, rfl⟩⟩; (try first | exact ⟨rfl, _, World.drewN_drewN _ _ _⟩ | exact ⟨rfl, _, Eq.trans (World.drewN_drewN _ _ _) (congrArg (World.drewN _) (Nat.add_assoc _ _ _))⟩)) | (go_at_call 71; (with_reducible refine (spec_l1In.calls (rd l0 x5_2) 0 (wrap64 (t197 - 1)) true _ A10.out).mono ?_); rintro e w' ⟨rfl, ⟨nd, rfl⟩⟩; (try first | exact ⟨rfl, _, World.drewN_drewN _ _ _⟩ | exact ⟨rfl, _, Eq.trans (World.drewN_drewN _ _ _) (congrArg (World.drewN _) (Nat.add_assoc _ _ _))⟩))))
                  go_roundg k2
                  case measure => have := HJ2.out; have := HK2.out; omega
                  case rel => exact ⟨(wrap64 (x5_2 + 1)), (by first | rfl | (simp; done) | (simp [*]; done)), H', ⟨by have := HJ2.out; have := HK2.out; omega⟩, ⟨by repeat (first | (with_reducible first | exact HB.out | apply below_alloc | apply pw_below_drewN | apply below_drew1) | exact HB.out)⟩⟩
                · replace c11 := Bool.eq_false_iff.mpr c11
                  subst c11
                  have H1 : (some (⟨#[]⟩ : ByteArray)) = some r := by rw [if_neg (show ¬ (false = true) by decide)] at H; exact H
                  clear H
                  have H := H1
                  clear H1
                  obtain rfl := Option.some.inj H
                  have p196 : 0 ≤ (x5_2 : Int) := of_decide_eq_true (by first | (with_reducible assumption) | assumption)
                  have q196 : x5_2 < (l0.length : Int) := of_decide_eq_true (by first | (with_reducible assumption) | assumption)
                  obtain ⟨ad196, e196, hx196_0⟩ := Kd.at_int HR0.out x5_2 p196 q196
                  cases e196
                  replace hx196_0 := (HB.out.cell (World.block_lt_of_cell? w _ hx196_0)).trans hx196_0
                  replace p196 := eq_true p196
                  replace q196 := eq_true q196
                  go_wp2_with (first | (go_at_call 78; (with_reducible refine (spec_l1Pow.calls k2 (wrap64 (8 * a1)) t197 _ A9.out).mono ?_); rintro e w' ⟨rfl, ⟨nd, rfl⟩⟩; (try first | exact ⟨rfl, _, World.drewN_drewN _ _ _⟩ | exact ⟨rfl, _, Eq.trans (World.drewN_drewN _ _ _) (congrArg (World.drewN _) (Nat.add_assoc _ _ _))⟩)) | (go_at_call 71; (with_reducible refine (spec_l1In.calls (rd l0 x5_2) 0 (wrap64 (t197 - 1)) false _ A10.out).mono ?_); rintro e w' ⟨rfl, ⟨nd, rfl⟩⟩; (try first | exact ⟨rfl, _, World.drewN_drewN _ _ _⟩ | exact ⟨rfl, _, Eq.trans (World.drewN_drewN _ _ _) (congrArg (World.drewN _) (Nat.add_assoc _ _ _))⟩)))
                  repeat (go_quiet (first | (go_at_call 78; (with_reducible refine (spec_l1Pow.calls k2 (wrap64 (8 * a1)) t197 _ A9.out).mono ?_); rintro e w' ⟨rfl, ⟨nd, rfl⟩⟩; (try first | exact ⟨rfl, _, World.drewN_drewN _ _ _⟩ | exact ⟨rfl, _, Eq.trans (World.drewN_drewN _ _ _) (congrArg (World.drewN _) (Nat.add_assoc _ _ _))⟩)) | (go_at_call 71; (with_reducible refine (spec_l1In.calls (rd l0 x5_2) 0 (wrap64 (t197 - 1)) false _ A10.out).mono ?_); rintro e w' ⟨rfl, ⟨nd, rfl⟩⟩; (try first | exact ⟨rfl, _, World.drewN_drewN _ _ _⟩ | exact ⟨rfl, _, Eq.trans (World.drewN_drewN _ _ _) (congrArg (World.drewN _) (Nat.add_assoc _ _ _))⟩))); try go_wp2_with (first | (go_at_call 78; (with_reducible refine (spec_l1Pow.calls k2 (wrap64 (8 * a1)) t197 _ A9.out).mono ?_); rintro e w' ⟨rfl, ⟨nd, rfl⟩⟩; (try first | exact ⟨rfl, _, World.drewN_drewN _ _ _⟩ | exact ⟨rfl, _, Eq.trans (World.drewN_drewN _ _ _) (congrArg (World.drewN _) (Nat.add_assoc _ _ _))⟩)) | (go_at_call 71; (with_reducible refine (spec_l1In.calls (rd l0 x5_2) 0 (wrap64 (t197 - 1)) false _ A10.out).mono ?_); rintro e w' ⟨rfl, ⟨nd, rfl⟩⟩; (try first | exact ⟨rfl, _, World.drewN_drewN _ _ _⟩ | exact ⟨rfl, _, Eq.trans (World.drewN_drewN _ _ _) (congrArg (World.drewN _) (Nat.add_assoc _ _ _))⟩))))
                  go_ret
                  exact ⟨by first | rfl | (simp [errW_none, errW_some] <;> rfl) | (simp [*, errW_none, errW_some] <;> rfl), by repeat (first | (with_reducible first | exact HB.out | apply below_alloc | apply pw_below_drewN | apply below_drew1) | exact HB.out)⟩
              · rw [if_neg c8] at H
                exact absurd H (by simp)
            · rw [if_neg c7] at H
              have c7b0 : decide (x5_2 < (l0.length : Int)) = false := decide_eq_false c7
              clear c7
              replace H := Option.bind_eq_some_iff.mp H
              obtain ⟨t195, A120, H⟩ := H
              replace H : (some t195) = some r := H
              have A12 := Aside0.mk A120
              clear A120
              obtain rfl := Option.some.inj H
              go_wp2_with (first | (go_at_call 92; (with_reducible refine (spec_l7Run.calls k2 _ _ l0 a1 t195 _ ?side1 ?side2 A12.out).mono ?_); (case side1 => repeat (first | exact (Kd.C_below HR0.out HB.out) | (with_reducible refine Kd.C_alloc ?_ _) | (with_reducible refine Kd.C_drewN ?_ _) | (with_reducible refine Kd.C_drew ?_))); (case side2 => exact HC0.out); rintro e w13 ⟨rfl, hb⟩; have n0_ := Aside0.mk (below_step (by repeat (first | (with_reducible first | exact HB.out | apply below_alloc | apply pw_below_drewN | apply below_drew1) | exact HB.out)) hb); clear HB; have HB := n0_; clear n0_; (try clear hb); (try clear hb2); (try clear hk); (try clear hi)))
              repeat (go_quiet (first | (go_at_call 92; (with_reducible refine (spec_l7Run.calls k2 _ _ l0 a1 t195 _ ?side1 ?side2 A12.out).mono ?_); (case side1 => repeat (first | exact (Kd.C_below HR0.out HB.out) | (with_reducible refine Kd.C_alloc ?_ _) | (with_reducible refine Kd.C_drewN ?_ _) | (with_reducible refine Kd.C_drew ?_))); (case side2 => exact HC0.out); rintro e w13 ⟨rfl, hb⟩; have n0_ := Aside0.mk (below_step (by repeat (first | (with_reducible first | exact HB.out | apply below_alloc | apply pw_below_drewN | apply below_drew1) | exact HB.out)) hb); clear HB; have HB := n0_; clear n0_; (try clear hb); (try clear hb2); (try clear hk); (try clear hi))); try go_wp2_with (first | (go_at_call 92; (with_reducible refine (spec_l7Run.calls k2 _ _ l0 a1 t195 _ ?side1 ?side2 A12.out).mono ?_); (case side1 => repeat (first | exact (Kd.C_below HR0.out HB.out) | (with_reducible refine Kd.C_alloc ?_ _) | (with_reducible refine Kd.C_drewN ?_ _) | (with_reducible refine Kd.C_drew ?_))); (case side2 => exact HC0.out); rintro e w13 ⟨rfl, hb⟩; have n0_ := Aside0.mk (below_step (by repeat (first | (with_reducible first | exact HB.out | apply below_alloc | apply pw_below_drewN | apply below_drew1) | exact HB.out)) hb); clear HB; have HB := n0_; clear n0_; (try clear hb); (try clear hb2); (try clear hk); (try clear hi))))
              go_ret
              exact ⟨by first | rfl | (simp [errW_none, errW_some] <;> rfl) | (simp [*, errW_none, errW_some] <;> rfl), by repeat (first | (with_reducible first | exact HB.out | apply below_alloc | apply pw_below_drewN | apply below_drew1) | exact HB.out)⟩

/-! ### spec_l14Bend: function 88 -/
def spec_l14Bend.f (k : Nat) (s0_0 : List Int) (s0_1 : Int) (a1 : ByteArray) : Option (ByteArray × Int) := if a1.toList = ([] : List UInt8) then (some (a1, s0_1)) else (if a1.size ≤ 9223372036854775807 then ((some (bytesOf a1 : List Int)).bind fun y199 => ((spec_l1Rd_pick.f k s0_0 s0_1 (y199.length : Int)).bind fun bt202 => (if 0 ≤ bt202.1 then (if bt202.1 < (y199.length : Int) then ((spec_l1Rd_pick.f k s0_0 bt202.2 255).bind fun bt205 => (some (strOfNums (y199.set (bt202.1 : Int).toNat (Go.bits .xor .u8 (rd y199 bt202.1) ((wrap64 (1 + bt205.1)) % 256))), bt205.2))) else (none)) else (none)))) else (none))
theorem spec_l14Bend.mono : ∀ a0 a1 a2 k, LeO (spec_l14Bend.f k a0 a1 a2) (spec_l14Bend.f (k + 1) a0 a1 a2) := by
  intro a0 a1 a2 k
  unfold spec_l14Bend.f
  repeat' first
      | (with_reducible exact spec_l1Rd_pick.mono _ _ _ _)
      | (with_reducible exact LeO.refl _)
      | (with_reducible exact LeO.none _)
      | (with_reducible refine LeO.ite ?_ ?_)
      | (with_reducible refine LeO.bind ?_ (fun _ => ?_))
      | exact spec_l1Rd_pick.mono _ _ _ _
      | exact LeO.none _
      | refine LeO.ite ?_ ?_
      | refine LeO.bind ?_ (fun _ => ?_)
def spec_l14Bend.T5 : Bool × List (List Nat × List Nat) := (true, [([], []), ([], []), ([], []), ([], []), ([2, 3], [2, 3]), ([4], [4]), ([], []), ([6], [6]), ([7], [7]), ([8], [8]), ([5, 9], [5, 9]), ([0, 1, 0, 1, 2, 3, 4, 5, 6, 7, 8, 9, 10], [0, 1]), ([11, 10, 7, 0, 1, 2, 3, 4, 5, 6, 7, 8, 9, 10], [10, 11])])
def spec_l14Bend.B5 : List Nat := [0, 0, 0, 0, 12, 28, 0, 64, 192, 448, 1020, 2047, 4095]
theorem spec_l14Bend.tab5 : rtab .any (opsOf Try.f88 5) = spec_l14Bend.T5 := by kernel_rfl
theorem spec_l14Bend.bits5 : waitsOk spec_l14Bend.T5.2 spec_l14Bend.B5 = true := by kernel_rfl
set_option maxHeartbeats 8000000 in
set_option maxRecDepth 100000 in
theorem spec_l14Bend.calls (k : Nat) (g : Nat) (s0_0 : List Int) (s0_1 : Int) (a1 : ByteArray) (r1 : ByteArray) (r2 : Int) (w0 w : World) (hI : IsS93 w0 w g s0_0 s0_1) (hB : Below w0.heap.size w0 w) (h : spec_l14Bend.f k s0_0 s0_1 a1 = some (r1, r2)) :
    Calls Try.prog 88 #[.pointer (some ⟨g, 0, none⟩), .string a1] w fun e w' => e = .returned (.string r1) ∧ IsS93 w0 w' g s0_0 r2 ∧ Below w0.heap.size w0 w' ∧ KeepBut w w' g none := by
  have HI0 := Aside0.mk hI
  have HK := Aside0.mk (KeepBut.refl w g none)
  have HL := Aside0.mk hB.size
  clear hI
  have HW0 := Aside0.mk hB.size
  have HB := Aside0.mk hB
  clear hB
  have H : (if a1.toList = ([] : List UInt8) then (some (a1, s0_1)) else (if a1.size ≤ 9223372036854775807 then ((some (bytesOf a1 : List Int)).bind fun y199 => ((spec_l1Rd_pick.f k s0_0 s0_1 (y199.length : Int)).bind fun bt202 => (if 0 ≤ bt202.1 then (if bt202.1 < (y199.length : Int) then ((spec_l1Rd_pick.f k s0_0 bt202.2 255).bind fun bt205 => (some (strOfNums (y199.set (bt202.1 : Int).toNat (Go.bits .xor .u8 (rd y199 bt202.1) ((wrap64 (1 + bt205.1)) % 256))), bt205.2))) else (none)) else (none)))) else (none))) = some (r1, r2) := h
  clear h
  by_cases c3 : a1.toList = ([] : List UInt8)
  · rw [if_pos c3] at H
    have c3b0 : (a1.toList == ([] : List UInt8)) = true := beq_iff_eq.mpr c3
    have c3b1 : (a1.toList != ([] : List UInt8)) = false := bne_eq_false_iff_eq.mpr c3
    clear c3
    simp only [Option.some.injEq, Prod.mk.injEq] at H
    obtain ⟨rfl, rfl⟩ := H
    go_enter Try.func88, Try.ntmps88
    go_wp2
    go_ret
    exact ⟨by first | rfl | (simp [errW_none, errW_some] <;> rfl) | (simp [*, errW_none, errW_some] <;> rfl), by repeat (first | (with_reducible first | exact HI0.out | apply IsS93.alloc | apply IsS93.drewN | apply IsS93.drew | apply IsS93.set_1) | exact HI0.out), by repeat (first | (with_reducible first | exact HB.out | apply below_alloc | apply pw_below_drewN | apply below_drew1 | refine below_set ?_ (IsS93.ge HI0.out)) | exact HB.out), by repeat (first | (with_reducible first | exact HK.out | apply KeepBut.set_ | apply keep_drewN | apply keep_drew | apply keep_alloc) | exact HK.out)⟩
  · rw [if_neg c3] at H
    have c3b0 : (a1.toList == ([] : List UInt8)) = false := beq_eq_false_iff_ne.mpr c3
    have c3b1 : (a1.toList != ([] : List UInt8)) = true := bne_iff_ne.mpr c3
    by_cases c4 : a1.size ≤ 9223372036854775807
    · rw [if_pos c4] at H
      have c4b0 := eq_true c4
      have c4b1 : decide (a1.size ≤ 9223372036854775807) = true := decide_eq_true c4
      try have c4b2 : (9223372036854775807 < a1.size) = False := eq_false (Nat.not_lt.2 c4)
      clear c4
      obtain ⟨y199, hy199⟩ : ∃ y_ : List Int, y_ = (bytesOf a1) := ⟨_, rfl⟩
      replace H : ((spec_l1Rd_pick.f k s0_0 s0_1 (y199.length : Int)).bind fun bt202 => (if 0 ≤ bt202.1 then (if bt202.1 < (y199.length : Int) then ((spec_l1Rd_pick.f k s0_0 bt202.2 255).bind fun bt205 => (some (strOfNums (y199.set (bt202.1 : Int).toNat (Go.bits .xor .u8 (rd y199 bt202.1) ((wrap64 (1 + bt205.1)) % 256))), bt205.2))) else (none)) else (none))) = some (r1, r2) := by first | (rw [hy199]; with_reducible exact H) | (have H2_ := (Option.bind_some _ _).symm.trans H; rw [hy199]; with_reducible exact H2_) | (have H2_ := (Option.bind_some _ _).symm.trans H; with_reducible exact H2_) | with_reducible exact H | (rw [hy199]; exact H) | exact H
      have Ny199 := Aside0.mk hy199
      clear hy199
      replace H := Option.bind_eq_some_iff.mp H
      obtain ⟨⟨t202, t203⟩, A60, H⟩ := H
      replace H : (if 0 ≤ t202 then (if t202 < (y199.length : Int) then ((spec_l1Rd_pick.f k s0_0 t203 255).bind fun bt205 => (some (strOfNums (y199.set (t202 : Int).toNat (Go.bits .xor .u8 (rd y199 t202) ((wrap64 (1 + bt205.1)) % 256))), bt205.2))) else (none)) else (none)) = some (r1, r2) := H
      have A6 := Aside0.mk A60
      clear A60
      by_cases c7 : 0 ≤ t202
      · rw [if_pos c7] at H
        have c7b0 : decide (0 ≤ t202) = true := decide_eq_true c7
        clear c7
        by_cases c8 : t202 < (y199.length : Int)
        · rw [if_pos c8] at H
          have c8b0 : decide (t202 < (y199.length : Int)) = true := decide_eq_true c8
          clear c8
          replace H := Option.bind_eq_some_iff.mp H
          obtain ⟨⟨t205, t206⟩, A90, H⟩ := H
          replace H : (some (strOfNums (y199.set (t202 : Int).toNat (Go.bits .xor .u8 (rd y199 t202) ((wrap64 (1 + t205)) % 256))), t206)) = some (r1, r2) := H
          have A9 := Aside0.mk A90
          clear A90
          obtain ⟨y207, hy207⟩ : ∃ y_ : List Int, y_ = (y199.set (t202 : Int).toNat (Go.bits .xor .u8 (rd y199 t202) ((wrap64 (1 + t205)) % 256))) := ⟨_, rfl⟩
          replace H : (some (strOfNums y207, t206)) = some (r1, r2) := by first | (rw [hy207]; with_reducible exact H) | (have H2_ := (Option.bind_some _ _).symm.trans H; rw [hy207]; with_reducible exact H2_) | (have H2_ := (Option.bind_some _ _).symm.trans H; with_reducible exact H2_) | with_reducible exact H | (rw [hy207]; exact H) | exact H
          have Ny207 := Aside0.mk hy207
          clear hy207
          simp only [Option.some.injEq, Prod.mk.injEq] at H
          obtain ⟨rfl, rfl⟩ := H
          go_enter Try.func88, Try.ntmps88
          try go_wp2_with (first | ((with_reducible refine gate_dst (N := 11) rfl ?_); refine Go.Proofs.Ytfladcffgblfdaa.Th.convZ_event ?hg (N := 11) ?hd (s := a1) (e := 5) ?hr (of_decide_eq_true c4b1) ?_; (case hd => rfl); (case hg => rfl); (case hr => first | (have kbCV := fun W => print_bytes (P := Try.prog) 9 22 5 Try.underlying9 Try.underlying22 Try.underlying5 a1 W; go_simp; done) | (have kbCV := fun W => print_bytes (P := Try.prog) 9 22 5 Try.underlying9 Try.underlying22 Try.underlying5 a1 W; go_simp; rfl)); intro v200 w11 ho12 hb; rw [← Ny199.out] at ho12; have n0_ := Aside0.mk (Go.Proofs.Ytfladcffgblfdaa.Th.RZ.lower ho12 (keep_size (w := w) (g := g) (row := none) (by repeat (first | (with_reducible first | exact HK.out | apply KeepBut.set_ | apply keep_drewN | apply keep_drew | apply keep_alloc) | exact HK.out)))); have n1_ := Aside0.mk (IsS93.below (by repeat (first | (with_reducible first | exact HI0.out | apply IsS93.alloc | apply IsS93.drewN | apply IsS93.drew | apply IsS93.set_1) | exact HI0.out)) hb); have n2_ := Aside0.mk (KeepBut.trans (by repeat (first | (with_reducible first | exact HK.out | apply KeepBut.set_ | apply keep_drewN | apply keep_drew | apply keep_alloc) | exact HK.out)) (KeepBut.of_below hb g none) (.inl rfl)); have n3_ := Aside0.mk (below_step (by repeat (first | (with_reducible first | exact HB.out | apply below_alloc | apply pw_below_drewN | apply below_drew1 | refine below_set ?_ (IsS93.ge HI0.out)) | exact HB.out)) hb); clear HI0; clear HK; clear HB; have HO201 := n0_; have HI0 := n1_; have HK := n2_; have HB := n3_; clear n0_ n1_ n2_ n3_; clear hb ho12; obtain ⟨Ao13, co13, eo13⟩ := Go.Proofs.Ytfladcffgblfdaa.Th.RZ.slice HO201.out; subst eo13) | ((with_reducible refine gate_callee (f := 69) rfl ?_); refine goesL_ (some 15) rfl rfl Try.func69 (by kernel_rfl) rfl #[.pointer (some ⟨g, 0, none⟩), .int .i64 (y199.length : Int)] rfl (by (try simp only [List.map_toArray, List.map_cons, List.map_nil]); first | done | rfl | (simp only [List.length_drop, List.length_take]; rfl)) ?_; (with_reducible refine (spec_l1Rd_pick.calls k g s0_0 s0_1 (y199.length : Int) t202 t203 w0 _ ?side1 ?side2 A6.out).mono ?_); (case side1 => repeat (first | (with_reducible first | exact HI0.out | apply IsS93.alloc | apply IsS93.drewN | apply IsS93.drew | apply IsS93.set_1) | exact HI0.out)); (case side2 => repeat (first | (with_reducible first | exact HB.out | apply below_alloc | apply pw_below_drewN | apply below_drew1 | refine below_set ?_ (IsS93.ge HI0.out)) | exact HB.out)); rintro e w14 ⟨rfl, hi, hb, hk⟩; refine ⟨_, rfl, ?_⟩; have n0_ := Aside0.mk (Go.Proofs.Ytfladcffgblfdaa.Th.RZ.keep (by repeat (first | exact HO201.out | apply Go.Proofs.Ytfladcffgblfdaa.Th.RZ.drewN | apply Go.Proofs.Ytfladcffgblfdaa.Th.RZ.drew)) (Go.Proofs.Ytfladcffgblfdaa.Th.RZ.ne HO201.out (by obtain ⟨_, _, h_, _⟩ := HI0.out; exact ⟨_, _, _, h_, by decide⟩)) hk); have n1_ := Aside0.mk (KeepBut.trans (by repeat (first | (with_reducible first | exact HK.out | apply KeepBut.set_ | apply keep_drewN | apply keep_drew | apply keep_alloc) | exact HK.out)) hk (.inl rfl)); have n2_ := Aside0.mk (hb); have n3_ := Aside0.mk (hi); clear HO201; clear HK; clear HB; clear HI0; have HO201 := n0_; have HK := n1_; have HB := n2_; have HI0 := n3_; clear n0_ n1_ n2_ n3_; (try clear hb); (try clear hb2); (try clear hk); (try clear hi)))
          have n0_ := Aside0.mk (Go.Proofs.Ytfladcffgblfdaa.Th.RZ.drew HO201.out)
          have n1_ := Aside0.mk (IsS93.drew HI0.out)
          have n2_ := Aside0.mk (keep_drew HK.out)
          have n3_ := Aside0.mk (below_drew1 HB.out)
          clear HO201
          clear HI0
          clear HK
          clear HB
          have HO201 := n0_
          have HI0 := n1_
          have HK := n2_
          have HB := n3_
          clear n0_ n1_ n2_ n3_
          have p204 : 0 ≤ (t202 : Int) := of_decide_eq_true (by first | (with_reducible assumption) | assumption)
          have q204 : t202 < (y199.length : Int) := of_decide_eq_true (by first | (with_reducible assumption) | assumption)
          obtain ⟨ad204, e204, hx204_0⟩ := Kd.at_int (Go.Proofs.Ytfladcffgblfdaa.Th.RZ.C HO201.out) t202 p204 q204
          cases e204
          replace p204 := eq_true p204
          replace q204 := eq_true q204
          refine start_ (n := 13) (S := fun w' => w'.cell? (ad204.add (t202).toNat) = some (.int .u8 (rd y199 t202))) (ds := [12]) #[false, false, false, false, false, false, false, false, false, false, false, false, false] (by kernel_rfl) rfl rfl (hx204_0) (fun hHeld => ?_); refine with_tabW spec_l14Bend.tab5 spec_l14Bend.bits5 (fun HT_ HW_ => ?_)
          generalize w14.drew = w15 at HO201 HI0 HK HB hx204_0 hHeld ⊢
          refine pure_ (i := 0) (N := some 16) (v := ?_) (a' := ?_) #[true, false, false, false, false, false, false, false, false, false, false, false, false] rfl rfl (any_of HT_.out (by kernel_rfl)) (fun _ _ _ h => h) (Or.inl ⟨by rfl, ?_⟩) ?_ ?_
          rotate_left
          · intro w'
            go_simp
            with_reducible rfl
          rotate_left
          · simp only [Act.put, List.setIfInBounds_toArray, List.set_cons_zero, List.set_cons_succ, i64_w, i32_w]
            rfl
          refine pure_ (i := 1) (N := some 17) (v := ?_) (a' := ?_) #[true, true, false, false, false, false, false, false, false, false, false, false, false] rfl rfl (any_of HT_.out (by kernel_rfl)) (fun _ _ _ h => h) (Or.inl ⟨by rfl, ?_⟩) ?_ ?_
          rotate_left
          · intro w'
            go_simp
            with_reducible rfl
          rotate_left
          · simp only [Act.put, List.setIfInBounds_toArray, List.set_cons_zero, List.set_cons_succ, i64_w, i32_w]
            rfl
          refine pure_ (i := 2) (N := some 18) (v := ?_) (a' := ?_) #[true, true, true, false, false, false, false, false, false, false, false, false, false] rfl rfl (any_of HT_.out (by kernel_rfl)) (fun _ _ _ h => h) (Or.inl ⟨by rfl, ?_⟩) ?_ ?_
          rotate_left
          · intro w'
            go_simp
            with_reducible rfl
          rotate_left
          · simp only [Act.put, List.setIfInBounds_toArray, List.set_cons_zero, List.set_cons_succ, i64_w, i32_w]
            rfl
          refine pure_ (i := 3) (N := some 19) (v := ?_) (a' := ?_) #[true, true, true, true, false, false, false, false, false, false, false, false, false] rfl rfl (any_of HT_.out (by kernel_rfl)) (fun _ _ _ h => h) (Or.inl ⟨by rfl, ?_⟩) ?_ ?_
          rotate_left
          · intro w'
            go_simp
            with_reducible rfl
          rotate_left
          · simp only [Act.put, List.setIfInBounds_toArray, List.set_cons_zero, List.set_cons_succ, i64_w, i32_w]
            rfl
          refine pure_ (i := 4) (N := some 20) (v := ?_) (a' := ?_) #[true, true, true, true, true, false, false, false, false, false, false, false, false] rfl rfl (any_of HT_.out (by kernel_rfl)) (fun _ _ _ h => h) (Or.inl ⟨by rfl, ?_⟩) ?_ ?_
          rotate_left
          · intro w'
            go_simp
            with_reducible rfl
          rotate_left
          · simp only [Act.put, List.setIfInBounds_toArray, List.set_cons_zero, List.set_cons_succ, i64_w, i32_w]
            rfl
          refine pure_ (i := 6) (N := some 22) (v := ?_) (a' := ?_) #[true, true, true, true, true, false, true, false, false, false, false, false, false] rfl rfl (any_of HT_.out (by kernel_rfl)) (fun _ _ _ h => h) (Or.inl ⟨by rfl, ?_⟩) ?_ ?_
          rotate_left
          · intro w'
            go_simp
            with_reducible rfl
          rotate_left
          · simp only [Act.put, List.setIfInBounds_toArray, List.set_cons_zero, List.set_cons_succ, i64_w, i32_w]
            rfl
          refine take_ (i := 5) (N := some 21) (v := ?_) (a' := ?_) #[true, true, true, true, true, true, true, false, false, false, false, false, false] rfl rfl (take_ofW HT_.out HW_.out (by kernel_rfl)) (fun _ _ _ h => h) (Or.inl ⟨by rfl, ?_⟩) hHeld ?_ ?_
          rotate_left
          · intro w' s0
            go_simp
            with_reducible rfl
          rotate_left
          · simp only [Act.put, List.setIfInBounds_toArray, List.set_cons_zero, List.set_cons_succ, i64_w, i32_w]
            rfl
          refine one_ (i := 7) (N := some 23) #[true, true, true, true, true, true, true, true, false, false, false, false, false] rfl rfl (one_of HT_.out (by kernel_rfl)) (by decide) (fun K hK => ?_)
          refine goes_ Try.func69 (by kernel_rfl) rfl #[.pointer (some ⟨g, 0, none⟩), .int .i64 255] (by rfl) rfl rfl (by (try simp only [List.map_toArray, List.map_cons, List.map_nil]); first | done | rfl | (simp only [List.length_drop, List.length_take]; rfl)) ?_
          with_reducible refine (spec_l1Rd_pick.calls k g s0_0 t203 255 t205 t206 w0 _ ?side1 ?side2 A9.out).mono ?_
          (case side1 => repeat (first | (with_reducible first | exact HI0.out | apply IsS93.alloc | apply IsS93.drewN | apply IsS93.drew | apply IsS93.set_1) | exact HI0.out))
          (case side2 => repeat (first | (with_reducible first | exact HB.out | apply below_alloc | apply pw_below_drewN | apply below_drew1 | refine below_set ?_ (IsS93.ge HI0.out)) | exact HB.out))
          rintro e w16 ⟨rfl, hi, hb, hk⟩
          have HS0_ := keep_cell hk (hHeld) (by first | (rw [add_block]; exact Kd.own_blk (Go.Proofs.Ytfladcffgblfdaa.Th.RZ.ne HO201.out (by obtain ⟨_, _, h_, _⟩ := HI0.out; exact ⟨_, _, _, h_, by decide⟩))) | (show (Addr.add _ _).block ≠ _; rw [add_block]; exact Kd.own_blk (Go.Proofs.Ytfladcffgblfdaa.Th.RZ.ne HO201.out (by obtain ⟨_, _, h_, _⟩ := HI0.out; exact ⟨_, _, _, h_, by decide⟩))) | exact Kd.own_blk (Go.Proofs.Ytfladcffgblfdaa.Th.RZ.ne HO201.out (by obtain ⟨_, _, h_, _⟩ := HI0.out; exact ⟨_, _, _, h_, by decide⟩)))
          refine ⟨_, rfl, ?_⟩
          have n0_ := Aside0.mk (Go.Proofs.Ytfladcffgblfdaa.Th.RZ.keep (by repeat (first | exact HO201.out | apply Go.Proofs.Ytfladcffgblfdaa.Th.RZ.drewN | apply Go.Proofs.Ytfladcffgblfdaa.Th.RZ.drew)) (Go.Proofs.Ytfladcffgblfdaa.Th.RZ.ne HO201.out (by obtain ⟨_, _, h_, _⟩ := HI0.out; exact ⟨_, _, _, h_, by decide⟩)) hk)
          have n1_ := Aside0.mk (KeepBut.trans (by repeat (first | (with_reducible first | exact HK.out | apply KeepBut.set_ | apply keep_drewN | apply keep_drew | apply keep_alloc) | exact HK.out)) hk (.inl rfl))
          have n2_ := Aside0.mk (hb)
          have n3_ := Aside0.mk (hi)
          clear HO201
          clear HK
          clear HB
          clear HI0
          have HO201 := n0_
          have HK := n1_
          have HB := n2_
          have HI0 := n3_
          clear n0_ n1_ n2_ n3_
          (try clear hb)
          (try clear hb2)
          (try clear hk)
          (try clear hi)
          have p10 : 0 ≤ (t202 : Int) := of_decide_eq_true (by first | (with_reducible assumption) | assumption)
          have q10 : (t202 : Int) < ((y199.length : Int) : Int) := of_decide_eq_true (by first | (with_reducible assumption) | assumption)
          obtain ⟨go10, co10, eo10, gb10, gl10, cl10, HG10⟩ := Go.Proofs.Ytfladcffgblfdaa.Th.RZ.form HO201.out
          (first | cases eo10 | (injection eo10 with ea_ en_ ec_; (first | subst ea_ | (injection ea_ with ea_; subst ea_)); subst ec_; clear en_))
          have GB10 := Aside0.mk gb10
          have GG10 := Aside0.mk HG10
          clear gb10 gl10 HG10
          (first | simp only [add_plain] at hx204_0 | skip)
          obtain ⟨hx10_0, hf10_0⟩ := Go.Proofs.Ytfladcffgblfdaa.Th.RZ.celln HO201.out (t202 : Int) p10 q10
          replace p10 := eq_true p10
          replace q10 := eq_true q10
          have HN0_go10 := Aside0.mk (show g ≠ go10 from by have h_ := (Go.Proofs.Ytfladcffgblfdaa.Th.RZ.ne HO201.out (by obtain ⟨_, _, h_, _⟩ := HI0.out; exact ⟨_, _, _, h_, by decide⟩)); intro e_; exact h_ (by rw [e_]; rfl))
          have HP17 := Go.Proofs.Ytfladcffgblfdaa.Th.RZ.putn HO201.out (t202 : Int) (Go.bits .xor .u8 (rd y199 t202) ((wrap64 (1 + t205)) % 256))
          rw [← Ny207.out] at HP17
          have HQ17 := Aside0.mk HP17
          clear HP17
          refine hK.out _ _ (HS0_) (fun hHeld => ?_)
          clear hK K
          refine norm_ (a' := ?_) ?_ ?_
          rotate_left
          · show Act.put _ (some 23) _ = _
            simp only [Act.put, List.setIfInBounds_toArray, List.set_cons_zero, List.set_cons_succ, i64_w, i32_w]
            rfl
          refine pure_ (i := 8) (N := some 24) (v := ?_) (a' := ?_) #[true, true, true, true, true, true, true, true, true, false, false, false, false] rfl rfl (any_of HT_.out (by kernel_rfl)) (fun _ _ _ h => h) (Or.inl ⟨by rfl, ?_⟩) ?_ ?_
          rotate_left
          · intro w'
            go_simp
            with_reducible rfl
          rotate_left
          · simp only [Act.put, List.setIfInBounds_toArray, List.set_cons_zero, List.set_cons_succ, i64_w, i32_w]
            rfl
          refine pure_ (i := 9) (N := some 25) (v := ?_) (a' := ?_) #[true, true, true, true, true, true, true, true, true, true, false, false, false] rfl rfl (any_of HT_.out (by kernel_rfl)) (fun _ _ _ h => h) (Or.inl ⟨by rfl, ?_⟩) ?_ ?_
          rotate_left
          · intro w'
            go_simp
            with_reducible rfl
          rotate_left
          · simp only [Act.put, List.setIfInBounds_toArray, List.set_cons_zero, List.set_cons_succ, i64_w, i32_w]
            rfl
          refine pure_ (i := 10) (N := some 26) (v := ?_) (a' := ?_) #[true, true, true, true, true, true, true, true, true, true, true, false, false] rfl rfl (any_of HT_.out (by kernel_rfl)) (fun _ _ _ h => h) (Or.inl ⟨by rfl, ?_⟩) ?_ ?_
          rotate_left
          · intro w'
            go_simp
            with_reducible rfl
          rotate_left
          · simp only [Act.put, List.setIfInBounds_toArray, List.set_cons_zero, List.set_cons_succ, i64_w, i32_w]
            rfl
          refine pure_ (i := 11) (N := some 27) (v := ?_) (a' := ?_) #[true, true, true, true, true, true, true, true, true, true, true, true, false] rfl rfl (any_of HT_.out (by kernel_rfl)) (fun _ _ _ h => h) (Or.inl ⟨by rfl, ?_⟩) ?_ ?_
          rotate_left
          · intro w'
            go_simp
            with_reducible rfl
          rotate_left
          · simp only [Act.put, List.setIfInBounds_toArray, List.set_cons_zero, List.set_cons_succ, i64_w, i32_w]
            rfl
          refine last_ (i := 12) (N := none) #[true, true, true, true, true, true, true, true, true, true, true, true, true] rfl rfl (one_of HT_.out (by kernel_rfl)) (by decide) (fun K hK => ?_)
          refine skip_ (w1 := ?_) (by rfl) rfl ?_ ?_
          rotate_left
          · go_simp
            rfl
          refine hK.out _ _ ?_
          clear hK K
          refine done_ (done_of HT_.out (by kernel_rfl)) ?_
          refine Go.Proofs.Ytfladcffgblfdaa.Th.world_gen ?_
          intro wz_ hwz_
          have HZ_ := Aside0.mk (show Go.Proofs.Ytfladcffgblfdaa.Th.RZ 5 wz_ _ _ _ from by rw [hwz_]; exact HQ17.out)
          clear HO201
          have HO201 := HZ_
          clear HQ17
          have HQ17 := HZ_
          clear HZ_
          have n0_ := Aside0.mk (show IsS93 w0 wz_ g s0_0 t206 from by rw [hwz_]; refine IsS93.far ?_ HN0_go10.out _; repeat (first | (with_reducible first | exact HI0.out | apply IsS93.alloc | apply IsS93.drewN | apply IsS93.drew) | exact HI0.out))
          have n1_ := Aside0.mk (show Below w0.heap.size w0 wz_ from by rw [hwz_]; refine below_set ?_ (Nat.le_trans HL.out GB10.out); repeat (first | (with_reducible first | exact HB.out | apply below_alloc | apply pw_below_drewN | apply below_drew1) | exact HB.out))
          have n2_ := Aside0.mk (show KeepBut w wz_ g none from by rw [hwz_]; refine keep_far ?_ GB10.out _; repeat (first | (with_reducible first | exact HK.out | apply keep_drewN | apply keep_drew | apply keep_alloc) | exact HK.out))
          clear HI0 HB HK
          have HI0 := n0_
          have HB := n1_
          have HK := n2_
          clear n0_ n1_ n2_
          clear hwz_
          have hcv18 := Go.Proofs.Ytfladcffgblfdaa.Th.RZ.own_string (P := Try.prog) Try.underlying22 Try.underlying5 Try.underlying9 HO201.out
          try go_wp2
          go_ret
          exact ⟨by first | rfl | (simp [errW_none, errW_some] <;> rfl) | (simp [*, errW_none, errW_some] <;> rfl), by repeat (first | (with_reducible first | exact HI0.out | apply IsS93.alloc | apply IsS93.drewN | apply IsS93.drew | apply IsS93.set_1 | refine IsS93.far ?_ HN0_go10.out _) | exact HI0.out), by repeat (first | (with_reducible first | exact HB.out | apply below_alloc | apply pw_below_drewN | apply below_drew1 | refine below_set ?_ (Nat.le_trans HL.out GB10.out) | refine below_set ?_ (IsS93.ge HI0.out)) | exact HB.out), by repeat (first | (with_reducible first | exact HK.out | apply KeepBut.set_ | apply keep_drewN | apply keep_drew | apply keep_alloc | refine keep_far ?_ GB10.out _) | exact HK.out)⟩
        · rw [if_neg c8] at H
          exact absurd H (by simp)
      · rw [if_neg c7] at H
        exact absurd H (by simp)
    · rw [if_neg c4] at H
      exact absurd H (by simp)

end Go.Proofs.Ytfladcffgblfdaa.PFnRunGet
