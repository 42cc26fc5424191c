/- What the functions that the law comes to compute, as plain functions, and that the machine's calls come to just that: written by a program for this claim, and turned where Lean did not take it. No condition. -/
import Derived.Test.YtgajagocenffeaaHFnCodeGetx0
import Derived.Test.YtgajagocenffeaaHFnCodeGetx1
import Derived.Test.YtgajagocenffeaaHFnCodeGetx3
namespace Go.Proofs.Ytgajagocenffeaa.PFnCodeGet
open Go.RowKit Go.Proofs.YtgajagocenffeaaW.PrintWords Go.Proofs.YtgajagocenffeaaW.PrintLast Go.Proofs.YtgajagocenffeaaW.PrintMore
attribute [local go_sem] max2_int min2_int max_two min_two max_three min_three max_four min_four   -- for this text's walks alone
set_option linter.unusedVariables false
set_option linter.unusedSimpArgs false

/-! ### spec_l1Rd_pick: function 46 -/
def spec_l1Rd_pick.j0 : Nat → Int → Bool → List Int → Int → Option (Int × Int)
  | 0, _, _, _, _ => none
  | k + 1, x1, x24, x1000, x1001 => if x24 = true then (some (0, x1001)) else (if (wrap64 (x1001 - 1)) < (x1000.length : Int) then (if 0 ≤ (wrap64 (x1001 - 1)) then (if x1 = 0 then (none) else (some (Int.tmod (wrap64 (rd x1000 (wrap64 (x1001 - 1)))) x1, x1001))) else (none)) else (if (x1000.length : Int) = 0 then (none) else (if 0 ≤ (Int.tmod (wrap64 (x1001 - 1)) (x1000.length : Int)) then (if (Int.tmod (wrap64 (x1001 - 1)) (x1000.length : Int)) < (x1000.length : Int) then (if 0 ≤ (Int.tmod (wrap64 ((wrap64 ((wrap64 (x1001 - 1)) * 7)) + 3)) (x1000.length : Int)) then (if (Int.tmod (wrap64 ((wrap64 ((wrap64 (x1001 - 1)) * 7)) + 3)) (x1000.length : Int)) < (x1000.length : Int) then (if x1 = 0 then (none) else (some (Int.tmod (Go.bits .xor .i64 (wrap64 ((wrap64 ((wrap64 ((wrap64 ((wrap64 (rd x1000 (Int.tmod (wrap64 (x1001 - 1)) (x1000.length : Int)))) * 131)) + (wrap64 ((wrap64 (rd x1000 (Int.tmod (wrap64 ((wrap64 ((wrap64 (x1001 - 1)) * 7)) + 3)) (x1000.length : Int)))) * 1117)))) + (wrap64 ((wrap64 (x1001 - 1)) * 29)))) + (wrap64 ((wrap64 (Int.tdiv (wrap64 (x1001 - 1)) (x1000.length : Int))) * 53)))) (wrap64 (Int.tdiv (wrap64 ((wrap64 ((wrap64 ((wrap64 ((wrap64 (rd x1000 (Int.tmod (wrap64 (x1001 - 1)) (x1000.length : Int)))) * 131)) + (wrap64 ((wrap64 (rd x1000 (Int.tmod (wrap64 ((wrap64 ((wrap64 (x1001 - 1)) * 7)) + 3)) (x1000.length : Int)))) * 1117)))) + (wrap64 ((wrap64 (x1001 - 1)) * 29)))) + (wrap64 ((wrap64 (Int.tdiv (wrap64 (x1001 - 1)) (x1000.length : Int))) * 53)))) 64))) x1, x1001))) else (none)) else (none)) else (none)) else (none))))
def spec_l1Rd_pick.f (k : Nat) (s0_0 : List Int) (s0_1 : Int) (a1 : Int) : Option (Int × Int) := if a1 < 1 then (spec_l1Rd_pick.j0 k a1 true s0_0 (wrap64 (s0_1 + 1))) else (spec_l1Rd_pick.j0 k a1 ((s0_0.length : Int) == 0) s0_0 (wrap64 (s0_1 + 1)))
theorem spec_l1Rd_pick.mono_l : ∀ k, (∀ y0 y1 y2 y3, LeO (spec_l1Rd_pick.j0 k y0 y1 y2 y3) (spec_l1Rd_pick.j0 (k + 1) y0 y1 y2 y3))
  | 0 => fun _ _ _ _ r h => by simp [spec_l1Rd_pick.j0] at h
  | k + 1 => by
    have ih0 := spec_l1Rd_pick.mono_l k
    · intro y0 y1 y2 y3
      unfold spec_l1Rd_pick.j0
      repeat' first
      | (with_reducible exact ih0 _ _ _ _)
      | (with_reducible exact LeO.refl _)
      | (with_reducible exact LeO.none _)
      | (with_reducible refine LeO.ite ?_ ?_)
      | (with_reducible refine LeO.bind ?_ (fun _ => ?_))
      | exact ih0 _ _ _ _
      | exact LeO.none _
      | refine LeO.ite ?_ ?_
      | refine LeO.bind ?_ (fun _ => ?_)
theorem spec_l1Rd_pick.mono : ∀ a0 a1 a2 k, LeO (spec_l1Rd_pick.f k a0 a1 a2) (spec_l1Rd_pick.f (k + 1) a0 a1 a2) := by
  intro a0 a1 a2 k
  have ih0 := spec_l1Rd_pick.mono_l k
  unfold spec_l1Rd_pick.f
  repeat' first
      | (with_reducible exact ih0 _ _ _ _)
      | (with_reducible exact LeO.refl _)
      | (with_reducible exact LeO.none _)
      | (with_reducible refine LeO.ite ?_ ?_)
      | (with_reducible refine LeO.bind ?_ (fun _ => ?_))
      | exact ih0 _ _ _ _
      | exact LeO.none _
      | refine LeO.ite ?_ ?_
      | refine LeO.bind ?_ (fun _ => ?_)
set_option maxHeartbeats 8000000 in
set_option maxRecDepth 100000 in
theorem spec_l1Rd_pick.calls (k : Nat) (g : Nat) (s0_0 : List Int) (s0_1 : Int) (a1 : Int) (r1 : Int) (r2 : Int) (w0 w : World) (hI : IsS75 w0 w g s0_0 s0_1) (hB : Below w0.heap.size w0 w) (h : spec_l1Rd_pick.f k s0_0 s0_1 a1 = some (r1, r2)) :
    Calls Try.prog 46 #[.pointer (some ⟨g, 0, none⟩), .int .i64 a1] w fun e w' => e = .returned (.int .i64 r1) ∧ IsS75 w0 w' g s0_0 r2 ∧ Below w0.heap.size w0 w' ∧ KeepBut w w' g none := by
  have HI0 := Aside0.mk hI
  have HK := Aside0.mk (KeepBut.refl w g none)
  have HL := Aside0.mk hB.size
  clear hI
  have HW0 := Aside0.mk hB.size
  have HB := Aside0.mk hB
  clear hB
  have H : (if a1 < 1 then (spec_l1Rd_pick.j0 k a1 true s0_0 (wrap64 (s0_1 + 1))) else (spec_l1Rd_pick.j0 k a1 ((s0_0.length : Int) == 0) s0_0 (wrap64 (s0_1 + 1)))) = some (r1, r2) := h
  clear h
  have HC3 := Aside0.mk H
  clear H
  obtain ⟨ASz4_0, cSz4_0, HGz4, hgz4, HSz4_0⟩ := HI0.out
  have hcz4_0 := cellS75_0 HGz4
  have hcz4_1 := cellS75_1 HGz4
  have hfz4_1 := blk_frozen HGz4 1
  clear HGz4 hgz4
  go_enter Try.func46, Try.ntmps46
  go_upto_region 2 with (fail)
  repeat (go_quiet (fail); go_upto_region 2 with (fail))
  go_cut [24] (fun v24 wc => ∃ (kq : Nat) (x24_2 : Bool), v24 = .bool x24_2 ∧ Aside0 (spec_l1Rd_pick.j0 kq a1 x24_2 s0_0 (wrap64 (s0_1 + 1)) = some (r1, r2)) ∧ Aside0 (kq ≤ k) ∧ Aside0 (IsS75 w0 wc g s0_0 (wrap64 (s0_1 + 1))) ∧ Aside0 (KeepBut w wc g none) ∧ Aside0 (Below w0.heap.size w0 wc))
  case first =>
    have H := HC3.out
    clear HC3
    by_cases c5 : a1 < 1
    · rw [if_pos c5] at H
      have c5b0 : decide (a1 < 1) = true := decide_eq_true c5
      clear c5
      (first | rw [c5b0] | (simp only [i64_w, i32_w]; rw [c5b0]) | skip)
      have H' := Aside0.mk H
      clear H
      go_wp2
      repeat (go_quiet (fail); try go_wp2)
      go_meet
      case rel => exact ⟨_, (true), (by first | rfl | (simp; done) | (simp [*]; done)), H', ⟨by first | omega | exact Nat.le_refl _⟩, ⟨by repeat (first | (with_reducible first | exact HI0.out | apply IsS75.alloc | apply IsS75.drewN | apply IsS75.drew | apply IsS75.set_1) | exact HI0.out)⟩, ⟨by repeat (first | (with_reducible first | exact HK.out | apply KeepBut.set_ | apply keep_drewN | apply keep_drew | apply keep_alloc) | exact HK.out)⟩, ⟨by repeat (first | (with_reducible first | exact HB.out | apply below_alloc | apply pw_below_drewN | apply below_drew1 | refine below_set ?_ (IsS75.ge HI0.out)) | exact HB.out)⟩⟩
    · rw [if_neg c5] at H
      have c5b0 : decide (a1 < 1) = false := decide_eq_false c5
      clear c5
      (first | rw [c5b0] | (simp only [i64_w, i32_w]; rw [c5b0]) | skip)
      have H' := Aside0.mk H
      clear H
      obtain ⟨ASz6_0, cSz6_0, HGz6, hgz6, HSz6_0⟩ := HI0.out
      have hcz6_0 := cellS75_0 HGz6
      have hcz6_1 := cellS75_1 HGz6
      have hfz6_1 := blk_frozen HGz6 1
      clear HGz6 hgz6
      go_wp2
      repeat (go_quiet (fail); try go_wp2)
      go_meet
      case rel => exact ⟨_, (((s0_0.length : Int) == 0)), (by first | rfl | (simp; done) | (simp [*]; done)), H', ⟨by first | omega | exact Nat.le_refl _⟩, ⟨by repeat (first | (with_reducible first | exact HI0.out | apply IsS75.alloc | apply IsS75.drewN | apply IsS75.drew | apply IsS75.set_1) | exact HI0.out)⟩, ⟨by repeat (first | (with_reducible first | exact HK.out | apply KeepBut.set_ | apply keep_drewN | apply keep_drew | apply keep_alloc) | exact HK.out)⟩, ⟨by repeat (first | (with_reducible first | exact HB.out | apply below_alloc | apply pw_below_drewN | apply below_drew1 | refine below_set ?_ (IsS75.ge HI0.out)) | exact HB.out)⟩⟩
  case rest =>
    clear HC3
    try clear p2
    try clear c4
    try clear c5
    try clear c5b0
    try clear p6
    try clear hcz4_0
    try clear hcz4_1
    try clear hcz6_0
    try clear hcz6_1
    try clear hfz4_1
    try clear hfz6_1
    obtain ⟨kq, x24_2, rfl, HA, HJ2, HI0, HK, HB⟩ := hcut
    cases kq with
    | zero => exact absurd HA.out (by simp [spec_l1Rd_pick.j0])
    | succ kj2 =>
      have H := HA.out
      clear HA
      simp only [spec_l1Rd_pick.j0] at H
      by_cases c7 : x24_2 = true
      · subst c7
        have H1 : (some (0, (wrap64 (s0_1 + 1)))) = some (r1, r2) := by first | (rw [if_pos rfl] at H; exact H) | rfl
        clear H
        have H := H1
        clear H1
        simp only [Option.some.injEq, Prod.mk.injEq] at H
        obtain ⟨rfl, rfl⟩ := H
        go_wp2
        repeat (go_quiet (fail); try go_wp2)
        go_ret
        exact ⟨by first | rfl | (simp [errW_none, errW_some] <;> rfl) | (simp [*, errW_none, errW_some] <;> rfl), by repeat (first | (with_reducible first | exact HI0.out | apply IsS75.alloc | apply IsS75.drewN | apply IsS75.drew | apply IsS75.set_1) | exact HI0.out), by repeat (first | (with_reducible first | exact HB.out | apply below_alloc | apply pw_below_drewN | apply below_drew1 | refine below_set ?_ (IsS75.ge HI0.out)) | exact HB.out), by repeat (first | (with_reducible first | exact HK.out | apply KeepBut.set_ | apply keep_drewN | apply keep_drew | apply keep_alloc) | exact HK.out)⟩
      · replace c7 := Bool.eq_false_iff.mpr c7
        subst c7
        have H1 : (if (wrap64 ((wrap64 (s0_1 + 1)) - 1)) < (s0_0.length : Int) then (if 0 ≤ (wrap64 ((wrap64 (s0_1 + 1)) - 1)) then (if a1 = 0 then (none) else (some (Int.tmod (wrap64 (rd s0_0 (wrap64 ((wrap64 (s0_1 + 1)) - 1)))) a1, (wrap64 (s0_1 + 1))))) else (none)) else (if (s0_0.length : Int) = 0 then (none) else (if 0 ≤ (Int.tmod (wrap64 ((wrap64 (s0_1 + 1)) - 1)) (s0_0.length : Int)) then (if (Int.tmod (wrap64 ((wrap64 (s0_1 + 1)) - 1)) (s0_0.length : Int)) < (s0_0.length : Int) then (if 0 ≤ (Int.tmod (wrap64 ((wrap64 ((wrap64 ((wrap64 (s0_1 + 1)) - 1)) * 7)) + 3)) (s0_0.length : Int)) then (if (Int.tmod (wrap64 ((wrap64 ((wrap64 ((wrap64 (s0_1 + 1)) - 1)) * 7)) + 3)) (s0_0.length : Int)) < (s0_0.length : Int) then (if a1 = 0 then (none) else (some (Int.tmod (Go.bits .xor .i64 (wrap64 ((wrap64 ((wrap64 ((wrap64 ((wrap64 (rd s0_0 (Int.tmod (wrap64 ((wrap64 (s0_1 + 1)) - 1)) (s0_0.length : Int)))) * 131)) + (wrap64 ((wrap64 (rd s0_0 (Int.tmod (wrap64 ((wrap64 ((wrap64 ((wrap64 (s0_1 + 1)) - 1)) * 7)) + 3)) (s0_0.length : Int)))) * 1117)))) + (wrap64 ((wrap64 ((wrap64 (s0_1 + 1)) - 1)) * 29)))) + (wrap64 ((wrap64 (Int.tdiv (wrap64 ((wrap64 (s0_1 + 1)) - 1)) (s0_0.length : Int))) * 53)))) (wrap64 (Int.tdiv (wrap64 ((wrap64 ((wrap64 ((wrap64 ((wrap64 (rd s0_0 (Int.tmod (wrap64 ((wrap64 (s0_1 + 1)) - 1)) (s0_0.length : Int)))) * 131)) + (wrap64 ((wrap64 (rd s0_0 (Int.tmod (wrap64 ((wrap64 ((wrap64 ((wrap64 (s0_1 + 1)) - 1)) * 7)) + 3)) (s0_0.length : Int)))) * 1117)))) + (wrap64 ((wrap64 ((wrap64 (s0_1 + 1)) - 1)) * 29)))) + (wrap64 ((wrap64 (Int.tdiv (wrap64 ((wrap64 (s0_1 + 1)) - 1)) (s0_0.length : Int))) * 53)))) 64))) a1, (wrap64 (s0_1 + 1))))) else (none)) else (none)) else (none)) else (none)))) = some (r1, r2) := by first | (rw [if_neg (show ¬ (false = true) by decide)] at H; exact H) | rfl
        clear H
        have H := H1
        clear H1
        by_cases c8 : (wrap64 ((wrap64 (s0_1 + 1)) - 1)) < (s0_0.length : Int)
        · rw [if_pos c8] at H
          have c8b0 : decide ((wrap64 ((wrap64 (s0_1 + 1)) - 1)) < (s0_0.length : Int)) = true := decide_eq_true c8
          clear c8
          obtain ⟨ji9, hji9⟩ : ∃ j_ : Int, (wrap64 ((wrap64 (s0_1 + 1)) - 1)) = j_ := ⟨_, rfl⟩
          replace H : (if 0 ≤ (ji9) then (if a1 = 0 then (none) else (some (Int.tmod (wrap64 (rd s0_0 (ji9))) a1, (wrap64 (s0_1 + 1))))) else (none)) = some (r1, r2) := by first | (rw [hji9] at H; exact H) | (simp only [hji9] at H ⊢; exact H)
          (try rw [hji9] at c8b0)
          have hji9w : (IntKind.i64.wrap ((wrap64 (s0_1 + 1)) - 1)) = ji9 := (i64_w _).trans hji9
          by_cases c10 : 0 ≤ (ji9)
          · rw [if_pos c10] at H
            have c10b0 : decide (0 ≤ (ji9)) = true := decide_eq_true c10
            clear c10
            by_cases c11 : a1 = 0
            · rw [if_pos c11] at H
              exact absurd H (by simp)
            · rw [if_neg c11] at H
              have c11b0 : (a1 == 0) = false := beq_eq_false_iff_ne.mpr c11
              have c11b1 : (a1 != 0) = true := bne_iff_ne.mpr c11
              simp only [Option.some.injEq, Prod.mk.injEq] at H
              obtain ⟨rfl, rfl⟩ := H
              obtain ⟨ASz12_0, cSz12_0, HGz12, hgz12, HSz12_0⟩ := HI0.out
              have hcz12_0 := cellS75_0 HGz12
              have hcz12_1 := cellS75_1 HGz12
              have hfz12_1 := blk_frozen HGz12 1
              clear HGz12 hgz12
              have p137 : 0 ≤ ((ji9) : Int) := of_decide_eq_true (by first | (with_reducible assumption) | assumption)
              have q137 : (ji9) < (s0_0.length : Int) := of_decide_eq_true (by first | (with_reducible assumption) | assumption)
              obtain ⟨ad137, e137, hx137_0⟩ := Kd.at_int HSz12_0 (ji9) p137 q137
              cases e137
              replace hx137_0 := pw_cell_below HB.out hx137_0
              replace p137 := eq_true p137
              replace q137 := eq_true q137
              go_wp2
              repeat (go_quiet (fail); try go_wp2)
              go_ret
              exact ⟨by first | rfl | (simp [errW_none, errW_some] <;> rfl) | (simp only [← hji9]; first | rfl | (simp [errW_none, errW_some] <;> rfl)) | (simp [*, errW_none, errW_some] <;> rfl), by repeat (first | (with_reducible first | exact HI0.out | apply IsS75.alloc | apply IsS75.drewN | apply IsS75.drew | apply IsS75.set_1) | exact HI0.out), by repeat (first | (with_reducible first | exact HB.out | apply below_alloc | apply pw_below_drewN | apply below_drew1 | refine below_set ?_ (IsS75.ge HI0.out)) | exact HB.out), by repeat (first | (with_reducible first | exact HK.out | apply KeepBut.set_ | apply keep_drewN | apply keep_drew | apply keep_alloc) | exact HK.out)⟩
          · rw [if_neg c10] at H
            exact absurd H (by simp)
        · rw [if_neg c8] at H
          have c8b0 : decide ((wrap64 ((wrap64 (s0_1 + 1)) - 1)) < (s0_0.length : Int)) = false := decide_eq_false c8
          clear c8
          by_cases c13 : (s0_0.length : Int) = 0
          · rw [if_pos c13] at H
            exact absurd H (by simp)
          · rw [if_neg c13] at H
            have c13b0 : ((s0_0.length : Int) == 0) = false := beq_eq_false_iff_ne.mpr c13
            have c13b1 : ((s0_0.length : Int) != 0) = true := bne_iff_ne.mpr c13
            have c13b2 : ¬ (s0_0 = []) := fun h_ => c13 (by rw [h_]; rfl)
            obtain ⟨ji14, hji14⟩ : ∃ j_ : Int, (Int.tmod (wrap64 ((wrap64 (s0_1 + 1)) - 1)) (s0_0.length : Int)) = j_ := ⟨_, rfl⟩
            replace H : (if 0 ≤ (ji14) then (if (ji14) < (s0_0.length : Int) then (if 0 ≤ (Int.tmod (wrap64 ((wrap64 ((wrap64 ((wrap64 (s0_1 + 1)) - 1)) * 7)) + 3)) (s0_0.length : Int)) then (if (Int.tmod (wrap64 ((wrap64 ((wrap64 ((wrap64 (s0_1 + 1)) - 1)) * 7)) + 3)) (s0_0.length : Int)) < (s0_0.length : Int) then (if a1 = 0 then (none) else (some (Int.tmod (Go.bits .xor .i64 (wrap64 ((wrap64 ((wrap64 ((wrap64 ((wrap64 (rd s0_0 (ji14))) * 131)) + (wrap64 ((wrap64 (rd s0_0 (Int.tmod (wrap64 ((wrap64 ((wrap64 ((wrap64 (s0_1 + 1)) - 1)) * 7)) + 3)) (s0_0.length : Int)))) * 1117)))) + (wrap64 ((wrap64 ((wrap64 (s0_1 + 1)) - 1)) * 29)))) + (wrap64 ((wrap64 (Int.tdiv (wrap64 ((wrap64 (s0_1 + 1)) - 1)) (s0_0.length : Int))) * 53)))) (wrap64 (Int.tdiv (wrap64 ((wrap64 ((wrap64 ((wrap64 ((wrap64 (rd s0_0 (ji14))) * 131)) + (wrap64 ((wrap64 (rd s0_0 (Int.tmod (wrap64 ((wrap64 ((wrap64 ((wrap64 (s0_1 + 1)) - 1)) * 7)) + 3)) (s0_0.length : Int)))) * 1117)))) + (wrap64 ((wrap64 ((wrap64 (s0_1 + 1)) - 1)) * 29)))) + (wrap64 ((wrap64 (Int.tdiv (wrap64 ((wrap64 (s0_1 + 1)) - 1)) (s0_0.length : Int))) * 53)))) 64))) a1, (wrap64 (s0_1 + 1))))) else (none)) else (none)) else (none)) else (none)) = some (r1, r2) := by first | (rw [hji14] at H; exact H) | (simp only [hji14] at H ⊢; exact H)
            by_cases c15 : 0 ≤ (ji14)
            · rw [if_pos c15] at H
              have c15b0 : decide (0 ≤ (ji14)) = true := decide_eq_true c15
              clear c15
              by_cases c16 : (ji14) < (s0_0.length : Int)
              · rw [if_pos c16] at H
                have c16b0 : decide ((ji14) < (s0_0.length : Int)) = true := decide_eq_true c16
                clear c16
                obtain ⟨ji17, hji17⟩ : ∃ j_ : Int, (Int.tmod (wrap64 ((wrap64 ((wrap64 ((wrap64 (s0_1 + 1)) - 1)) * 7)) + 3)) (s0_0.length : Int)) = j_ := ⟨_, rfl⟩
                replace H : (if 0 ≤ (ji17) then (if (ji17) < (s0_0.length : Int) then (if a1 = 0 then (none) else (some (Int.tmod (Go.bits .xor .i64 (wrap64 ((wrap64 ((wrap64 ((wrap64 ((wrap64 (rd s0_0 (ji14))) * 131)) + (wrap64 ((wrap64 (rd s0_0 (ji17))) * 1117)))) + (wrap64 ((wrap64 ((wrap64 (s0_1 + 1)) - 1)) * 29)))) + (wrap64 ((wrap64 (Int.tdiv (wrap64 ((wrap64 (s0_1 + 1)) - 1)) (s0_0.length : Int))) * 53)))) (wrap64 (Int.tdiv (wrap64 ((wrap64 ((wrap64 ((wrap64 ((wrap64 (rd s0_0 (ji14))) * 131)) + (wrap64 ((wrap64 (rd s0_0 (ji17))) * 1117)))) + (wrap64 ((wrap64 ((wrap64 (s0_1 + 1)) - 1)) * 29)))) + (wrap64 ((wrap64 (Int.tdiv (wrap64 ((wrap64 (s0_1 + 1)) - 1)) (s0_0.length : Int))) * 53)))) 64))) a1, (wrap64 (s0_1 + 1))))) else (none)) else (none)) = some (r1, r2) := by first | (rw [hji17] at H; exact H) | (simp only [hji17] at H ⊢; exact H)
                by_cases c18 : 0 ≤ (ji17)
                · rw [if_pos c18] at H
                  have c18b0 : decide (0 ≤ (ji17)) = true := decide_eq_true c18
                  clear c18
                  by_cases c19 : (ji17) < (s0_0.length : Int)
                  · rw [if_pos c19] at H
                    have c19b0 : decide ((ji17) < (s0_0.length : Int)) = true := decide_eq_true c19
                    clear c19
                    by_cases c20 : a1 = 0
                    · rw [if_pos c20] at H
                      exact absurd H (by simp)
                    · rw [if_neg c20] at H
                      have c20b0 : (a1 == 0) = false := beq_eq_false_iff_ne.mpr c20
                      have c20b1 : (a1 != 0) = true := bne_iff_ne.mpr c20
                      simp only [Option.some.injEq, Prod.mk.injEq] at H
                      obtain ⟨rfl, rfl⟩ := H
                      obtain ⟨ASz21_0, cSz21_0, HGz21, hgz21, HSz21_0⟩ := HI0.out
                      have hcz21_0 := cellS75_0 HGz21
                      have hcz21_1 := cellS75_1 HGz21
                      have hfz21_1 := blk_frozen HGz21 1
                      clear HGz21 hgz21
                      have p138 : 0 ≤ ((ji14) : Int) := of_decide_eq_true (by first | (with_reducible assumption) | assumption)
                      have q138 : (ji14) < (s0_0.length : Int) := of_decide_eq_true (by first | (with_reducible assumption) | assumption)
                      obtain ⟨ad138, e138, hx138_0⟩ := Kd.at_int HSz21_0 (ji14) p138 q138
                      cases e138
                      replace hx138_0 := pw_cell_below HB.out hx138_0
                      replace p138 := eq_true p138
                      replace q138 := eq_true q138
                      have p139 : 0 ≤ ((ji17) : Int) := of_decide_eq_true (by first | (with_reducible assumption) | assumption)
                      have q139 : (ji17) < (s0_0.length : Int) := of_decide_eq_true (by first | (with_reducible assumption) | assumption)
                      obtain ⟨ad139, e139, hx139_0⟩ := Kd.at_int HSz21_0 (ji17) p139 q139
                      obtain rfl : ad138 = ad139 := (by injection e139)
                      replace hx139_0 := pw_cell_below HB.out hx139_0
                      replace p139 := eq_true p139
                      replace q139 := eq_true q139
                      go_wp2
                      repeat (go_quiet (fail); try go_wp2)
                      go_ret
                      exact ⟨by first | rfl | (simp [errW_none, errW_some] <;> rfl) | (simp only [← hji14, ← hji17]; first | rfl | (simp [errW_none, errW_some] <;> rfl)) | (simp [*, errW_none, errW_some] <;> rfl), by repeat (first | (with_reducible first | exact HI0.out | apply IsS75.alloc | apply IsS75.drewN | apply IsS75.drew | apply IsS75.set_1) | exact HI0.out), by repeat (first | (with_reducible first | exact HB.out | apply below_alloc | apply pw_below_drewN | apply below_drew1 | refine below_set ?_ (IsS75.ge HI0.out)) | exact HB.out), by repeat (first | (with_reducible first | exact HK.out | apply KeepBut.set_ | apply keep_drewN | apply keep_drew | apply keep_alloc) | exact HK.out)⟩
                  · rw [if_neg c19] at H
                    exact absurd H (by simp)
                · rw [if_neg c18] at H
                  exact absurd H (by simp)
              · rw [if_neg c16] at H
                exact absurd H (by simp)
            · rw [if_neg c15] at H
              exact absurd H (by simp)

/-! ### spec_l3Room: function 37 -/
def spec_l3Room.l0 : Nat → List Int → Int → Int → Int → Option (Bool)
  | 0, _, _, _, _ => none
  | k + 1, x0, x1, x5, x6 => if x6 < (x0.length : Int) then (if 0 ≤ x6 then ((spec_l1In.f (rd x0 x6) 0 9000).bind fun t143 => (if t143 = true then (if (rd x0 x6) > 0 then (spec_l3Room.l0 k x0 x1 (wrap64 (x5 + 1)) (wrap64 (x6 + 1))) else (spec_l3Room.l0 k x0 x1 x5 (wrap64 (x6 + 1)))) else (some false))) else (none)) else ((spec_l1In.f x1 1 15).bind fun t140 => (if t140 = true then ((spec_l1Pow.f k x1).bind fun t141 => (if x5 ≤ t141 then (some (decide ((x0.length : Int) ≤ 300))) else (some false))) else (some false)))
def spec_l3Room.f (k : Nat) (l0 : List Int) (a1 : Int) : Option (Bool) := spec_l3Room.l0 k l0 a1 0 0
theorem spec_l3Room.mono_l : ∀ k, (∀ y0 y1 y2 y3, LeO (spec_l3Room.l0 k y0 y1 y2 y3) (spec_l3Room.l0 (k + 1) y0 y1 y2 y3))
  | 0 => fun _ _ _ _ r h => by simp [spec_l3Room.l0] at h
  | k + 1 => by
    have ih0 := spec_l3Room.mono_l k
    · intro y0 y1 y2 y3
      unfold spec_l3Room.l0
      repeat' first
      | (with_reducible exact ih0 _ _ _ _)
      | (with_reducible exact spec_l1Pow.mono _ _)
      | (with_reducible exact LeO.refl _)
      | (with_reducible exact LeO.none _)
      | (with_reducible refine LeO.ite ?_ ?_)
      | (with_reducible refine LeO.bind ?_ (fun _ => ?_))
      | exact ih0 _ _ _ _
      | exact spec_l1Pow.mono _ _
      | exact LeO.none _
      | refine LeO.ite ?_ ?_
      | refine LeO.bind ?_ (fun _ => ?_)
theorem spec_l3Room.mono : ∀ a0 a1 k, LeO (spec_l3Room.f k a0 a1) (spec_l3Room.f (k + 1) a0 a1) := by
  intro a0 a1 k
  have ih0 := spec_l3Room.mono_l k
  unfold spec_l3Room.f
  repeat' first
      | (with_reducible exact ih0 _ _ _ _)
      | (with_reducible exact spec_l1Pow.mono _ _)
      | (with_reducible exact LeO.refl _)
      | (with_reducible exact LeO.none _)
      | (with_reducible refine LeO.ite ?_ ?_)
      | (with_reducible refine LeO.bind ?_ (fun _ => ?_))
      | exact ih0 _ _ _ _
      | exact spec_l1Pow.mono _ _
      | exact LeO.none _
      | refine LeO.ite ?_ ?_
      | refine LeO.bind ?_ (fun _ => ?_)
set_option maxHeartbeats 8000000 in
set_option maxRecDepth 100000 in
theorem spec_l3Room.calls (k : Nat) (A0 : Option Addr) (c0 : Nat) (l0 : List Int) (a1 : Int) (r : Bool) (w : World) (hr0 : Kd.C (Kd.int .i64) w A0 l0.length l0) (hc0 : l0.length ≤ c0) (h : spec_l3Room.f k l0 a1 = some r) :
    Calls Try.prog 37 #[.slice A0 l0.length c0, .int .i64 a1] w fun e w' => e = .returned (.bool r) ∧ Drawn0 w w' := by
  have HR0 := Aside0.mk hr0
  have HC0 := Aside0.mk hc0
  clear hr0 hc0
  have H : (spec_l3Room.l0 k l0 a1 0 0) = some r := h
  clear h
  have H' := Aside0.mk H
  clear H
  go_enter Try.func37, Try.ntmps37
  go_wp2
  go_loopg [5, 6] k (fun kq v5 v6 w' => ∃ (x5_1 : Int) (x6_1 : Int), v5 = .int .i64 x5_1 ∧ v6 = .int .i64 x6_1 ∧ Aside0 (spec_l3Room.l0 kq l0 a1 x5_1 x6_1 = some r) ∧ Aside0 (kq ≤ k) ∧ Drawn0 w w')
  case atStart => exact ⟨(0), (0), (by first | rfl | (simp; done) | (simp [*]; done)), (by first | rfl | (simp; done) | (simp [*]; done)), H', ⟨Nat.le_refl _⟩, by repeat (first | exact Drawn0.refl _ | apply Drawn0.step)⟩
  case round =>
    clear H'
    try clear p2
    obtain ⟨x5_1, x6_1, rfl, rfl, HA, HK1, ⟨m1, rfl⟩⟩ := hrel
    cases gk with
    | zero => exact absurd HA.out (by simp [spec_l3Room.l0])
    | succ k1 =>
      have H := HA.out
      clear HA
      simp only [spec_l3Room.l0] at H
      by_cases c3 : x6_1 < (l0.length : Int)
      · rw [if_pos c3] at H
        have c3b0 : decide (x6_1 < (l0.length : Int)) = true := decide_eq_true c3
        clear c3
        by_cases c4 : 0 ≤ x6_1
        · rw [if_pos c4] at H
          have c4b0 : decide (0 ≤ x6_1) = true := decide_eq_true c4
          clear c4
          replace H := Option.bind_eq_some_iff.mp H
          obtain ⟨t143, A50, H⟩ := H
          replace H : (if t143 = true then (if (rd l0 x6_1) > 0 then (spec_l3Room.l0 k1 l0 a1 (wrap64 (x5_1 + 1)) (wrap64 (x6_1 + 1))) else (spec_l3Room.l0 k1 l0 a1 x5_1 (wrap64 (x6_1 + 1)))) else (some false)) = some r := H
          have A5 := Aside0.mk A50
          clear A50
          by_cases c6 : t143 = true
          · subst c6
            have H1 : (if (rd l0 x6_1) > 0 then (spec_l3Room.l0 k1 l0 a1 (wrap64 (x5_1 + 1)) (wrap64 (x6_1 + 1))) else (spec_l3Room.l0 k1 l0 a1 x5_1 (wrap64 (x6_1 + 1)))) = some r := by first | (rw [if_pos rfl] at H; exact H) | rfl
            clear H
            have H := H1
            clear H1
            by_cases c7 : (rd l0 x6_1) > 0
            · rw [if_pos c7] at H
              have c7b0 : decide (0 < (rd l0 x6_1)) = true := decide_eq_true c7
              clear c7
              have H' := Aside0.mk H
              clear H
              have p142 : 0 ≤ (x6_1 : Int) := of_decide_eq_true (by first | (with_reducible assumption) | assumption)
              have q142 : x6_1 < (l0.length : Int) := of_decide_eq_true (by first | (with_reducible assumption) | assumption)
              obtain ⟨ad142, e142, hx142_0⟩ := Kd.at_int HR0.out x6_1 p142 q142
              cases e142
              replace p142 := eq_true p142
              replace q142 := eq_true q142
              go_wp2_with (first | ((with_reducible refine gate_callee (f := 49) rfl ?_); refine goesL_ (some 17) rfl rfl Try.func49 (by kernel_rfl) rfl #[.int .i64 (rd l0 x6_1), .int .i64 0, .int .i64 9000] rfl (by (try simp only [List.map_toArray, List.map_cons, List.map_nil]); first | done | rfl | (simp only [List.length_drop, List.length_take]; rfl)) ?_; (with_reducible refine (spec_l1In.calls (rd l0 x6_1) 0 9000 true _ A5.out).mono ?_); rintro e w' ⟨rfl, ⟨nd, rfl⟩⟩; refine ⟨_, rfl, ?_⟩; have p144 : 0 ≤ (x6_1 : Int) := of_decide_eq_true (by first | (with_reducible assumption) | assumption); have q144 : x6_1 < (l0.length : Int) := of_decide_eq_true (by first | (with_reducible assumption) | assumption); obtain ⟨ad144, e144, hx144_0⟩ := Kd.at_int HR0.out x6_1 p144 q144; obtain rfl : ad142 = ad144 := (by injection e144); replace p144 := eq_true p144; replace q144 := eq_true q144))
              go_roundg k1
              case measure => have := HK1.out; omega
              case rel => exact ⟨(wrap64 (x5_1 + 1)), (wrap64 (x6_1 + 1)), (by first | rfl | (simp; done) | (simp [*]; done)), (by first | rfl | (simp; done) | (simp [*]; done)), H', ⟨by have := HK1.out; omega⟩, by repeat (first | exact Drawn0.refl _ | apply Drawn0.step)⟩
            · rw [if_neg c7] at H
              have c7b0 : decide (0 < (rd l0 x6_1)) = false := decide_eq_false c7
              clear c7
              have H' := Aside0.mk H
              clear H
              have p142 : 0 ≤ (x6_1 : Int) := of_decide_eq_true (by first | (with_reducible assumption) | assumption)
              have q142 : x6_1 < (l0.length : Int) := of_decide_eq_true (by first | (with_reducible assumption) | assumption)
              obtain ⟨ad142, e142, hx142_0⟩ := Kd.at_int HR0.out x6_1 p142 q142
              cases e142
              replace p142 := eq_true p142
              replace q142 := eq_true q142
              go_wp2_with (first | ((with_reducible refine gate_callee (f := 49) rfl ?_); refine goesL_ (some 17) rfl rfl Try.func49 (by kernel_rfl) rfl #[.int .i64 (rd l0 x6_1), .int .i64 0, .int .i64 9000] rfl (by (try simp only [List.map_toArray, List.map_cons, List.map_nil]); first | done | rfl | (simp only [List.length_drop, List.length_take]; rfl)) ?_; (with_reducible refine (spec_l1In.calls (rd l0 x6_1) 0 9000 true _ A5.out).mono ?_); rintro e w' ⟨rfl, ⟨nd, rfl⟩⟩; refine ⟨_, rfl, ?_⟩; have p144 : 0 ≤ (x6_1 : Int) := of_decide_eq_true (by first | (with_reducible assumption) | assumption); have q144 : x6_1 < (l0.length : Int) := of_decide_eq_true (by first | (with_reducible assumption) | assumption); obtain ⟨ad144, e144, hx144_0⟩ := Kd.at_int HR0.out x6_1 p144 q144; obtain rfl : ad142 = ad144 := (by injection e144); replace p144 := eq_true p144; replace q144 := eq_true q144))
              go_roundg k1
              case measure => have := HK1.out; omega
              case rel => exact ⟨(x5_1), (wrap64 (x6_1 + 1)), (by first | rfl | (simp; done) | (simp [*]; done)), (by first | rfl | (simp; done) | (simp [*]; done)), H', ⟨by have := HK1.out; omega⟩, by repeat (first | exact Drawn0.refl _ | apply Drawn0.step)⟩
          · replace c6 := Bool.eq_false_iff.mpr c6
            subst c6
            have H1 : (some false) = some r := by first | (rw [if_neg (show ¬ (false = true) by decide)] at H; exact H) | rfl
            clear H
            have H := H1
            clear H1
            obtain rfl := Option.some.inj H
            have p142 : 0 ≤ (x6_1 : Int) := of_decide_eq_true (by first | (with_reducible assumption) | assumption)
            have q142 : x6_1 < (l0.length : Int) := of_decide_eq_true (by first | (with_reducible assumption) | assumption)
            obtain ⟨ad142, e142, hx142_0⟩ := Kd.at_int HR0.out x6_1 p142 q142
            cases e142
            replace p142 := eq_true p142
            replace q142 := eq_true q142
            go_wp2_with (first | ((with_reducible refine gate_callee (f := 49) rfl ?_); refine goesL_ (some 17) rfl rfl Try.func49 (by kernel_rfl) rfl #[.int .i64 (rd l0 x6_1), .int .i64 0, .int .i64 9000] rfl (by (try simp only [List.map_toArray, List.map_cons, List.map_nil]); first | done | rfl | (simp only [List.length_drop, List.length_take]; rfl)) ?_; (with_reducible refine (spec_l1In.calls (rd l0 x6_1) 0 9000 false _ A5.out).mono ?_); rintro e w' ⟨rfl, ⟨nd, rfl⟩⟩; refine ⟨_, rfl, ?_⟩))
            go_ret
            exact ⟨by first | rfl | (simp; done) | (simp [*]; done), by repeat (first | exact Drawn0.refl _ | apply Drawn0.step)⟩
        · rw [if_neg c4] at H
          exact absurd H (by simp)
      · rw [if_neg c3] at H
        have c3b0 : decide (x6_1 < (l0.length : Int)) = false := decide_eq_false c3
        clear c3
        replace H := Option.bind_eq_some_iff.mp H
        obtain ⟨t140, A80, H⟩ := H
        replace H : (if t140 = true then ((spec_l1Pow.f k1 a1).bind fun t141 => (if x5_1 ≤ t141 then (some (decide ((l0.length : Int) ≤ 300))) else (some false))) else (some false)) = some r := H
        have A8 := Aside0.mk A80
        clear A80
        by_cases c9 : t140 = true
        · subst c9
          have H1 : ((spec_l1Pow.f k1 a1).bind fun t141 => (if x5_1 ≤ t141 then (some (decide ((l0.length : Int) ≤ 300))) else (some false))) = some r := by first | (rw [if_pos rfl] at H; exact H) | rfl
          clear H
          have H := H1
          clear H1
          replace H := Option.bind_eq_some_iff.mp H
          obtain ⟨t141, A100, H⟩ := H
          replace H : (if x5_1 ≤ t141 then (some (decide ((l0.length : Int) ≤ 300))) else (some false)) = some r := H
          have A10 := Aside0.mk A100
          clear A100
          by_cases c11 : x5_1 ≤ t141
          · rw [if_pos c11] at H
            have c11b0 : decide (x5_1 ≤ t141) = true := decide_eq_true c11
            clear c11
            obtain rfl := Option.some.inj H
            go_wp2_with (first | ((with_reducible refine gate_callee (f := 49) rfl ?_); refine goesL_ (some 27) rfl rfl Try.func49 (by kernel_rfl) rfl #[.int .i64 a1, .int .i64 1, .int .i64 15] rfl (by (try simp only [List.map_toArray, List.map_cons, List.map_nil]); first | done | rfl | (simp only [List.length_drop, List.length_take]; rfl)) ?_; (with_reducible refine (spec_l1In.calls a1 1 15 true _ A8.out).mono ?_); rintro e w' ⟨rfl, ⟨nd, rfl⟩⟩; refine ⟨_, rfl, ?_⟩) | (go_at_call 60; (with_reducible refine (spec_l1Pow.calls k1 a1 t141 _ A10.out).mono ?_); rintro e w' ⟨rfl, ⟨nd, rfl⟩⟩))
            go_ret
            exact ⟨by first | rfl | (simp; done) | (simp [*]; done), by repeat (first | exact Drawn0.refl _ | apply Drawn0.step)⟩
          · rw [if_neg c11] at H
            have c11b0 : decide (x5_1 ≤ t141) = false := decide_eq_false c11
            clear c11
            obtain rfl := Option.some.inj H
            go_wp2_with (first | ((with_reducible refine gate_callee (f := 49) rfl ?_); refine goesL_ (some 27) rfl rfl Try.func49 (by kernel_rfl) rfl #[.int .i64 a1, .int .i64 1, .int .i64 15] rfl (by (try simp only [List.map_toArray, List.map_cons, List.map_nil]); first | done | rfl | (simp only [List.length_drop, List.length_take]; rfl)) ?_; (with_reducible refine (spec_l1In.calls a1 1 15 true _ A8.out).mono ?_); rintro e w' ⟨rfl, ⟨nd, rfl⟩⟩; refine ⟨_, rfl, ?_⟩) | (go_at_call 60; (with_reducible refine (spec_l1Pow.calls k1 a1 t141 _ A10.out).mono ?_); rintro e w' ⟨rfl, ⟨nd, rfl⟩⟩))
            go_ret
            exact ⟨by first | rfl | (simp; done) | (simp [*]; done), by repeat (first | exact Drawn0.refl _ | apply Drawn0.step)⟩
        · replace c9 := Bool.eq_false_iff.mpr c9
          subst c9
          have H1 : (some false) = some r := by first | (rw [if_neg (show ¬ (false = true) by decide)] at H; exact H) | rfl
          clear H
          have H := H1
          clear H1
          obtain rfl := Option.some.inj H
          go_wp2_with (first | ((with_reducible refine gate_callee (f := 49) rfl ?_); refine goesL_ (some 27) rfl rfl Try.func49 (by kernel_rfl) rfl #[.int .i64 a1, .int .i64 1, .int .i64 15] rfl (by (try simp only [List.map_toArray, List.map_cons, List.map_nil]); first | done | rfl | (simp only [List.length_drop, List.length_take]; rfl)) ?_; (with_reducible refine (spec_l1In.calls a1 1 15 false _ A8.out).mono ?_); rintro e w' ⟨rfl, ⟨nd, rfl⟩⟩; refine ⟨_, rfl, ?_⟩))
          go_ret
          exact ⟨by first | rfl | (simp; done) | (simp [*]; done), by repeat (first | exact Drawn0.refl _ | apply Drawn0.step)⟩

/-! ### spec_l3Least: function 73 -/
def spec_l3Least.l0 : Nat → List (S85) → Int → Int → Int → Option (Int)
  | 0, _, _, _, _ => none
  | k + 1, x0, x1, x5, x6 => if x6 < (x0.length : Int) then (if x6 = x1 then (spec_l3Least.l0 k x0 x1 x5 (wrap64 (x6 + 1))) else (if x5 < 0 then (spec_l3Least.l0 k x0 x1 x6 (wrap64 (x6 + 1))) else (if 0 ≤ x6 then (if 0 ≤ x5 then (if x5 < (x0.length : Int) then (if ((rd_T85 x0 x6).f0) < ((rd_T85 x0 x5).f0) then (spec_l3Least.l0 k x0 x1 x6 (wrap64 (x6 + 1))) else (spec_l3Least.l0 k x0 x1 x5 (wrap64 (x6 + 1)))) else (none)) else (none)) else (none)))) else (some x5)
def spec_l3Least.f (k : Nat) (l0 : List (S85)) (a1 : Int) : Option (Int) := spec_l3Least.l0 k l0 a1 (-1) 0
theorem spec_l3Least.mono_l : ∀ k, (∀ y0 y1 y2 y3, LeO (spec_l3Least.l0 k y0 y1 y2 y3) (spec_l3Least.l0 (k + 1) y0 y1 y2 y3))
  | 0 => fun _ _ _ _ r h => by simp [spec_l3Least.l0] at h
  | k + 1 => by
    have ih0 := spec_l3Least.mono_l k
    · intro y0 y1 y2 y3
      unfold spec_l3Least.l0
      repeat' first
      | (with_reducible exact ih0 _ _ _ _)
      | (with_reducible exact LeO.refl _)
      | (with_reducible exact LeO.none _)
      | (with_reducible refine LeO.ite ?_ ?_)
      | (with_reducible refine LeO.bind ?_ (fun _ => ?_))
      | exact ih0 _ _ _ _
      | exact LeO.none _
      | refine LeO.ite ?_ ?_
      | refine LeO.bind ?_ (fun _ => ?_)
theorem spec_l3Least.mono : ∀ a0 a1 k, LeO (spec_l3Least.f k a0 a1) (spec_l3Least.f (k + 1) a0 a1) := by
  intro a0 a1 k
  have ih0 := spec_l3Least.mono_l k
  unfold spec_l3Least.f
  repeat' first
      | (with_reducible exact ih0 _ _ _ _)
      | (with_reducible exact LeO.refl _)
      | (with_reducible exact LeO.none _)
      | (with_reducible refine LeO.ite ?_ ?_)
      | (with_reducible refine LeO.bind ?_ (fun _ => ?_))
      | exact ih0 _ _ _ _
      | exact LeO.none _
      | refine LeO.ite ?_ ?_
      | refine LeO.bind ?_ (fun _ => ?_)
set_option maxHeartbeats 8000000 in
set_option maxRecDepth 100000 in
theorem spec_l3Least.calls (k : Nat) (A0 : Option Addr) (c0 : Nat) (l0 : List (S85)) (a1 : Int) (r : Int) (w : World) (hr0 : Kd.C k85 w A0 l0.length l0) (hc0 : l0.length ≤ c0) (h : spec_l3Least.f k l0 a1 = some r) :
    Calls Try.prog 73 #[.slice A0 l0.length c0, .int .i64 a1] w fun e w' => e = .returned (.int .i64 r) ∧ Drawn0 w w' := by
  have HR0 := Aside0.mk hr0
  have HC0 := Aside0.mk hc0
  clear hr0 hc0
  have H : (spec_l3Least.l0 k l0 a1 (-1) 0) = some r := h
  clear h
  have H' := Aside0.mk H
  clear H
  go_enter Try.func73, Try.ntmps73
  go_wp2
  repeat (go_quiet (fail); try go_wp2)
  go_loopg [5, 6] k (fun kq v5 v6 w' => ∃ (x5_1 : Int) (x6_1 : Int), v5 = .int .i64 x5_1 ∧ v6 = .int .i64 x6_1 ∧ Aside0 (spec_l3Least.l0 kq l0 a1 x5_1 x6_1 = some r) ∧ Aside0 (kq ≤ k) ∧ Drawn0 w w')
  case atStart => exact ⟨((-1)), (0), (by first | rfl | (simp; done) | (simp [*]; done)), (by first | rfl | (simp; done) | (simp [*]; done)), H', ⟨Nat.le_refl _⟩, by repeat (first | exact Drawn0.refl _ | apply Drawn0.step)⟩
  case round =>
    clear H'
    try clear p2
    obtain ⟨x5_1, x6_1, rfl, rfl, HA, HK1, ⟨m1, rfl⟩⟩ := hrel
    cases gk with
    | zero => exact absurd HA.out (by simp [spec_l3Least.l0])
    | succ k1 =>
      have H := HA.out
      clear HA
      simp only [spec_l3Least.l0] at H
      by_cases c3 : x6_1 < (l0.length : Int)
      · rw [if_pos c3] at H
        have c3b0 : decide (x6_1 < (l0.length : Int)) = true := decide_eq_true c3
        clear c3
        by_cases c4 : x6_1 = a1
        · rw [if_pos c4] at H
          have c4b0 : (x6_1 == a1) = true := beq_iff_eq.mpr c4
          have c4b1 : (x6_1 != a1) = false := bne_eq_false_iff_eq.mpr c4
          clear c4
          have H' := Aside0.mk H
          clear H
          go_wp2
          repeat (go_quiet (fail); try go_wp2)
          go_roundg k1
          case measure => have := HK1.out; omega
          case rel => exact ⟨(x5_1), (wrap64 (x6_1 + 1)), (by first | rfl | (simp; done) | (simp [*]; done)), (by first | rfl | (simp; done) | (simp [*]; done)), H', ⟨by have := HK1.out; omega⟩, by repeat (first | exact Drawn0.refl _ | apply Drawn0.step)⟩
        · rw [if_neg c4] at H
          have c4b0 : (x6_1 == a1) = false := beq_eq_false_iff_ne.mpr c4
          have c4b1 : (x6_1 != a1) = true := bne_iff_ne.mpr c4
          by_cases c5 : x5_1 < 0
          · rw [if_pos c5] at H
            have c5b0 : decide (x5_1 < 0) = true := decide_eq_true c5
            clear c5
            have H' := Aside0.mk H
            clear H
            go_wp2
            repeat (go_quiet (fail); try go_wp2)
            go_roundg k1
            case measure => have := HK1.out; omega
            case rel => exact ⟨(x6_1), (wrap64 (x6_1 + 1)), (by first | rfl | (simp; done) | (simp [*]; done)), (by first | rfl | (simp; done) | (simp [*]; done)), H', ⟨by have := HK1.out; omega⟩, by repeat (first | exact Drawn0.refl _ | apply Drawn0.step)⟩
          · rw [if_neg c5] at H
            have c5b0 : decide (x5_1 < 0) = false := decide_eq_false c5
            clear c5
            by_cases c6 : 0 ≤ x6_1
            · rw [if_pos c6] at H
              have c6b0 : decide (0 ≤ x6_1) = true := decide_eq_true c6
              clear c6
              by_cases c7 : 0 ≤ x5_1
              · rw [if_pos c7] at H
                have c7b0 : decide (0 ≤ x5_1) = true := decide_eq_true c7
                clear c7
                by_cases c8 : x5_1 < (l0.length : Int)
                · rw [if_pos c8] at H
                  have c8b0 : decide (x5_1 < (l0.length : Int)) = true := decide_eq_true c8
                  clear c8
                  by_cases c9 : ((rd_T85 l0 x6_1).f0) < ((rd_T85 l0 x5_1).f0)
                  · rw [if_pos c9] at H
                    have c9b0 : decide (((rd_T85 l0 x6_1).f0) < ((rd_T85 l0 x5_1).f0)) = true := decide_eq_true c9
                    clear c9
                    have H' := Aside0.mk H
                    clear H
                    have p145 : 0 ≤ (x6_1 : Int) := of_decide_eq_true (by first | (with_reducible assumption) | assumption)
                    have q145 : x6_1 < (l0.length : Int) := of_decide_eq_true (by first | (with_reducible assumption) | assumption)
                    obtain ⟨ad145, A145_1, c145_1, e145, hx145_0, hx145_1, hl145_1, hi145_1⟩ := at_T85 HR0.out x6_1 p145 q145
                    cases e145
                    have HR145_1 := Aside0.mk hi145_1
                    have HC145_1 := Aside0.mk hl145_1
                    clear hi145_1 hl145_1
                    replace p145 := eq_true p145
                    replace q145 := eq_true q145
                    have p146 : 0 ≤ (x5_1 : Int) := of_decide_eq_true (by first | (with_reducible assumption) | assumption)
                    have q146 : x5_1 < (l0.length : Int) := of_decide_eq_true (by first | (with_reducible assumption) | assumption)
                    obtain ⟨ad146, A146_1, c146_1, e146, hx146_0, hx146_1, hl146_1, hi146_1⟩ := at_T85 HR0.out x5_1 p146 q146
                    obtain rfl : ad145 = ad146 := (by injection e146)
                    have HR146_1 := Aside0.mk hi146_1
                    have HC146_1 := Aside0.mk hl146_1
                    clear hi146_1 hl146_1
                    replace p146 := eq_true p146
                    replace q146 := eq_true q146
                    go_wp2
                    repeat (go_quiet (fail); try go_wp2)
                    go_roundg k1
                    case measure => have := HK1.out; omega
                    case rel => exact ⟨(x6_1), (wrap64 (x6_1 + 1)), (by first | rfl | (simp; done) | (simp [*]; done)), (by first | rfl | (simp; done) | (simp [*]; done)), H', ⟨by have := HK1.out; omega⟩, by repeat (first | exact Drawn0.refl _ | apply Drawn0.step)⟩
                  · rw [if_neg c9] at H
                    have c9b0 : decide (((rd_T85 l0 x6_1).f0) < ((rd_T85 l0 x5_1).f0)) = false := decide_eq_false c9
                    clear c9
                    have H' := Aside0.mk H
                    clear H
                    have p145 : 0 ≤ (x6_1 : Int) := of_decide_eq_true (by first | (with_reducible assumption) | assumption)
                    have q145 : x6_1 < (l0.length : Int) := of_decide_eq_true (by first | (with_reducible assumption) | assumption)
                    obtain ⟨ad145, A145_1, c145_1, e145, hx145_0, hx145_1, hl145_1, hi145_1⟩ := at_T85 HR0.out x6_1 p145 q145
                    cases e145
                    have HR145_1 := Aside0.mk hi145_1
                    have HC145_1 := Aside0.mk hl145_1
                    clear hi145_1 hl145_1
                    replace p145 := eq_true p145
                    replace q145 := eq_true q145
                    have p146 : 0 ≤ (x5_1 : Int) := of_decide_eq_true (by first | (with_reducible assumption) | assumption)
                    have q146 : x5_1 < (l0.length : Int) := of_decide_eq_true (by first | (with_reducible assumption) | assumption)
                    obtain ⟨ad146, A146_1, c146_1, e146, hx146_0, hx146_1, hl146_1, hi146_1⟩ := at_T85 HR0.out x5_1 p146 q146
                    obtain rfl : ad145 = ad146 := (by injection e146)
                    have HR146_1 := Aside0.mk hi146_1
                    have HC146_1 := Aside0.mk hl146_1
                    clear hi146_1 hl146_1
                    replace p146 := eq_true p146
                    replace q146 := eq_true q146
                    go_wp2
                    repeat (go_quiet (fail); try go_wp2)
                    go_roundg k1
                    case measure => have := HK1.out; omega
                    case rel => exact ⟨(x5_1), (wrap64 (x6_1 + 1)), (by first | rfl | (simp; done) | (simp [*]; done)), (by first | rfl | (simp; done) | (simp [*]; done)), H', ⟨by have := HK1.out; omega⟩, by repeat (first | exact Drawn0.refl _ | apply Drawn0.step)⟩
                · rw [if_neg c8] at H
                  exact absurd H (by simp)
              · rw [if_neg c7] at H
                exact absurd H (by simp)
            · rw [if_neg c6] at H
              exact absurd H (by simp)
      · rw [if_neg c3] at H
        have c3b0 : decide (x6_1 < (l0.length : Int)) = false := decide_eq_false c3
        clear c3
        obtain rfl := Option.some.inj H
        go_wp2
        repeat (go_quiet (fail); try go_wp2)
        go_ret
        exact ⟨by first | rfl | (simp; done) | (simp [*]; done), by repeat (first | exact Drawn0.refl _ | apply Drawn0.step)⟩

end Go.Proofs.Ytgajagocenffeaa.PFnCodeGet
