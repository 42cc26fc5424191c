/- What the functions that the law comes to compute, as plain functions, and that the machine's calls come to just that: written by a program for this claim, and turned where Lean did not take it. No condition. -/
import Derived.Test.YtpjkcdgamlllgaaHFnExactTokensOutx0
import Derived.Test.YtpjkcdgamlllgaaHFnExactTokensOutx1
namespace Go.Proofs.Ytpjkcdgamlllgaa.PFnExactTokensOut
open Go.RowKit Go.Proofs.YtpjkcdgamlllgaaW.PrintWords Go.Proofs.YtpjkcdgamlllgaaW.PrintLast Go.Proofs.YtpjkcdgamlllgaaW.PrintMore
attribute [local go_sem] max2_int min2_int max_two min_two max_three min_three max_four min_four   -- for this text's walks alone
set_option linter.unusedVariables false
set_option linter.unusedSimpArgs false

/-! ### impl_TokensOut: function 18 -/
mutual
def impl_TokensOut.l0 : Nat → List Int → List (S71) → Int → Int → Option (ByteArray × Bool)
  | 0, _, _, _, _ => none
  | k + 1, x4, x9, x10, x11 => if x11 < x10 then (if 0 ≤ x11 then (if x11 < (x9.length : Int) then (if ((rd_T71 x9 x11).f1) = 0 then (if ((rd_T71 x9 x11).f2) = 0 then ((impl_in.f ((rd_T71 x9 x11).f0) 0 255).bind fun t129 => (impl_TokensOut.j1 k x4 t129 x9 x10 x11 ((rd_T71 x9 x11).f0) ((rd_T71 x9 x11).f1) ((rd_T71 x9 x11).f2))) else (impl_TokensOut.j1 k x4 false x9 x10 x11 ((rd_T71 x9 x11).f0) ((rd_T71 x9 x11).f1) ((rd_T71 x9 x11).f2))) else (impl_TokensOut.j1 k x4 false x9 x10 x11 ((rd_T71 x9 x11).f0) ((rd_T71 x9 x11).f1) ((rd_T71 x9 x11).f2))) else (none)) else (none)) else (some (strOfNums x4, true))
def impl_TokensOut.j1 : Nat → List Int → Bool → List (S71) → Int → Int → Int → Int → Int → Option (ByteArray × Bool)
  | 0, _, _, _, _, _, _, _, _ => none
  | k + 1, x4, x7, x9, x10, x11, x129000, x129001, x129002 => if x129000 = 0 then ((impl_in.f x129001 3 258).bind fun t130 => (if t130 = true then ((impl_in.f x129002 1 (x4.length : Int)).bind fun t131 => (impl_TokensOut.j2 k x4 x7 t131 x9 x10 x11 x129000 x129001 x129002)) else (impl_TokensOut.j2 k x4 x7 false x9 x10 x11 x129000 x129001 x129002))) else (impl_TokensOut.j2 k x4 x7 false x9 x10 x11 x129000 x129001 x129002)
def impl_TokensOut.j2 : Nat → List Int → Bool → Bool → List (S71) → Int → Int → Int → Int → Int → Option (ByteArray × Bool)
  | 0, _, _, _, _, _, _, _, _, _ => none
  | k + 1, x4, x7, x8, x9, x10, x11, x129000, x129001, x129002 => if x7 = true then (impl_TokensOut.j3 k x4 x7 x9 x10 x11 (decide ((wrap64 ((x4.length : Int) + (mx x129001 1))) > 5000)) x129000 x129001 x129002) else (if x8 = true then (impl_TokensOut.j3 k x4 x7 x9 x10 x11 (decide ((wrap64 ((x4.length : Int) + (mx x129001 1))) > 5000)) x129000 x129001 x129002) else (impl_TokensOut.j3 k x4 x7 x9 x10 x11 true x129000 x129001 x129002))
def impl_TokensOut.j3 : Nat → List Int → Bool → List (S71) → Int → Int → Bool → Int → Int → Int → Option (ByteArray × Bool)
  | 0, _, _, _, _, _, _, _, _, _ => none
  | k + 1, x4, x7, x9, x10, x11, x57, x129000, x129001, x129002 => if x57 = true then (some ((⟨#[]⟩ : ByteArray), false)) else (if x7 = true then (if x4.length < 140737488355328 then (impl_TokensOut.j4 k (x4 ++ [(x129000) % 256]) x9 x10 x11 x129000 x129001 x129002) else (none)) else (impl_TokensOut.j4 k x4 x9 x10 x11 x129000 x129001 x129002))
def impl_TokensOut.j4 : Nat → List Int → List (S71) → Int → Int → Int → Int → Int → Option (ByteArray × Bool)
  | 0, _, _, _, _, _, _, _ => none
  | k + 1, x4, x9, x10, x11, x129000, x129001, x129002 => impl_TokensOut.l1 k x4 x9 x10 x11 x129001 0 x129000 x129001 x129002
def impl_TokensOut.l1 : Nat → List Int → List (S71) → Int → Int → Int → Int → Int → Int → Int → Option (ByteArray × Bool)
  | 0, _, _, _, _, _, _, _, _, _ => none
  | k + 1, x4, x9, x10, x11, x66, x67, x129000, x129001, x129002 => if x67 < x66 then (if 0 ≤ (wrap64 ((x4.length : Int) - x129002)) then (if (wrap64 ((x4.length : Int) - x129002)) < (x4.length : Int) then (if x4.length < 140737488355328 then (impl_TokensOut.l1 k (x4 ++ [rd x4 (wrap64 ((x4.length : Int) - x129002))]) x9 x10 x11 x66 (wrap64 (x67 + 1)) x129000 x129001 x129002) else (none)) else (none)) else (none)) else (impl_TokensOut.l0 k x4 x9 x10 (wrap64 (x11 + 1)))
end
def impl_TokensOut.f (k : Nat) (l0 : List (S71)) : Option (ByteArray × Bool) := impl_TokensOut.l0 k ([] : List Int) l0 (l0.length : Int) 0
theorem impl_TokensOut.mono_l : ∀ k, (∀ y0 y1 y2 y3, LeO (impl_TokensOut.l0 k y0 y1 y2 y3) (impl_TokensOut.l0 (k + 1) y0 y1 y2 y3)) ∧ (∀ y0 y1 y2 y3 y4 y5 y6 y7, LeO (impl_TokensOut.j1 k y0 y1 y2 y3 y4 y5 y6 y7) (impl_TokensOut.j1 (k + 1) y0 y1 y2 y3 y4 y5 y6 y7)) ∧ (∀ y0 y1 y2 y3 y4 y5 y6 y7 y8, LeO (impl_TokensOut.j2 k y0 y1 y2 y3 y4 y5 y6 y7 y8) (impl_TokensOut.j2 (k + 1) y0 y1 y2 y3 y4 y5 y6 y7 y8)) ∧ (∀ y0 y1 y2 y3 y4 y5 y6 y7 y8, LeO (impl_TokensOut.j3 k y0 y1 y2 y3 y4 y5 y6 y7 y8) (impl_TokensOut.j3 (k + 1) y0 y1 y2 y3 y4 y5 y6 y7 y8)) ∧ (∀ y0 y1 y2 y3 y4 y5 y6, LeO (impl_TokensOut.j4 k y0 y1 y2 y3 y4 y5 y6) (impl_TokensOut.j4 (k + 1) y0 y1 y2 y3 y4 y5 y6)) ∧ (∀ y0 y1 y2 y3 y4 y5 y6 y7 y8, LeO (impl_TokensOut.l1 k y0 y1 y2 y3 y4 y5 y6 y7 y8) (impl_TokensOut.l1 (k + 1) y0 y1 y2 y3 y4 y5 y6 y7 y8))
  | 0 => ⟨fun _ _ _ _ r h => by simp [impl_TokensOut.l0] at h, fun _ _ _ _ _ _ _ _ r h => by simp [impl_TokensOut.j1] at h, fun _ _ _ _ _ _ _ _ _ r h => by simp [impl_TokensOut.j2] at h, fun _ _ _ _ _ _ _ _ _ r h => by simp [impl_TokensOut.j3] at h, fun _ _ _ _ _ _ _ r h => by simp [impl_TokensOut.j4] at h, fun _ _ _ _ _ _ _ _ _ r h => by simp [impl_TokensOut.l1] at h⟩
  | k + 1 => by
    obtain ⟨ih0, ih1, ih2, ih3, ih4, ih5⟩ := impl_TokensOut.mono_l k
    refine ⟨?_, ?_, ?_, ?_, ?_, ?_⟩
    · intro y0 y1 y2 y3
      unfold impl_TokensOut.l0
      repeat' first
      | (with_reducible exact ih0 _ _ _ _)
      | (with_reducible exact ih1 _ _ _ _ _ _ _ _)
      | (with_reducible exact ih2 _ _ _ _ _ _ _ _ _)
      | (with_reducible exact ih3 _ _ _ _ _ _ _ _ _)
      | (with_reducible exact ih4 _ _ _ _ _ _ _)
      | (with_reducible exact ih5 _ _ _ _ _ _ _ _ _)
      | (with_reducible exact LeO.refl _)
      | (with_reducible exact LeO.none _)
      | (with_reducible refine LeO.ite ?_ ?_)
      | (with_reducible refine LeO.bind ?_ (fun _ => ?_))
      | exact ih0 _ _ _ _
      | exact ih1 _ _ _ _ _ _ _ _
      | exact ih2 _ _ _ _ _ _ _ _ _
      | exact ih3 _ _ _ _ _ _ _ _ _
      | exact ih4 _ _ _ _ _ _ _
      | exact ih5 _ _ _ _ _ _ _ _ _
      | exact LeO.none _
      | refine LeO.ite ?_ ?_
      | refine LeO.bind ?_ (fun _ => ?_)
    · intro y0 y1 y2 y3 y4 y5 y6 y7
      unfold impl_TokensOut.j1
      repeat' first
      | (with_reducible exact ih0 _ _ _ _)
      | (with_reducible exact ih1 _ _ _ _ _ _ _ _)
      | (with_reducible exact ih2 _ _ _ _ _ _ _ _ _)
      | (with_reducible exact ih3 _ _ _ _ _ _ _ _ _)
      | (with_reducible exact ih4 _ _ _ _ _ _ _)
      | (with_reducible exact ih5 _ _ _ _ _ _ _ _ _)
      | (with_reducible exact LeO.refl _)
      | (with_reducible exact LeO.none _)
      | (with_reducible refine LeO.ite ?_ ?_)
      | (with_reducible refine LeO.bind ?_ (fun _ => ?_))
      | exact ih0 _ _ _ _
      | exact ih1 _ _ _ _ _ _ _ _
      | exact ih2 _ _ _ _ _ _ _ _ _
      | exact ih3 _ _ _ _ _ _ _ _ _
      | exact ih4 _ _ _ _ _ _ _
      | exact ih5 _ _ _ _ _ _ _ _ _
      | exact LeO.none _
      | refine LeO.ite ?_ ?_
      | refine LeO.bind ?_ (fun _ => ?_)
    · intro y0 y1 y2 y3 y4 y5 y6 y7 y8
      unfold impl_TokensOut.j2
      repeat' first
      | (with_reducible exact ih0 _ _ _ _)
      | (with_reducible exact ih1 _ _ _ _ _ _ _ _)
      | (with_reducible exact ih2 _ _ _ _ _ _ _ _ _)
      | (with_reducible exact ih3 _ _ _ _ _ _ _ _ _)
      | (with_reducible exact ih4 _ _ _ _ _ _ _)
      | (with_reducible exact ih5 _ _ _ _ _ _ _ _ _)
      | (with_reducible exact LeO.refl _)
      | (with_reducible exact LeO.none _)
      | (with_reducible refine LeO.ite ?_ ?_)
      | (with_reducible refine LeO.bind ?_ (fun _ => ?_))
      | exact ih0 _ _ _ _
      | exact ih1 _ _ _ _ _ _ _ _
      | exact ih2 _ _ _ _ _ _ _ _ _
      | exact ih3 _ _ _ _ _ _ _ _ _
      | exact ih4 _ _ _ _ _ _ _
      | exact ih5 _ _ _ _ _ _ _ _ _
      | exact LeO.none _
      | refine LeO.ite ?_ ?_
      | refine LeO.bind ?_ (fun _ => ?_)
    · intro y0 y1 y2 y3 y4 y5 y6 y7 y8
      unfold impl_TokensOut.j3
      repeat' first
      | (with_reducible exact ih0 _ _ _ _)
      | (with_reducible exact ih1 _ _ _ _ _ _ _ _)
      | (with_reducible exact ih2 _ _ _ _ _ _ _ _ _)
      | (with_reducible exact ih3 _ _ _ _ _ _ _ _ _)
      | (with_reducible exact ih4 _ _ _ _ _ _ _)
      | (with_reducible exact ih5 _ _ _ _ _ _ _ _ _)
      | (with_reducible exact LeO.refl _)
      | (with_reducible exact LeO.none _)
      | (with_reducible refine LeO.ite ?_ ?_)
      | (with_reducible refine LeO.bind ?_ (fun _ => ?_))
      | exact ih0 _ _ _ _
      | exact ih1 _ _ _ _ _ _ _ _
      | exact ih2 _ _ _ _ _ _ _ _ _
      | exact ih3 _ _ _ _ _ _ _ _ _
      | exact ih4 _ _ _ _ _ _ _
      | exact ih5 _ _ _ _ _ _ _ _ _
      | exact LeO.none _
      | refine LeO.ite ?_ ?_
      | refine LeO.bind ?_ (fun _ => ?_)
    · intro y0 y1 y2 y3 y4 y5 y6
      unfold impl_TokensOut.j4
      repeat' first
      | (with_reducible exact ih0 _ _ _ _)
      | (with_reducible exact ih1 _ _ _ _ _ _ _ _)
      | (with_reducible exact ih2 _ _ _ _ _ _ _ _ _)
      | (with_reducible exact ih3 _ _ _ _ _ _ _ _ _)
      | (with_reducible exact ih4 _ _ _ _ _ _ _)
      | (with_reducible exact ih5 _ _ _ _ _ _ _ _ _)
      | (with_reducible exact LeO.refl _)
      | (with_reducible exact LeO.none _)
      | (with_reducible refine LeO.ite ?_ ?_)
      | (with_reducible refine LeO.bind ?_ (fun _ => ?_))
      | exact ih0 _ _ _ _
      | exact ih1 _ _ _ _ _ _ _ _
      | exact ih2 _ _ _ _ _ _ _ _ _
      | exact ih3 _ _ _ _ _ _ _ _ _
      | exact ih4 _ _ _ _ _ _ _
      | exact ih5 _ _ _ _ _ _ _ _ _
      | exact LeO.none _
      | refine LeO.ite ?_ ?_
      | refine LeO.bind ?_ (fun _ => ?_)
    · intro y0 y1 y2 y3 y4 y5 y6 y7 y8
      unfold impl_TokensOut.l1
      repeat' first
      | (with_reducible exact ih0 _ _ _ _)
      | (with_reducible exact ih1 _ _ _ _ _ _ _ _)
      | (with_reducible exact ih2 _ _ _ _ _ _ _ _ _)
      | (with_reducible exact ih3 _ _ _ _ _ _ _ _ _)
      | (with_reducible exact ih4 _ _ _ _ _ _ _)
      | (with_reducible exact ih5 _ _ _ _ _ _ _ _ _)
      | (with_reducible exact LeO.refl _)
      | (with_reducible exact LeO.none _)
      | (with_reducible refine LeO.ite ?_ ?_)
      | (with_reducible refine LeO.bind ?_ (fun _ => ?_))
      | exact ih0 _ _ _ _
      | exact ih1 _ _ _ _ _ _ _ _
      | exact ih2 _ _ _ _ _ _ _ _ _
      | exact ih3 _ _ _ _ _ _ _ _ _
      | exact ih4 _ _ _ _ _ _ _
      | exact ih5 _ _ _ _ _ _ _ _ _
      | exact LeO.none _
      | refine LeO.ite ?_ ?_
      | refine LeO.bind ?_ (fun _ => ?_)
theorem impl_TokensOut.mono : ∀ a0 k, LeO (impl_TokensOut.f k a0) (impl_TokensOut.f (k + 1) a0) := by
  intro a0 k
  obtain ⟨ih0, ih1, ih2, ih3, ih4, ih5⟩ := impl_TokensOut.mono_l k
  unfold impl_TokensOut.f
  repeat' first
      | (with_reducible exact ih0 _ _ _ _)
      | (with_reducible exact ih1 _ _ _ _ _ _ _ _)
      | (with_reducible exact ih2 _ _ _ _ _ _ _ _ _)
      | (with_reducible exact ih3 _ _ _ _ _ _ _ _ _)
      | (with_reducible exact ih4 _ _ _ _ _ _ _)
      | (with_reducible exact ih5 _ _ _ _ _ _ _ _ _)
      | (with_reducible exact LeO.refl _)
      | (with_reducible exact LeO.none _)
      | (with_reducible refine LeO.ite ?_ ?_)
      | (with_reducible refine LeO.bind ?_ (fun _ => ?_))
      | exact ih0 _ _ _ _
      | exact ih1 _ _ _ _ _ _ _ _
      | exact ih2 _ _ _ _ _ _ _ _ _
      | exact ih3 _ _ _ _ _ _ _ _ _
      | exact ih4 _ _ _ _ _ _ _
      | exact ih5 _ _ _ _ _ _ _ _ _
      | exact LeO.none _
      | refine LeO.ite ?_ ?_
      | refine LeO.bind ?_ (fun _ => ?_)
set_option maxHeartbeats 8000000 in
set_option maxRecDepth 100000 in
theorem impl_TokensOut.calls (k : Nat) (A0 : Option Addr) (c0 : Nat) (l0 : List (S71)) (r1 : ByteArray) (r2 : Bool) (w : World) (hr0 : Kd.C k71 w A0 l0.length l0) (hc0 : l0.length ≤ c0) (h : impl_TokensOut.f k l0 = some (r1, r2)) :
    Calls Try.prog 18 #[.slice A0 l0.length c0] w fun e w' => e = .returned (.tuple #[.string r1, .bool r2]) ∧ Below w.heap.size w w' := by
  have hu71 := Try.underlying71
  have HR0 := Aside0.mk hr0
  have HC0 := Aside0.mk hc0
  clear hr0 hc0
  have HB := Aside0.mk (Below.refl w.heap.size w)
  have H : (impl_TokensOut.l0 k ([] : List Int) l0 (l0.length : Int) 0) = some (r1, r2) := h
  clear h
  have H' := Aside0.mk H
  clear H
  go_enter Try.func18, Try.ntmps18
  go_wp2
  go_loopg [4, 11] k (fun kq v4 v11 w' => ∃ (x4_1 : List Int) (x11_1 : Int), v11 = .int .i64 x11_1 ∧ Aside0 (impl_TokensOut.l0 kq x4_1 l0 (l0.length : Int) x11_1 = some (r1, r2)) ∧ Aside0 (kq ≤ k) ∧ Aside0 (Kd.R (Kd.int .u8) 5 w' w.heap.size (fun _ => True) v4 x4_1) ∧ Aside0 (Below w.heap.size w w'))
  case atStart => exact ⟨(([] : List Int)), (0), (by first | rfl | (simp; done) | (simp [*]; done)), H', ⟨Nat.le_refl _⟩, ⟨by first | exact Kd.R_nil _ _ _ _ _ | exact Kd.N_nil _ _ _ _ _ | exact Kd.V_nil _ _ _ _ _ | exact Kd.Q_nil _ _ _ _ _ | exact Kd.S_nil _ _ _ _ _⟩, ⟨by repeat (first | (with_reducible first | exact HB.out | apply below_alloc | apply pw_below_drewN | apply below_drew1) | exact HB.out)⟩⟩
  case round =>
    clear H'
    try clear c1
    obtain ⟨x4_1, x11_1, rfl, HA, HK1, HO_4, HB⟩ := hrel
    cases gk with
    | zero => exact absurd HA.out (by simp [impl_TokensOut.l0])
    | succ k1 =>
      have H := HA.out
      clear HA
      simp only [impl_TokensOut.l0] at H
      by_cases c2 : x11_1 < (l0.length : Int)
      · rw [if_pos c2] at H
        have c2b0 : decide (x11_1 < (l0.length : Int)) = true := decide_eq_true c2
        clear c2
        by_cases c3 : 0 ≤ x11_1
        · rw [if_pos c3] at H
          have c3b0 : decide (0 ≤ x11_1) = true := decide_eq_true c3
          clear c3
          by_cases c4 : x11_1 < (l0.length : Int)
          · rw [if_pos c4] at H
            have c4b0 : decide (x11_1 < (l0.length : Int)) = true := decide_eq_true c4
            clear c4
            have HC5 := Aside0.mk H
            clear H
            have p127 : 0 ≤ (x11_1 : Int) := of_decide_eq_true (by first | (with_reducible assumption) | assumption)
            have q127 : x11_1 < (l0.length : Int) := of_decide_eq_true (by first | (with_reducible assumption) | assumption)
            obtain ⟨ad127, e127, hx127_0, hx127_1, hx127_2⟩ := at_T71 HR0.out x11_1 p127 q127
            cases e127
            replace hx127_0 := (HB.out.cell (World.block_lt_of_cell? w _ hx127_0)).trans hx127_0
            replace hx127_1 := (HB.out.cell (World.block_lt_of_cell? w _ hx127_1)).trans hx127_1
            replace hx127_2 := (HB.out.cell (World.block_lt_of_cell? w _ hx127_2)).trans hx127_2
            replace p127 := eq_true p127
            replace q127 := eq_true q127
            go_upto_region 5 with (first | ((with_reducible refine gate_dst (N := 6) rfl ?_); (try (refine gate_guard (by rfl) ?_; dsimp only)); refine box_event ?hg (N := 6) ?hd (cs := #[.int .i64 0, .int .i64 0, .int .i64 0]) (t := 71) ?hr ?_; (case hd => rfl); (case hg => rfl); (case hr => first | (go_simp; done) | (go_simp; rfl)); intro gb128 hg w6 hbox hb; have n0_ := Aside0.mk (Kd.R_below (by (with_reducible repeat (first | apply Kd.R_alloc | apply Kd.R_drewN | apply Kd.R_drew)); exact HO_4.out) hb); have n1_ := Aside0.mk (below_step (by repeat (first | (with_reducible first | exact HB.out | apply below_alloc | apply pw_below_drewN | apply below_drew1) | exact HB.out)) hb); have n2_ := Aside0.mk (hbox); have n3_ := Aside0.mk ((by rw [hg]; exact (below_size (by repeat (first | (with_reducible first | exact HB.out | apply below_alloc | apply pw_below_drewN | apply below_drew1) | exact HB.out))) : w.heap.size ≤ gb128)); have n4_ := Aside0.mk ((by rw [hg]; exact (below_size (by repeat (first | (with_reducible first | exact HB.out | apply below_alloc | apply pw_below_drewN | apply below_drew1) | exact HB.out))) : w.heap.size ≤ gb128)); clear HO_4; clear HB; have HO_4 := n0_; have HB := n1_; have BK128 := n2_; have GW128 := n3_; have GE128 := n4_; clear n0_ n1_ n2_ n3_ n4_; clear hb hbox hg; have hcz7_0 : w6.cell? ⟨gb128, 0, none⟩ = some (.int .i64 0) := (blk_cell BK128.out 0).trans rfl; have hcz7_1 : w6.cell? ⟨gb128, 1, none⟩ = some (.int .i64 0) := (blk_cell BK128.out 1).trans rfl; have hcz7_2 : w6.cell? ⟨gb128, 2, none⟩ = some (.int .i64 0) := (blk_cell BK128.out 2).trans rfl; have hfz7_0 := blk_frozen BK128.out 0; have hfz7_1 := blk_frozen BK128.out 1; have hfz7_2 := blk_frozen BK128.out 2))
            (try simp only [Act.put, List.setIfInBounds_toArray, List.set_cons_zero, List.set_cons_succ])
            go_cut [7] (fun v7 wc => ∃ (kq : Nat) (x7_4 : Bool), v7 = .bool x7_4 ∧ Aside0 (impl_TokensOut.j1 kq x4_1 x7_4 l0 (l0.length : Int) x11_1 ((rd_T71 l0 x11_1).f0) ((rd_T71 l0 x11_1).f1) ((rd_T71 l0 x11_1).f2) = some (r1, r2)) ∧ Aside0 (kq ≤ k1) ∧ Aside0 (Kd.R (Kd.int .u8) 5 wc w.heap.size (fun _ => True) u4 x4_1) ∧ Aside0 (wc.heap[gb128]? = some (.cells #[.int .i64 ((rd_T71 l0 x11_1).f0), .int .i64 ((rd_T71 l0 x11_1).f1), .int .i64 ((rd_T71 l0 x11_1).f2)] 71 (0, 0))) ∧ Aside0 (Below w.heap.size w wc))
            case first =>
              have H := HC5.out
              clear HC5
              by_cases c8 : ((rd_T71 l0 x11_1).f1) = 0
              · rw [if_pos c8] at H
                have c8b0 : (((rd_T71 l0 x11_1).f1) == 0) = true := beq_iff_eq.mpr c8
                have c8b1 : (((rd_T71 l0 x11_1).f1) != 0) = false := bne_eq_false_iff_eq.mpr c8
                clear c8
                (first | rw [c8b0] | (simp only [i64_w, i32_w]; rw [c8b0]) | skip)
                by_cases c9 : ((rd_T71 l0 x11_1).f2) = 0
                · rw [if_pos c9] at H
                  have c9b0 : (((rd_T71 l0 x11_1).f2) == 0) = true := beq_iff_eq.mpr c9
                  have c9b1 : (((rd_T71 l0 x11_1).f2) != 0) = false := bne_eq_false_iff_eq.mpr c9
                  clear c9
                  replace H := Option.bind_eq_some_iff.mp H
                  obtain ⟨t129, A100, H⟩ := H
                  replace H : (impl_TokensOut.j1 k1 x4_1 t129 l0 (l0.length : Int) x11_1 ((rd_T71 l0 x11_1).f0) ((rd_T71 l0 x11_1).f1) ((rd_T71 l0 x11_1).f2)) = some (r1, r2) := H
                  have A10 := Aside0.mk A100
                  clear A100
                  have H' := Aside0.mk H
                  clear H
                  have hcz11_0 : w6.cell? ⟨gb128, 0, none⟩ = some (.int .i64 0) := (blk_cell BK128.out 0).trans rfl
                  have hcz11_1 : w6.cell? ⟨gb128, 1, none⟩ = some (.int .i64 0) := (blk_cell BK128.out 1).trans rfl
                  have hcz11_2 : w6.cell? ⟨gb128, 2, none⟩ = some (.int .i64 0) := (blk_cell BK128.out 2).trans rfl
                  have hfz11_0 := blk_frozen BK128.out 0
                  have hfz11_1 := blk_frozen BK128.out 1
                  have hfz11_2 := blk_frozen BK128.out 2
                  go_wp2_with (first | (go_at_call 59; (with_reducible refine (impl_in.calls ((rd_T71 l0 x11_1).f0) 0 255 t129 _ A10.out).mono ?_); rintro e w' ⟨rfl, ⟨nd, rfl⟩⟩))
                  go_meet
                  case rel => exact ⟨_, (t129), (by first | rfl | (simp; done) | (simp [*]; done)), H', ⟨by have := HK1.out; first | omega | exact Nat.le_refl _⟩, ⟨by (with_reducible repeat (first | apply Kd.R_alloc | apply Kd.R_drewN | apply Kd.R_drew)); exact Kd.R_mono (Kd.R_far (p := ⟨gb128, 2, none⟩) (Kd.R_far (p := ⟨gb128, 1, none⟩) (Kd.R_far (p := ⟨gb128, 0, none⟩) (Kd.R_types HO_4.out BK128.out (by decide)) (fun _ hk => hk.2) (.int .i64 ((rd_T71 l0 x11_1).f0))) (fun _ hk => hk.2) (.int .i64 ((rd_T71 l0 x11_1).f1))) (fun _ hk => hk.2) (.int .i64 ((rd_T71 l0 x11_1).f2))) (fun _ hk => trivial)⟩, ⟨by (with_reducible repeat (first | refine blk_drewN ?_ _ | refine blk_drew ?_ | refine blk_alloc ?_ _)); refine blk_put (cs := #[.int .i64 ((rd_T71 l0 x11_1).f0), .int .i64 ((rd_T71 l0 x11_1).f1), .int .i64 0]) ?_ 2 _ rfl; (with_reducible repeat (first | refine blk_drewN ?_ _ | refine blk_drew ?_ | refine blk_alloc ?_ _)); refine blk_put (cs := #[.int .i64 ((rd_T71 l0 x11_1).f0), .int .i64 0, .int .i64 0]) ?_ 1 _ rfl; (with_reducible repeat (first | refine blk_drewN ?_ _ | refine blk_drew ?_ | refine blk_alloc ?_ _)); refine blk_put (cs := #[.int .i64 0, .int .i64 0, .int .i64 0]) ?_ 0 _ rfl; (with_reducible repeat (first | refine blk_drewN ?_ _ | refine blk_drew ?_ | refine blk_alloc ?_ _)); exact BK128.out⟩, ⟨by repeat (first | (with_reducible first | exact HB.out | apply below_alloc | apply pw_below_drewN | apply below_drew1 | refine below_set ?_ GE128.out) | exact HB.out)⟩⟩
                · rw [if_neg c9] at H
                  have c9b0 : (((rd_T71 l0 x11_1).f2) == 0) = false := beq_eq_false_iff_ne.mpr c9
                  have c9b1 : (((rd_T71 l0 x11_1).f2) != 0) = true := bne_iff_ne.mpr c9
                  have H' := Aside0.mk H
                  clear H
                  have hcz12_0 : w6.cell? ⟨gb128, 0, none⟩ = some (.int .i64 0) := (blk_cell BK128.out 0).trans rfl
                  have hcz12_1 : w6.cell? ⟨gb128, 1, none⟩ = some (.int .i64 0) := (blk_cell BK128.out 1).trans rfl
                  have hcz12_2 : w6.cell? ⟨gb128, 2, none⟩ = some (.int .i64 0) := (blk_cell BK128.out 2).trans rfl
                  have hfz12_0 := blk_frozen BK128.out 0
                  have hfz12_1 := blk_frozen BK128.out 1
                  have hfz12_2 := blk_frozen BK128.out 2
                  go_wp2
                  go_meet
                  case rel => exact ⟨_, (false), (by first | rfl | (simp; done) | (simp [*]; done)), H', ⟨by have := HK1.out; first | omega | exact Nat.le_refl _⟩, ⟨by (with_reducible repeat (first | apply Kd.R_alloc | apply Kd.R_drewN | apply Kd.R_drew)); exact Kd.R_mono (Kd.R_far (p := ⟨gb128, 2, none⟩) (Kd.R_far (p := ⟨gb128, 1, none⟩) (Kd.R_far (p := ⟨gb128, 0, none⟩) (Kd.R_types HO_4.out BK128.out (by decide)) (fun _ hk => hk.2) (.int .i64 ((rd_T71 l0 x11_1).f0))) (fun _ hk => hk.2) (.int .i64 ((rd_T71 l0 x11_1).f1))) (fun _ hk => hk.2) (.int .i64 ((rd_T71 l0 x11_1).f2))) (fun _ hk => trivial)⟩, ⟨by (with_reducible repeat (first | refine blk_drewN ?_ _ | refine blk_drew ?_ | refine blk_alloc ?_ _)); refine blk_put (cs := #[.int .i64 ((rd_T71 l0 x11_1).f0), .int .i64 ((rd_T71 l0 x11_1).f1), .int .i64 0]) ?_ 2 _ rfl; (with_reducible repeat (first | refine blk_drewN ?_ _ | refine blk_drew ?_ | refine blk_alloc ?_ _)); refine blk_put (cs := #[.int .i64 ((rd_T71 l0 x11_1).f0), .int .i64 0, .int .i64 0]) ?_ 1 _ rfl; (with_reducible repeat (first | refine blk_drewN ?_ _ | refine blk_drew ?_ | refine blk_alloc ?_ _)); refine blk_put (cs := #[.int .i64 0, .int .i64 0, .int .i64 0]) ?_ 0 _ rfl; (with_reducible repeat (first | refine blk_drewN ?_ _ | refine blk_drew ?_ | refine blk_alloc ?_ _)); exact BK128.out⟩, ⟨by repeat (first | (with_reducible first | exact HB.out | apply below_alloc | apply pw_below_drewN | apply below_drew1 | refine below_set ?_ GE128.out) | exact HB.out)⟩⟩
              · rw [if_neg c8] at H
                have c8b0 : (((rd_T71 l0 x11_1).f1) == 0) = false := beq_eq_false_iff_ne.mpr c8
                have c8b1 : (((rd_T71 l0 x11_1).f1) != 0) = true := bne_iff_ne.mpr c8
                (first | rw [c8b0] | (simp only [i64_w, i32_w]; rw [c8b0]) | skip)
                have H' := Aside0.mk H
                clear H
                have hcz13_0 : w6.cell? ⟨gb128, 0, none⟩ = some (.int .i64 0) := (blk_cell BK128.out 0).trans rfl
                have hcz13_1 : w6.cell? ⟨gb128, 1, none⟩ = some (.int .i64 0) := (blk_cell BK128.out 1).trans rfl
                have hcz13_2 : w6.cell? ⟨gb128, 2, none⟩ = some (.int .i64 0) := (blk_cell BK128.out 2).trans rfl
                have hfz13_0 := blk_frozen BK128.out 0
                have hfz13_1 := blk_frozen BK128.out 1
                have hfz13_2 := blk_frozen BK128.out 2
                go_wp2
                go_meet
                case rel => exact ⟨_, (false), (by first | rfl | (simp; done) | (simp [*]; done)), H', ⟨by have := HK1.out; first | omega | exact Nat.le_refl _⟩, ⟨by (with_reducible repeat (first | apply Kd.R_alloc | apply Kd.R_drewN | apply Kd.R_drew)); exact Kd.R_mono (Kd.R_far (p := ⟨gb128, 2, none⟩) (Kd.R_far (p := ⟨gb128, 1, none⟩) (Kd.R_far (p := ⟨gb128, 0, none⟩) (Kd.R_types HO_4.out BK128.out (by decide)) (fun _ hk => hk.2) (.int .i64 ((rd_T71 l0 x11_1).f0))) (fun _ hk => hk.2) (.int .i64 ((rd_T71 l0 x11_1).f1))) (fun _ hk => hk.2) (.int .i64 ((rd_T71 l0 x11_1).f2))) (fun _ hk => trivial)⟩, ⟨by (with_reducible repeat (first | refine blk_drewN ?_ _ | refine blk_drew ?_ | refine blk_alloc ?_ _)); refine blk_put (cs := #[.int .i64 ((rd_T71 l0 x11_1).f0), .int .i64 ((rd_T71 l0 x11_1).f1), .int .i64 0]) ?_ 2 _ rfl; (with_reducible repeat (first | refine blk_drewN ?_ _ | refine blk_drew ?_ | refine blk_alloc ?_ _)); refine blk_put (cs := #[.int .i64 ((rd_T71 l0 x11_1).f0), .int .i64 0, .int .i64 0]) ?_ 1 _ rfl; (with_reducible repeat (first | refine blk_drewN ?_ _ | refine blk_drew ?_ | refine blk_alloc ?_ _)); refine blk_put (cs := #[.int .i64 0, .int .i64 0, .int .i64 0]) ?_ 0 _ rfl; (with_reducible repeat (first | refine blk_drewN ?_ _ | refine blk_drew ?_ | refine blk_alloc ?_ _)); exact BK128.out⟩, ⟨by repeat (first | (with_reducible first | exact HB.out | apply below_alloc | apply pw_below_drewN | apply below_drew1 | refine below_set ?_ GE128.out) | exact HB.out)⟩⟩
            case rest =>
              clear HC5
              try clear c1
              try clear p1
              try clear q1
              try clear hx1
              try clear c2
              try clear c2b0
              try clear p2
              try clear c3
              try clear c3b0
              try clear c4
              try clear c4b0
              try clear c8
              try clear c8b0
              try clear c8b1
              try clear c9
              try clear c9b0
              try clear c9b1
              try clear p12
              try clear q12
              try clear hx12
              try clear hcz11_0
              try clear hcz11_1
              try clear hcz11_2
              try clear hcz12_0
              try clear hcz12_1
              try clear hcz12_2
              try clear hcz13_0
              try clear hcz13_1
              try clear hcz13_2
              try clear hcz7_0
              try clear hcz7_1
              try clear hcz7_2
              try clear hfz11_0
              try clear hfz11_1
              try clear hfz11_2
              try clear hfz12_0
              try clear hfz12_1
              try clear hfz12_2
              try clear hfz13_0
              try clear hfz13_1
              try clear hfz13_2
              try clear hfz7_0
              try clear hfz7_1
              try clear hfz7_2
              try clear hx127_0
              try clear hx127_1
              try clear hx127_2
              try clear p127
              try clear q127
              obtain ⟨kq, x7_4, rfl, HA, HJ4, HO_4, BK128, HB⟩ := hcut
              cases kq with
              | zero => exact absurd HA.out (by simp [impl_TokensOut.j1])
              | succ kj4 =>
                have H := HA.out
                clear HA
                simp only [impl_TokensOut.j1] at H
                have HC14 := Aside0.mk H
                clear H
                go_upto_region 6 with (fail)
                go_cut [8] (fun v8 wc => ∃ (kq : Nat) (x8_13 : Bool), v8 = .bool x8_13 ∧ Aside0 (impl_TokensOut.j2 kq x4_1 x7_4 x8_13 l0 (l0.length : Int) x11_1 ((rd_T71 l0 x11_1).f0) ((rd_T71 l0 x11_1).f1) ((rd_T71 l0 x11_1).f2) = some (r1, r2)) ∧ Aside0 (kq ≤ kj4) ∧ Aside0 (Kd.R (Kd.int .u8) 5 wc w.heap.size (fun _ => True) u4 x4_1) ∧ Aside0 (wc.heap[gb128]? = some (.cells #[.int .i64 ((rd_T71 l0 x11_1).f0), .int .i64 ((rd_T71 l0 x11_1).f1), .int .i64 ((rd_T71 l0 x11_1).f2)] 71 (0, 0))) ∧ Aside0 (Below w.heap.size w wc))
                case first =>
                  have H := HC14.out
                  clear HC14
                  by_cases c15 : ((rd_T71 l0 x11_1).f0) = 0
                  · rw [if_pos c15] at H
                    have c15b0 : (((rd_T71 l0 x11_1).f0) == 0) = true := beq_iff_eq.mpr c15
                    have c15b1 : (((rd_T71 l0 x11_1).f0) != 0) = false := bne_eq_false_iff_eq.mpr c15
                    clear c15
                    (first | rw [c15b0] | (simp only [i64_w, i32_w]; rw [c15b0]) | skip)
                    replace H := Option.bind_eq_some_iff.mp H
                    obtain ⟨t130, A160, H⟩ := H
                    replace H : (if t130 = true then ((impl_in.f ((rd_T71 l0 x11_1).f2) 1 (x4_1.length : Int)).bind fun t131 => (impl_TokensOut.j2 kj4 x4_1 x7_4 t131 l0 (l0.length : Int) x11_1 ((rd_T71 l0 x11_1).f0) ((rd_T71 l0 x11_1).f1) ((rd_T71 l0 x11_1).f2))) else (impl_TokensOut.j2 kj4 x4_1 x7_4 false l0 (l0.length : Int) x11_1 ((rd_T71 l0 x11_1).f0) ((rd_T71 l0 x11_1).f1) ((rd_T71 l0 x11_1).f2))) = some (r1, r2) := H
                    have A16 := Aside0.mk A160
                    clear A160
                    by_cases c17 : t130 = true
                    · subst c17
                      have H1 : ((impl_in.f ((rd_T71 l0 x11_1).f2) 1 (x4_1.length : Int)).bind fun t131 => (impl_TokensOut.j2 kj4 x4_1 x7_4 t131 l0 (l0.length : Int) x11_1 ((rd_T71 l0 x11_1).f0) ((rd_T71 l0 x11_1).f1) ((rd_T71 l0 x11_1).f2))) = some (r1, r2) := by rw [if_pos rfl] at H; exact H
                      clear H
                      have H := H1
                      clear H1
                      replace H := Option.bind_eq_some_iff.mp H
                      obtain ⟨t131, A180, H⟩ := H
                      replace H : (impl_TokensOut.j2 kj4 x4_1 x7_4 t131 l0 (l0.length : Int) x11_1 ((rd_T71 l0 x11_1).f0) ((rd_T71 l0 x11_1).f1) ((rd_T71 l0 x11_1).f2)) = some (r1, r2) := H
                      have A18 := Aside0.mk A180
                      clear A180
                      have H' := Aside0.mk H
                      clear H
                      have hcz19_0 : wc.cell? ⟨gb128, 0, none⟩ = some (.int .i64 ((rd_T71 l0 x11_1).f0)) := (blk_cell BK128.out 0).trans rfl
                      have hcz19_1 : wc.cell? ⟨gb128, 1, none⟩ = some (.int .i64 ((rd_T71 l0 x11_1).f1)) := (blk_cell BK128.out 1).trans rfl
                      have hcz19_2 : wc.cell? ⟨gb128, 2, none⟩ = some (.int .i64 ((rd_T71 l0 x11_1).f2)) := (blk_cell BK128.out 2).trans rfl
                      have hfz19_0 := blk_frozen BK128.out 0
                      have hfz19_1 := blk_frozen BK128.out 1
                      have hfz19_2 := blk_frozen BK128.out 2
                      go_wp2_with (first | (go_at_call 59; (with_reducible refine (impl_in.calls ((rd_T71 l0 x11_1).f1) 3 258 true _ A16.out).mono ?_); rintro e w' ⟨rfl, ⟨nd, rfl⟩⟩; obtain ⟨Ao20, co20, eo20⟩ := Kd.R_slice HO_4.out; subst eo20) | (go_at_call 59; (with_reducible refine (impl_in.calls ((rd_T71 l0 x11_1).f2) 1 (x4_1.length : Int) t131 _ A18.out).mono ?_); rintro e w' ⟨rfl, ⟨nd, rfl⟩⟩))
                      go_meet
                      case rel => exact ⟨_, (t131), (by first | rfl | (simp; done) | (simp [*]; done)), H', ⟨by have := HK1.out; have := HJ4.out; first | omega | exact Nat.le_refl _⟩, ⟨by (with_reducible repeat (first | apply Kd.R_alloc | apply Kd.R_drewN | apply Kd.R_drew)); exact HO_4.out⟩, ⟨by (with_reducible repeat (first | refine blk_drewN ?_ _ | refine blk_drew ?_ | refine blk_alloc ?_ _)); exact BK128.out⟩, ⟨by repeat (first | (with_reducible first | exact HB.out | apply below_alloc | apply pw_below_drewN | apply below_drew1 | refine below_set ?_ GE128.out) | exact HB.out)⟩⟩
                    · replace c17 := Bool.eq_false_iff.mpr c17
                      subst c17
                      have H1 : (impl_TokensOut.j2 kj4 x4_1 x7_4 false l0 (l0.length : Int) x11_1 ((rd_T71 l0 x11_1).f0) ((rd_T71 l0 x11_1).f1) ((rd_T71 l0 x11_1).f2)) = some (r1, r2) := by rw [if_neg (show ¬ (false = true) by decide)] at H; exact H
                      clear H
                      have H := H1
                      clear H1
                      have H' := Aside0.mk H
                      clear H
                      have hcz21_0 : wc.cell? ⟨gb128, 0, none⟩ = some (.int .i64 ((rd_T71 l0 x11_1).f0)) := (blk_cell BK128.out 0).trans rfl
                      have hcz21_1 : wc.cell? ⟨gb128, 1, none⟩ = some (.int .i64 ((rd_T71 l0 x11_1).f1)) := (blk_cell BK128.out 1).trans rfl
                      have hcz21_2 : wc.cell? ⟨gb128, 2, none⟩ = some (.int .i64 ((rd_T71 l0 x11_1).f2)) := (blk_cell BK128.out 2).trans rfl
                      have hfz21_0 := blk_frozen BK128.out 0
                      have hfz21_1 := blk_frozen BK128.out 1
                      have hfz21_2 := blk_frozen BK128.out 2
                      go_wp2_with (first | (go_at_call 59; (with_reducible refine (impl_in.calls ((rd_T71 l0 x11_1).f1) 3 258 false _ A16.out).mono ?_); rintro e w' ⟨rfl, ⟨nd, rfl⟩⟩))
                      go_meet
                      case rel => exact ⟨_, (false), (by first | rfl | (simp; done) | (simp [*]; done)), H', ⟨by have := HK1.out; have := HJ4.out; first | omega | exact Nat.le_refl _⟩, ⟨by (with_reducible repeat (first | apply Kd.R_alloc | apply Kd.R_drewN | apply Kd.R_drew)); exact HO_4.out⟩, ⟨by (with_reducible repeat (first | refine blk_drewN ?_ _ | refine blk_drew ?_ | refine blk_alloc ?_ _)); exact BK128.out⟩, ⟨by repeat (first | (with_reducible first | exact HB.out | apply below_alloc | apply pw_below_drewN | apply below_drew1 | refine below_set ?_ GE128.out) | exact HB.out)⟩⟩
                  · rw [if_neg c15] at H
                    have c15b0 : (((rd_T71 l0 x11_1).f0) == 0) = false := beq_eq_false_iff_ne.mpr c15
                    have c15b1 : (((rd_T71 l0 x11_1).f0) != 0) = true := bne_iff_ne.mpr c15
                    (first | rw [c15b0] | (simp only [i64_w, i32_w]; rw [c15b0]) | skip)
                    have H' := Aside0.mk H
                    clear H
                    have hcz22_0 : wc.cell? ⟨gb128, 0, none⟩ = some (.int .i64 ((rd_T71 l0 x11_1).f0)) := (blk_cell BK128.out 0).trans rfl
                    have hcz22_1 : wc.cell? ⟨gb128, 1, none⟩ = some (.int .i64 ((rd_T71 l0 x11_1).f1)) := (blk_cell BK128.out 1).trans rfl
                    have hcz22_2 : wc.cell? ⟨gb128, 2, none⟩ = some (.int .i64 ((rd_T71 l0 x11_1).f2)) := (blk_cell BK128.out 2).trans rfl
                    have hfz22_0 := blk_frozen BK128.out 0
                    have hfz22_1 := blk_frozen BK128.out 1
                    have hfz22_2 := blk_frozen BK128.out 2
                    go_wp2
                    go_meet
                    case rel => exact ⟨_, (false), (by first | rfl | (simp; done) | (simp [*]; done)), H', ⟨by have := HK1.out; have := HJ4.out; first | omega | exact Nat.le_refl _⟩, ⟨by (with_reducible repeat (first | apply Kd.R_alloc | apply Kd.R_drewN | apply Kd.R_drew)); exact HO_4.out⟩, ⟨by (with_reducible repeat (first | refine blk_drewN ?_ _ | refine blk_drew ?_ | refine blk_alloc ?_ _)); exact BK128.out⟩, ⟨by repeat (first | (with_reducible first | exact HB.out | apply below_alloc | apply pw_below_drewN | apply below_drew1 | refine below_set ?_ GE128.out) | exact HB.out)⟩⟩
                case rest =>
                  clear HC14
                  try clear c1
                  try clear p1
                  try clear q1
                  try clear hx1
                  try clear c2
                  try clear c2b0
                  try clear p2
                  try clear c3
                  try clear c3b0
                  try clear c4
                  try clear c4b0
                  try clear c8
                  try clear c8b0
                  try clear c8b1
                  try clear c9
                  try clear c9b0
                  try clear c9b1
                  try clear p12
                  try clear q12
                  try clear hx12
                  try clear c15
                  try clear c15b0
                  try clear c15b1
                  try clear c17
                  try clear c18
                  try clear hcz11_0
                  try clear hcz11_1
                  try clear hcz11_2
                  try clear hcz12_0
                  try clear hcz12_1
                  try clear hcz12_2
                  try clear hcz13_0
                  try clear hcz13_1
                  try clear hcz13_2
                  try clear hcz19_0
                  try clear hcz19_1
                  try clear hcz19_2
                  try clear hcz21_0
                  try clear hcz21_1
                  try clear hcz21_2
                  try clear hcz22_0
                  try clear hcz22_1
                  try clear hcz22_2
                  try clear hcz7_0
                  try clear hcz7_1
                  try clear hcz7_2
                  try clear hfz11_0
                  try clear hfz11_1
                  try clear hfz11_2
                  try clear hfz12_0
                  try clear hfz12_1
                  try clear hfz12_2
                  try clear hfz13_0
                  try clear hfz13_1
                  try clear hfz13_2
                  try clear hfz19_0
                  try clear hfz19_1
                  try clear hfz19_2
                  try clear hfz21_0
                  try clear hfz21_1
                  try clear hfz21_2
                  try clear hfz22_0
                  try clear hfz22_1
                  try clear hfz22_2
                  try clear hfz7_0
                  try clear hfz7_1
                  try clear hfz7_2
                  try clear hx127_0
                  try clear hx127_1
                  try clear hx127_2
                  try clear p1
                  try clear p12
                  try clear p127
                  try clear p2
                  try clear q1
                  try clear q12
                  try clear q127
                  obtain ⟨kq, x8_13, rfl, HA, HJ13, HO_4, BK128, HB⟩ := hcut
                  cases kq with
                  | zero => exact absurd HA.out (by simp [impl_TokensOut.j2])
                  | succ kj13 =>
                    have H := HA.out
                    clear HA
                    simp only [impl_TokensOut.j2] at H
                    have HC23 := Aside0.mk H
                    clear H
                    go_upto_region 7 with (fail)
                    go_cut [57] (fun v57 wc => ∃ (kq : Nat) (x57_22 : Bool), v57 = .bool x57_22 ∧ Aside0 (impl_TokensOut.j3 kq x4_1 x7_4 l0 (l0.length : Int) x11_1 x57_22 ((rd_T71 l0 x11_1).f0) ((rd_T71 l0 x11_1).f1) ((rd_T71 l0 x11_1).f2) = some (r1, r2)) ∧ Aside0 (kq ≤ kj13) ∧ Aside0 (Kd.R (Kd.int .u8) 5 wc w.heap.size (fun _ => True) u4 x4_1) ∧ Aside0 (wc.heap[gb128]? = some (.cells #[.int .i64 ((rd_T71 l0 x11_1).f0), .int .i64 ((rd_T71 l0 x11_1).f1), .int .i64 ((rd_T71 l0 x11_1).f2)] 71 (0, 0))) ∧ Aside0 (Below w.heap.size w wc))
                    case first =>
                      have H := HC23.out
                      clear HC23
                      by_cases c24 : x7_4 = true
                      · subst c24
                        have H1 : (impl_TokensOut.j3 kj13 x4_1 true l0 (l0.length : Int) x11_1 (decide ((wrap64 ((x4_1.length : Int) + (mx ((rd_T71 l0 x11_1).f1) 1))) > 5000)) ((rd_T71 l0 x11_1).f0) ((rd_T71 l0 x11_1).f1) ((rd_T71 l0 x11_1).f2)) = some (r1, r2) := by rw [if_pos rfl] at H; exact H
                        clear H
                        have H := H1
                        clear H1
                        obtain ⟨ji25, hji25⟩ : ∃ j_ : Int, (mx ((rd_T71 l0 x11_1).f1) 1) = j_ := ⟨_, rfl⟩
                        replace H : (impl_TokensOut.j3 kj13 x4_1 true l0 (l0.length : Int) x11_1 (decide ((wrap64 ((x4_1.length : Int) + (ji25))) > 5000)) ((rd_T71 l0 x11_1).f0) ((rd_T71 l0 x11_1).f1) ((rd_T71 l0 x11_1).f2)) = some (r1, r2) := by first | (rw [hji25] at H; exact H) | (simp only [hji25] at H ⊢; exact H)
                        have hji25_ : (if ((rd_T71 l0 x11_1).f1) < 1 then 1 else ((rd_T71 l0 x11_1).f1)) = ji25 := hji25
                        have H' := Aside0.mk H
                        clear H
                        obtain ⟨Ao26, co26, eo26⟩ := Kd.R_slice HO_4.out
                        subst eo26
                        have hcz27_0 : wc.cell? ⟨gb128, 0, none⟩ = some (.int .i64 ((rd_T71 l0 x11_1).f0)) := (blk_cell BK128.out 0).trans rfl
                        have hcz27_1 : wc.cell? ⟨gb128, 1, none⟩ = some (.int .i64 ((rd_T71 l0 x11_1).f1)) := (blk_cell BK128.out 1).trans rfl
                        have hcz27_2 : wc.cell? ⟨gb128, 2, none⟩ = some (.int .i64 ((rd_T71 l0 x11_1).f2)) := (blk_cell BK128.out 2).trans rfl
                        have hfz27_0 := blk_frozen BK128.out 0
                        have hfz27_1 := blk_frozen BK128.out 1
                        have hfz27_2 := blk_frozen BK128.out 2
                        go_wp2
                        go_meet
                        case rel => exact ⟨_, (decide ((wrap64 ((x4_1.length : Int) + (ji25))) > 5000)), (by first | rfl | (simp; done) | (simp only [← hji25] <;> (first | rfl | simp)) | (simp [*]; done)), H', ⟨by have := HK1.out; have := HJ4.out; have := HJ13.out; first | omega | exact Nat.le_refl _⟩, ⟨by (with_reducible repeat (first | apply Kd.R_alloc | apply Kd.R_drewN | apply Kd.R_drew)); exact HO_4.out⟩, ⟨by (with_reducible repeat (first | refine blk_drewN ?_ _ | refine blk_drew ?_ | refine blk_alloc ?_ _)); exact BK128.out⟩, ⟨by repeat (first | (with_reducible first | exact HB.out | apply below_alloc | apply pw_below_drewN | apply below_drew1 | refine below_set ?_ GE128.out) | exact HB.out)⟩⟩
                      · replace c24 := Bool.eq_false_iff.mpr c24
                        subst c24
                        have H1 : (if x8_13 = true then (impl_TokensOut.j3 kj13 x4_1 false l0 (l0.length : Int) x11_1 (decide ((wrap64 ((x4_1.length : Int) + (mx ((rd_T71 l0 x11_1).f1) 1))) > 5000)) ((rd_T71 l0 x11_1).f0) ((rd_T71 l0 x11_1).f1) ((rd_T71 l0 x11_1).f2)) else (impl_TokensOut.j3 kj13 x4_1 false l0 (l0.length : Int) x11_1 true ((rd_T71 l0 x11_1).f0) ((rd_T71 l0 x11_1).f1) ((rd_T71 l0 x11_1).f2))) = some (r1, r2) := by rw [if_neg (show ¬ (false = true) by decide)] at H; exact H
                        clear H
                        have H := H1
                        clear H1
                        by_cases c28 : x8_13 = true
                        · subst c28
                          have H1 : (impl_TokensOut.j3 kj13 x4_1 false l0 (l0.length : Int) x11_1 (decide ((wrap64 ((x4_1.length : Int) + (mx ((rd_T71 l0 x11_1).f1) 1))) > 5000)) ((rd_T71 l0 x11_1).f0) ((rd_T71 l0 x11_1).f1) ((rd_T71 l0 x11_1).f2)) = some (r1, r2) := by rw [if_pos rfl] at H; exact H
                          clear H
                          have H := H1
                          clear H1
                          obtain ⟨ji29, hji29⟩ : ∃ j_ : Int, (mx ((rd_T71 l0 x11_1).f1) 1) = j_ := ⟨_, rfl⟩
                          replace H : (impl_TokensOut.j3 kj13 x4_1 false l0 (l0.length : Int) x11_1 (decide ((wrap64 ((x4_1.length : Int) + (ji29))) > 5000)) ((rd_T71 l0 x11_1).f0) ((rd_T71 l0 x11_1).f1) ((rd_T71 l0 x11_1).f2)) = some (r1, r2) := by first | (rw [hji29] at H; exact H) | (simp only [hji29] at H ⊢; exact H)
                          have hji29_ : (if ((rd_T71 l0 x11_1).f1) < 1 then 1 else ((rd_T71 l0 x11_1).f1)) = ji29 := hji29
                          have H' := Aside0.mk H
                          clear H
                          obtain ⟨Ao30, co30, eo30⟩ := Kd.R_slice HO_4.out
                          subst eo30
                          have hcz31_0 : wc.cell? ⟨gb128, 0, none⟩ = some (.int .i64 ((rd_T71 l0 x11_1).f0)) := (blk_cell BK128.out 0).trans rfl
                          have hcz31_1 : wc.cell? ⟨gb128, 1, none⟩ = some (.int .i64 ((rd_T71 l0 x11_1).f1)) := (blk_cell BK128.out 1).trans rfl
                          have hcz31_2 : wc.cell? ⟨gb128, 2, none⟩ = some (.int .i64 ((rd_T71 l0 x11_1).f2)) := (blk_cell BK128.out 2).trans rfl
                          have hfz31_0 := blk_frozen BK128.out 0
                          have hfz31_1 := blk_frozen BK128.out 1
                          have hfz31_2 := blk_frozen BK128.out 2
                          go_wp2
                          go_meet
                          case rel => exact ⟨_, (decide ((wrap64 ((x4_1.length : Int) + (ji29))) > 5000)), (by first | rfl | (simp; done) | (simp only [← hji29] <;> (first | rfl | simp)) | (simp [*]; done)), H', ⟨by have := HK1.out; have := HJ4.out; have := HJ13.out; first | omega | exact Nat.le_refl _⟩, ⟨by (with_reducible repeat (first | apply Kd.R_alloc | apply Kd.R_drewN | apply Kd.R_drew)); exact HO_4.out⟩, ⟨by (with_reducible repeat (first | refine blk_drewN ?_ _ | refine blk_drew ?_ | refine blk_alloc ?_ _)); exact BK128.out⟩, ⟨by repeat (first | (with_reducible first | exact HB.out | apply below_alloc | apply pw_below_drewN | apply below_drew1 | refine below_set ?_ GE128.out) | exact HB.out)⟩⟩
                        · replace c28 := Bool.eq_false_iff.mpr c28
                          subst c28
                          have H1 : (impl_TokensOut.j3 kj13 x4_1 false l0 (l0.length : Int) x11_1 true ((rd_T71 l0 x11_1).f0) ((rd_T71 l0 x11_1).f1) ((rd_T71 l0 x11_1).f2)) = some (r1, r2) := by rw [if_neg (show ¬ (false = true) by decide)] at H; exact H
                          clear H
                          have H := H1
                          clear H1
                          have H' := Aside0.mk H
                          clear H
                          go_wp2
                          go_meet
                          case rel => exact ⟨_, (true), (by first | rfl | (simp; done) | (simp [*]; done)), H', ⟨by have := HK1.out; have := HJ4.out; have := HJ13.out; first | omega | exact Nat.le_refl _⟩, ⟨by (with_reducible repeat (first | apply Kd.R_alloc | apply Kd.R_drewN | apply Kd.R_drew)); exact HO_4.out⟩, ⟨by (with_reducible repeat (first | refine blk_drewN ?_ _ | refine blk_drew ?_ | refine blk_alloc ?_ _)); exact BK128.out⟩, ⟨by repeat (first | (with_reducible first | exact HB.out | apply below_alloc | apply pw_below_drewN | apply below_drew1 | refine below_set ?_ GE128.out) | exact HB.out)⟩⟩
                    case rest =>
                      clear HC23
                      try clear c1
                      try clear p1
                      try clear q1
                      try clear hx1
                      try clear c2
                      try clear c2b0
                      try clear p2
                      try clear c3
                      try clear c3b0
                      try clear c4
                      try clear c4b0
                      try clear p6
                      try clear c8
                      try clear c8b0
                      try clear c8b1
                      try clear c9
                      try clear c9b0
                      try clear c9b1
                      try clear p12
                      try clear q12
                      try clear hx12
                      try clear c15
                      try clear c15b0
                      try clear c15b1
                      try clear c17
                      try clear c18
                      try clear c24
                      try clear c28
                      try clear hcz11_0
                      try clear hcz11_1
                      try clear hcz11_2
                      try clear hcz12_0
                      try clear hcz12_1
                      try clear hcz12_2
                      try clear hcz13_0
                      try clear hcz13_1
                      try clear hcz13_2
                      try clear hcz19_0
                      try clear hcz19_1
                      try clear hcz19_2
                      try clear hcz21_0
                      try clear hcz21_1
                      try clear hcz21_2
                      try clear hcz22_0
                      try clear hcz22_1
                      try clear hcz22_2
                      try clear hcz27_0
                      try clear hcz27_1
                      try clear hcz27_2
                      try clear hcz31_0
                      try clear hcz31_1
                      try clear hcz31_2
                      try clear hcz7_0
                      try clear hcz7_1
                      try clear hcz7_2
                      try clear hfz11_0
                      try clear hfz11_1
                      try clear hfz11_2
                      try clear hfz12_0
                      try clear hfz12_1
                      try clear hfz12_2
                      try clear hfz13_0
                      try clear hfz13_1
                      try clear hfz13_2
                      try clear hfz19_0
                      try clear hfz19_1
                      try clear hfz19_2
                      try clear hfz21_0
                      try clear hfz21_1
                      try clear hfz21_2
                      try clear hfz22_0
                      try clear hfz22_1
                      try clear hfz22_2
                      try clear hfz27_0
                      try clear hfz27_1
                      try clear hfz27_2
                      try clear hfz31_0
                      try clear hfz31_1
                      try clear hfz31_2
                      try clear hfz7_0
                      try clear hfz7_1
                      try clear hfz7_2
                      try clear hx127_0
                      try clear hx127_1
                      try clear hx127_2
                      try clear p1
                      try clear p12
                      try clear p127
                      try clear p2
                      try clear q1
                      try clear q12
                      try clear q127
                      obtain ⟨kq, x57_22, rfl, HA, HJ22, HO_4, BK128, HB⟩ := hcut
                      cases kq with
                      | zero => exact absurd HA.out (by simp [impl_TokensOut.j3])
                      | succ kj22 =>
                        have H := HA.out
                        clear HA
                        simp only [impl_TokensOut.j3] at H
                        by_cases c32 : x57_22 = true
                        · subst c32
                          have H1 : (some ((⟨#[]⟩ : ByteArray), false)) = some (r1, r2) := by rw [if_pos rfl] at H; exact H
                          clear H
                          have H := H1
                          clear H1
                          simp only [Option.some.injEq, Prod.mk.injEq] at H
                          obtain ⟨rfl, rfl⟩ := H
                          go_wp2
                          go_ret2
                          exact ⟨by first | rfl | (simp [errW_none, errW_some] <;> rfl) | (simp [*, errW_none, errW_some] <;> rfl), by repeat (first | (with_reducible first | exact HB.out | apply below_alloc | apply pw_below_drewN | apply below_drew1 | refine below_set ?_ GE128.out) | exact HB.out)⟩
                        · replace c32 := Bool.eq_false_iff.mpr c32
                          subst c32
                          have H1 : (if x7_4 = true then (if x4_1.length < 140737488355328 then (impl_TokensOut.j4 kj22 (x4_1 ++ [(((rd_T71 l0 x11_1).f0)) % 256]) l0 (l0.length : Int) x11_1 ((rd_T71 l0 x11_1).f0) ((rd_T71 l0 x11_1).f1) ((rd_T71 l0 x11_1).f2)) else (none)) else (impl_TokensOut.j4 kj22 x4_1 l0 (l0.length : Int) x11_1 ((rd_T71 l0 x11_1).f0) ((rd_T71 l0 x11_1).f1) ((rd_T71 l0 x11_1).f2))) = some (r1, r2) := by rw [if_neg (show ¬ (false = true) by decide)] at H; exact H
                          clear H
                          have H := H1
                          clear H1
                          have HC33 := Aside0.mk H
                          clear H
                          go_upto_if 58 with (fail)
                          go_cut [4] (fun v4 wc => ∃ (kq : Nat) (x4_32 : List Int), Aside0 (impl_TokensOut.j4 kq x4_32 l0 (l0.length : Int) x11_1 ((rd_T71 l0 x11_1).f0) ((rd_T71 l0 x11_1).f1) ((rd_T71 l0 x11_1).f2) = some (r1, r2)) ∧ Aside0 (kq ≤ kj22) ∧ Aside0 (Kd.R (Kd.int .u8) 5 wc w.heap.size (fun _ => True) v4 x4_32) ∧ Aside0 (wc.heap[gb128]? = some (.cells #[.int .i64 ((rd_T71 l0 x11_1).f0), .int .i64 ((rd_T71 l0 x11_1).f1), .int .i64 ((rd_T71 l0 x11_1).f2)] 71 (0, 0))) ∧ Aside0 (Below w.heap.size w wc))
                          case first =>
                            have H := HC33.out
                            clear HC33
                            by_cases c34 : x7_4 = true
                            · subst c34
                              have H1 : (if x4_1.length < 140737488355328 then (impl_TokensOut.j4 kj22 (x4_1 ++ [(((rd_T71 l0 x11_1).f0)) % 256]) l0 (l0.length : Int) x11_1 ((rd_T71 l0 x11_1).f0) ((rd_T71 l0 x11_1).f1) ((rd_T71 l0 x11_1).f2)) else (none)) = some (r1, r2) := by rw [if_pos rfl] at H; exact H
                              clear H
                              have H := H1
                              clear H1
                              by_cases c35 : x4_1.length < 140737488355328
                              · rw [if_pos c35] at H
                                have LMc35 := Aside0.mk c35
                                clear c35
                                obtain ⟨y132, hy132⟩ : ∃ y_ : List Int, y_ = (x4_1 ++ [(((rd_T71 l0 x11_1).f0)) % 256]) := ⟨_, rfl⟩
                                replace H : (impl_TokensOut.j4 kj22 y132 l0 (l0.length : Int) x11_1 ((rd_T71 l0 x11_1).f0) ((rd_T71 l0 x11_1).f1) ((rd_T71 l0 x11_1).f2)) = some (r1, r2) := by first | (rw [hy132]; with_reducible exact H) | (have H2_ := (Option.bind_some _ _).symm.trans H; rw [hy132]; with_reducible exact H2_) | (have H2_ := (Option.bind_some _ _).symm.trans H; with_reducible exact H2_) | with_reducible exact H | (rw [hy132]; exact H) | exact H
                                have Ny132 := Aside0.mk hy132
                                clear hy132
                                have H' := Aside0.mk H
                                clear H
                                have hcz36_0 : wc.cell? ⟨gb128, 0, none⟩ = some (.int .i64 ((rd_T71 l0 x11_1).f0)) := (blk_cell BK128.out 0).trans rfl
                                have hcz36_1 : wc.cell? ⟨gb128, 1, none⟩ = some (.int .i64 ((rd_T71 l0 x11_1).f1)) := (blk_cell BK128.out 1).trans rfl
                                have hcz36_2 : wc.cell? ⟨gb128, 2, none⟩ = some (.int .i64 ((rd_T71 l0 x11_1).f2)) := (blk_cell BK128.out 2).trans rfl
                                have hfz36_0 := blk_frozen BK128.out 0
                                have hfz36_1 := blk_frozen BK128.out 1
                                have hfz36_2 := blk_frozen BK128.out 2
                                go_wp2_with (first | ((with_reducible refine gate_builtin (b := .append) (xs := #[.tmp 59, .tmp 63]) rfl ?_); (try (refine gate_guard (by rfl) ?_; dsimp only)); at_builtin; refine Kd.R_append (Kd.int .u8) (w0 := w) w.heap.size rfl (.tmp 59) (.tmp 63) 55 5 (.int .u8 0) 1 rfl Try.underlying55 info5 rfl (by decide) (by omega) u4 x4_1 ((((rd_T71 l0 x11_1).f0)) % 256) [.int .u8 ((((rd_T71 l0 x11_1).f0)) % 256)] (fun _ => True) (fun _ => False) rfl rfl ?aP (fun _ hk => hk.elim) ?aF ?aO ?aB ?aS ?aL ?_; (case aP => exact rfl); (case aB => exact (by repeat (first | (with_reducible first | exact HB.out | apply below_alloc | apply pw_below_drewN | apply below_drew1 | refine below_set ?_ GE128.out) | exact HB.out))); (case aF => exact (fun _ _ => trivial)); (case aO => exact (by (with_reducible repeat (first | apply Kd.R_alloc | apply Kd.R_drewN | apply Kd.R_drew)); exact HO_4.out)); (case aS => exact (below_size (by repeat (first | (with_reducible first | exact HB.out | apply below_alloc | apply pw_below_drewN | apply below_drew1 | refine below_set ?_ GE128.out) | exact HB.out)))); (case aL => have := LMc35.out; omega); intro v133 w37 ho hb hg hat; rw [← Ny132.out] at ho; have n0_ := Aside0.mk (blk_grown (g := gb128) (o := .cells #[.int .i64 ((rd_T71 l0 x11_1).f0), .int .i64 ((rd_T71 l0 x11_1).f1), .int .i64 ((rd_T71 l0 x11_1).f2)] 71 (0, 0)) (by (with_reducible repeat (first | refine blk_drewN ?_ _ | refine blk_drew ?_ | refine blk_alloc ?_ _)); exact BK128.out) hg (Kd.R_ne HO_4.out BK128.out (by decide))); have n1_ := Aside0.mk (hb); have n2_ := Aside0.mk (ho); clear BK128; clear HB; clear HO_4; have BK128 := n0_; have HB := n1_; have HO134 := n2_; clear n0_ n1_ n2_; clear ho hb hg hat))
                                go_meet
                                case rel => exact ⟨_, (y132), H', ⟨by have := HK1.out; have := HJ4.out; have := HJ13.out; have := HJ22.out; first | omega | exact Nat.le_refl _⟩, ⟨by (with_reducible repeat (first | apply Kd.R_alloc | apply Kd.R_drewN | apply Kd.R_drew)); exact HO134.out⟩, ⟨by (with_reducible repeat (first | refine blk_drewN ?_ _ | refine blk_drew ?_ | refine blk_alloc ?_ _)); exact BK128.out⟩, ⟨by repeat (first | (with_reducible first | exact HB.out | apply below_alloc | apply pw_below_drewN | apply below_drew1 | refine below_set ?_ GE128.out) | exact HB.out)⟩⟩
                              · rw [if_neg c35] at H
                                exact absurd H (by simp)
                            · replace c34 := Bool.eq_false_iff.mpr c34
                              subst c34
                              have H1 : (impl_TokensOut.j4 kj22 x4_1 l0 (l0.length : Int) x11_1 ((rd_T71 l0 x11_1).f0) ((rd_T71 l0 x11_1).f1) ((rd_T71 l0 x11_1).f2)) = some (r1, r2) := by rw [if_neg (show ¬ (false = true) by decide)] at H; exact H
                              clear H
                              have H := H1
                              clear H1
                              have H' := Aside0.mk H
                              clear H
                              go_wp2
                              go_meet
                              case rel => exact ⟨_, (x4_1), H', ⟨by have := HK1.out; have := HJ4.out; have := HJ13.out; have := HJ22.out; first | omega | exact Nat.le_refl _⟩, ⟨by (with_reducible repeat (first | apply Kd.R_alloc | apply Kd.R_drewN | apply Kd.R_drew)); exact HO_4.out⟩, ⟨by (with_reducible repeat (first | refine blk_drewN ?_ _ | refine blk_drew ?_ | refine blk_alloc ?_ _)); exact BK128.out⟩, ⟨by repeat (first | (with_reducible first | exact HB.out | apply below_alloc | apply pw_below_drewN | apply below_drew1 | refine below_set ?_ GE128.out) | exact HB.out)⟩⟩
                          case rest =>
                            clear HC33
                            try clear c1
                            try clear p1
                            try clear q1
                            try clear hx1
                            try clear c2
                            try clear c2b0
                            try clear p2
                            try clear c3
                            try clear c3b0
                            try clear c4
                            try clear c4b0
                            try clear p6
                            try clear c8
                            try clear c8b0
                            try clear c8b1
                            try clear c9
                            try clear c9b0
                            try clear c9b1
                            try clear p12
                            try clear q12
                            try clear hx12
                            try clear c15
                            try clear c15b0
                            try clear c15b1
                            try clear c17
                            try clear c18
                            try clear c24
                            try clear c28
                            try clear c32
                            try clear c34
                            try clear c35
                            try clear hcz11_0
                            try clear hcz11_1
                            try clear hcz11_2
                            try clear hcz12_0
                            try clear hcz12_1
                            try clear hcz12_2
                            try clear hcz13_0
                            try clear hcz13_1
                            try clear hcz13_2
                            try clear hcz19_0
                            try clear hcz19_1
                            try clear hcz19_2
                            try clear hcz21_0
                            try clear hcz21_1
                            try clear hcz21_2
                            try clear hcz22_0
                            try clear hcz22_1
                            try clear hcz22_2
                            try clear hcz27_0
                            try clear hcz27_1
                            try clear hcz27_2
                            try clear hcz31_0
                            try clear hcz31_1
                            try clear hcz31_2
                            try clear hcz36_0
                            try clear hcz36_1
                            try clear hcz36_2
                            try clear hcz7_0
                            try clear hcz7_1
                            try clear hcz7_2
                            try clear hfz11_0
                            try clear hfz11_1
                            try clear hfz11_2
                            try clear hfz12_0
                            try clear hfz12_1
                            try clear hfz12_2
                            try clear hfz13_0
                            try clear hfz13_1
                            try clear hfz13_2
                            try clear hfz19_0
                            try clear hfz19_1
                            try clear hfz19_2
                            try clear hfz21_0
                            try clear hfz21_1
                            try clear hfz21_2
                            try clear hfz22_0
                            try clear hfz22_1
                            try clear hfz22_2
                            try clear hfz27_0
                            try clear hfz27_1
                            try clear hfz27_2
                            try clear hfz31_0
                            try clear hfz31_1
                            try clear hfz31_2
                            try clear hfz36_0
                            try clear hfz36_1
                            try clear hfz36_2
                            try clear hfz7_0
                            try clear hfz7_1
                            try clear hfz7_2
                            try clear hx127_0
                            try clear hx127_1
                            try clear hx127_2
                            try clear p1
                            try clear p12
                            try clear p127
                            try clear p2
                            try clear p6
                            try clear q1
                            try clear q12
                            try clear q127
                            obtain ⟨kq, x4_32, HA, HJ32, HO_4, BK128, HB⟩ := hcut
                            cases kq with
                            | zero => exact absurd HA.out (by simp [impl_TokensOut.j4])
                            | succ kj32 =>
                              have H := HA.out
                              clear HA
                              simp only [impl_TokensOut.j4] at H
                              have H' := Aside0.mk H
                              clear H
                              have hcz38_0 : wc.cell? ⟨gb128, 0, none⟩ = some (.int .i64 ((rd_T71 l0 x11_1).f0)) := (blk_cell BK128.out 0).trans rfl
                              have hcz38_1 : wc.cell? ⟨gb128, 1, none⟩ = some (.int .i64 ((rd_T71 l0 x11_1).f1)) := (blk_cell BK128.out 1).trans rfl
                              have hcz38_2 : wc.cell? ⟨gb128, 2, none⟩ = some (.int .i64 ((rd_T71 l0 x11_1).f2)) := (blk_cell BK128.out 2).trans rfl
                              have hfz38_0 := blk_frozen BK128.out 0
                              have hfz38_1 := blk_frozen BK128.out 1
                              have hfz38_2 := blk_frozen BK128.out 2
                              go_wp2
                              go_loopg [4, 67] kj32 (fun kq v4 v67 w' => ∃ (x4_6 : List Int) (x67_6 : Int), v67 = .int .i64 x67_6 ∧ Aside0 (impl_TokensOut.l1 kq x4_6 l0 (l0.length : Int) x11_1 ((rd_T71 l0 x11_1).f1) x67_6 ((rd_T71 l0 x11_1).f0) ((rd_T71 l0 x11_1).f1) ((rd_T71 l0 x11_1).f2) = some (r1, r2)) ∧ Aside0 (kq ≤ kj32) ∧ Aside0 (Kd.R (Kd.int .u8) 5 w' w.heap.size (fun _ => True) v4 x4_6) ∧ Aside0 (w'.heap[gb128]? = some (.cells #[.int .i64 ((rd_T71 l0 x11_1).f0), .int .i64 ((rd_T71 l0 x11_1).f1), .int .i64 ((rd_T71 l0 x11_1).f2)] 71 (0, 0))) ∧ Aside0 (Below w.heap.size w w'))
                              case atStart => exact ⟨(x4_32), (0), (by first | rfl | (simp; done) | (simp [*]; done)), H', ⟨Nat.le_refl _⟩, ⟨by (with_reducible repeat (first | apply Kd.R_alloc | apply Kd.R_drewN | apply Kd.R_drew)); exact HO_4.out⟩, ⟨by (with_reducible repeat (first | refine blk_drewN ?_ _ | refine blk_drew ?_ | refine blk_alloc ?_ _)); exact BK128.out⟩, ⟨by repeat (first | (with_reducible first | exact HB.out | apply below_alloc | apply pw_below_drewN | apply below_drew1 | refine below_set ?_ GE128.out) | exact HB.out)⟩⟩
                              case round =>
                                clear H'
                                try clear c1
                                try clear p1
                                try clear q1
                                try clear hx1
                                try clear c2
                                try clear c2b0
                                try clear p2
                                try clear c3
                                try clear c3b0
                                try clear c4
                                try clear c4b0
                                try clear p6
                                try clear c8
                                try clear c8b0
                                try clear c8b1
                                try clear c9
                                try clear c9b0
                                try clear c9b1
                                try clear p12
                                try clear q12
                                try clear hx12
                                try clear c15
                                try clear c15b0
                                try clear c15b1
                                try clear c17
                                try clear c18
                                try clear c24
                                try clear c28
                                try clear c32
                                try clear c34
                                try clear c35
                                try clear hcz11_0
                                try clear hcz11_1
                                try clear hcz11_2
                                try clear hcz12_0
                                try clear hcz12_1
                                try clear hcz12_2
                                try clear hcz13_0
                                try clear hcz13_1
                                try clear hcz13_2
                                try clear hcz19_0
                                try clear hcz19_1
                                try clear hcz19_2
                                try clear hcz21_0
                                try clear hcz21_1
                                try clear hcz21_2
                                try clear hcz22_0
                                try clear hcz22_1
                                try clear hcz22_2
                                try clear hcz27_0
                                try clear hcz27_1
                                try clear hcz27_2
                                try clear hcz31_0
                                try clear hcz31_1
                                try clear hcz31_2
                                try clear hcz36_0
                                try clear hcz36_1
                                try clear hcz36_2
                                try clear hcz38_0
                                try clear hcz38_1
                                try clear hcz38_2
                                try clear hcz7_0
                                try clear hcz7_1
                                try clear hcz7_2
                                try clear hfz11_0
                                try clear hfz11_1
                                try clear hfz11_2
                                try clear hfz12_0
                                try clear hfz12_1
                                try clear hfz12_2
                                try clear hfz13_0
                                try clear hfz13_1
                                try clear hfz13_2
                                try clear hfz19_0
                                try clear hfz19_1
                                try clear hfz19_2
                                try clear hfz21_0
                                try clear hfz21_1
                                try clear hfz21_2
                                try clear hfz22_0
                                try clear hfz22_1
                                try clear hfz22_2
                                try clear hfz27_0
                                try clear hfz27_1
                                try clear hfz27_2
                                try clear hfz31_0
                                try clear hfz31_1
                                try clear hfz31_2
                                try clear hfz36_0
                                try clear hfz36_1
                                try clear hfz36_2
                                try clear hfz38_0
                                try clear hfz38_1
                                try clear hfz38_2
                                try clear hfz7_0
                                try clear hfz7_1
                                try clear hfz7_2
                                try clear hx127_0
                                try clear hx127_1
                                try clear hx127_2
                                try clear p1
                                try clear p12
                                try clear p127
                                try clear p2
                                try clear p6
                                try clear q1
                                try clear q12
                                try clear q127
                                obtain ⟨x4_6, x67_6, rfl, HA, HK6, HO_4, BK128, HB⟩ := hrel
                                cases gk with
                                | zero => exact absurd HA.out (by simp [impl_TokensOut.l1])
                                | succ k6 =>
                                  have H := HA.out
                                  clear HA
                                  simp only [impl_TokensOut.l1] at H
                                  by_cases c39 : x67_6 < ((rd_T71 l0 x11_1).f1)
                                  · rw [if_pos c39] at H
                                    have c39b0 : decide (x67_6 < ((rd_T71 l0 x11_1).f1)) = true := decide_eq_true c39
                                    clear c39
                                    obtain ⟨ji40, hji40⟩ : ∃ j_ : Int, (wrap64 ((x4_6.length : Int) - ((rd_T71 l0 x11_1).f2))) = j_ := ⟨_, rfl⟩
                                    replace H : (if 0 ≤ (ji40) then (if (ji40) < (x4_6.length : Int) then (if x4_6.length < 140737488355328 then (impl_TokensOut.l1 k6 (x4_6 ++ [rd x4_6 (ji40)]) l0 (l0.length : Int) x11_1 ((rd_T71 l0 x11_1).f1) (wrap64 (x67_6 + 1)) ((rd_T71 l0 x11_1).f0) ((rd_T71 l0 x11_1).f1) ((rd_T71 l0 x11_1).f2)) else (none)) else (none)) else (none)) = some (r1, r2) := by first | (rw [hji40] at H; exact H) | (simp only [hji40] at H ⊢; exact H)
                                    have hji40w : (IntKind.i64.wrap ((x4_6.length : Int) - ((rd_T71 l0 x11_1).f2))) = ji40 := (i64_w _).trans hji40
                                    by_cases c41 : 0 ≤ (ji40)
                                    · rw [if_pos c41] at H
                                      have c41b0 : decide (0 ≤ (ji40)) = true := decide_eq_true c41
                                      clear c41
                                      by_cases c42 : (ji40) < (x4_6.length : Int)
                                      · rw [if_pos c42] at H
                                        have c42b0 : decide ((ji40) < (x4_6.length : Int)) = true := decide_eq_true c42
                                        clear c42
                                        by_cases c43 : x4_6.length < 140737488355328
                                        · rw [if_pos c43] at H
                                          have LMc43 := Aside0.mk c43
                                          clear c43
                                          obtain ⟨y136, hy136⟩ : ∃ y_ : List Int, y_ = (x4_6 ++ [rd x4_6 (ji40)]) := ⟨_, rfl⟩
                                          replace H : (impl_TokensOut.l1 k6 y136 l0 (l0.length : Int) x11_1 ((rd_T71 l0 x11_1).f1) (wrap64 (x67_6 + 1)) ((rd_T71 l0 x11_1).f0) ((rd_T71 l0 x11_1).f1) ((rd_T71 l0 x11_1).f2)) = some (r1, r2) := by first | (rw [hy136]; with_reducible exact H) | (have H2_ := (Option.bind_some _ _).symm.trans H; rw [hy136]; with_reducible exact H2_) | (have H2_ := (Option.bind_some _ _).symm.trans H; with_reducible exact H2_) | with_reducible exact H | (rw [hy136]; exact H) | exact H
                                          have Ny136 := Aside0.mk hy136
                                          clear hy136
                                          have H' := Aside0.mk H
                                          clear H
                                          obtain ⟨Ao44, co44, eo44⟩ := Kd.R_slice HO_4.out
                                          subst eo44
                                          have hcz45_0 : wr.cell? ⟨gb128, 0, none⟩ = some (.int .i64 ((rd_T71 l0 x11_1).f0)) := (blk_cell BK128.out 0).trans rfl
                                          have hcz45_1 : wr.cell? ⟨gb128, 1, none⟩ = some (.int .i64 ((rd_T71 l0 x11_1).f1)) := (blk_cell BK128.out 1).trans rfl
                                          have hcz45_2 : wr.cell? ⟨gb128, 2, none⟩ = some (.int .i64 ((rd_T71 l0 x11_1).f2)) := (blk_cell BK128.out 2).trans rfl
                                          have hfz45_0 := blk_frozen BK128.out 0
                                          have hfz45_1 := blk_frozen BK128.out 1
                                          have hfz45_2 := blk_frozen BK128.out 2
                                          have p135 : 0 ≤ ((ji40) : Int) := of_decide_eq_true (by first | (with_reducible assumption) | assumption)
                                          have q135 : (ji40) < (x4_6.length : Int) := of_decide_eq_true (by first | (with_reducible assumption) | assumption)
                                          obtain ⟨ad135, e135, hx135_0⟩ := Kd.at_int (Kd.R_reads' HO_4.out).2.2 (ji40) p135 q135
                                          cases e135
                                          replace p135 := eq_true p135
                                          replace q135 := eq_true q135
                                          go_wp2_with (first | ((with_reducible refine gate_builtin (b := .append) (xs := #[.tmp 69, .tmp 78]) rfl ?_); (try (refine gate_guard (by rfl) ?_; dsimp only)); at_builtin; refine Kd.R_append (Kd.int .u8) (w0 := w) w.heap.size rfl (.tmp 69) (.tmp 78) 55 5 (.int .u8 0) 1 rfl Try.underlying55 info5 rfl (by decide) (by omega) (.slice (some ad135) x4_6.length co44) x4_6 (rd x4_6 (ji40)) [.int .u8 (rd x4_6 (ji40))] (fun _ => True) (fun _ => False) rfl rfl ?aP (fun _ hk => hk.elim) ?aF ?aO ?aB ?aS ?aL ?_; (case aP => exact rfl); (case aB => exact (by repeat (first | (with_reducible first | exact HB.out | apply below_alloc | apply pw_below_drewN | apply below_drew1 | refine below_set ?_ GE128.out) | exact HB.out))); (case aF => exact (fun _ _ => trivial)); (case aO => exact (by (with_reducible repeat (first | apply Kd.R_alloc | apply Kd.R_drewN | apply Kd.R_drew)); exact HO_4.out)); (case aS => exact (below_size (by repeat (first | (with_reducible first | exact HB.out | apply below_alloc | apply pw_below_drewN | apply below_drew1 | refine below_set ?_ GE128.out) | exact HB.out)))); (case aL => have := LMc43.out; omega); intro v137 w46 ho hb hg hat; rw [← Ny136.out] at ho; have n0_ := Aside0.mk (blk_grown (g := gb128) (o := .cells #[.int .i64 ((rd_T71 l0 x11_1).f0), .int .i64 ((rd_T71 l0 x11_1).f1), .int .i64 ((rd_T71 l0 x11_1).f2)] 71 (0, 0)) (by (with_reducible repeat (first | refine blk_drewN ?_ _ | refine blk_drew ?_ | refine blk_alloc ?_ _)); exact BK128.out) hg (Kd.R_ne HO_4.out BK128.out (by decide))); have n1_ := Aside0.mk (hb); have n2_ := Aside0.mk (ho); clear BK128; clear HB; clear HO_4; have BK128 := n0_; have HB := n1_; have HO138 := n2_; clear n0_ n1_ n2_; clear ho hb hg hat))
                                          go_roundg k6
                                          case measure => have := HK1.out; have := HJ4.out; have := HJ13.out; have := HJ22.out; have := HJ32.out; have := HK6.out; omega
                                          case rel => exact ⟨(y136), (wrap64 (x67_6 + 1)), (by first | rfl | (simp; done) | (simp [*]; done)), H', ⟨by have := HK1.out; have := HJ4.out; have := HJ13.out; have := HJ22.out; have := HJ32.out; have := HK6.out; omega⟩, ⟨by (with_reducible repeat (first | apply Kd.R_alloc | apply Kd.R_drewN | apply Kd.R_drew)); exact HO138.out⟩, ⟨by (with_reducible repeat (first | refine blk_drewN ?_ _ | refine blk_drew ?_ | refine blk_alloc ?_ _)); exact BK128.out⟩, ⟨by repeat (first | (with_reducible first | exact HB.out | apply below_alloc | apply pw_below_drewN | apply below_drew1 | refine below_set ?_ GE128.out) | exact HB.out)⟩⟩
                                        · rw [if_neg c43] at H
                                          exact absurd H (by simp)
                                      · rw [if_neg c42] at H
                                        exact absurd H (by simp)
                                    · rw [if_neg c41] at H
                                      exact absurd H (by simp)
                                  · rw [if_neg c39] at H
                                    have c39b0 : decide (x67_6 < ((rd_T71 l0 x11_1).f1)) = false := decide_eq_false c39
                                    clear c39
                                    have H' := Aside0.mk H
                                    clear H
                                    go_wp2
                                    go_roundg k6
                                    case measure => have := HK1.out; have := HJ4.out; have := HJ13.out; have := HJ22.out; have := HJ32.out; have := HK6.out; omega
                                    case rel => exact ⟨(x4_6), (wrap64 (x11_1 + 1)), (by first | rfl | (simp; done) | (simp [*]; done)), H', ⟨by have := HK1.out; have := HJ4.out; have := HJ13.out; have := HJ22.out; have := HJ32.out; have := HK6.out; omega⟩, ⟨by (with_reducible repeat (first | apply Kd.R_alloc | apply Kd.R_drewN | apply Kd.R_drew)); exact HO_4.out⟩, ⟨by repeat (first | (with_reducible first | exact HB.out | apply below_alloc | apply pw_below_drewN | apply below_drew1 | refine below_set ?_ GE128.out) | exact HB.out)⟩⟩
          · rw [if_neg c4] at H
            exact absurd H (by simp)
        · rw [if_neg c3] at H
          exact absurd H (by simp)
      · rw [if_neg c2] at H
        have c2b0 : decide (x11_1 < (l0.length : Int)) = false := decide_eq_false c2
        clear c2
        simp only [Option.some.injEq, Prod.mk.injEq] at H
        obtain ⟨rfl, rfl⟩ := H
        have hcv47 := own_string (P := Try.prog) Try.underlying55 Try.underlying5 Try.underlying9 (Kd.own_of_R HO_4.out)
        go_wp2
        go_ret2
        exact ⟨by first | rfl | (simp [errW_none, errW_some] <;> rfl) | (simp [*, errW_none, errW_some] <;> rfl), by repeat (first | (with_reducible first | exact HB.out | apply below_alloc | apply pw_below_drewN | apply below_drew1) | exact HB.out)⟩

end Go.Proofs.Ytpjkcdgamlllgaa.PFnExactTokensOut
