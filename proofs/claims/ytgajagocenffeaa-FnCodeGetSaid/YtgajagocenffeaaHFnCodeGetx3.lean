/- What the functions that the law comes to compute, as plain functions, and that the machine's calls come to just that: written by a program for this claim, and turned where Lean did not take it. No condition. -/
import Derived.Test.YtgajagocenffeaaThGet
import Derived.Test.YtgajagocenffeaaHFnCodeGetx0
import Derived.Test.YtgajagocenffeaaHFnCodeGetx2
namespace Go.Proofs.Ytgajagocenffeaa.PFnCodeGet
open Go.RowKit Go.Proofs.YtgajagocenffeaaW.PrintWords Go.Proofs.YtgajagocenffeaaW.PrintLast Go.Proofs.YtgajagocenffeaaW.PrintMore
attribute [local go_sem] max2_int min2_int max_two min_two max_three min_three max_four min_four   -- for this text's walks alone
set_option linter.unusedVariables false
set_option linter.unusedSimpArgs false

/-! ### impl_CodeMake: function 24 -/
mutual
def impl_CodeMake.l0 : Nat → List Int → List Int → Int → Int → Option (List Int)
  | 0, _, _, _, _ => none
  | k + 1, x0, x3, x4, x5 => if x5 ≤ 15 then (impl_CodeMake.l1 k x0 x3 (wrap64 (x4 * 2)) x5 x0 (x0.length : Int) 0) else (some x3)
def impl_CodeMake.l1 : Nat → List Int → List Int → Int → Int → List Int → Int → Int → Option (List Int)
  | 0, _, _, _, _, _, _, _ => none
  | k + 1, x0, x3, x4, x5, x20, x21, x22 => if x22 < x21 then (if 0 ≤ x22 then (if x22 < (x20.length : Int) then (if (rd x20 x22) = x5 then (if x22 < (x3.length : Int) then (impl_CodeMake.l1 k x0 (x3.set (x22 : Int).toNat x4) (wrap64 (x4 + 1)) x5 x20 x21 (wrap64 (x22 + 1))) else (none)) else (impl_CodeMake.l1 k x0 x3 x4 x5 x20 x21 (wrap64 (x22 + 1)))) else (none)) else (none)) else (impl_CodeMake.l0 k x0 x3 x4 (wrap64 (x5 + 1)))
end
def impl_CodeMake.f (k : Nat) (l0 : List Int) : Option (List Int) := (impl_CodeOk.f k l0).bind fun t128 => (if t128 = true then (if 0 ≤ (l0.length : Int) then (if ((l0.length : Int) : Int).toNat ≤ 35184372088832 then (impl_CodeMake.l0 k l0 (List.replicate ((l0.length : Int) : Int).toNat 0) 0 1) else (none)) else (none)) else (some ([] : List Int)))
theorem impl_CodeMake.mono_l : ∀ k, (∀ y0 y1 y2 y3, LeO (impl_CodeMake.l0 k y0 y1 y2 y3) (impl_CodeMake.l0 (k + 1) y0 y1 y2 y3)) ∧ (∀ y0 y1 y2 y3 y4 y5 y6, LeO (impl_CodeMake.l1 k y0 y1 y2 y3 y4 y5 y6) (impl_CodeMake.l1 (k + 1) y0 y1 y2 y3 y4 y5 y6))
  | 0 => ⟨fun _ _ _ _ r h => by simp [impl_CodeMake.l0] at h, fun _ _ _ _ _ _ _ r h => by simp [impl_CodeMake.l1] at h⟩
  | k + 1 => by
    obtain ⟨ih0, ih1⟩ := impl_CodeMake.mono_l k
    refine ⟨?_, ?_⟩
    · intro y0 y1 y2 y3
      unfold impl_CodeMake.l0
      repeat' first
      | (with_reducible exact ih0 _ _ _ _)
      | (with_reducible exact ih1 _ _ _ _ _ _ _)
      | (with_reducible exact impl_CodeOk.mono _ _)
      | (with_reducible exact LeO.refl _)
      | (with_reducible exact LeO.none _)
      | (with_reducible refine LeO.ite ?_ ?_)
      | (with_reducible refine LeO.bind ?_ (fun _ => ?_))
      | exact ih0 _ _ _ _
      | exact ih1 _ _ _ _ _ _ _
      | exact impl_CodeOk.mono _ _
      | exact LeO.none _
      | refine LeO.ite ?_ ?_
      | refine LeO.bind ?_ (fun _ => ?_)
    · intro y0 y1 y2 y3 y4 y5 y6
      unfold impl_CodeMake.l1
      repeat' first
      | (with_reducible exact ih0 _ _ _ _)
      | (with_reducible exact ih1 _ _ _ _ _ _ _)
      | (with_reducible exact impl_CodeOk.mono _ _)
      | (with_reducible exact LeO.refl _)
      | (with_reducible exact LeO.none _)
      | (with_reducible refine LeO.ite ?_ ?_)
      | (with_reducible refine LeO.bind ?_ (fun _ => ?_))
      | exact ih0 _ _ _ _
      | exact ih1 _ _ _ _ _ _ _
      | exact impl_CodeOk.mono _ _
      | exact LeO.none _
      | refine LeO.ite ?_ ?_
      | refine LeO.bind ?_ (fun _ => ?_)
theorem impl_CodeMake.mono : ∀ a0 k, LeO (impl_CodeMake.f k a0) (impl_CodeMake.f (k + 1) a0) := by
  intro a0 k
  obtain ⟨ih0, ih1⟩ := impl_CodeMake.mono_l k
  unfold impl_CodeMake.f
  repeat' first
      | (with_reducible exact ih0 _ _ _ _)
      | (with_reducible exact ih1 _ _ _ _ _ _ _)
      | (with_reducible exact impl_CodeOk.mono _ _)
      | (with_reducible exact LeO.refl _)
      | (with_reducible exact LeO.none _)
      | (with_reducible refine LeO.ite ?_ ?_)
      | (with_reducible refine LeO.bind ?_ (fun _ => ?_))
      | exact ih0 _ _ _ _
      | exact ih1 _ _ _ _ _ _ _
      | exact impl_CodeOk.mono _ _
      | exact LeO.none _
      | refine LeO.ite ?_ ?_
      | refine LeO.bind ?_ (fun _ => ?_)
set_option maxHeartbeats 8000000 in
set_option maxRecDepth 100000 in
theorem impl_CodeMake.calls (k : Nat) (A0 : Option Addr) (c0 : Nat) (l0 : List Int) (r : List Int) (w : World) (hr0 : Kd.C (Kd.int .i64) w A0 l0.length l0) (hc0 : l0.length ≤ c0) (h : impl_CodeMake.f k l0 = some r) :
    Calls Try.prog 24 #[.slice A0 l0.length c0] w fun e w' => ∃ v0_ : Value, e = .returned (v0_) ∧ Kd.R (Kd.int .i64) 3 w' w.heap.size (fun _ => True) v0_ r ∧ Below w.heap.size w w' := by
  have HR0 := Aside0.mk hr0
  have HC0 := Aside0.mk hc0
  clear hr0 hc0
  have HB := Aside0.mk (Below.refl w.heap.size w)
  have H : ((impl_CodeOk.f k l0).bind fun t128 => (if t128 = true then (if 0 ≤ (l0.length : Int) then (if ((l0.length : Int) : Int).toNat ≤ 35184372088832 then (impl_CodeMake.l0 k l0 (List.replicate ((l0.length : Int) : Int).toNat 0) 0 1) else (none)) else (none)) else (some ([] : List Int)))) = some r := h
  clear h
  replace H := Option.bind_eq_some_iff.mp H
  obtain ⟨t128, A20, H⟩ := H
  replace H : (if t128 = true then (if 0 ≤ (l0.length : Int) then (if ((l0.length : Int) : Int).toNat ≤ 35184372088832 then (impl_CodeMake.l0 k l0 (List.replicate ((l0.length : Int) : Int).toNat 0) 0 1) else (none)) else (none)) else (some ([] : List Int))) = some r := H
  have A2 := Aside0.mk A20
  clear A20
  by_cases c3 : t128 = true
  · subst c3
    have H1 : (if 0 ≤ (l0.length : Int) then (if ((l0.length : Int) : Int).toNat ≤ 35184372088832 then (impl_CodeMake.l0 k l0 (List.replicate ((l0.length : Int) : Int).toNat 0) 0 1) else (none)) else (none)) = some r := by first | (rw [if_pos rfl] at H; exact H) | rfl
    clear H
    have H := H1
    clear H1
    by_cases c4 : 0 ≤ (l0.length : Int)
    · rw [if_pos c4] at H
      have c4b0 := eq_true c4
      have c4b1 : decide (0 ≤ (l0.length : Int)) = true := decide_eq_true c4
      clear c4
      by_cases c5 : ((l0.length : Int) : Int).toNat ≤ 35184372088832
      · rw [if_pos c5] at H
        have c5b0 := eq_true c5
        have c5b1 : decide (((l0.length : Int) : Int).toNat ≤ 35184372088832) = true := decide_eq_true c5
        clear c5
        obtain ⟨y129, hy129⟩ : ∃ y_ : List Int, y_ = (List.replicate ((l0.length : Int) : Int).toNat 0) := ⟨_, rfl⟩
        replace H : (impl_CodeMake.l0 k l0 y129 0 1) = some r := by first | (rw [hy129]; with_reducible exact H) | (have H2_ := (Option.bind_some _ _).symm.trans H; rw [hy129]; with_reducible exact H2_) | (have H2_ := (Option.bind_some _ _).symm.trans H; with_reducible exact H2_) | with_reducible exact H | (rw [hy129]; exact H) | exact H
        have Ny129 := Aside0.mk hy129
        clear hy129
        have H' := Aside0.mk H
        clear H
        go_enter Try.func24, Try.ntmps24
        go_wp2_with (first | ((with_reducible refine gate_callee (f := 18) rfl ?_); refine goesL_ (some 9) rfl rfl Try.func18 (by kernel_rfl) rfl #[.slice A0 l0.length c0] rfl (by (try simp only [List.map_toArray, List.map_cons, List.map_nil]); first | done | rfl | (simp only [List.length_drop, List.length_take]; rfl)) ?_; (with_reducible refine (impl_CodeOk.calls k _ _ l0 true _ ?side1 ?side2 A2.out).mono ?_); (case side1 => repeat (first | exact HR0.out | (with_reducible refine Kd.C_alloc ?_ _) | (with_reducible refine Kd.C_drewN ?_ _) | (with_reducible refine Kd.C_drew ?_))); (case side2 => exact HC0.out); rintro e w' ⟨rfl, ⟨nd, rfl⟩⟩; refine ⟨_, rfl, ?_⟩) | ((with_reducible refine gate_dst (N := 13) rfl ?_); refine Kd.R_make (Kd.int .i64) _ 3 rfl (N := 13) rfl 22 _ _ rfl (l0.length : Int) rfl rfl Try.underlying22 (.int .i64 0) 8 info3 rfl (by decide) (by omega) 0 (ok := fun _ => True) (okp := fun _ => True) rfl (fun _ hk => hk) trivial (of_decide_eq_true (by first | (with_reducible assumption) | assumption)) (Nat.le_trans (Nat.mul_le_mul_right _ (of_decide_eq_true (by first | (with_reducible assumption) | assumption) : (l0.length : Int).toNat ≤ 35184372088832)) (by omega)) (Below.refl _ _) (Nat.le_refl _) ?_; intro v130 w6 ho7 hb hg_ hnew_; clear hg_ hnew_; (first | rw [← Ny129.out] at ho7 | (simp only [Int.reduceToNat] at ho7; rw [← Ny129.out] at ho7)); have n0_ := Aside0.mk (Kd.R_lower ho7 (below_size (by repeat (first | (with_reducible first | exact HB.out | apply below_alloc | apply pw_below_drewN | apply below_drew1) | exact HB.out)))); have n1_ := Aside0.mk (below_step (by repeat (first | (with_reducible first | exact HB.out | apply below_alloc | apply pw_below_drewN | apply below_drew1) | exact HB.out)) hb); clear HB; have HO131 := n0_; have HB := n1_; clear n0_ n1_; clear hb ho7))
        go_loopg [4, 5] k (fun kq v4 v5 w' => ∃ (x3_1 : List Int) (x4_1 : Int) (x5_1 : Int), v4 = .int .i64 x4_1 ∧ v5 = .int .i64 x5_1 ∧ Aside0 (impl_CodeMake.l0 kq l0 x3_1 x4_1 x5_1 = some r) ∧ Aside0 (kq ≤ k) ∧ Aside0 (Kd.R (Kd.int .i64) 3 w' w.heap.size (fun _ => True) v130 x3_1) ∧ Aside0 (Below w.heap.size w w'))
        case atStart => exact ⟨(y129), (0), (1), (by first | rfl | (simp; done) | (simp [*]; done)), (by first | rfl | (simp; done) | (simp [*]; done)), H', ⟨Nat.le_refl _⟩, ⟨by (with_reducible repeat (first | apply Kd.R_alloc | apply Kd.R_drewN | apply Kd.R_drew)); exact HO131.out⟩, ⟨by repeat (first | (with_reducible first | exact HB.out | apply below_alloc | apply pw_below_drewN | apply below_drew1) | exact HB.out)⟩⟩
        case round =>
          clear H'
          try clear c1
          try clear c2
          try clear p2
          try clear c3
          try clear c4
          try clear c4b0
          try clear c4b1
          try clear c5
          try clear c5b0
          try clear c5b1
          obtain ⟨x3_1, x4_1, x5_1, rfl, rfl, HA, HK1, HO_3, HB⟩ := hrel
          cases gk with
          | zero => exact absurd HA.out (by simp [impl_CodeMake.l0])
          | succ k1 =>
            have H := HA.out
            clear HA
            simp only [impl_CodeMake.l0] at H
            by_cases c8 : x5_1 ≤ 15
            · rw [if_pos c8] at H
              have c8b0 : decide (x5_1 ≤ 15) = true := decide_eq_true c8
              clear c8
              have H' := Aside0.mk H
              clear H
              go_wp2
              go_loopg [4, 22] k1 (fun kq v4 v22 w' => ∃ (x3_2 : List Int) (x4_2 : Int) (x22_2 : Int), v4 = .int .i64 x4_2 ∧ v22 = .int .i64 x22_2 ∧ Aside0 (impl_CodeMake.l1 kq l0 x3_2 x4_2 x5_1 l0 (l0.length : Int) x22_2 = some r) ∧ Aside0 (kq ≤ k1) ∧ Aside0 (Kd.R (Kd.int .i64) 3 w' w.heap.size (fun _ => True) v130 x3_2) ∧ Aside0 (Below w.heap.size w w'))
              case atStart => exact ⟨(x3_1), (wrap64 (x4_1 * 2)), (0), (by first | rfl | (simp; done) | (simp [*]; done)), (by first | rfl | (simp; done) | (simp [*]; done)), H', ⟨Nat.le_refl _⟩, ⟨by (with_reducible repeat (first | apply Kd.R_alloc | apply Kd.R_drewN | apply Kd.R_drew)); exact HO_3.out⟩, ⟨by repeat (first | (with_reducible first | exact HB.out | apply below_alloc | apply pw_below_drewN | apply below_drew1) | exact HB.out)⟩⟩
              case round =>
                clear H'
                try clear c1
                try clear c2
                try clear p2
                try clear c3
                try clear c4
                try clear c4b0
                try clear c4b1
                try clear c5
                try clear c5b0
                try clear c5b1
                try clear p6
                try clear c8
                try clear c8b0
                try clear p2
                obtain ⟨x3_2, x4_2, x22_2, rfl, rfl, HA, HK2, HO_3, HB⟩ := hrel
                cases gk with
                | zero => exact absurd HA.out (by simp [impl_CodeMake.l1])
                | succ k2 =>
                  have H := HA.out
                  clear HA
                  simp only [impl_CodeMake.l1] at H
                  by_cases c9 : x22_2 < (l0.length : Int)
                  · rw [if_pos c9] at H
                    have c9b0 : decide (x22_2 < (l0.length : Int)) = true := decide_eq_true c9
                    clear c9
                    by_cases c10 : 0 ≤ x22_2
                    · rw [if_pos c10] at H
                      have c10b0 : decide (0 ≤ x22_2) = true := decide_eq_true c10
                      clear c10
                      by_cases c11 : x22_2 < (l0.length : Int)
                      · rw [if_pos c11] at H
                        have c11b0 : decide (x22_2 < (l0.length : Int)) = true := decide_eq_true c11
                        clear c11
                        by_cases c12 : (rd l0 x22_2) = x5_1
                        · rw [if_pos c12] at H
                          have c12b0 : ((rd l0 x22_2) == x5_1) = true := beq_iff_eq.mpr c12
                          have c12b1 : ((rd l0 x22_2) != x5_1) = false := bne_eq_false_iff_eq.mpr c12
                          clear c12
                          by_cases c13 : x22_2 < (x3_2.length : Int)
                          · rw [if_pos c13] at H
                            have c13b0 : decide (x22_2 < (x3_2.length : Int)) = true := decide_eq_true c13
                            clear c13
                            obtain ⟨y133, hy133⟩ : ∃ y_ : List Int, y_ = (x3_2.set (x22_2 : Int).toNat x4_2) := ⟨_, rfl⟩
                            replace H : (impl_CodeMake.l1 k2 l0 y133 (wrap64 (x4_2 + 1)) x5_1 l0 (l0.length : Int) (wrap64 (x22_2 + 1))) = some r := by first | (rw [hy133]; with_reducible exact H) | (have H2_ := (Option.bind_some _ _).symm.trans H; rw [hy133]; with_reducible exact H2_) | (have H2_ := (Option.bind_some _ _).symm.trans H; with_reducible exact H2_) | with_reducible exact H | (rw [hy133]; exact H) | exact H
                            have Ny133 := Aside0.mk hy133
                            clear hy133
                            have H' := Aside0.mk H
                            clear H
                            have p132 : 0 ≤ (x22_2 : Int) := of_decide_eq_true (by first | (with_reducible assumption) | assumption)
                            have q132 : x22_2 < (l0.length : Int) := of_decide_eq_true (by first | (with_reducible assumption) | assumption)
                            obtain ⟨ad132, e132, hx132_0⟩ := Kd.at_int HR0.out x22_2 p132 q132
                            cases e132
                            replace hx132_0 := (HB.out.cell (World.block_lt_of_cell? w _ hx132_0)).trans hx132_0
                            replace p132 := eq_true p132
                            replace q132 := eq_true q132
                            have p14 : 0 ≤ (x22_2 : Int) := of_decide_eq_true (by first | (with_reducible assumption) | assumption)
                            have q14 : (x22_2 : Int) < ((x3_2.length : Int) : Int) := of_decide_eq_true (by first | (with_reducible assumption) | assumption)
                            obtain ⟨go14, co14, eo14, gb14, gl14, cl14, HG14⟩ := Kd.R_form HO_3.out (by omega)
                            (first | cases eo14 | (injection eo14 with ea_ en_ ec_; (first | subst ea_ | (injection ea_ with ea_; subst ea_)); subst ec_; clear en_))
                            have GB14 := Aside0.mk gb14
                            have GG14 := Aside0.mk HG14
                            clear gb14 gl14 HG14
                            obtain ⟨hx14_0, hf14_0⟩ := Kd.R_celln 0 HO_3.out (x22_2 : Int) p14 q14
                            replace p14 := eq_true p14
                            replace q14 := eq_true q14
                            have HP15 := Kd.R_putg HO_3.out (x22_2 : Int) x4_2
                            go_wp2_with (first | ((with_reducible refine gate_store (t := 3) (p := 33) rfl ?_); refine store_event (t := 3) (p := 33) (v := ?vo_w16) (w1 := (wr.setCell ⟨go14, (x22_2 : Int).toNat, none⟩ (.int .i64 x4_2))) ?hg ?ho ?hn ?hr ?_; (case ho => rfl); (case hg => rfl); (case hn => rfl); (case hr => first | (go_simp; done) | (go_simp; rfl)); intro w16 hw; have hg : wr.grownBy w16 (some go14) := (by rw [hw]; exact HP15.2); have hp_ : Kd.R (Kd.int .i64) 3 w16 w.heap.size (fun _ => True) (.slice (some ⟨go14, 0, none⟩) x3_2.length co14) y133 := (by rw [hw, Ny133.out]; exact HP15.1); clear HP15; have n0_ := Aside0.mk (hp_); have n1_ := Aside0.mk ((by rw [hw]; exact below_set (HB.out) GB14.out : Below w.heap.size w w16)); clear HO_3; clear HB; have HO_3 := n0_; have HB := n1_; clear n0_ n1_; clear hg hw hp_))
                            go_roundg k2
                            case measure => have := HK1.out; have := HK2.out; omega
                            case rel => exact ⟨(y133), (wrap64 (x4_2 + 1)), (wrap64 (x22_2 + 1)), (by first | rfl | (simp; done) | (simp [*]; done)), (by first | rfl | (simp; done) | (simp [*]; done)), H', ⟨by have := HK1.out; have := HK2.out; omega⟩, ⟨by (with_reducible repeat (first | apply Kd.R_alloc | apply Kd.R_drewN | apply Kd.R_drew)); exact HO_3.out⟩, ⟨by repeat (first | (with_reducible first | exact HB.out | apply below_alloc | apply pw_below_drewN | apply below_drew1) | exact HB.out)⟩⟩
                          · rw [if_neg c13] at H
                            exact absurd H (by simp)
                        · rw [if_neg c12] at H
                          have c12b0 : ((rd l0 x22_2) == x5_1) = false := beq_eq_false_iff_ne.mpr c12
                          have c12b1 : ((rd l0 x22_2) != x5_1) = true := bne_iff_ne.mpr c12
                          have H' := Aside0.mk H
                          clear H
                          have p132 : 0 ≤ (x22_2 : Int) := of_decide_eq_true (by first | (with_reducible assumption) | assumption)
                          have q132 : x22_2 < (l0.length : Int) := of_decide_eq_true (by first | (with_reducible assumption) | assumption)
                          obtain ⟨ad132, e132, hx132_0⟩ := Kd.at_int HR0.out x22_2 p132 q132
                          cases e132
                          replace hx132_0 := (HB.out.cell (World.block_lt_of_cell? w _ hx132_0)).trans hx132_0
                          replace p132 := eq_true p132
                          replace q132 := eq_true q132
                          go_wp2
                          go_roundg k2
                          case measure => have := HK1.out; have := HK2.out; omega
                          case rel => exact ⟨(x3_2), (x4_2), (wrap64 (x22_2 + 1)), (by first | rfl | (simp; done) | (simp [*]; done)), (by first | rfl | (simp; done) | (simp [*]; done)), H', ⟨by have := HK1.out; have := HK2.out; omega⟩, ⟨by (with_reducible repeat (first | apply Kd.R_alloc | apply Kd.R_drewN | apply Kd.R_drew)); exact HO_3.out⟩, ⟨by repeat (first | (with_reducible first | exact HB.out | apply below_alloc | apply pw_below_drewN | apply below_drew1) | exact HB.out)⟩⟩
                      · rw [if_neg c11] at H
                        exact absurd H (by simp)
                    · rw [if_neg c10] at H
                      exact absurd H (by simp)
                  · rw [if_neg c9] at H
                    have c9b0 : decide (x22_2 < (l0.length : Int)) = false := decide_eq_false c9
                    clear c9
                    have H' := Aside0.mk H
                    clear H
                    go_wp2
                    go_roundg k2
                    case measure => have := HK1.out; have := HK2.out; omega
                    case rel => exact ⟨(x3_2), (x4_2), (wrap64 (x5_1 + 1)), (by first | rfl | (simp; done) | (simp [*]; done)), (by first | rfl | (simp; done) | (simp [*]; done)), H', ⟨by have := HK1.out; have := HK2.out; omega⟩, ⟨by (with_reducible repeat (first | apply Kd.R_alloc | apply Kd.R_drewN | apply Kd.R_drew)); exact HO_3.out⟩, ⟨by repeat (first | (with_reducible first | exact HB.out | apply below_alloc | apply pw_below_drewN | apply below_drew1) | exact HB.out)⟩⟩
            · rw [if_neg c8] at H
              have c8b0 : decide (x5_1 ≤ 15) = false := decide_eq_false c8
              clear c8
              obtain rfl := Option.some.inj H
              go_wp2
              go_ret
              exact ⟨_, by first | rfl | (simp [errW_none, errW_some] <;> rfl) | (simp [*, errW_none, errW_some] <;> rfl), by (with_reducible repeat (first | apply Kd.R_alloc | apply Kd.R_drewN | apply Kd.R_drew)); exact HO_3.out, by repeat (first | (with_reducible first | exact HB.out | apply below_alloc | apply pw_below_drewN | apply below_drew1) | exact HB.out)⟩
      · rw [if_neg c5] at H
        exact absurd H (by simp)
    · rw [if_neg c4] at H
      exact absurd H (by simp)
  · replace c3 := Bool.eq_false_iff.mpr c3
    subst c3
    have H1 : (some ([] : List Int)) = some r := by first | (rw [if_neg (show ¬ (false = true) by decide)] at H; exact H) | rfl
    clear H
    have H := H1
    clear H1
    obtain rfl := Option.some.inj H
    go_enter Try.func24, Try.ntmps24
    go_wp2_with (first | ((with_reducible refine gate_callee (f := 18) rfl ?_); refine goesL_ (some 9) rfl rfl Try.func18 (by kernel_rfl) rfl #[.slice A0 l0.length c0] rfl (by (try simp only [List.map_toArray, List.map_cons, List.map_nil]); first | done | rfl | (simp only [List.length_drop, List.length_take]; rfl)) ?_; (with_reducible refine (impl_CodeOk.calls k _ _ l0 false _ ?side1 ?side2 A2.out).mono ?_); (case side1 => repeat (first | exact HR0.out | (with_reducible refine Kd.C_alloc ?_ _) | (with_reducible refine Kd.C_drewN ?_ _) | (with_reducible refine Kd.C_drew ?_))); (case side2 => exact HC0.out); rintro e w' ⟨rfl, ⟨nd, rfl⟩⟩; refine ⟨_, rfl, ?_⟩))
    go_ret
    exact ⟨_, by first | rfl | (simp [errW_none, errW_some] <;> rfl) | (simp [*, errW_none, errW_some] <;> rfl), by first | exact Kd.R_nil _ _ _ _ _ | exact Kd.N_nil _ _ _ _ _ | exact Kd.V_nil _ _ _ _ _ | exact Kd.Q_nil _ _ _ _ _ | exact Kd.S_nil _ _ _ _ _, by repeat (first | (with_reducible first | exact HB.out | apply below_alloc | apply pw_below_drewN | apply below_drew1) | exact HB.out)⟩

/-! ### impl_bitAt: function 54 -/
def impl_bitAt.f (a0 : ByteArray) (a1 : Int) (a2 : Bool) : Option (Int) := if a2 = true then (if 0 ≤ (wrap64 (Int.tdiv a1 8)) then (if (wrap64 (Int.tdiv a1 8)) < (a0.size : Int) then (if 0 ≤ (wrap64 (7 - (Int.tmod a1 8))) then (some (Go.bits .and .i64 (shr .i64 (wrap64 (bt a0 (wrap64 (Int.tdiv a1 8)))) (wrap64 (7 - (Int.tmod a1 8)))) 1)) else (none)) else (none)) else (none)) else (if 0 ≤ (wrap64 (Int.tdiv a1 8)) then (if (wrap64 (Int.tdiv a1 8)) < (a0.size : Int) then (if 0 ≤ (Int.tmod a1 8) then (some (Go.bits .and .i64 (shr .i64 (wrap64 (bt a0 (wrap64 (Int.tdiv a1 8)))) (Int.tmod a1 8)) 1)) else (none)) else (none)) else (none))
set_option maxHeartbeats 8000000 in
set_option maxRecDepth 100000 in
theorem impl_bitAt.calls (a0 : ByteArray) (a1 : Int) (a2 : Bool) (r : Int) (w : World) (h : impl_bitAt.f a0 a1 a2 = some r) :
    Calls Try.prog 54 #[.string a0, .int .i64 a1, .bool a2] w fun e w' => e = .returned (.int .i64 r) ∧ Drawn0 w w' := by
  have H : (if a2 = true then (if 0 ≤ (wrap64 (Int.tdiv a1 8)) then (if (wrap64 (Int.tdiv a1 8)) < (a0.size : Int) then (if 0 ≤ (wrap64 (7 - (Int.tmod a1 8))) then (some (Go.bits .and .i64 (shr .i64 (wrap64 (bt a0 (wrap64 (Int.tdiv a1 8)))) (wrap64 (7 - (Int.tmod a1 8)))) 1)) else (none)) else (none)) else (none)) else (if 0 ≤ (wrap64 (Int.tdiv a1 8)) then (if (wrap64 (Int.tdiv a1 8)) < (a0.size : Int) then (if 0 ≤ (Int.tmod a1 8) then (some (Go.bits .and .i64 (shr .i64 (wrap64 (bt a0 (wrap64 (Int.tdiv a1 8)))) (Int.tmod a1 8)) 1)) else (none)) else (none)) else (none))) = some r := h
  clear h
  by_cases c4 : a2 = true
  · subst c4
    have H1 : (if 0 ≤ (wrap64 (Int.tdiv a1 8)) then (if (wrap64 (Int.tdiv a1 8)) < (a0.size : Int) then (if 0 ≤ (wrap64 (7 - (Int.tmod a1 8))) then (some (Go.bits .and .i64 (shr .i64 (wrap64 (bt a0 (wrap64 (Int.tdiv a1 8)))) (wrap64 (7 - (Int.tmod a1 8)))) 1)) else (none)) else (none)) else (none)) = some r := by first | (rw [if_pos rfl] at H; exact H) | rfl
    clear H
    have H := H1
    clear H1
    obtain ⟨ji5, hji5⟩ : ∃ j_ : Int, (wrap64 (Int.tdiv a1 8)) = j_ := ⟨_, rfl⟩
    replace H : (if 0 ≤ (ji5) then (if (ji5) < (a0.size : Int) then (if 0 ≤ (wrap64 (7 - (Int.tmod a1 8))) then (some (Go.bits .and .i64 (shr .i64 (wrap64 (bt a0 (ji5))) (wrap64 (7 - (Int.tmod a1 8)))) 1)) else (none)) else (none)) else (none)) = some r := by first | (rw [hji5] at H; exact H) | (simp only [hji5] at H ⊢; exact H)
    have hji5w : (IntKind.i64.wrap (Int.tdiv a1 8)) = ji5 := (i64_w _).trans hji5
    by_cases c6 : 0 ≤ (ji5)
    · rw [if_pos c6] at H
      have c6b0 : decide (0 ≤ (ji5)) = true := decide_eq_true c6
      clear c6
      by_cases c7 : (ji5) < (a0.size : Int)
      · rw [if_pos c7] at H
        have c7b0 : decide ((ji5) < (a0.size : Int)) = true := decide_eq_true c7
        clear c7
        obtain ⟨ji9, hji9⟩ : ∃ j_ : Int, (wrap64 (7 - (Int.tmod a1 8))) = j_ := ⟨_, rfl⟩
        replace H : (if 0 ≤ (ji9) then (some (Go.bits .and .i64 (shr .i64 (wrap64 (bt a0 (ji5))) (ji9)) 1)) else (none)) = some r := by first | (rw [hji9] at H; exact H) | (simp only [hji9] at H ⊢; exact H)
        have hji9w : (IntKind.i64.wrap (7 - (Int.tmod a1 8))) = ji9 := (i64_w _).trans hji9
        by_cases c10 : 0 ≤ (ji9)
        · rw [if_pos c10] at H
          have c10b0 := eq_true c10
          have c10b1 : decide (0 ≤ (ji9)) = true := decide_eq_true c10
          clear c10
          obtain ⟨ji11, hji11⟩ : ∃ j_ : Int, (shr .i64 (wrap64 (bt a0 (ji5))) (ji9)) = j_ := ⟨_, rfl⟩
          replace H : (some (Go.bits .and .i64 (ji11) 1)) = some r := by first | (rw [hji11] at H; exact H) | (simp only [hji11] at H ⊢; exact H)
          have hji11_ : ((wrap64 (bt a0 (ji5))) / 2 ^ min (ji9).toNat 64) = ji11 := hji11
          have hji11z : (ji9) ≤ 64 → ((wrap64 (bt a0 (ji5))) / 2 ^ (ji9).toNat) = ji11 := shr_small hji11
          obtain rfl := Option.some.inj H
          have p8 : 0 ≤ ((ji5) : Int) := of_decide_eq_true (by first | (with_reducible assumption) | assumption)
          have q8 : (ji5) < (a0.size : Int) := of_decide_eq_true (by first | (with_reducible assumption) | assumption)
          have hx8 := bt_at a0 (ji5)
          replace p8 := eq_true p8
          replace q8 := eq_true q8
          go_enter Try.func54, Try.ntmps54
          go_wp2
          go_ret
          exact ⟨by first | rfl | (simp; done) | (simp only [← hji5, ← hji9, ← hji11] <;> (first | rfl | simp)) | (simp [*]; done), by repeat (first | exact Drawn0.refl _ | apply Drawn0.step)⟩
        · rw [if_neg c10] at H
          exact absurd H (by simp)
      · rw [if_neg c7] at H
        exact absurd H (by simp)
    · rw [if_neg c6] at H
      exact absurd H (by simp)
  · replace c4 := Bool.eq_false_iff.mpr c4
    subst c4
    have H1 : (if 0 ≤ (wrap64 (Int.tdiv a1 8)) then (if (wrap64 (Int.tdiv a1 8)) < (a0.size : Int) then (if 0 ≤ (Int.tmod a1 8) then (some (Go.bits .and .i64 (shr .i64 (wrap64 (bt a0 (wrap64 (Int.tdiv a1 8)))) (Int.tmod a1 8)) 1)) else (none)) else (none)) else (none)) = some r := by first | (rw [if_neg (show ¬ (false = true) by decide)] at H; exact H) | rfl
    clear H
    have H := H1
    clear H1
    obtain ⟨ji12, hji12⟩ : ∃ j_ : Int, (wrap64 (Int.tdiv a1 8)) = j_ := ⟨_, rfl⟩
    replace H : (if 0 ≤ (ji12) then (if (ji12) < (a0.size : Int) then (if 0 ≤ (Int.tmod a1 8) then (some (Go.bits .and .i64 (shr .i64 (wrap64 (bt a0 (ji12))) (Int.tmod a1 8)) 1)) else (none)) else (none)) else (none)) = some r := by first | (rw [hji12] at H; exact H) | (simp only [hji12] at H ⊢; exact H)
    have hji12w : (IntKind.i64.wrap (Int.tdiv a1 8)) = ji12 := (i64_w _).trans hji12
    by_cases c13 : 0 ≤ (ji12)
    · rw [if_pos c13] at H
      have c13b0 : decide (0 ≤ (ji12)) = true := decide_eq_true c13
      clear c13
      by_cases c14 : (ji12) < (a0.size : Int)
      · rw [if_pos c14] at H
        have c14b0 : decide ((ji12) < (a0.size : Int)) = true := decide_eq_true c14
        clear c14
        obtain ⟨ji16, hji16⟩ : ∃ j_ : Int, (Int.tmod a1 8) = j_ := ⟨_, rfl⟩
        replace H : (if 0 ≤ (ji16) then (some (Go.bits .and .i64 (shr .i64 (wrap64 (bt a0 (ji12))) (ji16)) 1)) else (none)) = some r := by first | (rw [hji16] at H; exact H) | (simp only [hji16] at H ⊢; exact H)
        by_cases c17 : 0 ≤ (ji16)
        · rw [if_pos c17] at H
          have c17b0 := eq_true c17
          have c17b1 : decide (0 ≤ (ji16)) = true := decide_eq_true c17
          clear c17
          obtain ⟨ji18, hji18⟩ : ∃ j_ : Int, (shr .i64 (wrap64 (bt a0 (ji12))) (ji16)) = j_ := ⟨_, rfl⟩
          replace H : (some (Go.bits .and .i64 (ji18) 1)) = some r := by first | (rw [hji18] at H; exact H) | (simp only [hji18] at H ⊢; exact H)
          have hji18_ : ((wrap64 (bt a0 (ji12))) / 2 ^ min (ji16).toNat 64) = ji18 := hji18
          have hji18z : (ji16) ≤ 64 → ((wrap64 (bt a0 (ji12))) / 2 ^ (ji16).toNat) = ji18 := shr_small hji18
          obtain rfl := Option.some.inj H
          have p15 : 0 ≤ ((ji12) : Int) := of_decide_eq_true (by first | (with_reducible assumption) | assumption)
          have q15 : (ji12) < (a0.size : Int) := of_decide_eq_true (by first | (with_reducible assumption) | assumption)
          have hx15 := bt_at a0 (ji12)
          replace p15 := eq_true p15
          replace q15 := eq_true q15
          go_enter Try.func54, Try.ntmps54
          go_wp2
          go_ret
          exact ⟨by first | rfl | (simp; done) | (simp only [← hji12, ← hji16, ← hji18] <;> (first | rfl | simp)) | (simp [*]; done), by repeat (first | exact Drawn0.refl _ | apply Drawn0.step)⟩
        · rw [if_neg c17] at H
          exact absurd H (by simp)
      · rw [if_neg c14] at H
        exact absurd H (by simp)
    · rw [if_neg c13] at H
      exact absurd H (by simp)

/-! ### impl_CodeGet: function 30 -/
section
open Go.Proofs.Ytgajagocenffeaa.Th
def impl_CodeGet.l0 (a0 : ByteArray) (l2 codes : List Int) : Nat → Int → Int → Option (Int × Int)
  | 0, _, _ => some (-1, 0)
  | d + 1, n, at_ => if at_ < 8 * (a0.size : Int) then ((impl_bitAt.f a0 at_ false).bind fun b =>
      match symF codes l2 (wrap64 (wrap64 (2 * n) + b)) (15 - d) codes.length with
      | some i => some ((i : Int), at_ + 1)
      | none => impl_CodeGet.l0 a0 l2 codes d (wrap64 (wrap64 (2 * n) + b)) (at_ + 1)) else some (-1, 0)
def impl_CodeGet.j0 (a0 : ByteArray) (a1 : Int) (l2 codes : List Int) : Option (Int × Int) :=
  if codes.length = l2.length ∧ l2.length ≤ 300 ∧ (∀ v ∈ codes, -9223372036854775808 ≤ v ∧ v ≤ 9223372036854775807) ∧ (∀ v ∈ l2, -9223372036854775808 ≤ v ∧ v ≤ 9223372036854775807) then impl_CodeGet.l0 a0 l2 codes 15 0 a1 else none
def impl_CodeGet.f (k : Nat) (a0 : ByteArray) (a1 : Int) (l2 : List Int) : Option (Int × Int) :=
  (impl_CodeOk.f k l2).bind fun t1 => if t1 = true then (if (a0.size : Int) > 9000 then some (-1, 0) else if 0 ≤ a1 ∧ a1 ≤ 8 * (a0.size : Int) then (impl_CodeMake.f k l2).bind fun t2 => impl_CodeGet.j0 a0 a1 l2 t2 else some (-1, 0)) else some (-1, 0)
theorem impl_CodeGet.mono : ∀ a0 a1 a2 k, LeO (impl_CodeGet.f k a0 a1 a2) (impl_CodeGet.f (k + 1) a0 a1 a2) := by
  intro a0 a1 a2 k
  unfold impl_CodeGet.f
  repeat' first
      | (with_reducible exact impl_CodeOk.mono _ _)
      | (with_reducible exact impl_CodeMake.mono _ _)
      | (with_reducible exact LeO.refl _)
      | (with_reducible exact LeO.none _)
      | (with_reducible refine LeO.ite ?_ ?_)
      | (with_reducible refine LeO.bind ?_ (fun _ => ?_))
set_option maxHeartbeats 8000000 in
set_option maxRecDepth 100000 in
theorem symbols_calls (k : Nat) (A0 : Option Addr) (c0 : Nat) (l0 codes : List Int) (w : World) (hr0 : Kd.C (Kd.int .i64) w A0 l0.length l0) (hc0 : l0.length ≤ c0) (h : impl_CodeMake.f k l0 = some codes) (hl : codes.length = l0.length) (h300 : l0.length ≤ 300) (hs1 : smallI codes) (hs2 : smallI l0) :
    Calls Try.prog 53 #[.slice A0 l0.length c0] w fun e w' => ∃ b, e = .returned (.map (some b)) ∧ Aside0 (w'.ownsMap Try.prog 63 (plainElem Try.prog 3) b 300 (symD codes l0 codes.length)) ∧ Below w.heap.size w w' := by
  have hB0 : Below w.heap.size w (w.alloc (Obj.map #[] 0)) := (Below.refl _ _).alloc (Nat.le_refl _) _
  have hcm := impl_CodeMake.calls k A0 c0 l0 codes (w.alloc (Obj.map #[] 0)) (Kd.C_below hr0 hB0) hc0 h
  have HCM := Aside0.mk hcm
  have HB0 := Aside0.mk hB0
  have hm0 := World.ownsMap_made w Try.prog 63 (plainElem (H := Unit) Try.prog 3)
  have HM0 := Aside0.mk hm0
  have HR0 := Aside0.mk hr0
  have HS1 := Aside0.mk hs1
  have HS2 := Aside0.mk hs2
  have hsz : (w.alloc (Obj.map #[] 0)).heap.size = w.heap.size + 1 := by simp
  have HSZ := Aside0.mk hsz
  clear hr0 hc0 h hs1 hs2 hB0 hcm hm0 hsz
  have hmm := @run_makeMap Try.prog
  generalize hq : w.alloc (Obj.map #[] 0) = wa at HCM HB0 HM0 HSZ
  go_enter Try.func53, Try.ntmps53
  go_wp2_with (go_at_call 24; refine (HCM.out).mono ?_; rintro e w2 ⟨v8, rfl, hr8, hb8⟩; obtain ⟨A8, c8, rfl⟩ := Kd.R_slice hr8)
  rw [HSZ.out] at hr8 hb8
  have hb2 : Below w.heap.size w w2 := HB0.out.trans (hb8.mono (by omega))
  have hm2 := (show w2.ownsMap Try.prog 63 (plainElem (H := Unit) Try.prog 3) w.heap.size 0 (.map []) from by
    obtain ⟨es, cl, h1, h2⟩ := HM0.out
    exact ⟨es, cl, (hb8.block _ (by have := HSZ.out; omega)).trans h1, h2⟩)
  have HB2 := Aside0.mk hb2
  have HM2 := Aside0.mk hm2
  have HR8 := Aside0.mk hr8
  have hlt2 : w.heap.size + 1 ≤ w2.heap.size := by have := hb8.size; have := HSZ.out; omega
  clear hm2 hb2 hb8 hr8 HM0 HB0 HCM hmm
  go_loopw [10] (fun v10 wr => ∃ j : Nat, v10 = .int .i64 j ∧ j ≤ codes.length ∧ Aside0 (wr.ownsMap Try.prog 63 (plainElem Try.prog 3) w.heap.size j (symD codes l0 j)) ∧ Aside0 (w2.grownBy wr (some w.heap.size)) ∧ Aside0 (Below w.heap.size w wr)) (fun v10 _ => codes.length - (intOf v10).toNat)
  case atStart => exact ⟨0, rfl, Nat.zero_le _, HM2, ⟨World.grownBy.refl _ _⟩, HB2⟩
  case round =>
    clear HM2 HB2
    obtain ⟨j, rfl, hj, HM, HG, HB⟩ := hrel
    by_cases hlt : j < codes.length
    · have c4b0 : decide ((j : Int) < (codes.length : Int)) = true := decide_eq_true (by omega)
      have q0 : (0 : Int) ≤ (j : Int) := by omega
      have q1 : (j : Int) < (codes.length : Int) := by omega
      have q2 : (j : Int) < (l0.length : Int) := by omega
      obtain ⟨ad, e, hcell⟩ := Kd.at_int HR0.out (j : Int) q0 q2
      cases e
      rw [Int.toNat_natCast] at hcell
      have hcell2 : wr.cell? (ad.add j) = some (.int .i64 (rd l0 j)) := (HB.out.cell (World.block_lt_of_cell? w _ hcell)).trans hcell
      have hrl : rd l0 j = l0.getD j 0 := by unfold rd; rw [Int.toNat_natCast]
      clear hcell
      have hC8 := (Kd.R_reads' HR8.out).2.2
      obtain ⟨ad8, e8, hcell8⟩ := Kd.at_int hC8 (j : Int) q0 q1
      cases e8
      rw [Int.toNat_natCast] at hcell8
      obtain ⟨g8, cap8, hv8, hb8, _⟩ := Kd.R_form HR8.out (by omega)
      injection hv8 with hA _ _
      injection hA with hA
      have hcell82 : wr.cell? (ad8.add j) = some (.int .i64 (rd codes j)) := HG.out.cell hcell8 (by rw [hA]; simp only [Addr.add]; split <;> (simp; omega))
      have hrc : rd codes j = codes.getD j 0 := by unfold rd; rw [Int.toNat_natCast]
      rw [hrl] at hcell2
      rw [hrc] at hcell82
      clear hcell8 hC8 hA hb8 hrl hrc
      obtain ⟨n, hn⟩ : ∃ n, codes.getD j 0 = n := ⟨_, rfl⟩
      obtain ⟨s, hs⟩ : ∃ s, l0.getD j 0 = s := ⟨_, rfl⟩
      rw [hs] at hcell2
      rw [hn] at hcell82
      have hkey := place_key (n := n) (s := s) (by rw [← hn]; exact smallI_at HS1.out j) (by rw [← hs]; exact smallI_at HS2.out j)
      have HKEY := Aside0.mk hkey
      have HN := Aside0.mk hn
      have HS := Aside0.mk hs
      clear hkey hn hs
      have hown := HM.out
      by_cases hp : s > 0
      · have c5 : decide (s > 0) = true := decide_eq_true hp
        have HP := Aside0.mk hp
        clear hp
        go_wp2_with (at_mapUpdate; refine wpList_mapUpdate_own _ rfl _ _ _ 59 rfl 63 3 placeLaw Try.underlying59 _ w.heap.size j _ rfl hown (by unfold maxLen; omega) _ _ _ rfl rfl HKEY.out _ [] (plainElem_int Try.underlying3 (i64_wf (n := (j : Int)) (by omega))) ?_; intro w1 hown1 hgrow1)
        go_roundw
        case rel =>
          refine ⟨_, _, _, ⟨j + 1, by go_num, by omega, ⟨?_⟩, ⟨World.grownBy.trans HG.out hgrow1⟩, ⟨HB.out.grown hgrow1 (by have := HG.out.size; omega) (fun k hk => by cases hk; exact Nat.le_refl _)⟩⟩, rfl, rfl, rfl⟩
          have e : symD codes l0 (j + 1) = (symD codes l0 j).put (placeK n s) (.lit (.int .i64 j)) := by
            show (if 0 < l0.getD j 0 then _ else _) = _
            rw [HS.out, HN.out, if_pos HP.out]
          rw [e]
          exact hown1
        case measure => simp [intOf]; omega
      · have c5 : decide (s > 0) = false := decide_eq_false hp
        have HP := Aside0.mk hp
        clear hp
        go_wp2
        go_roundw
        case rel =>
          refine ⟨j + 1, by go_num, by omega, ⟨?_⟩, HG, HB⟩
          have e : symD codes l0 (j + 1) = symD codes l0 j := by
            show (if 0 < l0.getD j 0 then _ else _) = _
            rw [HS.out, if_neg HP.out]
          rw [e]
          exact hown.mono (by omega)
        case measure => simp [intOf]; omega
    · obtain rfl : j = codes.length := by omega
      have c4b0 : decide ((codes.length : Int) < (codes.length : Int)) = false := decide_eq_false (by omega)
      go_wp2
      go_ret
      exact ⟨w.heap.size, rfl, ⟨HM.out.mono (by omega)⟩, HB.out⟩
theorem zeroPl (w : World) : (zeroValue 3).run Try.prog w = .ok (.int .i64 0) w := by kernel_rfl
set_option maxHeartbeats 8000000 in
set_option maxRecDepth 100000 in
theorem impl_CodeGet.calls (k : Nat) (a0 : ByteArray) (a1 : Int) (A2 : Option Addr) (c2 : Nat) (l2 : List Int) (r1 : Int) (r2 : Int) (w : World) (hr2 : Kd.C (Kd.int .i64) w A2 l2.length l2) (hc2 : l2.length ≤ c2) (h : impl_CodeGet.f k a0 a1 l2 = some (r1, r2)) :
    Calls Try.prog 30 #[.string a0, .int .i64 a1, .slice A2 l2.length c2] w fun e w' => e = .returned (.tuple #[.int .i64 r1, .int .i64 r2]) ∧ Below w.heap.size w w' := by
  unfold impl_CodeGet.f at h
  obtain ⟨ok, hok⟩ : ∃ ok, impl_CodeOk.f k l2 = some ok := by
    cases e : impl_CodeOk.f k l2 with
    | none => rw [e] at h; simp at h
    | some v => exact ⟨v, rfl⟩
  rw [hok, Option.bind_some] at h
  have hko := impl_CodeOk.calls k A2 c2 l2 ok w hr2 hc2 hok
  have HKO := Aside0.mk hko
  have HR2 := Aside0.mk hr2
  have HC2 := Aside0.mk hc2
  clear hko hok hr2 hc2
  by_cases hb : ok = true
  · subst hb
    rw [if_pos rfl] at h
    by_cases hs : (a0.size : Int) > 9000
    · rw [if_pos hs] at h
      obtain ⟨rfl, rfl⟩ : -1 = r1 ∧ 0 = r2 := by simpa using h
      have c1 : decide ((a0.size : Int) > 9000) = true := decide_eq_true hs
      clear h hs
      go_enter Try.func30, Try.ntmps30
      go_wp2_with (go_at_call 18; refine (HKO.out).mono ?_; rintro e w' ⟨rfl, hd⟩; obtain ⟨⟨m, rfl⟩⟩ := hd)
      go_ret2
      exact ⟨rfl, by repeat (first | exact Below.refl _ _ | apply Below.drew | apply pw_below_drewN)⟩
    · rw [if_neg hs] at h
      have c1 : decide ((a0.size : Int) > 9000) = false := decide_eq_false hs
      have HSZ := Aside0.mk hs
      have hw8 : IntKind.i64.wrap (8 * (a0.size : Int)) = 8 * (a0.size : Int) := by rw [i64_w', w64 (by omega)]
      clear hs
      by_cases hi : 0 ≤ a1 ∧ a1 ≤ 8 * (a0.size : Int)
      · rw [if_pos hi] at h
        have hin : impl_in.f a1 0 (8 * (a0.size : Int)) = some true := by
          unfold impl_in.f
          rw [if_pos (show a1 ≥ 0 from hi.1)]; congr 1; exact decide_eq_true hi.2
        have HIN := Aside0.mk hin
        have HI := Aside0.mk hi
        clear hin hi
        obtain ⟨codes, hcm⟩ : ∃ codes, impl_CodeMake.f k l2 = some codes := by
          cases e : impl_CodeMake.f k l2 with
          | none => rw [e] at h; simp at h
          | some v => exact ⟨v, rfl⟩
        rw [hcm, Option.bind_some] at h
        unfold impl_CodeGet.j0 at h
        by_cases hj : codes.length = l2.length ∧ l2.length ≤ 300 ∧ (∀ v ∈ codes, -9223372036854775808 ≤ v ∧ v ≤ 9223372036854775807) ∧ (∀ v ∈ l2, -9223372036854775808 ≤ v ∧ v ≤ 9223372036854775807)
        · rw [if_pos hj] at h
          have HJ := Aside0.mk hj
          have HL := Aside0.mk h
          have HCM := Aside0.mk hcm
          clear h hcm hj
          go_enter Try.func30, Try.ntmps30
          go_wp2_with (first | (go_at_call 18; refine (HKO.out).mono ?_; rintro e w' ⟨rfl, hd⟩; obtain ⟨⟨m, rfl⟩⟩ := hd) | (go_at_call 39; refine (impl_in.calls a1 0 (8 * (a0.size : Int)) _ _ HIN.out).mono ?_; rintro e w' ⟨rfl, hd⟩; obtain ⟨⟨m2, rfl⟩⟩ := hd) | (go_at_call 53; refine (symbols_calls k A2 c2 l2 codes _ (by repeat (first | exact HR2.out | apply Kd.C_drewN | apply Kd.C_drew)) HC2.out HCM.out HJ.out.1 HJ.out.2.1 HJ.out.2.2.1 HJ.out.2.2.2).mono ?_; rintro e w3 ⟨b, rfl, HM, hb⟩))
          have HB := Aside0.mk (show Below w.heap.size w w3 from Below.trans (by repeat (first | exact Below.refl _ _ | apply Below.drew | apply pw_below_drewN)) hb)
          clear hb HKO HIN HR2 HC2 HCM
          have hown0 := HM.out
          clear HM
          go_loopg [1, 9, 10] 15 (fun d v1 v9 v10 wr => ∃ (at_ n : Int), v1 = .int .i64 at_ ∧ v9 = .int .i64 n ∧ v10 = .int .i64 (16 - d) ∧ Aside0 (d ≤ 15) ∧ Aside0 (impl_CodeGet.l0 a0 l2 codes d n at_ = some (r1, r2)) ∧ Aside0 (0 ≤ at_ ∧ at_ ≤ 8 * (a0.size : Int)) ∧ Aside0 (wr.ownsMap Try.prog 63 (plainElem Try.prog 3) b 300 (symD codes l2 codes.length)) ∧ Aside0 (Below w.heap.size w wr))
          case atStart => exact ⟨a1, 0, rfl, rfl, rfl, ⟨Nat.le_refl _⟩, HL, HI, ⟨hown0⟩, HB⟩
          case round =>
            clear HL HI hown0 HB
            obtain ⟨at_, n, rfl, rfl, rfl, HD, HL, HA, HM, HB⟩ := hrel
            have hd15 := HD.out
            obtain ⟨at0, at1⟩ := HA.out
            have HA := Aside0.mk at0
            have hsz := HSZ.out
            cases gk with
            | zero =>
              have h0 := HL.out
              unfold impl_CodeGet.l0 at h0
              obtain ⟨rfl, rfl⟩ : -1 = r1 ∧ 0 = r2 := by simpa using h0
              have c3 : decide ((16 - ((0 : Nat) : Int)) ≤ 15) = false := by decide
              clear h0 HL
              go_wp2
              go_ret2
              exact ⟨rfl, HB.out⟩
            | succ d =>
              have hsz16 : (16 - ((d + 1 : Nat) : Int)) = 15 - (d : Int) := by omega
              rw [hsz16]
              have c3 : decide ((15 - (d : Int)) ≤ 15) = true := decide_eq_true (by omega)
              have hs16 : IntKind.i64.wrap (15 - (d : Int) + 1) = 16 - (d : Int) := by rw [i64_w', w64 (by omega)]; omega
              obtain ⟨z, hz⟩ : ∃ z : Int, 15 - (d : Int) = z := ⟨_, rfl⟩
              have HZ := Aside0.mk hz
              have h0 := HL.out
              unfold impl_CodeGet.l0 at h0
              rw [hz] at h0 c3 hs16 ⊢
              by_cases hlt : at_ < 8 * (a0.size : Int)
              · rw [if_pos hlt] at h0
                have c4 : decide (at_ < 8 * (a0.size : Int)) = true := decide_eq_true hlt
                have hwa : IntKind.i64.wrap (at_ + 1) = at_ + 1 := by rw [i64_w', w64 (by omega)]
                have HA1 := Aside0.mk (show 0 ≤ at_ + 1 ∧ at_ + 1 ≤ 8 * (a0.size : Int) by omega)
                obtain ⟨bt, hbt⟩ : ∃ bt, impl_bitAt.f a0 at_ false = some bt := by
                  cases e : impl_bitAt.f a0 at_ false with
                  | none => rw [e] at h0; simp at h0
                  | some v => exact ⟨v, rfl⟩
                rw [hbt, Option.bind_some] at h0
                obtain ⟨n1, hn1⟩ : ∃ n1, wrap64 (2 * n) = n1 := ⟨_, rfl⟩
                rw [hn1] at h0
                obtain ⟨n2, hn2⟩ : ∃ n2, wrap64 (n1 + bt) = n2 := ⟨_, rfl⟩
                rw [hn2] at h0
                have hw1 : IntKind.i64.wrap (2 * n) = n1 := (i64_w _).trans hn1
                have hw2 : IntKind.i64.wrap (n1 + bt) = n2 := (i64_w _).trans hn2
                have hbn2 : -9223372036854775808 ≤ n2 ∧ n2 ≤ 9223372036854775807 := by rw [← hn2]; exact wf_b (wrap64_wf _)
                have hbz : -9223372036854775808 ≤ z ∧ z ≤ 9223372036854775807 := by omega
                have HKEY := Aside0.mk (place_key hbn2 hbz)
                obtain ⟨hhas, hat⟩ := symD_at (codes := codes) (lens := l2) HJ.out.2.2.1 HJ.out.2.2.2 hbn2 hbz codes.length
                have HBT := Aside0.mk hbt
                clear hbt hlt hn1 hn2 hbn2 hbz hz HL
                obtain ⟨q, hq⟩ : ∃ q, symF codes l2 n2 z codes.length = q := ⟨_, rfl⟩
                rw [hq] at h0 hhas hat
                have HAT := Aside0.mk hat
                have HHAS := Aside0.mk hhas
                have H0 := Aside0.mk h0
                clear h0 hat hhas hq
                cases q with
                | none =>
                  go_wp2_with (first | (go_at_call 54; refine (impl_bitAt.calls a0 at_ false bt _ HBT.out).mono ?_; rintro e w' ⟨rfl, hd⟩; obtain ⟨⟨m, rfl⟩⟩ := hd) | (at_lookup; refine wpList_lookup_own_ok_int _ rfl _ _ 59 rfl 63 3 .i64 placeLaw Try.underlying59 Try.underlying3 (zeroPl _) b 300 _ rfl (HM.out) _ _ rfl HKEY.out ?_; intro c hat hwc; rw [HHAS.out]))
                  go_roundg d
                  case rel => exact ⟨at_ + 1, n2, rfl, rfl, rfl, ⟨by omega⟩, ⟨H0.out⟩, HA1, ⟨HM.out⟩, ⟨pw_below_drewN HB.out _⟩⟩
                  case measure => omega
                | some i =>
                  go_wp2_with (first | (go_at_call 54; refine (impl_bitAt.calls a0 at_ false bt _ HBT.out).mono ?_; rintro e w' ⟨rfl, hd⟩; obtain ⟨⟨m, rfl⟩⟩ := hd) | (at_lookup; refine wpList_lookup_own_ok_int _ rfl _ _ 59 rfl 63 3 .i64 placeLaw Try.underlying59 Try.underlying3 (zeroPl _) b 300 _ rfl (HM.out) _ _ rfl HKEY.out ?_; intro c hat hwc; rw [HHAS.out]; obtain rfl : (i : Int) = c := (by have := HAT.out.symm.trans hat; simpa using this)))
                  go_ret2
                  obtain ⟨rfl, rfl⟩ : (i : Int) = r1 ∧ at_ + 1 = r2 := by have := H0.out; simpa using this
                  exact ⟨rfl, pw_below_drewN HB.out _⟩
              · rw [if_neg hlt] at h0
                have c4 : decide (at_ < 8 * (a0.size : Int)) = false := decide_eq_false hlt
                obtain ⟨rfl, rfl⟩ : -1 = r1 ∧ 0 = r2 := by simpa using h0
                clear h0 HL hlt
                go_wp2
                go_ret2
                exact ⟨rfl, HB.out⟩
        · rw [if_neg hj] at h; cases h
      · rw [if_neg hi] at h
        obtain ⟨rfl, rfl⟩ : -1 = r1 ∧ 0 = r2 := by simpa using h
        have hin : impl_in.f a1 0 (8 * (a0.size : Int)) = some false := by
          unfold impl_in.f
          by_cases h : a1 ≥ 0
          · rw [if_pos h]; congr 1; rw [decide_eq_false_iff_not]; omega
          · rw [if_neg h]
        have HIN := Aside0.mk hin
        clear hin hi h
        go_enter Try.func30, Try.ntmps30
        go_wp2_with (first | (go_at_call 18; refine (HKO.out).mono ?_; rintro e w' ⟨rfl, hd⟩; obtain ⟨⟨m, rfl⟩⟩ := hd) | (go_at_call 39; refine (impl_in.calls a1 0 (8 * (a0.size : Int)) _ _ HIN.out).mono ?_; rintro e w' ⟨rfl, hd⟩; obtain ⟨⟨m2, rfl⟩⟩ := hd))
        go_ret2
        exact ⟨rfl, by repeat (first | exact Below.refl _ _ | apply Below.drew | apply pw_below_drewN)⟩
  · obtain rfl : ok = false := by simpa using hb
    rw [if_neg hb] at h
    obtain ⟨rfl, rfl⟩ : -1 = r1 ∧ 0 = r2 := by simpa using h
    clear h hb
    go_enter Try.func30, Try.ntmps30
    go_wp2_with (go_at_call 18; refine (HKO.out).mono ?_; rintro e w' ⟨rfl, hd⟩; obtain ⟨⟨m, rfl⟩⟩ := hd)
    go_ret2
    exact ⟨rfl, by repeat (first | exact Below.refl _ _ | apply Below.drew | apply pw_below_drewN)⟩
end

/-- A state of type 75 at block g of W; what its slices lead to came in by w0. -/
def IsS75 (w0 W : World) (g : Nat) (f0 : List Int) (f1 : Int) : Prop := ∃ A0 c0, W.heap[g]? = some (.cells #[.slice A0 f0.length c0, .int .i64 f1] 75 (0, 0)) ∧ w0.heap.size ≤ g ∧ Kd.C (Kd.int .u8) w0 A0 f0.length f0
theorem IsS75.grown {w0 W : World} {g : Nat} {f0 : List Int} {f1 : Int} {W1 : World} {row : Option Nat} (h : IsS75 w0 W g f0 f1) (hw : W.grownBy W1 row) (hne : some g ≠ row) : IsS75 w0 W1 g f0 f1 := by
  obtain ⟨A0, c0, hb, hg, hr0⟩ := h
  exact ⟨A0, c0, blk_grown hb hw hne, hg, hr0⟩
theorem IsS75.own_neN {w0 W : World} {g : Nat} {f0 : List Int} {f1 : Int} {α : Type} {d : Kd α} {e : Nat} {base : Nat} {ok : Nat → Prop} {v : Value} {xs : List α} (h : IsS75 w0 W g f0 f1) (ho : Kd.N d e W base ok v xs) (ht : e ≠ 75) : some g ≠ v.ownBlock := by
  obtain ⟨A0, c0, hb, hg, hr0⟩ := h
  exact Kd.N_ne ho hb ht
theorem IsS75.fresh {w0 W : World} {g : Nat} {f0 : List Int} {f1 : Int} (h : IsS75 w0 W g f0 f1) : ∀ k, W.heap.size ≤ k → k ≠ g := by
  obtain ⟨A0, c0, hb, hg, hr0⟩ := h
  exact Kd.freshB hb
theorem IsS75.kept {w0 W : World} {g : Nat} {f0 : List Int} {f1 : Int} {W1 : World} {S : Nat → Prop} (h : IsS75 w0 W g f0 f1) (hk : Kept W W1 S) (hne : ¬ S g) : IsS75 w0 W1 g f0 f1 := by
  obtain ⟨A0, c0, hb, hg, hr0⟩ := h
  exact ⟨A0, c0, blk_kept hb hk hne, hg, hr0⟩
theorem IsS75.below {w0 W : World} {g : Nat} {f0 : List Int} {f1 : Int} {W1 : World} (h : IsS75 w0 W g f0 f1) (hw : Below W.heap.size W W1) : IsS75 w0 W1 g f0 f1 := h.grown (grown_of_below hw none) (by simp)
theorem IsS75.alloc {w0 W : World} {g : Nat} {f0 : List Int} {f1 : Int} (h : IsS75 w0 W g f0 f1) (o : Obj) : IsS75 w0 (W.alloc o) g f0 f1 := h.below (below_alloc (Below.refl _ _) o)
theorem IsS75.drewN {w0 W : World} {g : Nat} {f0 : List Int} {f1 : Int} (h : IsS75 w0 W g f0 f1) (m : Nat) : IsS75 w0 (W.drewN m) g f0 f1 := h
theorem IsS75.drew {w0 W : World} {g : Nat} {f0 : List Int} {f1 : Int} (h : IsS75 w0 W g f0 f1) : IsS75 w0 W.drew g f0 f1 := h
theorem IsS75.at_ {w0 W : World} {g : Nat} {f0 : List Int} {f1 : Int} {w' : World} {m : Nat} (hq : W.drewN m = w') (h : IsS75 w0 W g f0 f1) : IsS75 w0 w' g f0 f1 := by subst hq; exact IsS75.drewN h m
theorem IsS75.apart {w0 W : World} {g : Nat} {f0 : List Int} {f1 : Int} {α : Type} {d : Kd α} {e : Nat} {base : Nat} {ok : Nat → Prop} {v : Value} {xs : List α} (h : IsS75 w0 W g f0 f1) (ho : d.R e W base ok v xs) (ht : ∀ q, q ∈ e :: d.E → q ≠ 75) : d.R e W base (fun k => ok k ∧ k ≠ g) v xs := by
  obtain ⟨A0, c0, hb, hg, hr0⟩ := h
  exact Kd.R_types ho hb ht
theorem IsS75.own_ne {w0 W : World} {g : Nat} {f0 : List Int} {f1 : Int} {α : Type} {d : Kd α} {e : Nat} {base : Nat} {ok : Nat → Prop} {v : Value} {xs : List α} (h : IsS75 w0 W g f0 f1) (ho : d.R e W base ok v xs) (ht : e ≠ 75) : some g ≠ v.ownBlock := by
  obtain ⟨A0, c0, hb, hg, hr0⟩ := h
  exact Kd.R_ne ho hb ht
theorem IsS75.apartQ {w0 W : World} {g : Nat} {f0 : List Int} {f1 : Int} {α : Type} {d : Kd α} {e : Nat} {base : Nat} {ok : Nat → Prop} {v : Value} {xs : List α} (h : IsS75 w0 W g f0 f1) (ho : d.Q e W base ok v xs) (ht : ∀ q, q ∈ e :: d.E → q ≠ 75) : d.Q e W base (fun k => ok k ∧ k ≠ g) v xs := by
  obtain ⟨A0, c0, hb, hg, hr0⟩ := h
  exact Kd.Q_types ho hb ht
theorem IsS75.own_neQ {w0 W : World} {g : Nat} {f0 : List Int} {f1 : Int} {α : Type} {d : Kd α} {e : Nat} {base : Nat} {ok : Nat → Prop} {v : Value} {xs : List α} (h : IsS75 w0 W g f0 f1) (ho : d.Q e W base ok v xs) (ht : e ≠ 75) : some g ≠ v.ownBlock := by
  obtain ⟨A0, c0, hb, hg, hr0⟩ := h
  exact Kd.Q_ne ho hb ht
theorem IsS75.apartS {w0 W : World} {g : Nat} {f0 : List Int} {f1 : Int} {α : Type} {d : Kd α} {e : Nat} {base : Nat} {ok : Nat → Prop} {v : Value} {xs : List α} (h : IsS75 w0 W g f0 f1) (ho : d.S e W base ok v xs) (ht : ∀ q, q ∈ e :: d.E → q ≠ 75) : d.S e W base (fun k => ok k ∧ k ≠ g) v xs := by
  obtain ⟨A0, c0, hb, hg, hr0⟩ := h
  exact Kd.S_types ho hb ht
theorem IsS75.own_neS {w0 W : World} {g : Nat} {f0 : List Int} {f1 : Int} {α : Type} {d : Kd α} {e : Nat} {base : Nat} {ok : Nat → Prop} {v : Value} {xs : List α} (h : IsS75 w0 W g f0 f1) (ho : d.S e W base ok v xs) (ht : e ≠ 75) : some g ≠ v.ownBlock := by
  obtain ⟨A0, c0, hb, hg, hr0⟩ := h
  exact Kd.S_ne ho hb ht
theorem IsS75.lt {w0 W : World} {g : Nat} {f0 : List Int} {f1 : Int} (h : IsS75 w0 W g f0 f1) : g < W.heap.size := by
  obtain ⟨A0, c0, hb, hg, hr0⟩ := h
  exact blk_lt hb
theorem IsS75.ge {w0 W : World} {g : Nat} {f0 : List Int} {f1 : Int} (h : IsS75 w0 W g f0 f1) : w0.heap.size ≤ g := by
  obtain ⟨A0, c0, hb, hg, hr0⟩ := h
  exact hg
theorem IsS75.ne_blk {w0 W : World} {g : Nat} {f0 : List Int} {f1 : Int} {a : Nat} {cs : Array Value} {t : TypeId} {fr : Nat × Nat} (h : IsS75 w0 W g f0 f1) (hb2 : W.heap[a]? = some (.cells cs t fr)) (ht : t ≠ 75) : g ≠ a := by
  obtain ⟨A0, c0, hb, hg, hr0⟩ := h
  rintro rfl
  rw [hb] at hb2
  injection hb2 with hb2
  injection hb2 with _ ht2
  exact ht ht2.symm
theorem IsS75.far {w0 W : World} {g : Nat} {f0 : List Int} {f1 : Int} {p : Addr} (h : IsS75 w0 W g f0 f1) (hne : g ≠ p.block) (u : Value) : IsS75 w0 (W.setCell p u) g f0 f1 := by
  obtain ⟨A0, c0, hb, hg, hr0⟩ := h
  exact ⟨A0, c0, blk_far hb hne u, hg, hr0⟩
theorem cellS75_0 {W : World} {g : Nat} {A0 : Option Addr} {c0 : Nat} {f0 : List Int} {f1 : Int} (h : W.heap[g]? = some (.cells #[.slice A0 f0.length c0, .int .i64 f1] 75 (0, 0))) : W.cell? ⟨g, 0, none⟩ = some (.slice A0 f0.length c0) := (blk_cell h 0).trans rfl
theorem cellS75_1 {W : World} {g : Nat} {A0 : Option Addr} {c0 : Nat} {f0 : List Int} {f1 : Int} (h : W.heap[g]? = some (.cells #[.slice A0 f0.length c0, .int .i64 f1] 75 (0, 0))) : W.cell? ⟨g, 1, none⟩ = some (.int .i64 f1) := (blk_cell h 1).trans rfl
theorem IsS75.set_1 {w0 W : World} {g : Nat} {f0 : List Int} {f1 : Int} (h : IsS75 w0 W g f0 f1) (x : Int) : IsS75 w0 (W.setCell ⟨g, 1, none⟩ (.int .i64 x)) g f0 x := by
  obtain ⟨A0, c0, hb, hg, hr0⟩ := h
  exact ⟨A0, c0, by simpa using blk_set hb 1 (.int .i64 x), hg, hr0⟩
theorem IsS75.new (w0 W : World) (A0 : Option Addr) (c0 : Nat) (f0 : List Int) (f1 : Int) (hB : Below w0.heap.size w0 W) (hr0 : Kd.C (Kd.int .u8) w0 A0 f0.length f0) : IsS75 w0 (W.alloc (.cells #[.slice A0 f0.length c0, .int .i64 f1] 75)) W.heap.size f0 f1 := ⟨A0, c0, by simpa using heap_alloc_new W _, hB.size, hr0⟩

/-! ### spec_l1Open: function 44 -/
def spec_l1Open.f (l0 : List Int) : Option (List Int × Int) := if (l0.length : Int) > 2000 then (if 2000 ≤ (l0.length : Int) then (some (l0.take 2000, 0)) else (none)) else (some (l0, 0))
set_option maxHeartbeats 8000000 in
set_option maxRecDepth 100000 in
theorem spec_l1Open.calls (A0 : Option Addr) (c0 : Nat) (l0 : List Int) (r1 : List Int) (r2 : Int) (w0 w : World) (hB : Below w0.heap.size w0 w) (hr0 : Kd.C (Kd.int .u8) w0 A0 l0.length l0) (hc0 : l0.length ≤ c0) (h : spec_l1Open.f l0 = some (r1, r2)) :
    Calls Try.prog 44 #[.slice A0 l0.length c0] w fun e w' => ∃ g_ : Nat, e = .returned (.pointer (some ⟨g_, 0, none⟩)) ∧ IsS75 w0 w' g_ r1 r2 ∧ Below w0.heap.size w0 w' ∧ Below w.heap.size w w' := by
  have hu75 := Try.underlying75
  have HR0 := Aside0.mk hr0
  have HC0 := Aside0.mk hc0
  clear hr0 hc0
  have HBW := Aside0.mk (Below.refl w.heap.size w)
  have HW0 := Aside0.mk hB.size
  have HB := Aside0.mk hB
  clear hB
  have H : (if (l0.length : Int) > 2000 then (if 2000 ≤ (l0.length : Int) then (some (l0.take 2000, 0)) else (none)) else (some (l0, 0))) = some (r1, r2) := h
  clear h
  by_cases c2 : (l0.length : Int) > 2000
  · rw [if_pos c2] at H
    have c2b0 : decide (2000 < (l0.length : Int)) = true := decide_eq_true c2
    have c2b1 : decide (2000 < l0.length) = true := decide_eq_true (by omega)
    clear c2
    by_cases c3 : 2000 ≤ (l0.length : Int)
    · rw [if_pos c3] at H
      have c3b0 := eq_true c3
      have c3b1 : decide (2000 ≤ (l0.length : Int)) = true := decide_eq_true c3
      clear c3
      simp only [Option.some.injEq, Prod.mk.injEq] at H
      obtain ⟨rfl, rfl⟩ := H
      obtain ⟨i04, hi04, _, hsz4, _⟩ := info_parts info5
      obtain ⟨hcut4, hA4, hC4⟩ := print_take_of (P := Try.prog) (Value.int .u8) 0 28 5 .i64 Try.underlying28 hi04 hsz4 A0 c0 l0 2000 (by omega) (of_decide_eq_true (by first | (with_reducible assumption) | assumption)) HC0.out
      have HR134 := Aside0.mk (Kd.C_of_reads (h1 := fun _ => rfl) (hA4 _ (Kd.reads_of_C HR0.out)))
      have HC134 := Aside0.mk hC4
      clear hA4 hC4 hi04 hsz4
      go_enter Try.func44, Try.ntmps44
      go_wp2_with (first | ((with_reducible refine gate_dst (N := 10) rfl ?_); refine box_event ?hg (N := 10) ?hd (cs := #[.slice A0 (l0.take 2000).length c0, .int .i64 0]) (t := 75) ?hr ?_; (case hd => rfl); (case hg => rfl); (case hr => first | (go_simp; done) | (go_simp; rfl)); intro gb135 hg w5 hbox hb; have n0_ := Aside0.mk (below_step HBW.out hb); have n1_ := Aside0.mk (below_step (by repeat (first | (with_reducible first | exact HB.out | apply below_alloc | apply pw_below_drewN | apply below_drew1) | exact HB.out)) hb); have n2_ := Aside0.mk (hbox); have n3_ := Aside0.mk ((by rw [hg]; exact (below_size (by repeat (first | (with_reducible first | exact HBW.out | apply below_alloc | apply pw_below_drewN | apply below_drew1) | exact HBW.out))) : w.heap.size ≤ gb135)); have n4_ := Aside0.mk ((Nat.le_trans HW0.out (by rw [hg]; exact (below_size (by repeat (first | (with_reducible first | exact HBW.out | apply below_alloc | apply pw_below_drewN | apply below_drew1) | exact HBW.out))) : w.heap.size ≤ gb135) : w0.heap.size ≤ gb135)); clear HBW; clear HB; have HBW := n0_; have HB := n1_; have BK135 := n2_; have GW135 := n3_; have GE135 := n4_; clear n0_ n1_ n2_ n3_ n4_; clear hb hbox hg))
      go_ret
      exact ⟨_, rfl, (show IsS75 w0 _ gb135 (l0.take 2000) 0 from ⟨_, _, by (with_reducible repeat (first | refine blk_drewN ?_ _ | refine blk_drew ?_ | refine blk_alloc ?_ _)); exact BK135.out, GE135.out, HR134.out⟩), by repeat (first | (with_reducible first | exact HB.out | apply below_alloc | apply pw_below_drewN | apply below_drew1 | refine below_set ?_ GE135.out) | exact HB.out), by repeat (first | (with_reducible first | exact HBW.out | apply below_alloc | apply pw_below_drewN | apply below_drew1 | refine below_set ?_ GW135.out) | exact HBW.out)⟩
    · rw [if_neg c3] at H
      exact absurd H (by simp)
  · rw [if_neg c2] at H
    have c2b0 : decide (2000 < (l0.length : Int)) = false := decide_eq_false c2
    have c2b1 : decide (2000 < l0.length) = false := decide_eq_false (by omega)
    clear c2
    simp only [Option.some.injEq, Prod.mk.injEq] at H
    obtain ⟨rfl, rfl⟩ := H
    go_enter Try.func44, Try.ntmps44
    go_wp2_with (first | ((with_reducible refine gate_dst (N := 10) rfl ?_); refine box_event ?hg (N := 10) ?hd (cs := #[.slice A0 l0.length c0, .int .i64 0]) (t := 75) ?hr ?_; (case hd => rfl); (case hg => rfl); (case hr => first | (go_simp; done) | (go_simp; rfl)); intro gb136 hg w6 hbox hb; have n0_ := Aside0.mk (below_step HBW.out hb); have n1_ := Aside0.mk (below_step (by repeat (first | (with_reducible first | exact HB.out | apply below_alloc | apply pw_below_drewN | apply below_drew1) | exact HB.out)) hb); have n2_ := Aside0.mk (hbox); have n3_ := Aside0.mk ((by rw [hg]; exact (below_size (by repeat (first | (with_reducible first | exact HBW.out | apply below_alloc | apply pw_below_drewN | apply below_drew1) | exact HBW.out))) : w.heap.size ≤ gb136)); have n4_ := Aside0.mk ((Nat.le_trans HW0.out (by rw [hg]; exact (below_size (by repeat (first | (with_reducible first | exact HBW.out | apply below_alloc | apply pw_below_drewN | apply below_drew1) | exact HBW.out))) : w.heap.size ≤ gb136) : w0.heap.size ≤ gb136)); clear HBW; clear HB; have HBW := n0_; have HB := n1_; have BK136 := n2_; have GW136 := n3_; have GE136 := n4_; clear n0_ n1_ n2_ n3_ n4_; clear hb hbox hg))
    go_ret
    exact ⟨_, rfl, (show IsS75 w0 _ gb136 l0 0 from ⟨_, _, by (with_reducible repeat (first | refine blk_drewN ?_ _ | refine blk_drew ?_ | refine blk_alloc ?_ _)); exact BK136.out, GE136.out, HR0.out⟩), by repeat (first | (with_reducible first | exact HB.out | apply below_alloc | apply pw_below_drewN | apply below_drew1 | refine below_set ?_ GE136.out) | exact HB.out), by repeat (first | (with_reducible first | exact HBW.out | apply below_alloc | apply pw_below_drewN | apply below_drew1 | refine below_set ?_ GW136.out) | exact HBW.out)⟩

end Go.Proofs.Ytgajagocenffeaa.PFnCodeGet
