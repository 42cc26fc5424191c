/- What the functions that the law comes to compute, as plain functions, and that the machine's calls come to just that: written by a program for this claim, and turned where Lean did not take it. No condition. -/
import Derived.Test.YtpjkcdgamlllgaaHFnPassesx0
import Derived.Test.YtpjkcdgamlllgaaHFnPassesx2
namespace Go.Proofs.Ytpjkcdgamlllgaa.PFnPasses
open Go.RowKit Go.Proofs.YtpjkcdgamlllgaaW.PrintWords Go.Proofs.YtpjkcdgamlllgaaW.PrintLast Go.Proofs.YtpjkcdgamlllgaaW.PrintMore
attribute [local go_sem] max2_int min2_int max_two min_two max_three min_three max_four min_four   -- for this text's walks alone
set_option linter.unusedVariables false
set_option linter.unusedSimpArgs false

/-! ### impl_PassesOf: function 48 -/
mutual
def impl_PassesOf.j0 : Nat → Int → Int → Bool → Option ((List (S62)))
  | 0, _, _, _ => none
  | k + 1, x0, x1, x15 => if x15 = true then (some ([] : List (S62))) else ((some (([(⟨0, 0, 8, 8, 0, 0⟩ : S62), (⟨4, 0, 8, 8, 0, 0⟩ : S62), (⟨0, 4, 4, 8, 0, 0⟩ : S62), (⟨2, 0, 4, 4, 0, 0⟩ : S62), (⟨0, 2, 2, 4, 0, 0⟩ : S62), (⟨1, 0, 2, 2, 0, 0⟩ : S62), (⟨0, 1, 1, 2, 0, 0⟩ : S62)] : List (S62)) : List (S62))).bind fun y116 => (impl_PassesOf.l0 k x0 x1 ([] : List (S62)) y116 (y116.length : Int) 0))
def impl_PassesOf.l0 : Nat → Int → Int → List (S62) → List (S62) → Int → Int → Option ((List (S62)))
  | 0, _, _, _, _, _, _ => none
  | k + 1, x0, x1, x5, x23, x24, x25 => if x25 < x24 then (if 0 ≤ x25 then (if x25 < (x23.length : Int) then (if ((rd_T62 x23 x25).f2) = 0 then (none) else (if ((rd_T62 x23 x25).f3) = 0 then (none) else (if x0 > ((rd_T62 x23 x25).f0) then (if x1 > ((rd_T62 x23 x25).f1) then (if x5.length < 2932031007402 then (impl_PassesOf.l0 k x0 x1 (x5 ++ [(⟨(rd_T62 x23 x25).f0, (rd_T62 x23 x25).f1, (rd_T62 x23 x25).f2, (rd_T62 x23 x25).f3, wrap64 (Int.tdiv (wrap64 ((wrap64 ((wrap64 (x0 - ((rd_T62 x23 x25).f0))) + ((rd_T62 x23 x25).f2))) - 1)) ((rd_T62 x23 x25).f2)), wrap64 (Int.tdiv (wrap64 ((wrap64 ((wrap64 (x1 - ((rd_T62 x23 x25).f1))) + ((rd_T62 x23 x25).f3))) - 1)) ((rd_T62 x23 x25).f3))⟩ : S62)]) x23 x24 (wrap64 (x25 + 1))) else (none)) else (impl_PassesOf.l0 k x0 x1 x5 x23 x24 (wrap64 (x25 + 1)))) else (impl_PassesOf.l0 k x0 x1 x5 x23 x24 (wrap64 (x25 + 1)))))) else (none)) else (none)) else (some x5)
end
def impl_PassesOf.f (k : Nat) (a0 : Int) (a1 : Int) : Option ((List (S62))) := (impl_in.f a0 1 20).bind fun t114 => (if t114 = true then ((impl_in.f a1 1 20).bind fun t115 => (impl_PassesOf.j0 k a0 a1 (!t115))) else (impl_PassesOf.j0 k a0 a1 true))
theorem impl_PassesOf.mono_l : ∀ k, (∀ y0 y1 y2, LeO (impl_PassesOf.j0 k y0 y1 y2) (impl_PassesOf.j0 (k + 1) y0 y1 y2)) ∧ (∀ y0 y1 y2 y3 y4 y5, LeO (impl_PassesOf.l0 k y0 y1 y2 y3 y4 y5) (impl_PassesOf.l0 (k + 1) y0 y1 y2 y3 y4 y5))
  | 0 => ⟨fun _ _ _ r h => by simp [impl_PassesOf.j0] at h, fun _ _ _ _ _ _ r h => by simp [impl_PassesOf.l0] at h⟩
  | k + 1 => by
    obtain ⟨ih0, ih1⟩ := impl_PassesOf.mono_l k
    refine ⟨?_, ?_⟩
    · intro y0 y1 y2
      unfold impl_PassesOf.j0
      repeat' first
      | (with_reducible exact ih0 _ _ _)
      | (with_reducible exact ih1 _ _ _ _ _ _)
      | (with_reducible exact LeO.refl _)
      | (with_reducible exact LeO.none _)
      | (with_reducible refine LeO.ite ?_ ?_)
      | (with_reducible refine LeO.bind ?_ (fun _ => ?_))
      | exact ih0 _ _ _
      | exact ih1 _ _ _ _ _ _
      | exact LeO.none _
      | refine LeO.ite ?_ ?_
      | refine LeO.bind ?_ (fun _ => ?_)
    · intro y0 y1 y2 y3 y4 y5
      unfold impl_PassesOf.l0
      repeat' first
      | (with_reducible exact ih0 _ _ _)
      | (with_reducible exact ih1 _ _ _ _ _ _)
      | (with_reducible exact LeO.refl _)
      | (with_reducible exact LeO.none _)
      | (with_reducible refine LeO.ite ?_ ?_)
      | (with_reducible refine LeO.bind ?_ (fun _ => ?_))
      | exact ih0 _ _ _
      | exact ih1 _ _ _ _ _ _
      | exact LeO.none _
      | refine LeO.ite ?_ ?_
      | refine LeO.bind ?_ (fun _ => ?_)
theorem impl_PassesOf.mono : ∀ a0 a1 k, LeO (impl_PassesOf.f k a0 a1) (impl_PassesOf.f (k + 1) a0 a1) := by
  intro a0 a1 k
  obtain ⟨ih0, ih1⟩ := impl_PassesOf.mono_l k
  unfold impl_PassesOf.f
  repeat' first
      | (with_reducible exact ih0 _ _ _)
      | (with_reducible exact ih1 _ _ _ _ _ _)
      | (with_reducible exact LeO.refl _)
      | (with_reducible exact LeO.none _)
      | (with_reducible refine LeO.ite ?_ ?_)
      | (with_reducible refine LeO.bind ?_ (fun _ => ?_))
      | exact ih0 _ _ _
      | exact ih1 _ _ _ _ _ _
      | exact LeO.none _
      | refine LeO.ite ?_ ?_
      | refine LeO.bind ?_ (fun _ => ?_)
def impl_PassesOf.T7 : Bool × List (List Nat × List Nat) := (true, [([], []), ([], []), ([1], [1]), ([0, 2], [0, 2]), ([], []), ([4], [4]), ([3, 5], [3, 5]), ([6], [6]), ([], []), ([8], [8]), ([7, 9], [7, 9]), ([], []), ([], []), ([12], [12]), ([11, 13], [11, 13]), ([], []), ([15], [15]), ([14, 16], [14, 16]), ([17], [17]), ([], []), ([19], [19]), ([18, 20], [18, 20]), ([0, 1, 2, 3, 4, 5, 6, 7, 8, 9, 10, 12, 13, 15, 16, 19, 20], []), ([22, 10, 0, 1, 2, 3, 4, 5, 6, 7, 8, 9, 10, 12, 13, 15, 16, 19, 20], [10, 22]), ([0, 1, 2, 3, 4, 5, 6, 7, 8, 9, 10, 11, 12, 13, 14, 15, 16, 17, 18, 19, 20, 21, 22, 23], []), ([24, 21, 23, 0, 1, 2, 3, 4, 5, 6, 7, 8, 9, 10, 11, 12, 13, 14, 15, 16, 17, 18, 19, 20, 21, 22, 23], [21, 24])])
def impl_PassesOf.B7 : List Nat := [0, 0, 2, 7, 0, 16, 63, 127, 0, 256, 1023, 0, 0, 4096, 14336, 0, 32768, 129024, 260096, 0, 524288, 2095104, 1685503, 5879807, 16777215, 33554431]
theorem impl_PassesOf.tab7 : rtab .any (opsOf Try.f48 7) = impl_PassesOf.T7 := by kernel_rfl
theorem impl_PassesOf.bits7 : waitsOk impl_PassesOf.T7.2 impl_PassesOf.B7 = true := by kernel_rfl
set_option maxHeartbeats 8000000 in
set_option maxRecDepth 100000 in
theorem impl_PassesOf.calls (k : Nat) (a0 : Int) (a1 : Int) (r : List (S62)) (w : World) (h : impl_PassesOf.f k a0 a1 = some r) :
    Calls Try.prog 48 #[.int .i64 a0, .int .i64 a1] w fun e w' => ∃ v0_ : Value, e = .returned (v0_) ∧ Kd.R k62 62 w' w.heap.size (fun _ => True) v0_ r ∧ Below w.heap.size w w' := by
  have hu62 := Try.underlying62
  have HB := Aside0.mk (Below.refl w.heap.size w)
  have H : ((impl_in.f a0 1 20).bind fun t114 => (if t114 = true then ((impl_in.f a1 1 20).bind fun t115 => (impl_PassesOf.j0 k a0 a1 (!t115))) else (impl_PassesOf.j0 k a0 a1 true))) = some r := h
  clear h
  have HC3 := Aside0.mk H
  clear H
  go_enter Try.func48, Try.ntmps48
  go_upto_region 1 with (fail)
  go_cut [15] (fun v15 wc => ∃ (kq : Nat) (x15_2 : Bool), v15 = .bool x15_2 ∧ Aside0 (impl_PassesOf.j0 kq a0 a1 x15_2 = some r) ∧ Aside0 (kq ≤ k) ∧ Aside0 (Below w.heap.size w wc))
  case first =>
    have H := HC3.out
    clear HC3
    replace H := Option.bind_eq_some_iff.mp H
    obtain ⟨t114, A40, H⟩ := H
    replace H : (if t114 = true then ((impl_in.f a1 1 20).bind fun t115 => (impl_PassesOf.j0 k a0 a1 (!t115))) else (impl_PassesOf.j0 k a0 a1 true)) = some r := H
    have A4 := Aside0.mk A40
    clear A40
    by_cases c5 : t114 = true
    · subst c5
      have H1 : ((impl_in.f a1 1 20).bind fun t115 => (impl_PassesOf.j0 k a0 a1 (!t115))) = some r := by first | (rw [if_pos rfl] at H; exact H) | rfl
      clear H
      have H := H1
      clear H1
      replace H := Option.bind_eq_some_iff.mp H
      obtain ⟨t115, A60, H⟩ := H
      replace H : (impl_PassesOf.j0 k a0 a1 (!t115)) = some r := H
      have A6 := Aside0.mk A60
      clear A60
      have H' := Aside0.mk H
      clear H
      go_wp2_with (first | ((with_reducible refine gate_callee (f := 59) rfl ?_); refine goesL_ (some 9) rfl rfl Try.func59 (by kernel_rfl) rfl #[.int .i64 a0, .int .i64 1, .int .i64 20] rfl (by (try simp only [List.map_toArray, List.map_cons, List.map_nil]); first | done | rfl | (simp only [List.length_drop, List.length_take]; rfl)) ?_; (with_reducible refine (impl_in.calls a0 1 20 true _ A4.out).mono ?_); rintro e w' ⟨rfl, ⟨nd, rfl⟩⟩; refine ⟨_, rfl, ?_⟩) | (go_at_call 59; (with_reducible refine (impl_in.calls a1 1 20 t115 _ A6.out).mono ?_); rintro e w' ⟨rfl, ⟨nd, rfl⟩⟩))
      go_meet
      case rel => exact ⟨_, (!t115), (by first | rfl | (simp; done) | (simp [*]; done)), H', ⟨by first | omega | exact Nat.le_refl _⟩, ⟨by repeat (first | (with_reducible first | exact HB.out | apply below_alloc | apply pw_below_drewN | apply below_drew1) | exact HB.out)⟩⟩
    · replace c5 := Bool.eq_false_iff.mpr c5
      subst c5
      have H1 : (impl_PassesOf.j0 k a0 a1 true) = some r := by first | (rw [if_neg (show ¬ (false = true) by decide)] at H; exact H) | rfl
      clear H
      have H := H1
      clear H1
      have H' := Aside0.mk H
      clear H
      go_wp2_with (first | ((with_reducible refine gate_callee (f := 59) rfl ?_); refine goesL_ (some 9) rfl rfl Try.func59 (by kernel_rfl) rfl #[.int .i64 a0, .int .i64 1, .int .i64 20] rfl (by (try simp only [List.map_toArray, List.map_cons, List.map_nil]); first | done | rfl | (simp only [List.length_drop, List.length_take]; rfl)) ?_; (with_reducible refine (impl_in.calls a0 1 20 false _ A4.out).mono ?_); rintro e w' ⟨rfl, ⟨nd, rfl⟩⟩; refine ⟨_, rfl, ?_⟩))
      go_meet
      case rel => exact ⟨_, (true), (by first | rfl | (simp; done) | (simp [*]; done)), H', ⟨by first | omega | exact Nat.le_refl _⟩, ⟨by repeat (first | (with_reducible first | exact HB.out | apply below_alloc | apply pw_below_drewN | apply below_drew1) | exact HB.out)⟩⟩
  case rest =>
    clear HC3
    try clear p2
    try clear c4
    try clear c5
    obtain ⟨kq, x15_2, rfl, HA, HJ2, HB⟩ := hcut
    cases kq with
    | zero => exact absurd HA.out (by simp [impl_PassesOf.j0])
    | succ kj2 =>
      have H := HA.out
      clear HA
      simp only [impl_PassesOf.j0] at H
      by_cases c7 : x15_2 = true
      · subst c7
        have H1 : (some ([] : List (S62))) = some r := by first | (rw [if_pos rfl] at H; exact H) | rfl
        clear H
        have H := H1
        clear H1
        obtain rfl := Option.some.inj H
        go_wp2
        go_ret
        exact ⟨_, by first | rfl | (simp [errW_none, errW_some] <;> rfl) | (simp [*, errW_none, errW_some] <;> rfl), by first | exact Kd.R_nil _ _ _ _ _ | exact Kd.N_nil _ _ _ _ _ | exact Kd.V_nil _ _ _ _ _ | exact Kd.Q_nil _ _ _ _ _ | exact Kd.S_nil _ _ _ _ _, by repeat (first | (with_reducible first | exact HB.out | apply below_alloc | apply pw_below_drewN | apply below_drew1) | exact HB.out)⟩
      · replace c7 := Bool.eq_false_iff.mpr c7
        subst c7
        have H1 : ((some (([(⟨0, 0, 8, 8, 0, 0⟩ : S62), (⟨4, 0, 8, 8, 0, 0⟩ : S62), (⟨0, 4, 4, 8, 0, 0⟩ : S62), (⟨2, 0, 4, 4, 0, 0⟩ : S62), (⟨0, 2, 2, 4, 0, 0⟩ : S62), (⟨1, 0, 2, 2, 0, 0⟩ : S62), (⟨0, 1, 1, 2, 0, 0⟩ : S62)] : List (S62)) : List (S62))).bind fun y116 => (impl_PassesOf.l0 kj2 a0 a1 ([] : List (S62)) y116 (y116.length : Int) 0)) = some r := by first | (rw [if_neg (show ¬ (false = true) by decide)] at H; exact H) | rfl
        clear H
        have H := H1
        clear H1
        obtain ⟨y116, hy116⟩ : ∃ y_ : List (S62), y_ = (([(⟨0, 0, 8, 8, 0, 0⟩ : S62), (⟨4, 0, 8, 8, 0, 0⟩ : S62), (⟨0, 4, 4, 8, 0, 0⟩ : S62), (⟨2, 0, 4, 4, 0, 0⟩ : S62), (⟨0, 2, 2, 4, 0, 0⟩ : S62), (⟨1, 0, 2, 2, 0, 0⟩ : S62), (⟨0, 1, 1, 2, 0, 0⟩ : S62)] : List (S62))) := ⟨_, rfl⟩
        replace H : (impl_PassesOf.l0 kj2 a0 a1 ([] : List (S62)) y116 (y116.length : Int) 0) = some r := by first | (rw [hy116]; with_reducible exact H) | (have H2_ := (Option.bind_some _ _).symm.trans H; rw [hy116]; with_reducible exact H2_) | (have H2_ := (Option.bind_some _ _).symm.trans H; with_reducible exact H2_) | with_reducible exact H | (rw [hy116]; exact H) | exact H
        have Ny116 := Aside0.mk hy116
        clear hy116
        have H' := Aside0.mk H
        clear H
        go_wp2_with (first | ((with_reducible refine gate_dst (N := 23) rfl ?_); refine Kd.R_lit k62 _ 62 ?hg (N := 23) ?hd (xs := ([(⟨0, 0, 8, 8, 0, 0⟩ : S62), (⟨4, 0, 8, 8, 0, 0⟩ : S62), (⟨0, 4, 4, 8, 0, 0⟩ : S62), (⟨2, 0, 4, 4, 0, 0⟩ : S62), (⟨0, 2, 2, 4, 0, 0⟩ : S62), (⟨1, 0, 2, 2, 0, 0⟩ : S62), (⟨0, 1, 1, 2, 0, 0⟩ : S62)] : List (S62))) (inner := [.int .i64 0, .int .i64 0, .int .i64 8, .int .i64 8, .int .i64 0, .int .i64 0, .int .i64 4, .int .i64 0, .int .i64 8, .int .i64 8, .int .i64 0, .int .i64 0, .int .i64 0, .int .i64 4, .int .i64 4, .int .i64 8, .int .i64 0, .int .i64 0, .int .i64 2, .int .i64 0, .int .i64 4, .int .i64 4, .int .i64 0, .int .i64 0, .int .i64 0, .int .i64 2, .int .i64 2, .int .i64 4, .int .i64 0, .int .i64 0, .int .i64 1, .int .i64 0, .int .i64 2, .int .i64 2, .int .i64 0, .int .i64 0, .int .i64 0, .int .i64 1, .int .i64 1, .int .i64 2, .int .i64 0, .int .i64 0]) (ok := fun _ => True) (okp := fun _ => True) ?hr ?hp (fun _ hk => hk) trivial (Below.refl _ _) (Nat.le_refl _) (by simp) ?_; (case hd => rfl); (case hg => rfl); (case hr => first | (go_simp; done) | (go_simp; rfl)); (case hp => exact (Reps.c6 (show Kd.M k62 _ _ _ (⟨0, 0, 8, 8, 0, 0⟩ : S62) [.int .i64 0, .int .i64 0, .int .i64 8, .int .i64 8, .int .i64 0, .int .i64 0] from (k62_mkM _ _ _ (⟨0, 0, 8, 8, 0, 0⟩ : S62) )) (Reps.c6 (show Kd.M k62 _ _ _ (⟨4, 0, 8, 8, 0, 0⟩ : S62) [.int .i64 4, .int .i64 0, .int .i64 8, .int .i64 8, .int .i64 0, .int .i64 0] from (k62_mkM _ _ _ (⟨4, 0, 8, 8, 0, 0⟩ : S62) )) (Reps.c6 (show Kd.M k62 _ _ _ (⟨0, 4, 4, 8, 0, 0⟩ : S62) [.int .i64 0, .int .i64 4, .int .i64 4, .int .i64 8, .int .i64 0, .int .i64 0] from (k62_mkM _ _ _ (⟨0, 4, 4, 8, 0, 0⟩ : S62) )) (Reps.c6 (show Kd.M k62 _ _ _ (⟨2, 0, 4, 4, 0, 0⟩ : S62) [.int .i64 2, .int .i64 0, .int .i64 4, .int .i64 4, .int .i64 0, .int .i64 0] from (k62_mkM _ _ _ (⟨2, 0, 4, 4, 0, 0⟩ : S62) )) (Reps.c6 (show Kd.M k62 _ _ _ (⟨0, 2, 2, 4, 0, 0⟩ : S62) [.int .i64 0, .int .i64 2, .int .i64 2, .int .i64 4, .int .i64 0, .int .i64 0] from (k62_mkM _ _ _ (⟨0, 2, 2, 4, 0, 0⟩ : S62) )) (Reps.c6 (show Kd.M k62 _ _ _ (⟨1, 0, 2, 2, 0, 0⟩ : S62) [.int .i64 1, .int .i64 0, .int .i64 2, .int .i64 2, .int .i64 0, .int .i64 0] from (k62_mkM _ _ _ (⟨1, 0, 2, 2, 0, 0⟩ : S62) )) (Reps.c6 (show Kd.M k62 _ _ _ (⟨0, 1, 1, 2, 0, 0⟩ : S62) [.int .i64 0, .int .i64 1, .int .i64 1, .int .i64 2, .int .i64 0, .int .i64 0] from (k62_mkM _ _ _ (⟨0, 1, 1, 2, 0, 0⟩ : S62) )) (Reps.none _ _))))))))); intro v117 w8 ho9 hb hg_ hnew_; clear hg_ hnew_; (first | rw [← Ny116.out] at ho9 | (simp only [Int.reduceToNat] at ho9; rw [← Ny116.out] at ho9)); have n0_ := Aside0.mk (Kd.R_lower ho9 (below_size (by repeat (first | (with_reducible first | exact HB.out | apply below_alloc | apply pw_below_drewN | apply below_drew1) | exact HB.out)))); have n1_ := Aside0.mk (below_step (by repeat (first | (with_reducible first | exact HB.out | apply below_alloc | apply pw_below_drewN | apply below_drew1) | exact HB.out)) hb); clear HB; have HO118 := n0_; have HB := n1_; clear n0_ n1_; clear hb ho9; obtain ⟨Ao10, co10, eo10⟩ := Kd.R_slice HO118.out; subst eo10))
        go_loopg [5, 25] kj2 (fun kq v5 v25 w' => ∃ (x5_2 : List (S62)) (x25_2 : Int), v25 = .int .i64 x25_2 ∧ Aside0 (impl_PassesOf.l0 kq a0 a1 x5_2 y116 (y116.length : Int) x25_2 = some r) ∧ Aside0 (kq ≤ kj2) ∧ Aside0 (Kd.R k62 62 w' w.heap.size (fun k_ => some k_ ≠ ((.slice Ao10 y116.length co10) : Value).ownBlock) v5 x5_2) ∧ Aside0 (Kd.R k62 62 w' w.heap.size (fun k_ => some k_ ≠ (v5 : Value).ownBlock) (.slice Ao10 y116.length co10) y116) ∧ Aside0 (Below w.heap.size w w'))
        case atStart => exact ⟨(([] : List (S62))), (0), (by first | rfl | (simp; done) | (simp [*]; done)), H', ⟨Nat.le_refl _⟩, ⟨by first | exact Kd.R_nil _ _ _ _ _ | exact Kd.N_nil _ _ _ _ _ | exact Kd.V_nil _ _ _ _ _ | exact Kd.Q_nil _ _ _ _ _ | exact Kd.S_nil _ _ _ _ _⟩, ⟨by (with_reducible repeat (first | apply Kd.R_alloc | apply Kd.R_drewN | apply Kd.R_drew)); exact Kd.R_mono HO118.out (fun _ hk => (by simp [Value.ownBlock]))⟩, ⟨by repeat (first | (with_reducible first | exact HB.out | apply below_alloc | apply pw_below_drewN | apply below_drew1) | exact HB.out)⟩⟩
        case round =>
          clear H'
          try clear p2
          try clear c4
          try clear c5
          try clear c6
          try clear c7
          try clear p2
          obtain ⟨x5_2, x25_2, rfl, HA, HK2, HO_5, HO_23, HB⟩ := hrel
          cases gk with
          | zero => exact absurd HA.out (by simp [impl_PassesOf.l0])
          | succ k2 =>
            have H := HA.out
            clear HA
            simp only [impl_PassesOf.l0] at H
            by_cases c11 : x25_2 < (y116.length : Int)
            · rw [if_pos c11] at H
              have c11b0 : decide (x25_2 < (y116.length : Int)) = true := decide_eq_true c11
              clear c11
              by_cases c12 : 0 ≤ x25_2
              · rw [if_pos c12] at H
                have c12b0 : decide (0 ≤ x25_2) = true := decide_eq_true c12
                clear c12
                by_cases c13 : x25_2 < (y116.length : Int)
                · rw [if_pos c13] at H
                  have c13b0 : decide (x25_2 < (y116.length : Int)) = true := decide_eq_true c13
                  clear c13
                  by_cases c14 : ((rd_T62 y116 x25_2).f2) = 0
                  · rw [if_pos c14] at H
                    exact absurd H (by simp)
                  · rw [if_neg c14] at H
                    have c14b0 : (((rd_T62 y116 x25_2).f2) == 0) = false := beq_eq_false_iff_ne.mpr c14
                    have c14b1 : (((rd_T62 y116 x25_2).f2) != 0) = true := bne_iff_ne.mpr c14
                    by_cases c15 : ((rd_T62 y116 x25_2).f3) = 0
                    · rw [if_pos c15] at H
                      exact absurd H (by simp)
                    · rw [if_neg c15] at H
                      have c15b0 : (((rd_T62 y116 x25_2).f3) == 0) = false := beq_eq_false_iff_ne.mpr c15
                      have c15b1 : (((rd_T62 y116 x25_2).f3) != 0) = true := bne_iff_ne.mpr c15
                      by_cases c16 : a0 > ((rd_T62 y116 x25_2).f0)
                      · rw [if_pos c16] at H
                        have c16b0 : decide (((rd_T62 y116 x25_2).f0) < a0) = true := decide_eq_true c16
                        clear c16
                        by_cases c17 : a1 > ((rd_T62 y116 x25_2).f1)
                        · rw [if_pos c17] at H
                          have c17b0 : decide (((rd_T62 y116 x25_2).f1) < a1) = true := decide_eq_true c17
                          clear c17
                          by_cases c18 : x5_2.length < 2932031007402
                          · rw [if_pos c18] at H
                            have LMc18 := Aside0.mk c18
                            clear c18
                            obtain ⟨y121, hy121⟩ : ∃ y_ : List (S62), y_ = (x5_2 ++ [(⟨(rd_T62 y116 x25_2).f0, (rd_T62 y116 x25_2).f1, (rd_T62 y116 x25_2).f2, (rd_T62 y116 x25_2).f3, wrap64 (Int.tdiv (wrap64 ((wrap64 ((wrap64 (a0 - ((rd_T62 y116 x25_2).f0))) + ((rd_T62 y116 x25_2).f2))) - 1)) ((rd_T62 y116 x25_2).f2)), wrap64 (Int.tdiv (wrap64 ((wrap64 ((wrap64 (a1 - ((rd_T62 y116 x25_2).f1))) + ((rd_T62 y116 x25_2).f3))) - 1)) ((rd_T62 y116 x25_2).f3))⟩ : S62)]) := ⟨_, rfl⟩
                            replace H : (impl_PassesOf.l0 k2 a0 a1 y121 y116 (y116.length : Int) (wrap64 (x25_2 + 1))) = some r := by first | (rw [hy121]; with_reducible exact H) | (have H2_ := (Option.bind_some _ _).symm.trans H; rw [hy121]; with_reducible exact H2_) | (have H2_ := (Option.bind_some _ _).symm.trans H; with_reducible exact H2_) | with_reducible exact H | (rw [hy121]; exact H) | exact H
                            have Ny121 := Aside0.mk hy121
                            clear hy121
                            have H' := Aside0.mk H
                            clear H
                            have p119 : 0 ≤ (x25_2 : Int) := of_decide_eq_true (by first | (with_reducible assumption) | assumption)
                            have q119 : x25_2 < (y116.length : Int) := of_decide_eq_true (by first | (with_reducible assumption) | assumption)
                            obtain ⟨ad119, e119, hx119_0, hx119_1, hx119_2, hx119_3, hx119_4, hx119_5⟩ := at_T62 (Kd.R_reads' HO_23.out).2.2 x25_2 p119 q119
                            cases e119
                            replace p119 := eq_true p119
                            replace q119 := eq_true q119
                            try go_wp2_with (first | ((with_reducible refine gate_dst (N := 7) rfl ?_); refine box_event ?hg (N := 7) ?hd (cs := #[.int .i64 0, .int .i64 0, .int .i64 0, .int .i64 0, .int .i64 0, .int .i64 0]) (t := 62) ?hr ?_; (case hd => rfl); (case hg => rfl); (case hr => first | (go_simp; done) | (go_simp; rfl)); intro gb120 hg w19 hbox hb; have n0_ := Aside0.mk (Kd.R_below (Kd.R_elderB (by (with_reducible repeat (first | apply Kd.R_alloc | apply Kd.R_drewN | apply Kd.R_drew)); exact HO_5.out) gb120 (Nat.le_of_eq hg.symm)) hb); have n1_ := Aside0.mk (Kd.R_below (Kd.R_elderB (by (with_reducible repeat (first | apply Kd.R_alloc | apply Kd.R_drewN | apply Kd.R_drew)); exact HO_23.out) gb120 (Nat.le_of_eq hg.symm)) hb); have n2_ := Aside0.mk (below_step (by repeat (first | (with_reducible first | exact HB.out | apply below_alloc | apply pw_below_drewN | apply below_drew1) | exact HB.out)) hb); have n3_ := Aside0.mk (hbox); have n4_ := Aside0.mk ((by rw [hg]; exact (below_size (by repeat (first | (with_reducible first | exact HB.out | apply below_alloc | apply pw_below_drewN | apply below_drew1) | exact HB.out))) : w.heap.size ≤ gb120)); have n5_ := Aside0.mk ((by rw [hg]; exact (below_size (by repeat (first | (with_reducible first | exact HB.out | apply below_alloc | apply pw_below_drewN | apply below_drew1) | exact HB.out))) : w.heap.size ≤ gb120)); clear HO_5; clear HO_23; clear HB; have HO_5 := n0_; have HO_23 := n1_; have HB := n2_; have BK120 := n3_; have GW120 := n4_; have GE120 := n5_; clear n0_ n1_ n2_ n3_ n4_ n5_; clear hb hbox hg; have hcz20_0 : w19.cell? ⟨gb120, 0, none⟩ = some (.int .i64 0) := (blk_cell BK120.out 0).trans rfl; have hcz20_1 : w19.cell? ⟨gb120, 1, none⟩ = some (.int .i64 0) := (blk_cell BK120.out 1).trans rfl; have hcz20_2 : w19.cell? ⟨gb120, 2, none⟩ = some (.int .i64 0) := (blk_cell BK120.out 2).trans rfl; have hcz20_3 : w19.cell? ⟨gb120, 3, none⟩ = some (.int .i64 0) := (blk_cell BK120.out 3).trans rfl; have hcz20_4 : w19.cell? ⟨gb120, 4, none⟩ = some (.int .i64 0) := (blk_cell BK120.out 4).trans rfl; have hcz20_5 : w19.cell? ⟨gb120, 5, none⟩ = some (.int .i64 0) := (blk_cell BK120.out 5).trans rfl; have hfz20_0 := blk_frozen BK120.out 0; have hfz20_1 := blk_frozen BK120.out 1; have hfz20_2 := blk_frozen BK120.out 2; have hfz20_3 := blk_frozen BK120.out 3; have hfz20_4 := blk_frozen BK120.out 4; have hfz20_5 := blk_frozen BK120.out 5))
                            have n0_ : Aside0 (Kd.R k62 62 ((((((w19.setCell ⟨gb120, 0, none⟩ (.int .i64 ((rd_T62 y116 x25_2).f0))).setCell ⟨gb120, 1, none⟩ (.int .i64 ((rd_T62 y116 x25_2).f1))).setCell ⟨gb120, 2, none⟩ (.int .i64 ((rd_T62 y116 x25_2).f2))).setCell ⟨gb120, 3, none⟩ (.int .i64 ((rd_T62 y116 x25_2).f3))).setCell ⟨gb120, 4, none⟩ (.int .i64 ((rd_T62 y116 x25_2).f4))).setCell ⟨gb120, 5, none⟩ (.int .i64 ((rd_T62 y116 x25_2).f5))) w.heap.size (fun k_ => some k_ ≠ (.slice (some ad119) y116.length co10 : Value).ownBlock ∧ k_ ≠ gb120) u5 x5_2) := ⟨by (with_reducible repeat (first | apply Kd.R_alloc | apply Kd.R_drewN | apply Kd.R_drew)); exact Kd.R_mono (Kd.R_far (p := ⟨gb120, 5, none⟩) (Kd.R_far (p := ⟨gb120, 4, none⟩) (Kd.R_far (p := ⟨gb120, 3, none⟩) (Kd.R_far (p := ⟨gb120, 2, none⟩) (Kd.R_far (p := ⟨gb120, 1, none⟩) (Kd.R_far (p := ⟨gb120, 0, none⟩) (Kd.R_mono HO_5.out (fun k_ hk => (⟨hk, hk.2⟩ : _ ∧ k_ ≠ gb120))) (fun _ hk => hk.2) (.int .i64 ((rd_T62 y116 x25_2).f0))) (fun _ hk => hk.2) (.int .i64 ((rd_T62 y116 x25_2).f1))) (fun _ hk => hk.2) (.int .i64 ((rd_T62 y116 x25_2).f2))) (fun _ hk => hk.2) (.int .i64 ((rd_T62 y116 x25_2).f3))) (fun _ hk => hk.2) (.int .i64 ((rd_T62 y116 x25_2).f4))) (fun _ hk => hk.2) (.int .i64 ((rd_T62 y116 x25_2).f5))) (fun _ hk => ⟨hk.1.1, hk.1.2⟩)⟩
                            have n1_ : Aside0 (Kd.R k62 62 ((((((w19.setCell ⟨gb120, 0, none⟩ (.int .i64 ((rd_T62 y116 x25_2).f0))).setCell ⟨gb120, 1, none⟩ (.int .i64 ((rd_T62 y116 x25_2).f1))).setCell ⟨gb120, 2, none⟩ (.int .i64 ((rd_T62 y116 x25_2).f2))).setCell ⟨gb120, 3, none⟩ (.int .i64 ((rd_T62 y116 x25_2).f3))).setCell ⟨gb120, 4, none⟩ (.int .i64 ((rd_T62 y116 x25_2).f4))).setCell ⟨gb120, 5, none⟩ (.int .i64 ((rd_T62 y116 x25_2).f5))) w.heap.size (fun k_ => some k_ ≠ (u5 : Value).ownBlock ∧ k_ ≠ gb120) (.slice (some ad119) y116.length co10) y116) := ⟨by (with_reducible repeat (first | apply Kd.R_alloc | apply Kd.R_drewN | apply Kd.R_drew)); exact Kd.R_mono (Kd.R_far (p := ⟨gb120, 5, none⟩) (Kd.R_far (p := ⟨gb120, 4, none⟩) (Kd.R_far (p := ⟨gb120, 3, none⟩) (Kd.R_far (p := ⟨gb120, 2, none⟩) (Kd.R_far (p := ⟨gb120, 1, none⟩) (Kd.R_far (p := ⟨gb120, 0, none⟩) (Kd.R_mono HO_23.out (fun k_ hk => (⟨hk, hk.2⟩ : _ ∧ k_ ≠ gb120))) (fun _ hk => hk.2) (.int .i64 ((rd_T62 y116 x25_2).f0))) (fun _ hk => hk.2) (.int .i64 ((rd_T62 y116 x25_2).f1))) (fun _ hk => hk.2) (.int .i64 ((rd_T62 y116 x25_2).f2))) (fun _ hk => hk.2) (.int .i64 ((rd_T62 y116 x25_2).f3))) (fun _ hk => hk.2) (.int .i64 ((rd_T62 y116 x25_2).f4))) (fun _ hk => hk.2) (.int .i64 ((rd_T62 y116 x25_2).f5))) (fun _ hk => ⟨hk.1.1, hk.1.2⟩)⟩
                            have n2_ : Aside0 (((((((w19.setCell ⟨gb120, 0, none⟩ (.int .i64 ((rd_T62 y116 x25_2).f0))).setCell ⟨gb120, 1, none⟩ (.int .i64 ((rd_T62 y116 x25_2).f1))).setCell ⟨gb120, 2, none⟩ (.int .i64 ((rd_T62 y116 x25_2).f2))).setCell ⟨gb120, 3, none⟩ (.int .i64 ((rd_T62 y116 x25_2).f3))).setCell ⟨gb120, 4, none⟩ (.int .i64 ((rd_T62 y116 x25_2).f4))).setCell ⟨gb120, 5, none⟩ (.int .i64 ((rd_T62 y116 x25_2).f5))).heap[gb120]? = some (.cells #[.int .i64 ((rd_T62 y116 x25_2).f0), .int .i64 ((rd_T62 y116 x25_2).f1), .int .i64 ((rd_T62 y116 x25_2).f2), .int .i64 ((rd_T62 y116 x25_2).f3), .int .i64 ((rd_T62 y116 x25_2).f4), .int .i64 ((rd_T62 y116 x25_2).f5)] 62 (0, 0))) := ⟨by (with_reducible repeat (first | refine blk_drewN ?_ _ | refine blk_drew ?_ | refine blk_alloc ?_ _)); refine blk_put (cs := #[.int .i64 ((rd_T62 y116 x25_2).f0), .int .i64 ((rd_T62 y116 x25_2).f1), .int .i64 ((rd_T62 y116 x25_2).f2), .int .i64 ((rd_T62 y116 x25_2).f3), .int .i64 ((rd_T62 y116 x25_2).f4), .int .i64 0]) ?_ 5 _ rfl; (with_reducible repeat (first | refine blk_drewN ?_ _ | refine blk_drew ?_ | refine blk_alloc ?_ _)); refine blk_put (cs := #[.int .i64 ((rd_T62 y116 x25_2).f0), .int .i64 ((rd_T62 y116 x25_2).f1), .int .i64 ((rd_T62 y116 x25_2).f2), .int .i64 ((rd_T62 y116 x25_2).f3), .int .i64 0, .int .i64 0]) ?_ 4 _ rfl; (with_reducible repeat (first | refine blk_drewN ?_ _ | refine blk_drew ?_ | refine blk_alloc ?_ _)); refine blk_put (cs := #[.int .i64 ((rd_T62 y116 x25_2).f0), .int .i64 ((rd_T62 y116 x25_2).f1), .int .i64 ((rd_T62 y116 x25_2).f2), .int .i64 0, .int .i64 0, .int .i64 0]) ?_ 3 _ rfl; (with_reducible repeat (first | refine blk_drewN ?_ _ | refine blk_drew ?_ | refine blk_alloc ?_ _)); refine blk_put (cs := #[.int .i64 ((rd_T62 y116 x25_2).f0), .int .i64 ((rd_T62 y116 x25_2).f1), .int .i64 0, .int .i64 0, .int .i64 0, .int .i64 0]) ?_ 2 _ rfl; (with_reducible repeat (first | refine blk_drewN ?_ _ | refine blk_drew ?_ | refine blk_alloc ?_ _)); refine blk_put (cs := #[.int .i64 ((rd_T62 y116 x25_2).f0), .int .i64 0, .int .i64 0, .int .i64 0, .int .i64 0, .int .i64 0]) ?_ 1 _ rfl; (with_reducible repeat (first | refine blk_drewN ?_ _ | refine blk_drew ?_ | refine blk_alloc ?_ _)); refine blk_put (cs := #[.int .i64 0, .int .i64 0, .int .i64 0, .int .i64 0, .int .i64 0, .int .i64 0]) ?_ 0 _ rfl; (with_reducible repeat (first | refine blk_drewN ?_ _ | refine blk_drew ?_ | refine blk_alloc ?_ _)); exact BK120.out⟩
                            have n3_ : Aside0 (Below w.heap.size w ((((((w19.setCell ⟨gb120, 0, none⟩ (.int .i64 ((rd_T62 y116 x25_2).f0))).setCell ⟨gb120, 1, none⟩ (.int .i64 ((rd_T62 y116 x25_2).f1))).setCell ⟨gb120, 2, none⟩ (.int .i64 ((rd_T62 y116 x25_2).f2))).setCell ⟨gb120, 3, none⟩ (.int .i64 ((rd_T62 y116 x25_2).f3))).setCell ⟨gb120, 4, none⟩ (.int .i64 ((rd_T62 y116 x25_2).f4))).setCell ⟨gb120, 5, none⟩ (.int .i64 ((rd_T62 y116 x25_2).f5)))) := ⟨by repeat (first | (with_reducible first | exact HB.out | apply below_alloc | apply pw_below_drewN | apply below_drew1 | refine below_set ?_ GE120.out) | exact HB.out)⟩
                            (try clear HO_5)
                            (try clear HO_23)
                            (try clear BK120)
                            (try clear HB)
                            generalize ((((((w19.setCell ⟨gb120, 0, none⟩ (.int .i64 ((rd_T62 y116 x25_2).f0))).setCell ⟨gb120, 1, none⟩ (.int .i64 ((rd_T62 y116 x25_2).f1))).setCell ⟨gb120, 2, none⟩ (.int .i64 ((rd_T62 y116 x25_2).f2))).setCell ⟨gb120, 3, none⟩ (.int .i64 ((rd_T62 y116 x25_2).f3))).setCell ⟨gb120, 4, none⟩ (.int .i64 ((rd_T62 y116 x25_2).f4))).setCell ⟨gb120, 5, none⟩ (.int .i64 ((rd_T62 y116 x25_2).f5))) = w21 at n0_ n1_ n2_ n3_ ⊢
                            have HO_5 := n0_
                            have HO_23 := n1_
                            have BK120 := n2_
                            have HB := n3_
                            clear n0_ n1_ n2_ n3_
                            have n0_ := Aside0.mk (Kd.R_drew HO_5.out)
                            have n1_ := Aside0.mk (Kd.R_drew HO_23.out)
                            have n2_ := Aside0.mk (blk_drew BK120.out)
                            have n3_ := Aside0.mk (below_drew1 HB.out)
                            clear HO_5
                            clear HO_23
                            clear BK120
                            clear HB
                            have HO_5 := n0_
                            have HO_23 := n1_
                            have BK120 := n2_
                            have HB := n3_
                            clear n0_ n1_ n2_ n3_
                            refine start_ (n := 26) (S := fun w' => w'.cell? ⟨gb120, 0, none⟩ = some (.int .i64 ((rd_T62 y116 x25_2).f0)) ∧ w'.cell? ⟨gb120, 1, none⟩ = some (.int .i64 ((rd_T62 y116 x25_2).f1)) ∧ w'.cell? ⟨gb120, 2, none⟩ = some (.int .i64 ((rd_T62 y116 x25_2).f2)) ∧ w'.cell? ⟨gb120, 3, none⟩ = some (.int .i64 ((rd_T62 y116 x25_2).f3)) ∧ w'.cell? ⟨gb120, 4, none⟩ = some (.int .i64 ((rd_T62 y116 x25_2).f4)) ∧ w'.cell? ⟨gb120, 5, none⟩ = some (.int .i64 ((rd_T62 y116 x25_2).f5))) (ds := [23, 25]) #[false, false, false, false, false, false, false, false, false, false, false, false, false, false, false, false, false, false, false, false, false, false, false, false, false, false] (by kernel_rfl) rfl rfl ⟨(blk_cell BK120.out 0).trans rfl, (blk_cell BK120.out 1).trans rfl, (blk_cell BK120.out 2).trans rfl, (blk_cell BK120.out 3).trans rfl, (blk_cell BK120.out 4).trans rfl, (blk_cell BK120.out 5).trans rfl⟩ (fun hHeld => ?_); refine with_tabW impl_PassesOf.tab7 impl_PassesOf.bits7 (fun HT_ HW_ => ?_)
                            generalize w21.drew = w22 at HO_5 HO_23 BK120 HB hHeld ⊢
                            refine pure_ (i := 0) (N := some 29) (v := ?_) (a' := ?_) #[true, false, false, false, false, false, false, false, false, false, false, false, false, false, false, false, false, false, false, false, false, false, false, false, false, false] rfl rfl (any_of HT_.out (by kernel_rfl)) (fun _ _ _ h => h) (Or.inl ⟨by rfl, ?_⟩) ?_ ?_
                            rotate_left
                            · intro w'
                              go_simp
                              with_reducible rfl
                            rotate_left
                            · simp only [Act.put, List.setIfInBounds_toArray, List.set_cons_zero, List.set_cons_succ, i64_w, i32_w]
                              rfl
                            refine pure_ (i := 1) (N := some 30) (v := ?_) (a' := ?_) #[true, true, false, false, false, false, false, false, false, false, false, false, false, false, false, false, false, false, false, false, false, false, false, false, false, false] rfl rfl (any_of HT_.out (by kernel_rfl)) (fun _ _ _ h => h) (Or.inl ⟨by rfl, ?_⟩) ?_ ?_
                            rotate_left
                            · intro w'
                              go_simp
                              with_reducible rfl
                            rotate_left
                            · simp only [Act.put, List.setIfInBounds_toArray, List.set_cons_zero, List.set_cons_succ, i64_w, i32_w]
                              rfl
                            refine pure_ (i := 4) (N := some 33) (v := ?_) (a' := ?_) #[true, true, false, false, true, false, false, false, false, false, false, false, false, false, false, false, false, false, false, false, false, false, false, false, false, false] rfl rfl (any_of HT_.out (by kernel_rfl)) (fun _ _ _ h => h) (Or.inl ⟨by rfl, ?_⟩) ?_ ?_
                            rotate_left
                            · intro w'
                              go_simp
                              with_reducible rfl
                            rotate_left
                            · simp only [Act.put, List.setIfInBounds_toArray, List.set_cons_zero, List.set_cons_succ, i64_w, i32_w]
                              rfl
                            refine pure_ (i := 8) (N := some 37) (v := ?_) (a' := ?_) #[true, true, false, false, true, false, false, false, true, false, false, false, false, false, false, false, false, false, false, false, false, false, false, false, false, false] rfl rfl (any_of HT_.out (by kernel_rfl)) (fun _ _ _ h => h) (Or.inl ⟨by rfl, ?_⟩) ?_ ?_
                            rotate_left
                            · intro w'
                              go_simp
                              with_reducible rfl
                            rotate_left
                            · simp only [Act.put, List.setIfInBounds_toArray, List.set_cons_zero, List.set_cons_succ, i64_w, i32_w]
                              rfl
                            refine pure_ (i := 11) (N := some 40) (v := ?_) (a' := ?_) #[true, true, false, false, true, false, false, false, true, false, false, true, false, false, false, false, false, false, false, false, false, false, false, false, false, false] rfl rfl (any_of HT_.out (by kernel_rfl)) (fun _ _ _ h => h) (Or.inl ⟨by rfl, ?_⟩) ?_ ?_
                            rotate_left
                            · intro w'
                              go_simp
                              with_reducible rfl
                            rotate_left
                            · simp only [Act.put, List.setIfInBounds_toArray, List.set_cons_zero, List.set_cons_succ, i64_w, i32_w]
                              rfl
                            refine pure_ (i := 12) (N := some 41) (v := ?_) (a' := ?_) #[true, true, false, false, true, false, false, false, true, false, false, true, true, false, false, false, false, false, false, false, false, false, false, false, false, false] rfl rfl (any_of HT_.out (by kernel_rfl)) (fun _ _ _ h => h) (Or.inl ⟨by rfl, ?_⟩) ?_ ?_
                            rotate_left
                            · intro w'
                              go_simp
                              with_reducible rfl
                            rotate_left
                            · simp only [Act.put, List.setIfInBounds_toArray, List.set_cons_zero, List.set_cons_succ, i64_w, i32_w]
                              rfl
                            refine pure_ (i := 15) (N := some 44) (v := ?_) (a' := ?_) #[true, true, false, false, true, false, false, false, true, false, false, true, true, false, false, true, false, false, false, false, false, false, false, false, false, false] rfl rfl (any_of HT_.out (by kernel_rfl)) (fun _ _ _ h => h) (Or.inl ⟨by rfl, ?_⟩) ?_ ?_
                            rotate_left
                            · intro w'
                              go_simp
                              with_reducible rfl
                            rotate_left
                            · simp only [Act.put, List.setIfInBounds_toArray, List.set_cons_zero, List.set_cons_succ, i64_w, i32_w]
                              rfl
                            refine pure_ (i := 19) (N := some 48) (v := ?_) (a' := ?_) #[true, true, false, false, true, false, false, false, true, false, false, true, true, false, false, true, false, false, false, true, false, false, false, false, false, false] rfl rfl (any_of HT_.out (by kernel_rfl)) (fun _ _ _ h => h) (Or.inl ⟨by rfl, ?_⟩) ?_ ?_
                            rotate_left
                            · intro w'
                              go_simp
                              with_reducible rfl
                            rotate_left
                            · simp only [Act.put, List.setIfInBounds_toArray, List.set_cons_zero, List.set_cons_succ, i64_w, i32_w]
                              rfl
                            refine take_ (i := 2) (N := some 31) (v := ?_) (a' := ?_) #[true, true, true, false, true, false, false, false, true, false, false, true, true, false, false, true, false, false, false, true, false, false, false, false, false, false] rfl rfl (take_ofW HT_.out HW_.out (by kernel_rfl)) (fun _ _ _ h => h) (Or.inl ⟨by rfl, ?_⟩) hHeld ?_ ?_
                            rotate_left
                            · rintro w' ⟨s0, s1, s2, s3, s4, s5⟩
                              go_simp
                              with_reducible rfl
                            rotate_left
                            · simp only [Act.put, List.setIfInBounds_toArray, List.set_cons_zero, List.set_cons_succ, i64_w, i32_w]
                              rfl
                            refine pure_ (i := 3) (N := some 32) (v := ?_) (a' := ?_) #[true, true, true, true, true, false, false, false, true, false, false, true, true, false, false, true, false, false, false, true, false, false, false, false, false, false] rfl rfl (any_of HT_.out (by kernel_rfl)) (fun _ _ _ h => h) (Or.inl ⟨by rfl, ?_⟩) ?_ ?_
                            rotate_left
                            · intro w'
                              go_simp
                              with_reducible rfl
                            rotate_left
                            · simp only [Act.put, List.setIfInBounds_toArray, List.set_cons_zero, List.set_cons_succ, i64_w, i32_w]
                              rfl
                            refine take_ (i := 5) (N := some 34) (v := ?_) (a' := ?_) #[true, true, true, true, true, true, false, false, true, false, false, true, true, false, false, true, false, false, false, true, false, false, false, false, false, false] rfl rfl (take_ofW HT_.out HW_.out (by kernel_rfl)) (fun _ _ _ h => h) (Or.inl ⟨by rfl, ?_⟩) hHeld ?_ ?_
                            rotate_left
                            · rintro w' ⟨s0, s1, s2, s3, s4, s5⟩
                              go_simp
                              with_reducible rfl
                            rotate_left
                            · simp only [Act.put, List.setIfInBounds_toArray, List.set_cons_zero, List.set_cons_succ, i64_w, i32_w]
                              rfl
                            refine pure_ (i := 6) (N := some 35) (v := ?_) (a' := ?_) #[true, true, true, true, true, true, true, false, true, false, false, true, true, false, false, true, false, false, false, true, false, false, false, false, false, false] rfl rfl (any_of HT_.out (by kernel_rfl)) (fun _ _ _ h => h) (Or.inl ⟨by rfl, ?_⟩) ?_ ?_
                            rotate_left
                            · intro w'
                              go_simp
                              with_reducible rfl
                            rotate_left
                            · simp only [Act.put, List.setIfInBounds_toArray, List.set_cons_zero, List.set_cons_succ, i64_w, i32_w]
                              rfl
                            refine pure_ (i := 7) (N := some 36) (v := ?_) (a' := ?_) #[true, true, true, true, true, true, true, true, true, false, false, true, true, false, false, true, false, false, false, true, false, false, false, false, false, false] rfl rfl (any_of HT_.out (by kernel_rfl)) (fun _ _ _ h => h) (Or.inl ⟨by rfl, ?_⟩) ?_ ?_
                            rotate_left
                            · intro w'
                              go_simp
                              with_reducible rfl
                            rotate_left
                            · simp only [Act.put, List.setIfInBounds_toArray, List.set_cons_zero, List.set_cons_succ, i64_w, i32_w]
                              rfl
                            refine take_ (i := 9) (N := some 38) (v := ?_) (a' := ?_) #[true, true, true, true, true, true, true, true, true, true, false, true, true, false, false, true, false, false, false, true, false, false, false, false, false, false] rfl rfl (take_ofW HT_.out HW_.out (by kernel_rfl)) (fun _ _ _ h => h) (Or.inl ⟨by rfl, ?_⟩) hHeld ?_ ?_
                            rotate_left
                            · rintro w' ⟨s0, s1, s2, s3, s4, s5⟩
                              go_simp
                              with_reducible rfl
                            rotate_left
                            · simp only [Act.put, List.setIfInBounds_toArray, List.set_cons_zero, List.set_cons_succ, i64_w, i32_w]
                              rfl
                            refine pure_ (i := 10) (N := some 39) (v := ?_) (a' := ?_) #[true, true, true, true, true, true, true, true, true, true, true, true, true, false, false, true, false, false, false, true, false, false, false, false, false, false] rfl rfl (any_of HT_.out (by kernel_rfl)) (fun _ _ _ h => h) (Or.inl ⟨by rfl, ?_⟩) ?_ ?_
                            rotate_left
                            · intro w'
                              go_simp
                              with_reducible rfl
                            rotate_left
                            · simp only [Act.put, List.setIfInBounds_toArray, List.set_cons_zero, List.set_cons_succ, i64_w, i32_w]
                              rfl
                            refine take_ (i := 13) (N := some 42) (v := ?_) (a' := ?_) #[true, true, true, true, true, true, true, true, true, true, true, true, true, true, false, true, false, false, false, true, false, false, false, false, false, false] rfl rfl (take_ofW HT_.out HW_.out (by kernel_rfl)) (fun _ _ _ h => h) (Or.inl ⟨by rfl, ?_⟩) hHeld ?_ ?_
                            rotate_left
                            · rintro w' ⟨s0, s1, s2, s3, s4, s5⟩
                              go_simp
                              with_reducible rfl
                            rotate_left
                            · simp only [Act.put, List.setIfInBounds_toArray, List.set_cons_zero, List.set_cons_succ, i64_w, i32_w]
                              rfl
                            refine pure_ (i := 14) (N := some 43) (v := ?_) (a' := ?_) #[true, true, true, true, true, true, true, true, true, true, true, true, true, true, true, true, false, false, false, true, false, false, false, false, false, false] rfl rfl (any_of HT_.out (by kernel_rfl)) (fun _ _ _ h => h) (Or.inl ⟨by rfl, ?_⟩) ?_ ?_
                            rotate_left
                            · intro w'
                              go_simp
                              with_reducible rfl
                            rotate_left
                            · simp only [Act.put, List.setIfInBounds_toArray, List.set_cons_zero, List.set_cons_succ, i64_w, i32_w]
                              rfl
                            refine take_ (i := 16) (N := some 45) (v := ?_) (a' := ?_) #[true, true, true, true, true, true, true, true, true, true, true, true, true, true, true, true, true, false, false, true, false, false, false, false, false, false] rfl rfl (take_ofW HT_.out HW_.out (by kernel_rfl)) (fun _ _ _ h => h) (Or.inl ⟨by rfl, ?_⟩) hHeld ?_ ?_
                            rotate_left
                            · rintro w' ⟨s0, s1, s2, s3, s4, s5⟩
                              go_simp
                              with_reducible rfl
                            rotate_left
                            · simp only [Act.put, List.setIfInBounds_toArray, List.set_cons_zero, List.set_cons_succ, i64_w, i32_w]
                              rfl
                            refine pure_ (i := 17) (N := some 46) (v := ?_) (a' := ?_) #[true, true, true, true, true, true, true, true, true, true, true, true, true, true, true, true, true, true, false, true, false, false, false, false, false, false] rfl rfl (any_of HT_.out (by kernel_rfl)) (fun _ _ _ h => h) (Or.inl ⟨by rfl, ?_⟩) ?_ ?_
                            rotate_left
                            · intro w'
                              go_simp
                              with_reducible rfl
                            rotate_left
                            · simp only [Act.put, List.setIfInBounds_toArray, List.set_cons_zero, List.set_cons_succ, i64_w, i32_w]
                              rfl
                            refine pure_ (i := 18) (N := some 47) (v := ?_) (a' := ?_) #[true, true, true, true, true, true, true, true, true, true, true, true, true, true, true, true, true, true, true, true, false, false, false, false, false, false] rfl rfl (any_of HT_.out (by kernel_rfl)) (fun _ _ _ h => h) (Or.inl ⟨by rfl, ?_⟩) ?_ ?_
                            rotate_left
                            · intro w'
                              go_simp
                              with_reducible rfl
                            rotate_left
                            · simp only [Act.put, List.setIfInBounds_toArray, List.set_cons_zero, List.set_cons_succ, i64_w, i32_w]
                              rfl
                            refine take_ (i := 20) (N := some 49) (v := ?_) (a' := ?_) #[true, true, true, true, true, true, true, true, true, true, true, true, true, true, true, true, true, true, true, true, true, false, false, false, false, false] rfl rfl (take_ofW HT_.out HW_.out (by kernel_rfl)) (fun _ _ _ h => h) (Or.inl ⟨by rfl, ?_⟩) hHeld ?_ ?_
                            rotate_left
                            · rintro w' ⟨s0, s1, s2, s3, s4, s5⟩
                              go_simp
                              with_reducible rfl
                            rotate_left
                            · simp only [Act.put, List.setIfInBounds_toArray, List.set_cons_zero, List.set_cons_succ, i64_w, i32_w]
                              rfl
                            refine pure_ (i := 21) (N := some 50) (v := ?_) (a' := ?_) #[true, true, true, true, true, true, true, true, true, true, true, true, true, true, true, true, true, true, true, true, true, true, false, false, false, false] rfl rfl (any_of HT_.out (by kernel_rfl)) (fun _ _ _ h => h) (Or.inl ⟨by rfl, ?_⟩) ?_ ?_
                            rotate_left
                            · intro w'
                              go_simp
                              with_reducible rfl
                            rotate_left
                            · simp only [Act.put, List.setIfInBounds_toArray, List.set_cons_zero, List.set_cons_succ, i64_w, i32_w]
                              rfl
                            refine pure_ (i := 22) (N := some 51) (v := ?_) (a' := ?_) #[true, true, true, true, true, true, true, true, true, true, true, true, true, true, true, true, true, true, true, true, true, true, true, false, false, false] rfl rfl (any_of HT_.out (by kernel_rfl)) (fun _ _ _ h => h) (Or.inl ⟨by rfl, ?_⟩) ?_ ?_
                            rotate_left
                            · intro w'
                              go_simp
                              with_reducible rfl
                            rotate_left
                            · simp only [Act.put, List.setIfInBounds_toArray, List.set_cons_zero, List.set_cons_succ, i64_w, i32_w]
                              rfl
                            refine last_ (i := 23) (N := none) #[true, true, true, true, true, true, true, true, true, true, true, true, true, true, true, true, true, true, true, true, true, true, true, true, false, false] rfl rfl (one_of HT_.out (by kernel_rfl)) (by decide) (fun K hK => ?_)
                            have hs23 : w22.cell? ⟨gb120, 4, none⟩ = some (.int .i64 ((rd_T62 y116 x25_2).f4)) := (blk_cell BK120.out 4).trans rfl
                            have hfs23 := blk_frozen BK120.out 4
                            refine skip_ (w1 := ?_) (by rfl) rfl ?_ ?_
                            rotate_left
                            · go_simp
                              rfl
                            refine hK.out _ _ ?_
                            clear hK K
                            refine pure_ (i := 24) (N := some 52) (v := ?_) (a' := ?_) #[true, true, true, true, true, true, true, true, true, true, true, true, true, true, true, true, true, true, true, true, true, true, true, true, true, false] rfl rfl (any_of HT_.out (by kernel_rfl)) (fun _ _ _ h => h) (Or.inl ⟨by rfl, ?_⟩) ?_ ?_
                            rotate_left
                            · intro w'
                              go_simp
                              with_reducible rfl
                            rotate_left
                            · simp only [Act.put, List.setIfInBounds_toArray, List.set_cons_zero, List.set_cons_succ, i64_w, i32_w]
                              rfl
                            refine last_ (i := 25) (N := none) #[true, true, true, true, true, true, true, true, true, true, true, true, true, true, true, true, true, true, true, true, true, true, true, true, true, true] rfl rfl (one_of HT_.out (by kernel_rfl)) (by decide) (fun K hK => ?_)
                            have hs24 : w22.cell? ⟨gb120, 5, none⟩ = some (.int .i64 ((rd_T62 y116 x25_2).f5)) := (blk_cell BK120.out 5).trans rfl
                            have hfs24 := blk_frozen BK120.out 5
                            refine skip_ (w1 := ?_) (by rfl) rfl ?_ ?_
                            rotate_left
                            · go_simp
                              rfl
                            refine hK.out _ _ ?_
                            clear hK K
                            refine done_ (done_of HT_.out (by kernel_rfl)) ?_
                            have hcz25_0 : w22.cell? ⟨gb120, 0, none⟩ = some (.int .i64 ((rd_T62 y116 x25_2).f0)) := (blk_cell BK120.out 0).trans rfl
                            have hcz25_1 : w22.cell? ⟨gb120, 1, none⟩ = some (.int .i64 ((rd_T62 y116 x25_2).f1)) := (blk_cell BK120.out 1).trans rfl
                            have hcz25_2 : w22.cell? ⟨gb120, 2, none⟩ = some (.int .i64 ((rd_T62 y116 x25_2).f2)) := (blk_cell BK120.out 2).trans rfl
                            have hcz25_3 : w22.cell? ⟨gb120, 3, none⟩ = some (.int .i64 ((rd_T62 y116 x25_2).f3)) := (blk_cell BK120.out 3).trans rfl
                            have hcz25_4 : w22.cell? ⟨gb120, 4, none⟩ = some (.int .i64 ((rd_T62 y116 x25_2).f4)) := (blk_cell BK120.out 4).trans rfl
                            have hcz25_5 : w22.cell? ⟨gb120, 5, none⟩ = some (.int .i64 ((rd_T62 y116 x25_2).f5)) := (blk_cell BK120.out 5).trans rfl
                            have hfz25_0 := blk_frozen BK120.out 0
                            have hfz25_1 := blk_frozen BK120.out 1
                            have hfz25_2 := blk_frozen BK120.out 2
                            have hfz25_3 := blk_frozen BK120.out 3
                            have hfz25_4 := blk_frozen BK120.out 4
                            have hfz25_5 := blk_frozen BK120.out 5
                            try go_wp2_with (first | ((with_reducible refine gate_builtin (b := .append) (xs := #[.tmp 63, .tmp 65]) rfl ?_); at_builtin; refine Kd.R_append k62 (w0 := w) w.heap.size rfl (.tmp 63) (.tmp 65) 58 62 (.agg #[(.int .i64 0), (.int .i64 0), (.int .i64 0), (.int .i64 0), (.int .i64 0), (.int .i64 0)]) 48 rfl Try.underlying58 info62 rfl (by decide) (by omega) u5 x5_2 (⟨(rd_T62 y116 x25_2).f0, (rd_T62 y116 x25_2).f1, (rd_T62 y116 x25_2).f2, (rd_T62 y116 x25_2).f3, wrap64 (Int.tdiv (wrap64 ((wrap64 ((wrap64 (a0 - ((rd_T62 y116 x25_2).f0))) + ((rd_T62 y116 x25_2).f2))) - 1)) ((rd_T62 y116 x25_2).f2)), wrap64 (Int.tdiv (wrap64 ((wrap64 ((wrap64 (a1 - ((rd_T62 y116 x25_2).f1))) + ((rd_T62 y116 x25_2).f3))) - 1)) ((rd_T62 y116 x25_2).f3))⟩ : S62) [.int .i64 ((rd_T62 y116 x25_2).f0), .int .i64 ((rd_T62 y116 x25_2).f1), .int .i64 ((rd_T62 y116 x25_2).f2), .int .i64 ((rd_T62 y116 x25_2).f3), .int .i64 (wrap64 (Int.tdiv (wrap64 ((wrap64 ((wrap64 (a0 - ((rd_T62 y116 x25_2).f0))) + ((rd_T62 y116 x25_2).f2))) - 1)) ((rd_T62 y116 x25_2).f2))), .int .i64 (wrap64 (Int.tdiv (wrap64 ((wrap64 ((wrap64 (a1 - ((rd_T62 y116 x25_2).f1))) + ((rd_T62 y116 x25_2).f3))) - 1)) ((rd_T62 y116 x25_2).f3)))] (fun k_ => some k_ ≠ (.slice (some ad119) y116.length co10 : Value).ownBlock ∧ k_ ≠ gb120) (fun _ => False) rfl (by first | (go_simp; done) | (go_simp; rfl)) ?aP (fun _ hk => hk.elim) ?aF ?aO ?aB ?aS ?aL ?_; (case aP => exact k62_mkM _ _ _ (⟨(rd_T62 y116 x25_2).f0, (rd_T62 y116 x25_2).f1, (rd_T62 y116 x25_2).f2, (rd_T62 y116 x25_2).f3, wrap64 (Int.tdiv (wrap64 ((wrap64 ((wrap64 (a0 - ((rd_T62 y116 x25_2).f0))) + ((rd_T62 y116 x25_2).f2))) - 1)) ((rd_T62 y116 x25_2).f2)), wrap64 (Int.tdiv (wrap64 ((wrap64 ((wrap64 (a1 - ((rd_T62 y116 x25_2).f1))) + ((rd_T62 y116 x25_2).f3))) - 1)) ((rd_T62 y116 x25_2).f3))⟩ : S62)); (case aB => exact (by repeat (first | (with_reducible first | exact HB.out | apply below_alloc | apply pw_below_drewN | apply below_drew1 | refine below_set ?_ GE120.out) | exact HB.out))); (case aF => exact (fun k_ hk => ⟨Kd.fresh' (Kd.R_lt (by (with_reducible repeat (first | apply Kd.R_alloc | apply Kd.R_drewN | apply Kd.R_drew)); exact (Kd.R_mono (Kd.R_far (p := ⟨gb120, 5, none⟩) (Kd.R_far (p := ⟨gb120, 4, none⟩) (Kd.R_mono HO_23.out (fun k_ hk => (⟨hk, hk.2⟩ : _ ∧ k_ ≠ gb120))) (fun _ hk => hk.2) (.int .i64 (wrap64 (Int.tdiv (wrap64 ((wrap64 ((wrap64 (a0 - ((rd_T62 y116 x25_2).f0))) + ((rd_T62 y116 x25_2).f2))) - 1)) ((rd_T62 y116 x25_2).f2))))) (fun _ hk => hk.2) (.int .i64 (wrap64 (Int.tdiv (wrap64 ((wrap64 ((wrap64 (a1 - ((rd_T62 y116 x25_2).f1))) + ((rd_T62 y116 x25_2).f3))) - 1)) ((rd_T62 y116 x25_2).f3))))) (fun _ h_ => h_.1)))) k_ hk, Kd.freshB (g := gb120) (o := .cells #[.int .i64 ((rd_T62 y116 x25_2).f0), .int .i64 ((rd_T62 y116 x25_2).f1), .int .i64 ((rd_T62 y116 x25_2).f2), .int .i64 ((rd_T62 y116 x25_2).f3), .int .i64 (wrap64 (Int.tdiv (wrap64 ((wrap64 ((wrap64 (a0 - ((rd_T62 y116 x25_2).f0))) + ((rd_T62 y116 x25_2).f2))) - 1)) ((rd_T62 y116 x25_2).f2))), .int .i64 (wrap64 (Int.tdiv (wrap64 ((wrap64 ((wrap64 (a1 - ((rd_T62 y116 x25_2).f1))) + ((rd_T62 y116 x25_2).f3))) - 1)) ((rd_T62 y116 x25_2).f3)))] 62 (0, 0)) (by (with_reducible repeat (first | refine blk_drewN ?_ _ | refine blk_drew ?_ | refine blk_alloc ?_ _)); refine blk_put (cs := #[.int .i64 ((rd_T62 y116 x25_2).f0), .int .i64 ((rd_T62 y116 x25_2).f1), .int .i64 ((rd_T62 y116 x25_2).f2), .int .i64 ((rd_T62 y116 x25_2).f3), .int .i64 (wrap64 (Int.tdiv (wrap64 ((wrap64 ((wrap64 (a0 - ((rd_T62 y116 x25_2).f0))) + ((rd_T62 y116 x25_2).f2))) - 1)) ((rd_T62 y116 x25_2).f2))), .int .i64 ((rd_T62 y116 x25_2).f5)]) ?_ 5 _ rfl; (with_reducible repeat (first | refine blk_drewN ?_ _ | refine blk_drew ?_ | refine blk_alloc ?_ _)); refine blk_put (cs := #[.int .i64 ((rd_T62 y116 x25_2).f0), .int .i64 ((rd_T62 y116 x25_2).f1), .int .i64 ((rd_T62 y116 x25_2).f2), .int .i64 ((rd_T62 y116 x25_2).f3), .int .i64 ((rd_T62 y116 x25_2).f4), .int .i64 ((rd_T62 y116 x25_2).f5)]) ?_ 4 _ rfl; (with_reducible repeat (first | refine blk_drewN ?_ _ | refine blk_drew ?_ | refine blk_alloc ?_ _)); exact BK120.out) k_ hk⟩)); (case aO => exact (by (with_reducible repeat (first | apply Kd.R_alloc | apply Kd.R_drewN | apply Kd.R_drew)); exact Kd.R_mono (Kd.R_far (p := ⟨gb120, 5, none⟩) (Kd.R_far (p := ⟨gb120, 4, none⟩) (Kd.R_mono HO_5.out (fun k_ hk => (⟨hk, hk.2⟩ : _ ∧ k_ ≠ gb120))) (fun _ hk => hk.2) (.int .i64 (wrap64 (Int.tdiv (wrap64 ((wrap64 ((wrap64 (a0 - ((rd_T62 y116 x25_2).f0))) + ((rd_T62 y116 x25_2).f2))) - 1)) ((rd_T62 y116 x25_2).f2))))) (fun _ hk => hk.2) (.int .i64 (wrap64 (Int.tdiv (wrap64 ((wrap64 ((wrap64 (a1 - ((rd_T62 y116 x25_2).f1))) + ((rd_T62 y116 x25_2).f3))) - 1)) ((rd_T62 y116 x25_2).f3))))) (fun _ hk => ⟨hk.1.1, hk.1.2⟩))); (case aS => exact (below_size (by repeat (first | (with_reducible first | exact HB.out | apply below_alloc | apply pw_below_drewN | apply below_drew1 | refine below_set ?_ GE120.out) | exact HB.out)))); (case aL => have := LMc18.out; omega); intro v122 w26 ho hb hg hat; rw [← Ny121.out] at ho; have n0_ := Aside0.mk (Kd.R_after (ok := (fun k_ => k_ ≠ gb120)) (by (with_reducible repeat (first | apply Kd.R_alloc | apply Kd.R_drewN | apply Kd.R_drew)); exact Kd.R_mono (Kd.R_far (p := ⟨gb120, 5, none⟩) (Kd.R_far (p := ⟨gb120, 4, none⟩) (Kd.R_mono HO_23.out (fun k_ hk => (⟨hk, hk.2⟩ : _ ∧ k_ ≠ gb120))) (fun _ hk => hk.2) (.int .i64 (wrap64 (Int.tdiv (wrap64 ((wrap64 ((wrap64 (a0 - ((rd_T62 y116 x25_2).f0))) + ((rd_T62 y116 x25_2).f2))) - 1)) ((rd_T62 y116 x25_2).f2))))) (fun _ hk => hk.2) (.int .i64 (wrap64 (Int.tdiv (wrap64 ((wrap64 ((wrap64 (a1 - ((rd_T62 y116 x25_2).f1))) + ((rd_T62 y116 x25_2).f3))) - 1)) ((rd_T62 y116 x25_2).f3))))) (fun _ hk => ⟨hk.1.2, hk.1.1⟩)) hg hat); have n1_ := Aside0.mk (blk_grown (g := gb120) (o := .cells #[.int .i64 ((rd_T62 y116 x25_2).f0), .int .i64 ((rd_T62 y116 x25_2).f1), .int .i64 ((rd_T62 y116 x25_2).f2), .int .i64 ((rd_T62 y116 x25_2).f3), .int .i64 (wrap64 (Int.tdiv (wrap64 ((wrap64 ((wrap64 (a0 - ((rd_T62 y116 x25_2).f0))) + ((rd_T62 y116 x25_2).f2))) - 1)) ((rd_T62 y116 x25_2).f2))), .int .i64 (wrap64 (Int.tdiv (wrap64 ((wrap64 ((wrap64 (a1 - ((rd_T62 y116 x25_2).f1))) + ((rd_T62 y116 x25_2).f3))) - 1)) ((rd_T62 y116 x25_2).f3)))] 62 (0, 0)) (by (with_reducible repeat (first | refine blk_drewN ?_ _ | refine blk_drew ?_ | refine blk_alloc ?_ _)); refine blk_put (cs := #[.int .i64 ((rd_T62 y116 x25_2).f0), .int .i64 ((rd_T62 y116 x25_2).f1), .int .i64 ((rd_T62 y116 x25_2).f2), .int .i64 ((rd_T62 y116 x25_2).f3), .int .i64 (wrap64 (Int.tdiv (wrap64 ((wrap64 ((wrap64 (a0 - ((rd_T62 y116 x25_2).f0))) + ((rd_T62 y116 x25_2).f2))) - 1)) ((rd_T62 y116 x25_2).f2))), .int .i64 ((rd_T62 y116 x25_2).f5)]) ?_ 5 _ rfl; (with_reducible repeat (first | refine blk_drewN ?_ _ | refine blk_drew ?_ | refine blk_alloc ?_ _)); refine blk_put (cs := #[.int .i64 ((rd_T62 y116 x25_2).f0), .int .i64 ((rd_T62 y116 x25_2).f1), .int .i64 ((rd_T62 y116 x25_2).f2), .int .i64 ((rd_T62 y116 x25_2).f3), .int .i64 ((rd_T62 y116 x25_2).f4), .int .i64 ((rd_T62 y116 x25_2).f5)]) ?_ 4 _ rfl; (with_reducible repeat (first | refine blk_drewN ?_ _ | refine blk_drew ?_ | refine blk_alloc ?_ _)); exact BK120.out) hg (Kd.R_away HO_5.out (fun _ hk => hk.2))); have n2_ := Aside0.mk (hb); have n3_ := Aside0.mk (ho); clear HO_23; clear BK120; clear HB; clear HO_5; have HO_23 := n0_; have BK120 := n1_; have HB := n2_; have HO123 := n3_; clear n0_ n1_ n2_ n3_; clear ho hb hg hat))
                            go_roundg k2
                            case measure => have := HJ2.out; have := HK2.out; omega
                            case rel => exact ⟨(y121), (wrap64 (x25_2 + 1)), (by first | rfl | (simp; done) | (simp [*]; done)), H', ⟨by have := HJ2.out; have := HK2.out; omega⟩, ⟨by (with_reducible repeat (first | apply Kd.R_alloc | apply Kd.R_drewN | apply Kd.R_drew)); exact Kd.R_mono HO123.out (fun _ hk => hk.1)⟩, ⟨by (with_reducible repeat (first | apply Kd.R_alloc | apply Kd.R_drewN | apply Kd.R_drew)); exact Kd.R_mono HO_23.out (fun _ hk => hk.2)⟩, ⟨by repeat (first | (with_reducible first | exact HB.out | apply below_alloc | apply pw_below_drewN | apply below_drew1 | refine below_set ?_ GE120.out) | exact HB.out)⟩⟩
                          · rw [if_neg c18] at H
                            exact absurd H (by simp)
                        · rw [if_neg c17] at H
                          have c17b0 : decide (((rd_T62 y116 x25_2).f1) < a1) = false := decide_eq_false c17
                          clear c17
                          have H' := Aside0.mk H
                          clear H
                          have p119 : 0 ≤ (x25_2 : Int) := of_decide_eq_true (by first | (with_reducible assumption) | assumption)
                          have q119 : x25_2 < (y116.length : Int) := of_decide_eq_true (by first | (with_reducible assumption) | assumption)
                          obtain ⟨ad119, e119, hx119_0, hx119_1, hx119_2, hx119_3, hx119_4, hx119_5⟩ := at_T62 (Kd.R_reads' HO_23.out).2.2 x25_2 p119 q119
                          cases e119
                          replace p119 := eq_true p119
                          replace q119 := eq_true q119
                          try go_wp2_with (first | ((with_reducible refine gate_dst (N := 7) rfl ?_); refine box_event ?hg (N := 7) ?hd (cs := #[.int .i64 0, .int .i64 0, .int .i64 0, .int .i64 0, .int .i64 0, .int .i64 0]) (t := 62) ?hr ?_; (case hd => rfl); (case hg => rfl); (case hr => first | (go_simp; done) | (go_simp; rfl)); intro gb120 hg w27 hbox hb; have n0_ := Aside0.mk (Kd.R_below (Kd.R_elderB (by (with_reducible repeat (first | apply Kd.R_alloc | apply Kd.R_drewN | apply Kd.R_drew)); exact HO_5.out) gb120 (Nat.le_of_eq hg.symm)) hb); have n1_ := Aside0.mk (Kd.R_below (Kd.R_elderB (by (with_reducible repeat (first | apply Kd.R_alloc | apply Kd.R_drewN | apply Kd.R_drew)); exact HO_23.out) gb120 (Nat.le_of_eq hg.symm)) hb); have n2_ := Aside0.mk (below_step (by repeat (first | (with_reducible first | exact HB.out | apply below_alloc | apply pw_below_drewN | apply below_drew1) | exact HB.out)) hb); have n3_ := Aside0.mk (hbox); have n4_ := Aside0.mk ((by rw [hg]; exact (below_size (by repeat (first | (with_reducible first | exact HB.out | apply below_alloc | apply pw_below_drewN | apply below_drew1) | exact HB.out))) : w.heap.size ≤ gb120)); have n5_ := Aside0.mk ((by rw [hg]; exact (below_size (by repeat (first | (with_reducible first | exact HB.out | apply below_alloc | apply pw_below_drewN | apply below_drew1) | exact HB.out))) : w.heap.size ≤ gb120)); clear HO_5; clear HO_23; clear HB; have HO_5 := n0_; have HO_23 := n1_; have HB := n2_; have BK120 := n3_; have GW120 := n4_; have GE120 := n5_; clear n0_ n1_ n2_ n3_ n4_ n5_; clear hb hbox hg; have hcz28_0 : w27.cell? ⟨gb120, 0, none⟩ = some (.int .i64 0) := (blk_cell BK120.out 0).trans rfl; have hcz28_1 : w27.cell? ⟨gb120, 1, none⟩ = some (.int .i64 0) := (blk_cell BK120.out 1).trans rfl; have hcz28_2 : w27.cell? ⟨gb120, 2, none⟩ = some (.int .i64 0) := (blk_cell BK120.out 2).trans rfl; have hcz28_3 : w27.cell? ⟨gb120, 3, none⟩ = some (.int .i64 0) := (blk_cell BK120.out 3).trans rfl; have hcz28_4 : w27.cell? ⟨gb120, 4, none⟩ = some (.int .i64 0) := (blk_cell BK120.out 4).trans rfl; have hcz28_5 : w27.cell? ⟨gb120, 5, none⟩ = some (.int .i64 0) := (blk_cell BK120.out 5).trans rfl; have hfz28_0 := blk_frozen BK120.out 0; have hfz28_1 := blk_frozen BK120.out 1; have hfz28_2 := blk_frozen BK120.out 2; have hfz28_3 := blk_frozen BK120.out 3; have hfz28_4 := blk_frozen BK120.out 4; have hfz28_5 := blk_frozen BK120.out 5))
                          have n0_ : Aside0 (Kd.R k62 62 ((((((w27.setCell ⟨gb120, 0, none⟩ (.int .i64 ((rd_T62 y116 x25_2).f0))).setCell ⟨gb120, 1, none⟩ (.int .i64 ((rd_T62 y116 x25_2).f1))).setCell ⟨gb120, 2, none⟩ (.int .i64 ((rd_T62 y116 x25_2).f2))).setCell ⟨gb120, 3, none⟩ (.int .i64 ((rd_T62 y116 x25_2).f3))).setCell ⟨gb120, 4, none⟩ (.int .i64 ((rd_T62 y116 x25_2).f4))).setCell ⟨gb120, 5, none⟩ (.int .i64 ((rd_T62 y116 x25_2).f5))) w.heap.size (fun k_ => some k_ ≠ (.slice (some ad119) y116.length co10 : Value).ownBlock ∧ k_ ≠ gb120) u5 x5_2) := ⟨by (with_reducible repeat (first | apply Kd.R_alloc | apply Kd.R_drewN | apply Kd.R_drew)); exact Kd.R_mono (Kd.R_far (p := ⟨gb120, 5, none⟩) (Kd.R_far (p := ⟨gb120, 4, none⟩) (Kd.R_far (p := ⟨gb120, 3, none⟩) (Kd.R_far (p := ⟨gb120, 2, none⟩) (Kd.R_far (p := ⟨gb120, 1, none⟩) (Kd.R_far (p := ⟨gb120, 0, none⟩) (Kd.R_mono HO_5.out (fun k_ hk => (⟨hk, hk.2⟩ : _ ∧ k_ ≠ gb120))) (fun _ hk => hk.2) (.int .i64 ((rd_T62 y116 x25_2).f0))) (fun _ hk => hk.2) (.int .i64 ((rd_T62 y116 x25_2).f1))) (fun _ hk => hk.2) (.int .i64 ((rd_T62 y116 x25_2).f2))) (fun _ hk => hk.2) (.int .i64 ((rd_T62 y116 x25_2).f3))) (fun _ hk => hk.2) (.int .i64 ((rd_T62 y116 x25_2).f4))) (fun _ hk => hk.2) (.int .i64 ((rd_T62 y116 x25_2).f5))) (fun _ hk => ⟨hk.1.1, hk.1.2⟩)⟩
                          have n1_ : Aside0 (Kd.R k62 62 ((((((w27.setCell ⟨gb120, 0, none⟩ (.int .i64 ((rd_T62 y116 x25_2).f0))).setCell ⟨gb120, 1, none⟩ (.int .i64 ((rd_T62 y116 x25_2).f1))).setCell ⟨gb120, 2, none⟩ (.int .i64 ((rd_T62 y116 x25_2).f2))).setCell ⟨gb120, 3, none⟩ (.int .i64 ((rd_T62 y116 x25_2).f3))).setCell ⟨gb120, 4, none⟩ (.int .i64 ((rd_T62 y116 x25_2).f4))).setCell ⟨gb120, 5, none⟩ (.int .i64 ((rd_T62 y116 x25_2).f5))) w.heap.size (fun k_ => some k_ ≠ (u5 : Value).ownBlock ∧ k_ ≠ gb120) (.slice (some ad119) y116.length co10) y116) := ⟨by (with_reducible repeat (first | apply Kd.R_alloc | apply Kd.R_drewN | apply Kd.R_drew)); exact Kd.R_mono (Kd.R_far (p := ⟨gb120, 5, none⟩) (Kd.R_far (p := ⟨gb120, 4, none⟩) (Kd.R_far (p := ⟨gb120, 3, none⟩) (Kd.R_far (p := ⟨gb120, 2, none⟩) (Kd.R_far (p := ⟨gb120, 1, none⟩) (Kd.R_far (p := ⟨gb120, 0, none⟩) (Kd.R_mono HO_23.out (fun k_ hk => (⟨hk, hk.2⟩ : _ ∧ k_ ≠ gb120))) (fun _ hk => hk.2) (.int .i64 ((rd_T62 y116 x25_2).f0))) (fun _ hk => hk.2) (.int .i64 ((rd_T62 y116 x25_2).f1))) (fun _ hk => hk.2) (.int .i64 ((rd_T62 y116 x25_2).f2))) (fun _ hk => hk.2) (.int .i64 ((rd_T62 y116 x25_2).f3))) (fun _ hk => hk.2) (.int .i64 ((rd_T62 y116 x25_2).f4))) (fun _ hk => hk.2) (.int .i64 ((rd_T62 y116 x25_2).f5))) (fun _ hk => ⟨hk.1.1, hk.1.2⟩)⟩
                          have n2_ : Aside0 (((((((w27.setCell ⟨gb120, 0, none⟩ (.int .i64 ((rd_T62 y116 x25_2).f0))).setCell ⟨gb120, 1, none⟩ (.int .i64 ((rd_T62 y116 x25_2).f1))).setCell ⟨gb120, 2, none⟩ (.int .i64 ((rd_T62 y116 x25_2).f2))).setCell ⟨gb120, 3, none⟩ (.int .i64 ((rd_T62 y116 x25_2).f3))).setCell ⟨gb120, 4, none⟩ (.int .i64 ((rd_T62 y116 x25_2).f4))).setCell ⟨gb120, 5, none⟩ (.int .i64 ((rd_T62 y116 x25_2).f5))).heap[gb120]? = some (.cells #[.int .i64 ((rd_T62 y116 x25_2).f0), .int .i64 ((rd_T62 y116 x25_2).f1), .int .i64 ((rd_T62 y116 x25_2).f2), .int .i64 ((rd_T62 y116 x25_2).f3), .int .i64 ((rd_T62 y116 x25_2).f4), .int .i64 ((rd_T62 y116 x25_2).f5)] 62 (0, 0))) := ⟨by (with_reducible repeat (first | refine blk_drewN ?_ _ | refine blk_drew ?_ | refine blk_alloc ?_ _)); refine blk_put (cs := #[.int .i64 ((rd_T62 y116 x25_2).f0), .int .i64 ((rd_T62 y116 x25_2).f1), .int .i64 ((rd_T62 y116 x25_2).f2), .int .i64 ((rd_T62 y116 x25_2).f3), .int .i64 ((rd_T62 y116 x25_2).f4), .int .i64 0]) ?_ 5 _ rfl; (with_reducible repeat (first | refine blk_drewN ?_ _ | refine blk_drew ?_ | refine blk_alloc ?_ _)); refine blk_put (cs := #[.int .i64 ((rd_T62 y116 x25_2).f0), .int .i64 ((rd_T62 y116 x25_2).f1), .int .i64 ((rd_T62 y116 x25_2).f2), .int .i64 ((rd_T62 y116 x25_2).f3), .int .i64 0, .int .i64 0]) ?_ 4 _ rfl; (with_reducible repeat (first | refine blk_drewN ?_ _ | refine blk_drew ?_ | refine blk_alloc ?_ _)); refine blk_put (cs := #[.int .i64 ((rd_T62 y116 x25_2).f0), .int .i64 ((rd_T62 y116 x25_2).f1), .int .i64 ((rd_T62 y116 x25_2).f2), .int .i64 0, .int .i64 0, .int .i64 0]) ?_ 3 _ rfl; (with_reducible repeat (first | refine blk_drewN ?_ _ | refine blk_drew ?_ | refine blk_alloc ?_ _)); refine blk_put (cs := #[.int .i64 ((rd_T62 y116 x25_2).f0), .int .i64 ((rd_T62 y116 x25_2).f1), .int .i64 0, .int .i64 0, .int .i64 0, .int .i64 0]) ?_ 2 _ rfl; (with_reducible repeat (first | refine blk_drewN ?_ _ | refine blk_drew ?_ | refine blk_alloc ?_ _)); refine blk_put (cs := #[.int .i64 ((rd_T62 y116 x25_2).f0), .int .i64 0, .int .i64 0, .int .i64 0, .int .i64 0, .int .i64 0]) ?_ 1 _ rfl; (with_reducible repeat (first | refine blk_drewN ?_ _ | refine blk_drew ?_ | refine blk_alloc ?_ _)); refine blk_put (cs := #[.int .i64 0, .int .i64 0, .int .i64 0, .int .i64 0, .int .i64 0, .int .i64 0]) ?_ 0 _ rfl; (with_reducible repeat (first | refine blk_drewN ?_ _ | refine blk_drew ?_ | refine blk_alloc ?_ _)); exact BK120.out⟩
                          have n3_ : Aside0 (Below w.heap.size w ((((((w27.setCell ⟨gb120, 0, none⟩ (.int .i64 ((rd_T62 y116 x25_2).f0))).setCell ⟨gb120, 1, none⟩ (.int .i64 ((rd_T62 y116 x25_2).f1))).setCell ⟨gb120, 2, none⟩ (.int .i64 ((rd_T62 y116 x25_2).f2))).setCell ⟨gb120, 3, none⟩ (.int .i64 ((rd_T62 y116 x25_2).f3))).setCell ⟨gb120, 4, none⟩ (.int .i64 ((rd_T62 y116 x25_2).f4))).setCell ⟨gb120, 5, none⟩ (.int .i64 ((rd_T62 y116 x25_2).f5)))) := ⟨by repeat (first | (with_reducible first | exact HB.out | apply below_alloc | apply pw_below_drewN | apply below_drew1 | refine below_set ?_ GE120.out) | exact HB.out)⟩
                          (try clear HO_5)
                          (try clear HO_23)
                          (try clear BK120)
                          (try clear HB)
                          generalize ((((((w27.setCell ⟨gb120, 0, none⟩ (.int .i64 ((rd_T62 y116 x25_2).f0))).setCell ⟨gb120, 1, none⟩ (.int .i64 ((rd_T62 y116 x25_2).f1))).setCell ⟨gb120, 2, none⟩ (.int .i64 ((rd_T62 y116 x25_2).f2))).setCell ⟨gb120, 3, none⟩ (.int .i64 ((rd_T62 y116 x25_2).f3))).setCell ⟨gb120, 4, none⟩ (.int .i64 ((rd_T62 y116 x25_2).f4))).setCell ⟨gb120, 5, none⟩ (.int .i64 ((rd_T62 y116 x25_2).f5))) = w29 at n0_ n1_ n2_ n3_ ⊢
                          have HO_5 := n0_
                          have HO_23 := n1_
                          have BK120 := n2_
                          have HB := n3_
                          clear n0_ n1_ n2_ n3_
                          have n0_ := Aside0.mk (Kd.R_drew HO_5.out)
                          have n1_ := Aside0.mk (Kd.R_drew HO_23.out)
                          have n2_ := Aside0.mk (blk_drew BK120.out)
                          have n3_ := Aside0.mk (below_drew1 HB.out)
                          clear HO_5
                          clear HO_23
                          clear BK120
                          clear HB
                          have HO_5 := n0_
                          have HO_23 := n1_
                          have BK120 := n2_
                          have HB := n3_
                          clear n0_ n1_ n2_ n3_
                          refine start_ (n := 26) (S := fun w' => w'.cell? ⟨gb120, 0, none⟩ = some (.int .i64 ((rd_T62 y116 x25_2).f0)) ∧ w'.cell? ⟨gb120, 1, none⟩ = some (.int .i64 ((rd_T62 y116 x25_2).f1)) ∧ w'.cell? ⟨gb120, 2, none⟩ = some (.int .i64 ((rd_T62 y116 x25_2).f2)) ∧ w'.cell? ⟨gb120, 3, none⟩ = some (.int .i64 ((rd_T62 y116 x25_2).f3)) ∧ w'.cell? ⟨gb120, 4, none⟩ = some (.int .i64 ((rd_T62 y116 x25_2).f4)) ∧ w'.cell? ⟨gb120, 5, none⟩ = some (.int .i64 ((rd_T62 y116 x25_2).f5))) (ds := [23, 25]) #[false, false, false, false, false, false, false, false, false, false, false, false, false, false, false, false, false, false, false, false, false, false, false, false, false, false] (by kernel_rfl) rfl rfl ⟨(blk_cell BK120.out 0).trans rfl, (blk_cell BK120.out 1).trans rfl, (blk_cell BK120.out 2).trans rfl, (blk_cell BK120.out 3).trans rfl, (blk_cell BK120.out 4).trans rfl, (blk_cell BK120.out 5).trans rfl⟩ (fun hHeld => ?_); refine with_tabW impl_PassesOf.tab7 impl_PassesOf.bits7 (fun HT_ HW_ => ?_)
                          generalize w29.drew = w30 at HO_5 HO_23 BK120 HB hHeld ⊢
                          refine pure_ (i := 0) (N := some 29) (v := ?_) (a' := ?_) #[true, false, false, false, false, false, false, false, false, false, false, false, false, false, false, false, false, false, false, false, false, false, false, false, false, false] rfl rfl (any_of HT_.out (by kernel_rfl)) (fun _ _ _ h => h) (Or.inl ⟨by rfl, ?_⟩) ?_ ?_
                          rotate_left
                          · intro w'
                            go_simp
                            with_reducible rfl
                          rotate_left
                          · simp only [Act.put, List.setIfInBounds_toArray, List.set_cons_zero, List.set_cons_succ, i64_w, i32_w]
                            rfl
                          refine pure_ (i := 1) (N := some 30) (v := ?_) (a' := ?_) #[true, true, false, false, false, false, false, false, false, false, false, false, false, false, false, false, false, false, false, false, false, false, false, false, false, false] rfl rfl (any_of HT_.out (by kernel_rfl)) (fun _ _ _ h => h) (Or.inl ⟨by rfl, ?_⟩) ?_ ?_
                          rotate_left
                          · intro w'
                            go_simp
                            with_reducible rfl
                          rotate_left
                          · simp only [Act.put, List.setIfInBounds_toArray, List.set_cons_zero, List.set_cons_succ, i64_w, i32_w]
                            rfl
                          refine pure_ (i := 4) (N := some 33) (v := ?_) (a' := ?_) #[true, true, false, false, true, false, false, false, false, false, false, false, false, false, false, false, false, false, false, false, false, false, false, false, false, false] rfl rfl (any_of HT_.out (by kernel_rfl)) (fun _ _ _ h => h) (Or.inl ⟨by rfl, ?_⟩) ?_ ?_
                          rotate_left
                          · intro w'
                            go_simp
                            with_reducible rfl
                          rotate_left
                          · simp only [Act.put, List.setIfInBounds_toArray, List.set_cons_zero, List.set_cons_succ, i64_w, i32_w]
                            rfl
                          refine pure_ (i := 8) (N := some 37) (v := ?_) (a' := ?_) #[true, true, false, false, true, false, false, false, true, false, false, false, false, false, false, false, false, false, false, false, false, false, false, false, false, false] rfl rfl (any_of HT_.out (by kernel_rfl)) (fun _ _ _ h => h) (Or.inl ⟨by rfl, ?_⟩) ?_ ?_
                          rotate_left
                          · intro w'
                            go_simp
                            with_reducible rfl
                          rotate_left
                          · simp only [Act.put, List.setIfInBounds_toArray, List.set_cons_zero, List.set_cons_succ, i64_w, i32_w]
                            rfl
                          refine pure_ (i := 11) (N := some 40) (v := ?_) (a' := ?_) #[true, true, false, false, true, false, false, false, true, false, false, true, false, false, false, false, false, false, false, false, false, false, false, false, false, false] rfl rfl (any_of HT_.out (by kernel_rfl)) (fun _ _ _ h => h) (Or.inl ⟨by rfl, ?_⟩) ?_ ?_
                          rotate_left
                          · intro w'
                            go_simp
                            with_reducible rfl
                          rotate_left
                          · simp only [Act.put, List.setIfInBounds_toArray, List.set_cons_zero, List.set_cons_succ, i64_w, i32_w]
                            rfl
                          refine pure_ (i := 12) (N := some 41) (v := ?_) (a' := ?_) #[true, true, false, false, true, false, false, false, true, false, false, true, true, false, false, false, false, false, false, false, false, false, false, false, false, false] rfl rfl (any_of HT_.out (by kernel_rfl)) (fun _ _ _ h => h) (Or.inl ⟨by rfl, ?_⟩) ?_ ?_
                          rotate_left
                          · intro w'
                            go_simp
                            with_reducible rfl
                          rotate_left
                          · simp only [Act.put, List.setIfInBounds_toArray, List.set_cons_zero, List.set_cons_succ, i64_w, i32_w]
                            rfl
                          refine pure_ (i := 15) (N := some 44) (v := ?_) (a' := ?_) #[true, true, false, false, true, false, false, false, true, false, false, true, true, false, false, true, false, false, false, false, false, false, false, false, false, false] rfl rfl (any_of HT_.out (by kernel_rfl)) (fun _ _ _ h => h) (Or.inl ⟨by rfl, ?_⟩) ?_ ?_
                          rotate_left
                          · intro w'
                            go_simp
                            with_reducible rfl
                          rotate_left
                          · simp only [Act.put, List.setIfInBounds_toArray, List.set_cons_zero, List.set_cons_succ, i64_w, i32_w]
                            rfl
                          refine pure_ (i := 19) (N := some 48) (v := ?_) (a' := ?_) #[true, true, false, false, true, false, false, false, true, false, false, true, true, false, false, true, false, false, false, true, false, false, false, false, false, false] rfl rfl (any_of HT_.out (by kernel_rfl)) (fun _ _ _ h => h) (Or.inl ⟨by rfl, ?_⟩) ?_ ?_
                          rotate_left
                          · intro w'
                            go_simp
                            with_reducible rfl
                          rotate_left
                          · simp only [Act.put, List.setIfInBounds_toArray, List.set_cons_zero, List.set_cons_succ, i64_w, i32_w]
                            rfl
                          refine take_ (i := 2) (N := some 31) (v := ?_) (a' := ?_) #[true, true, true, false, true, false, false, false, true, false, false, true, true, false, false, true, false, false, false, true, false, false, false, false, false, false] rfl rfl (take_ofW HT_.out HW_.out (by kernel_rfl)) (fun _ _ _ h => h) (Or.inl ⟨by rfl, ?_⟩) hHeld ?_ ?_
                          rotate_left
                          · rintro w' ⟨s0, s1, s2, s3, s4, s5⟩
                            go_simp
                            with_reducible rfl
                          rotate_left
                          · simp only [Act.put, List.setIfInBounds_toArray, List.set_cons_zero, List.set_cons_succ, i64_w, i32_w]
                            rfl
                          refine pure_ (i := 3) (N := some 32) (v := ?_) (a' := ?_) #[true, true, true, true, true, false, false, false, true, false, false, true, true, false, false, true, false, false, false, true, false, false, false, false, false, false] rfl rfl (any_of HT_.out (by kernel_rfl)) (fun _ _ _ h => h) (Or.inl ⟨by rfl, ?_⟩) ?_ ?_
                          rotate_left
                          · intro w'
                            go_simp
                            with_reducible rfl
                          rotate_left
                          · simp only [Act.put, List.setIfInBounds_toArray, List.set_cons_zero, List.set_cons_succ, i64_w, i32_w]
                            rfl
                          refine take_ (i := 5) (N := some 34) (v := ?_) (a' := ?_) #[true, true, true, true, true, true, false, false, true, false, false, true, true, false, false, true, false, false, false, true, false, false, false, false, false, false] rfl rfl (take_ofW HT_.out HW_.out (by kernel_rfl)) (fun _ _ _ h => h) (Or.inl ⟨by rfl, ?_⟩) hHeld ?_ ?_
                          rotate_left
                          · rintro w' ⟨s0, s1, s2, s3, s4, s5⟩
                            go_simp
                            with_reducible rfl
                          rotate_left
                          · simp only [Act.put, List.setIfInBounds_toArray, List.set_cons_zero, List.set_cons_succ, i64_w, i32_w]
                            rfl
                          refine pure_ (i := 6) (N := some 35) (v := ?_) (a' := ?_) #[true, true, true, true, true, true, true, false, true, false, false, true, true, false, false, true, false, false, false, true, false, false, false, false, false, false] rfl rfl (any_of HT_.out (by kernel_rfl)) (fun _ _ _ h => h) (Or.inl ⟨by rfl, ?_⟩) ?_ ?_
                          rotate_left
                          · intro w'
                            go_simp
                            with_reducible rfl
                          rotate_left
                          · simp only [Act.put, List.setIfInBounds_toArray, List.set_cons_zero, List.set_cons_succ, i64_w, i32_w]
                            rfl
                          refine pure_ (i := 7) (N := some 36) (v := ?_) (a' := ?_) #[true, true, true, true, true, true, true, true, true, false, false, true, true, false, false, true, false, false, false, true, false, false, false, false, false, false] rfl rfl (any_of HT_.out (by kernel_rfl)) (fun _ _ _ h => h) (Or.inl ⟨by rfl, ?_⟩) ?_ ?_
                          rotate_left
                          · intro w'
                            go_simp
                            with_reducible rfl
                          rotate_left
                          · simp only [Act.put, List.setIfInBounds_toArray, List.set_cons_zero, List.set_cons_succ, i64_w, i32_w]
                            rfl
                          refine take_ (i := 9) (N := some 38) (v := ?_) (a' := ?_) #[true, true, true, true, true, true, true, true, true, true, false, true, true, false, false, true, false, false, false, true, false, false, false, false, false, false] rfl rfl (take_ofW HT_.out HW_.out (by kernel_rfl)) (fun _ _ _ h => h) (Or.inl ⟨by rfl, ?_⟩) hHeld ?_ ?_
                          rotate_left
                          · rintro w' ⟨s0, s1, s2, s3, s4, s5⟩
                            go_simp
                            with_reducible rfl
                          rotate_left
                          · simp only [Act.put, List.setIfInBounds_toArray, List.set_cons_zero, List.set_cons_succ, i64_w, i32_w]
                            rfl
                          refine pure_ (i := 10) (N := some 39) (v := ?_) (a' := ?_) #[true, true, true, true, true, true, true, true, true, true, true, true, true, false, false, true, false, false, false, true, false, false, false, false, false, false] rfl rfl (any_of HT_.out (by kernel_rfl)) (fun _ _ _ h => h) (Or.inl ⟨by rfl, ?_⟩) ?_ ?_
                          rotate_left
                          · intro w'
                            go_simp
                            with_reducible rfl
                          rotate_left
                          · simp only [Act.put, List.setIfInBounds_toArray, List.set_cons_zero, List.set_cons_succ, i64_w, i32_w]
                            rfl
                          refine take_ (i := 13) (N := some 42) (v := ?_) (a' := ?_) #[true, true, true, true, true, true, true, true, true, true, true, true, true, true, false, true, false, false, false, true, false, false, false, false, false, false] rfl rfl (take_ofW HT_.out HW_.out (by kernel_rfl)) (fun _ _ _ h => h) (Or.inl ⟨by rfl, ?_⟩) hHeld ?_ ?_
                          rotate_left
                          · rintro w' ⟨s0, s1, s2, s3, s4, s5⟩
                            go_simp
                            with_reducible rfl
                          rotate_left
                          · simp only [Act.put, List.setIfInBounds_toArray, List.set_cons_zero, List.set_cons_succ, i64_w, i32_w]
                            rfl
                          refine pure_ (i := 14) (N := some 43) (v := ?_) (a' := ?_) #[true, true, true, true, true, true, true, true, true, true, true, true, true, true, true, true, false, false, false, true, false, false, false, false, false, false] rfl rfl (any_of HT_.out (by kernel_rfl)) (fun _ _ _ h => h) (Or.inl ⟨by rfl, ?_⟩) ?_ ?_
                          rotate_left
                          · intro w'
                            go_simp
                            with_reducible rfl
                          rotate_left
                          · simp only [Act.put, List.setIfInBounds_toArray, List.set_cons_zero, List.set_cons_succ, i64_w, i32_w]
                            rfl
                          refine take_ (i := 16) (N := some 45) (v := ?_) (a' := ?_) #[true, true, true, true, true, true, true, true, true, true, true, true, true, true, true, true, true, false, false, true, false, false, false, false, false, false] rfl rfl (take_ofW HT_.out HW_.out (by kernel_rfl)) (fun _ _ _ h => h) (Or.inl ⟨by rfl, ?_⟩) hHeld ?_ ?_
                          rotate_left
                          · rintro w' ⟨s0, s1, s2, s3, s4, s5⟩
                            go_simp
                            with_reducible rfl
                          rotate_left
                          · simp only [Act.put, List.setIfInBounds_toArray, List.set_cons_zero, List.set_cons_succ, i64_w, i32_w]
                            rfl
                          refine pure_ (i := 17) (N := some 46) (v := ?_) (a' := ?_) #[true, true, true, true, true, true, true, true, true, true, true, true, true, true, true, true, true, true, false, true, false, false, false, false, false, false] rfl rfl (any_of HT_.out (by kernel_rfl)) (fun _ _ _ h => h) (Or.inl ⟨by rfl, ?_⟩) ?_ ?_
                          rotate_left
                          · intro w'
                            go_simp
                            with_reducible rfl
                          rotate_left
                          · simp only [Act.put, List.setIfInBounds_toArray, List.set_cons_zero, List.set_cons_succ, i64_w, i32_w]
                            rfl
                          refine pure_ (i := 18) (N := some 47) (v := ?_) (a' := ?_) #[true, true, true, true, true, true, true, true, true, true, true, true, true, true, true, true, true, true, true, true, false, false, false, false, false, false] rfl rfl (any_of HT_.out (by kernel_rfl)) (fun _ _ _ h => h) (Or.inl ⟨by rfl, ?_⟩) ?_ ?_
                          rotate_left
                          · intro w'
                            go_simp
                            with_reducible rfl
                          rotate_left
                          · simp only [Act.put, List.setIfInBounds_toArray, List.set_cons_zero, List.set_cons_succ, i64_w, i32_w]
                            rfl
                          refine take_ (i := 20) (N := some 49) (v := ?_) (a' := ?_) #[true, true, true, true, true, true, true, true, true, true, true, true, true, true, true, true, true, true, true, true, true, false, false, false, false, false] rfl rfl (take_ofW HT_.out HW_.out (by kernel_rfl)) (fun _ _ _ h => h) (Or.inl ⟨by rfl, ?_⟩) hHeld ?_ ?_
                          rotate_left
                          · rintro w' ⟨s0, s1, s2, s3, s4, s5⟩
                            go_simp
                            with_reducible rfl
                          rotate_left
                          · simp only [Act.put, List.setIfInBounds_toArray, List.set_cons_zero, List.set_cons_succ, i64_w, i32_w]
                            rfl
                          refine pure_ (i := 21) (N := some 50) (v := ?_) (a' := ?_) #[true, true, true, true, true, true, true, true, true, true, true, true, true, true, true, true, true, true, true, true, true, true, false, false, false, false] rfl rfl (any_of HT_.out (by kernel_rfl)) (fun _ _ _ h => h) (Or.inl ⟨by rfl, ?_⟩) ?_ ?_
                          rotate_left
                          · intro w'
                            go_simp
                            with_reducible rfl
                          rotate_left
                          · simp only [Act.put, List.setIfInBounds_toArray, List.set_cons_zero, List.set_cons_succ, i64_w, i32_w]
                            rfl
                          refine pure_ (i := 22) (N := some 51) (v := ?_) (a' := ?_) #[true, true, true, true, true, true, true, true, true, true, true, true, true, true, true, true, true, true, true, true, true, true, true, false, false, false] rfl rfl (any_of HT_.out (by kernel_rfl)) (fun _ _ _ h => h) (Or.inl ⟨by rfl, ?_⟩) ?_ ?_
                          rotate_left
                          · intro w'
                            go_simp
                            with_reducible rfl
                          rotate_left
                          · simp only [Act.put, List.setIfInBounds_toArray, List.set_cons_zero, List.set_cons_succ, i64_w, i32_w]
                            rfl
                          refine last_ (i := 23) (N := none) #[true, true, true, true, true, true, true, true, true, true, true, true, true, true, true, true, true, true, true, true, true, true, true, true, false, false] rfl rfl (one_of HT_.out (by kernel_rfl)) (by decide) (fun K hK => ?_)
                          have hs31 : w30.cell? ⟨gb120, 4, none⟩ = some (.int .i64 ((rd_T62 y116 x25_2).f4)) := (blk_cell BK120.out 4).trans rfl
                          have hfs31 := blk_frozen BK120.out 4
                          refine skip_ (w1 := ?_) (by rfl) rfl ?_ ?_
                          rotate_left
                          · go_simp
                            rfl
                          refine hK.out _ _ ?_
                          clear hK K
                          refine pure_ (i := 24) (N := some 52) (v := ?_) (a' := ?_) #[true, true, true, true, true, true, true, true, true, true, true, true, true, true, true, true, true, true, true, true, true, true, true, true, true, false] rfl rfl (any_of HT_.out (by kernel_rfl)) (fun _ _ _ h => h) (Or.inl ⟨by rfl, ?_⟩) ?_ ?_
                          rotate_left
                          · intro w'
                            go_simp
                            with_reducible rfl
                          rotate_left
                          · simp only [Act.put, List.setIfInBounds_toArray, List.set_cons_zero, List.set_cons_succ, i64_w, i32_w]
                            rfl
                          refine last_ (i := 25) (N := none) #[true, true, true, true, true, true, true, true, true, true, true, true, true, true, true, true, true, true, true, true, true, true, true, true, true, true] rfl rfl (one_of HT_.out (by kernel_rfl)) (by decide) (fun K hK => ?_)
                          have hs32 : w30.cell? ⟨gb120, 5, none⟩ = some (.int .i64 ((rd_T62 y116 x25_2).f5)) := (blk_cell BK120.out 5).trans rfl
                          have hfs32 := blk_frozen BK120.out 5
                          refine skip_ (w1 := ?_) (by rfl) rfl ?_ ?_
                          rotate_left
                          · go_simp
                            rfl
                          refine hK.out _ _ ?_
                          clear hK K
                          refine done_ (done_of HT_.out (by kernel_rfl)) ?_
                          have hcz33_0 : w30.cell? ⟨gb120, 0, none⟩ = some (.int .i64 ((rd_T62 y116 x25_2).f0)) := (blk_cell BK120.out 0).trans rfl
                          have hcz33_1 : w30.cell? ⟨gb120, 1, none⟩ = some (.int .i64 ((rd_T62 y116 x25_2).f1)) := (blk_cell BK120.out 1).trans rfl
                          have hcz33_2 : w30.cell? ⟨gb120, 2, none⟩ = some (.int .i64 ((rd_T62 y116 x25_2).f2)) := (blk_cell BK120.out 2).trans rfl
                          have hcz33_3 : w30.cell? ⟨gb120, 3, none⟩ = some (.int .i64 ((rd_T62 y116 x25_2).f3)) := (blk_cell BK120.out 3).trans rfl
                          have hcz33_4 : w30.cell? ⟨gb120, 4, none⟩ = some (.int .i64 ((rd_T62 y116 x25_2).f4)) := (blk_cell BK120.out 4).trans rfl
                          have hcz33_5 : w30.cell? ⟨gb120, 5, none⟩ = some (.int .i64 ((rd_T62 y116 x25_2).f5)) := (blk_cell BK120.out 5).trans rfl
                          have hfz33_0 := blk_frozen BK120.out 0
                          have hfz33_1 := blk_frozen BK120.out 1
                          have hfz33_2 := blk_frozen BK120.out 2
                          have hfz33_3 := blk_frozen BK120.out 3
                          have hfz33_4 := blk_frozen BK120.out 4
                          have hfz33_5 := blk_frozen BK120.out 5
                          try go_wp2
                          go_roundg k2
                          case measure => have := HJ2.out; have := HK2.out; omega
                          case rel => exact ⟨(x5_2), (wrap64 (x25_2 + 1)), (by first | rfl | (simp; done) | (simp [*]; done)), H', ⟨by have := HJ2.out; have := HK2.out; omega⟩, ⟨by (with_reducible repeat (first | apply Kd.R_alloc | apply Kd.R_drewN | apply Kd.R_drew)); exact Kd.R_mono (Kd.R_far (p := ⟨gb120, 5, none⟩) (Kd.R_far (p := ⟨gb120, 4, none⟩) (Kd.R_mono HO_5.out (fun k_ hk => (⟨hk, hk.2⟩ : _ ∧ k_ ≠ gb120))) (fun _ hk => hk.2) (.int .i64 (wrap64 (Int.tdiv (wrap64 ((wrap64 ((wrap64 (a0 - ((rd_T62 y116 x25_2).f0))) + ((rd_T62 y116 x25_2).f2))) - 1)) ((rd_T62 y116 x25_2).f2))))) (fun _ hk => hk.2) (.int .i64 (wrap64 (Int.tdiv (wrap64 ((wrap64 ((wrap64 (a1 - ((rd_T62 y116 x25_2).f1))) + ((rd_T62 y116 x25_2).f3))) - 1)) ((rd_T62 y116 x25_2).f3))))) (fun _ hk => hk.1.1)⟩, ⟨by (with_reducible repeat (first | apply Kd.R_alloc | apply Kd.R_drewN | apply Kd.R_drew)); exact Kd.R_mono (Kd.R_far (p := ⟨gb120, 5, none⟩) (Kd.R_far (p := ⟨gb120, 4, none⟩) (Kd.R_mono HO_23.out (fun k_ hk => (⟨hk, hk.2⟩ : _ ∧ k_ ≠ gb120))) (fun _ hk => hk.2) (.int .i64 (wrap64 (Int.tdiv (wrap64 ((wrap64 ((wrap64 (a0 - ((rd_T62 y116 x25_2).f0))) + ((rd_T62 y116 x25_2).f2))) - 1)) ((rd_T62 y116 x25_2).f2))))) (fun _ hk => hk.2) (.int .i64 (wrap64 (Int.tdiv (wrap64 ((wrap64 ((wrap64 (a1 - ((rd_T62 y116 x25_2).f1))) + ((rd_T62 y116 x25_2).f3))) - 1)) ((rd_T62 y116 x25_2).f3))))) (fun _ hk => hk.1.1)⟩, ⟨by repeat (first | (with_reducible first | exact HB.out | apply below_alloc | apply pw_below_drewN | apply below_drew1 | refine below_set ?_ GE120.out) | exact HB.out)⟩⟩
                      · rw [if_neg c16] at H
                        have c16b0 : decide (((rd_T62 y116 x25_2).f0) < a0) = false := decide_eq_false c16
                        clear c16
                        have H' := Aside0.mk H
                        clear H
                        have p119 : 0 ≤ (x25_2 : Int) := of_decide_eq_true (by first | (with_reducible assumption) | assumption)
                        have q119 : x25_2 < (y116.length : Int) := of_decide_eq_true (by first | (with_reducible assumption) | assumption)
                        obtain ⟨ad119, e119, hx119_0, hx119_1, hx119_2, hx119_3, hx119_4, hx119_5⟩ := at_T62 (Kd.R_reads' HO_23.out).2.2 x25_2 p119 q119
                        cases e119
                        replace p119 := eq_true p119
                        replace q119 := eq_true q119
                        try go_wp2_with (first | ((with_reducible refine gate_dst (N := 7) rfl ?_); refine box_event ?hg (N := 7) ?hd (cs := #[.int .i64 0, .int .i64 0, .int .i64 0, .int .i64 0, .int .i64 0, .int .i64 0]) (t := 62) ?hr ?_; (case hd => rfl); (case hg => rfl); (case hr => first | (go_simp; done) | (go_simp; rfl)); intro gb120 hg w34 hbox hb; have n0_ := Aside0.mk (Kd.R_below (Kd.R_elderB (by (with_reducible repeat (first | apply Kd.R_alloc | apply Kd.R_drewN | apply Kd.R_drew)); exact HO_5.out) gb120 (Nat.le_of_eq hg.symm)) hb); have n1_ := Aside0.mk (Kd.R_below (Kd.R_elderB (by (with_reducible repeat (first | apply Kd.R_alloc | apply Kd.R_drewN | apply Kd.R_drew)); exact HO_23.out) gb120 (Nat.le_of_eq hg.symm)) hb); have n2_ := Aside0.mk (below_step (by repeat (first | (with_reducible first | exact HB.out | apply below_alloc | apply pw_below_drewN | apply below_drew1) | exact HB.out)) hb); have n3_ := Aside0.mk (hbox); have n4_ := Aside0.mk ((by rw [hg]; exact (below_size (by repeat (first | (with_reducible first | exact HB.out | apply below_alloc | apply pw_below_drewN | apply below_drew1) | exact HB.out))) : w.heap.size ≤ gb120)); have n5_ := Aside0.mk ((by rw [hg]; exact (below_size (by repeat (first | (with_reducible first | exact HB.out | apply below_alloc | apply pw_below_drewN | apply below_drew1) | exact HB.out))) : w.heap.size ≤ gb120)); clear HO_5; clear HO_23; clear HB; have HO_5 := n0_; have HO_23 := n1_; have HB := n2_; have BK120 := n3_; have GW120 := n4_; have GE120 := n5_; clear n0_ n1_ n2_ n3_ n4_ n5_; clear hb hbox hg; have hcz35_0 : w34.cell? ⟨gb120, 0, none⟩ = some (.int .i64 0) := (blk_cell BK120.out 0).trans rfl; have hcz35_1 : w34.cell? ⟨gb120, 1, none⟩ = some (.int .i64 0) := (blk_cell BK120.out 1).trans rfl; have hcz35_2 : w34.cell? ⟨gb120, 2, none⟩ = some (.int .i64 0) := (blk_cell BK120.out 2).trans rfl; have hcz35_3 : w34.cell? ⟨gb120, 3, none⟩ = some (.int .i64 0) := (blk_cell BK120.out 3).trans rfl; have hcz35_4 : w34.cell? ⟨gb120, 4, none⟩ = some (.int .i64 0) := (blk_cell BK120.out 4).trans rfl; have hcz35_5 : w34.cell? ⟨gb120, 5, none⟩ = some (.int .i64 0) := (blk_cell BK120.out 5).trans rfl; have hfz35_0 := blk_frozen BK120.out 0; have hfz35_1 := blk_frozen BK120.out 1; have hfz35_2 := blk_frozen BK120.out 2; have hfz35_3 := blk_frozen BK120.out 3; have hfz35_4 := blk_frozen BK120.out 4; have hfz35_5 := blk_frozen BK120.out 5))
                        have n0_ : Aside0 (Kd.R k62 62 ((((((w34.setCell ⟨gb120, 0, none⟩ (.int .i64 ((rd_T62 y116 x25_2).f0))).setCell ⟨gb120, 1, none⟩ (.int .i64 ((rd_T62 y116 x25_2).f1))).setCell ⟨gb120, 2, none⟩ (.int .i64 ((rd_T62 y116 x25_2).f2))).setCell ⟨gb120, 3, none⟩ (.int .i64 ((rd_T62 y116 x25_2).f3))).setCell ⟨gb120, 4, none⟩ (.int .i64 ((rd_T62 y116 x25_2).f4))).setCell ⟨gb120, 5, none⟩ (.int .i64 ((rd_T62 y116 x25_2).f5))) w.heap.size (fun k_ => some k_ ≠ (.slice (some ad119) y116.length co10 : Value).ownBlock ∧ k_ ≠ gb120) u5 x5_2) := ⟨by (with_reducible repeat (first | apply Kd.R_alloc | apply Kd.R_drewN | apply Kd.R_drew)); exact Kd.R_mono (Kd.R_far (p := ⟨gb120, 5, none⟩) (Kd.R_far (p := ⟨gb120, 4, none⟩) (Kd.R_far (p := ⟨gb120, 3, none⟩) (Kd.R_far (p := ⟨gb120, 2, none⟩) (Kd.R_far (p := ⟨gb120, 1, none⟩) (Kd.R_far (p := ⟨gb120, 0, none⟩) (Kd.R_mono HO_5.out (fun k_ hk => (⟨hk, hk.2⟩ : _ ∧ k_ ≠ gb120))) (fun _ hk => hk.2) (.int .i64 ((rd_T62 y116 x25_2).f0))) (fun _ hk => hk.2) (.int .i64 ((rd_T62 y116 x25_2).f1))) (fun _ hk => hk.2) (.int .i64 ((rd_T62 y116 x25_2).f2))) (fun _ hk => hk.2) (.int .i64 ((rd_T62 y116 x25_2).f3))) (fun _ hk => hk.2) (.int .i64 ((rd_T62 y116 x25_2).f4))) (fun _ hk => hk.2) (.int .i64 ((rd_T62 y116 x25_2).f5))) (fun _ hk => ⟨hk.1.1, hk.1.2⟩)⟩
                        have n1_ : Aside0 (Kd.R k62 62 ((((((w34.setCell ⟨gb120, 0, none⟩ (.int .i64 ((rd_T62 y116 x25_2).f0))).setCell ⟨gb120, 1, none⟩ (.int .i64 ((rd_T62 y116 x25_2).f1))).setCell ⟨gb120, 2, none⟩ (.int .i64 ((rd_T62 y116 x25_2).f2))).setCell ⟨gb120, 3, none⟩ (.int .i64 ((rd_T62 y116 x25_2).f3))).setCell ⟨gb120, 4, none⟩ (.int .i64 ((rd_T62 y116 x25_2).f4))).setCell ⟨gb120, 5, none⟩ (.int .i64 ((rd_T62 y116 x25_2).f5))) w.heap.size (fun k_ => some k_ ≠ (u5 : Value).ownBlock ∧ k_ ≠ gb120) (.slice (some ad119) y116.length co10) y116) := ⟨by (with_reducible repeat (first | apply Kd.R_alloc | apply Kd.R_drewN | apply Kd.R_drew)); exact Kd.R_mono (Kd.R_far (p := ⟨gb120, 5, none⟩) (Kd.R_far (p := ⟨gb120, 4, none⟩) (Kd.R_far (p := ⟨gb120, 3, none⟩) (Kd.R_far (p := ⟨gb120, 2, none⟩) (Kd.R_far (p := ⟨gb120, 1, none⟩) (Kd.R_far (p := ⟨gb120, 0, none⟩) (Kd.R_mono HO_23.out (fun k_ hk => (⟨hk, hk.2⟩ : _ ∧ k_ ≠ gb120))) (fun _ hk => hk.2) (.int .i64 ((rd_T62 y116 x25_2).f0))) (fun _ hk => hk.2) (.int .i64 ((rd_T62 y116 x25_2).f1))) (fun _ hk => hk.2) (.int .i64 ((rd_T62 y116 x25_2).f2))) (fun _ hk => hk.2) (.int .i64 ((rd_T62 y116 x25_2).f3))) (fun _ hk => hk.2) (.int .i64 ((rd_T62 y116 x25_2).f4))) (fun _ hk => hk.2) (.int .i64 ((rd_T62 y116 x25_2).f5))) (fun _ hk => ⟨hk.1.1, hk.1.2⟩)⟩
                        have n2_ : Aside0 (((((((w34.setCell ⟨gb120, 0, none⟩ (.int .i64 ((rd_T62 y116 x25_2).f0))).setCell ⟨gb120, 1, none⟩ (.int .i64 ((rd_T62 y116 x25_2).f1))).setCell ⟨gb120, 2, none⟩ (.int .i64 ((rd_T62 y116 x25_2).f2))).setCell ⟨gb120, 3, none⟩ (.int .i64 ((rd_T62 y116 x25_2).f3))).setCell ⟨gb120, 4, none⟩ (.int .i64 ((rd_T62 y116 x25_2).f4))).setCell ⟨gb120, 5, none⟩ (.int .i64 ((rd_T62 y116 x25_2).f5))).heap[gb120]? = some (.cells #[.int .i64 ((rd_T62 y116 x25_2).f0), .int .i64 ((rd_T62 y116 x25_2).f1), .int .i64 ((rd_T62 y116 x25_2).f2), .int .i64 ((rd_T62 y116 x25_2).f3), .int .i64 ((rd_T62 y116 x25_2).f4), .int .i64 ((rd_T62 y116 x25_2).f5)] 62 (0, 0))) := ⟨by (with_reducible repeat (first | refine blk_drewN ?_ _ | refine blk_drew ?_ | refine blk_alloc ?_ _)); refine blk_put (cs := #[.int .i64 ((rd_T62 y116 x25_2).f0), .int .i64 ((rd_T62 y116 x25_2).f1), .int .i64 ((rd_T62 y116 x25_2).f2), .int .i64 ((rd_T62 y116 x25_2).f3), .int .i64 ((rd_T62 y116 x25_2).f4), .int .i64 0]) ?_ 5 _ rfl; (with_reducible repeat (first | refine blk_drewN ?_ _ | refine blk_drew ?_ | refine blk_alloc ?_ _)); refine blk_put (cs := #[.int .i64 ((rd_T62 y116 x25_2).f0), .int .i64 ((rd_T62 y116 x25_2).f1), .int .i64 ((rd_T62 y116 x25_2).f2), .int .i64 ((rd_T62 y116 x25_2).f3), .int .i64 0, .int .i64 0]) ?_ 4 _ rfl; (with_reducible repeat (first | refine blk_drewN ?_ _ | refine blk_drew ?_ | refine blk_alloc ?_ _)); refine blk_put (cs := #[.int .i64 ((rd_T62 y116 x25_2).f0), .int .i64 ((rd_T62 y116 x25_2).f1), .int .i64 ((rd_T62 y116 x25_2).f2), .int .i64 0, .int .i64 0, .int .i64 0]) ?_ 3 _ rfl; (with_reducible repeat (first | refine blk_drewN ?_ _ | refine blk_drew ?_ | refine blk_alloc ?_ _)); refine blk_put (cs := #[.int .i64 ((rd_T62 y116 x25_2).f0), .int .i64 ((rd_T62 y116 x25_2).f1), .int .i64 0, .int .i64 0, .int .i64 0, .int .i64 0]) ?_ 2 _ rfl; (with_reducible repeat (first | refine blk_drewN ?_ _ | refine blk_drew ?_ | refine blk_alloc ?_ _)); refine blk_put (cs := #[.int .i64 ((rd_T62 y116 x25_2).f0), .int .i64 0, .int .i64 0, .int .i64 0, .int .i64 0, .int .i64 0]) ?_ 1 _ rfl; (with_reducible repeat (first | refine blk_drewN ?_ _ | refine blk_drew ?_ | refine blk_alloc ?_ _)); refine blk_put (cs := #[.int .i64 0, .int .i64 0, .int .i64 0, .int .i64 0, .int .i64 0, .int .i64 0]) ?_ 0 _ rfl; (with_reducible repeat (first | refine blk_drewN ?_ _ | refine blk_drew ?_ | refine blk_alloc ?_ _)); exact BK120.out⟩
                        have n3_ : Aside0 (Below w.heap.size w ((((((w34.setCell ⟨gb120, 0, none⟩ (.int .i64 ((rd_T62 y116 x25_2).f0))).setCell ⟨gb120, 1, none⟩ (.int .i64 ((rd_T62 y116 x25_2).f1))).setCell ⟨gb120, 2, none⟩ (.int .i64 ((rd_T62 y116 x25_2).f2))).setCell ⟨gb120, 3, none⟩ (.int .i64 ((rd_T62 y116 x25_2).f3))).setCell ⟨gb120, 4, none⟩ (.int .i64 ((rd_T62 y116 x25_2).f4))).setCell ⟨gb120, 5, none⟩ (.int .i64 ((rd_T62 y116 x25_2).f5)))) := ⟨by repeat (first | (with_reducible first | exact HB.out | apply below_alloc | apply pw_below_drewN | apply below_drew1 | refine below_set ?_ GE120.out) | exact HB.out)⟩
                        (try clear HO_5)
                        (try clear HO_23)
                        (try clear BK120)
                        (try clear HB)
                        generalize ((((((w34.setCell ⟨gb120, 0, none⟩ (.int .i64 ((rd_T62 y116 x25_2).f0))).setCell ⟨gb120, 1, none⟩ (.int .i64 ((rd_T62 y116 x25_2).f1))).setCell ⟨gb120, 2, none⟩ (.int .i64 ((rd_T62 y116 x25_2).f2))).setCell ⟨gb120, 3, none⟩ (.int .i64 ((rd_T62 y116 x25_2).f3))).setCell ⟨gb120, 4, none⟩ (.int .i64 ((rd_T62 y116 x25_2).f4))).setCell ⟨gb120, 5, none⟩ (.int .i64 ((rd_T62 y116 x25_2).f5))) = w36 at n0_ n1_ n2_ n3_ ⊢
                        have HO_5 := n0_
                        have HO_23 := n1_
                        have BK120 := n2_
                        have HB := n3_
                        clear n0_ n1_ n2_ n3_
                        have n0_ := Aside0.mk (Kd.R_drew HO_5.out)
                        have n1_ := Aside0.mk (Kd.R_drew HO_23.out)
                        have n2_ := Aside0.mk (blk_drew BK120.out)
                        have n3_ := Aside0.mk (below_drew1 HB.out)
                        clear HO_5
                        clear HO_23
                        clear BK120
                        clear HB
                        have HO_5 := n0_
                        have HO_23 := n1_
                        have BK120 := n2_
                        have HB := n3_
                        clear n0_ n1_ n2_ n3_
                        refine start_ (n := 26) (S := fun w' => w'.cell? ⟨gb120, 0, none⟩ = some (.int .i64 ((rd_T62 y116 x25_2).f0)) ∧ w'.cell? ⟨gb120, 1, none⟩ = some (.int .i64 ((rd_T62 y116 x25_2).f1)) ∧ w'.cell? ⟨gb120, 2, none⟩ = some (.int .i64 ((rd_T62 y116 x25_2).f2)) ∧ w'.cell? ⟨gb120, 3, none⟩ = some (.int .i64 ((rd_T62 y116 x25_2).f3)) ∧ w'.cell? ⟨gb120, 4, none⟩ = some (.int .i64 ((rd_T62 y116 x25_2).f4)) ∧ w'.cell? ⟨gb120, 5, none⟩ = some (.int .i64 ((rd_T62 y116 x25_2).f5))) (ds := [23, 25]) #[false, false, false, false, false, false, false, false, false, false, false, false, false, false, false, false, false, false, false, false, false, false, false, false, false, false] (by kernel_rfl) rfl rfl ⟨(blk_cell BK120.out 0).trans rfl, (blk_cell BK120.out 1).trans rfl, (blk_cell BK120.out 2).trans rfl, (blk_cell BK120.out 3).trans rfl, (blk_cell BK120.out 4).trans rfl, (blk_cell BK120.out 5).trans rfl⟩ (fun hHeld => ?_); refine with_tabW impl_PassesOf.tab7 impl_PassesOf.bits7 (fun HT_ HW_ => ?_)
                        generalize w36.drew = w37 at HO_5 HO_23 BK120 HB hHeld ⊢
                        refine pure_ (i := 0) (N := some 29) (v := ?_) (a' := ?_) #[true, false, false, false, false, false, false, false, false, false, false, false, false, false, false, false, false, false, false, false, false, false, false, false, false, false] rfl rfl (any_of HT_.out (by kernel_rfl)) (fun _ _ _ h => h) (Or.inl ⟨by rfl, ?_⟩) ?_ ?_
                        rotate_left
                        · intro w'
                          go_simp
                          with_reducible rfl
                        rotate_left
                        · simp only [Act.put, List.setIfInBounds_toArray, List.set_cons_zero, List.set_cons_succ, i64_w, i32_w]
                          rfl
                        refine pure_ (i := 1) (N := some 30) (v := ?_) (a' := ?_) #[true, true, false, false, false, false, false, false, false, false, false, false, false, false, false, false, false, false, false, false, false, false, false, false, false, false] rfl rfl (any_of HT_.out (by kernel_rfl)) (fun _ _ _ h => h) (Or.inl ⟨by rfl, ?_⟩) ?_ ?_
                        rotate_left
                        · intro w'
                          go_simp
                          with_reducible rfl
                        rotate_left
                        · simp only [Act.put, List.setIfInBounds_toArray, List.set_cons_zero, List.set_cons_succ, i64_w, i32_w]
                          rfl
                        refine pure_ (i := 4) (N := some 33) (v := ?_) (a' := ?_) #[true, true, false, false, true, false, false, false, false, false, false, false, false, false, false, false, false, false, false, false, false, false, false, false, false, false] rfl rfl (any_of HT_.out (by kernel_rfl)) (fun _ _ _ h => h) (Or.inl ⟨by rfl, ?_⟩) ?_ ?_
                        rotate_left
                        · intro w'
                          go_simp
                          with_reducible rfl
                        rotate_left
                        · simp only [Act.put, List.setIfInBounds_toArray, List.set_cons_zero, List.set_cons_succ, i64_w, i32_w]
                          rfl
                        refine pure_ (i := 8) (N := some 37) (v := ?_) (a' := ?_) #[true, true, false, false, true, false, false, false, true, false, false, false, false, false, false, false, false, false, false, false, false, false, false, false, false, false] rfl rfl (any_of HT_.out (by kernel_rfl)) (fun _ _ _ h => h) (Or.inl ⟨by rfl, ?_⟩) ?_ ?_
                        rotate_left
                        · intro w'
                          go_simp
                          with_reducible rfl
                        rotate_left
                        · simp only [Act.put, List.setIfInBounds_toArray, List.set_cons_zero, List.set_cons_succ, i64_w, i32_w]
                          rfl
                        refine pure_ (i := 11) (N := some 40) (v := ?_) (a' := ?_) #[true, true, false, false, true, false, false, false, true, false, false, true, false, false, false, false, false, false, false, false, false, false, false, false, false, false] rfl rfl (any_of HT_.out (by kernel_rfl)) (fun _ _ _ h => h) (Or.inl ⟨by rfl, ?_⟩) ?_ ?_
                        rotate_left
                        · intro w'
                          go_simp
                          with_reducible rfl
                        rotate_left
                        · simp only [Act.put, List.setIfInBounds_toArray, List.set_cons_zero, List.set_cons_succ, i64_w, i32_w]
                          rfl
                        refine pure_ (i := 12) (N := some 41) (v := ?_) (a' := ?_) #[true, true, false, false, true, false, false, false, true, false, false, true, true, false, false, false, false, false, false, false, false, false, false, false, false, false] rfl rfl (any_of HT_.out (by kernel_rfl)) (fun _ _ _ h => h) (Or.inl ⟨by rfl, ?_⟩) ?_ ?_
                        rotate_left
                        · intro w'
                          go_simp
                          with_reducible rfl
                        rotate_left
                        · simp only [Act.put, List.setIfInBounds_toArray, List.set_cons_zero, List.set_cons_succ, i64_w, i32_w]
                          rfl
                        refine pure_ (i := 15) (N := some 44) (v := ?_) (a' := ?_) #[true, true, false, false, true, false, false, false, true, false, false, true, true, false, false, true, false, false, false, false, false, false, false, false, false, false] rfl rfl (any_of HT_.out (by kernel_rfl)) (fun _ _ _ h => h) (Or.inl ⟨by rfl, ?_⟩) ?_ ?_
                        rotate_left
                        · intro w'
                          go_simp
                          with_reducible rfl
                        rotate_left
                        · simp only [Act.put, List.setIfInBounds_toArray, List.set_cons_zero, List.set_cons_succ, i64_w, i32_w]
                          rfl
                        refine pure_ (i := 19) (N := some 48) (v := ?_) (a' := ?_) #[true, true, false, false, true, false, false, false, true, false, false, true, true, false, false, true, false, false, false, true, false, false, false, false, false, false] rfl rfl (any_of HT_.out (by kernel_rfl)) (fun _ _ _ h => h) (Or.inl ⟨by rfl, ?_⟩) ?_ ?_
                        rotate_left
                        · intro w'
                          go_simp
                          with_reducible rfl
                        rotate_left
                        · simp only [Act.put, List.setIfInBounds_toArray, List.set_cons_zero, List.set_cons_succ, i64_w, i32_w]
                          rfl
                        refine take_ (i := 2) (N := some 31) (v := ?_) (a' := ?_) #[true, true, true, false, true, false, false, false, true, false, false, true, true, false, false, true, false, false, false, true, false, false, false, false, false, false] rfl rfl (take_ofW HT_.out HW_.out (by kernel_rfl)) (fun _ _ _ h => h) (Or.inl ⟨by rfl, ?_⟩) hHeld ?_ ?_
                        rotate_left
                        · rintro w' ⟨s0, s1, s2, s3, s4, s5⟩
                          go_simp
                          with_reducible rfl
                        rotate_left
                        · simp only [Act.put, List.setIfInBounds_toArray, List.set_cons_zero, List.set_cons_succ, i64_w, i32_w]
                          rfl
                        refine pure_ (i := 3) (N := some 32) (v := ?_) (a' := ?_) #[true, true, true, true, true, false, false, false, true, false, false, true, true, false, false, true, false, false, false, true, false, false, false, false, false, false] rfl rfl (any_of HT_.out (by kernel_rfl)) (fun _ _ _ h => h) (Or.inl ⟨by rfl, ?_⟩) ?_ ?_
                        rotate_left
                        · intro w'
                          go_simp
                          with_reducible rfl
                        rotate_left
                        · simp only [Act.put, List.setIfInBounds_toArray, List.set_cons_zero, List.set_cons_succ, i64_w, i32_w]
                          rfl
                        refine take_ (i := 5) (N := some 34) (v := ?_) (a' := ?_) #[true, true, true, true, true, true, false, false, true, false, false, true, true, false, false, true, false, false, false, true, false, false, false, false, false, false] rfl rfl (take_ofW HT_.out HW_.out (by kernel_rfl)) (fun _ _ _ h => h) (Or.inl ⟨by rfl, ?_⟩) hHeld ?_ ?_
                        rotate_left
                        · rintro w' ⟨s0, s1, s2, s3, s4, s5⟩
                          go_simp
                          with_reducible rfl
                        rotate_left
                        · simp only [Act.put, List.setIfInBounds_toArray, List.set_cons_zero, List.set_cons_succ, i64_w, i32_w]
                          rfl
                        refine pure_ (i := 6) (N := some 35) (v := ?_) (a' := ?_) #[true, true, true, true, true, true, true, false, true, false, false, true, true, false, false, true, false, false, false, true, false, false, false, false, false, false] rfl rfl (any_of HT_.out (by kernel_rfl)) (fun _ _ _ h => h) (Or.inl ⟨by rfl, ?_⟩) ?_ ?_
                        rotate_left
                        · intro w'
                          go_simp
                          with_reducible rfl
                        rotate_left
                        · simp only [Act.put, List.setIfInBounds_toArray, List.set_cons_zero, List.set_cons_succ, i64_w, i32_w]
                          rfl
                        refine pure_ (i := 7) (N := some 36) (v := ?_) (a' := ?_) #[true, true, true, true, true, true, true, true, true, false, false, true, true, false, false, true, false, false, false, true, false, false, false, false, false, false] rfl rfl (any_of HT_.out (by kernel_rfl)) (fun _ _ _ h => h) (Or.inl ⟨by rfl, ?_⟩) ?_ ?_
                        rotate_left
                        · intro w'
                          go_simp
                          with_reducible rfl
                        rotate_left
                        · simp only [Act.put, List.setIfInBounds_toArray, List.set_cons_zero, List.set_cons_succ, i64_w, i32_w]
                          rfl
                        refine take_ (i := 9) (N := some 38) (v := ?_) (a' := ?_) #[true, true, true, true, true, true, true, true, true, true, false, true, true, false, false, true, false, false, false, true, false, false, false, false, false, false] rfl rfl (take_ofW HT_.out HW_.out (by kernel_rfl)) (fun _ _ _ h => h) (Or.inl ⟨by rfl, ?_⟩) hHeld ?_ ?_
                        rotate_left
                        · rintro w' ⟨s0, s1, s2, s3, s4, s5⟩
                          go_simp
                          with_reducible rfl
                        rotate_left
                        · simp only [Act.put, List.setIfInBounds_toArray, List.set_cons_zero, List.set_cons_succ, i64_w, i32_w]
                          rfl
                        refine pure_ (i := 10) (N := some 39) (v := ?_) (a' := ?_) #[true, true, true, true, true, true, true, true, true, true, true, true, true, false, false, true, false, false, false, true, false, false, false, false, false, false] rfl rfl (any_of HT_.out (by kernel_rfl)) (fun _ _ _ h => h) (Or.inl ⟨by rfl, ?_⟩) ?_ ?_
                        rotate_left
                        · intro w'
                          go_simp
                          with_reducible rfl
                        rotate_left
                        · simp only [Act.put, List.setIfInBounds_toArray, List.set_cons_zero, List.set_cons_succ, i64_w, i32_w]
                          rfl
                        refine take_ (i := 13) (N := some 42) (v := ?_) (a' := ?_) #[true, true, true, true, true, true, true, true, true, true, true, true, true, true, false, true, false, false, false, true, false, false, false, false, false, false] rfl rfl (take_ofW HT_.out HW_.out (by kernel_rfl)) (fun _ _ _ h => h) (Or.inl ⟨by rfl, ?_⟩) hHeld ?_ ?_
                        rotate_left
                        · rintro w' ⟨s0, s1, s2, s3, s4, s5⟩
                          go_simp
                          with_reducible rfl
                        rotate_left
                        · simp only [Act.put, List.setIfInBounds_toArray, List.set_cons_zero, List.set_cons_succ, i64_w, i32_w]
                          rfl
                        refine pure_ (i := 14) (N := some 43) (v := ?_) (a' := ?_) #[true, true, true, true, true, true, true, true, true, true, true, true, true, true, true, true, false, false, false, true, false, false, false, false, false, false] rfl rfl (any_of HT_.out (by kernel_rfl)) (fun _ _ _ h => h) (Or.inl ⟨by rfl, ?_⟩) ?_ ?_
                        rotate_left
                        · intro w'
                          go_simp
                          with_reducible rfl
                        rotate_left
                        · simp only [Act.put, List.setIfInBounds_toArray, List.set_cons_zero, List.set_cons_succ, i64_w, i32_w]
                          rfl
                        refine take_ (i := 16) (N := some 45) (v := ?_) (a' := ?_) #[true, true, true, true, true, true, true, true, true, true, true, true, true, true, true, true, true, false, false, true, false, false, false, false, false, false] rfl rfl (take_ofW HT_.out HW_.out (by kernel_rfl)) (fun _ _ _ h => h) (Or.inl ⟨by rfl, ?_⟩) hHeld ?_ ?_
                        rotate_left
                        · rintro w' ⟨s0, s1, s2, s3, s4, s5⟩
                          go_simp
                          with_reducible rfl
                        rotate_left
                        · simp only [Act.put, List.setIfInBounds_toArray, List.set_cons_zero, List.set_cons_succ, i64_w, i32_w]
                          rfl
                        refine pure_ (i := 17) (N := some 46) (v := ?_) (a' := ?_) #[true, true, true, true, true, true, true, true, true, true, true, true, true, true, true, true, true, true, false, true, false, false, false, false, false, false] rfl rfl (any_of HT_.out (by kernel_rfl)) (fun _ _ _ h => h) (Or.inl ⟨by rfl, ?_⟩) ?_ ?_
                        rotate_left
                        · intro w'
                          go_simp
                          with_reducible rfl
                        rotate_left
                        · simp only [Act.put, List.setIfInBounds_toArray, List.set_cons_zero, List.set_cons_succ, i64_w, i32_w]
                          rfl
                        refine pure_ (i := 18) (N := some 47) (v := ?_) (a' := ?_) #[true, true, true, true, true, true, true, true, true, true, true, true, true, true, true, true, true, true, true, true, false, false, false, false, false, false] rfl rfl (any_of HT_.out (by kernel_rfl)) (fun _ _ _ h => h) (Or.inl ⟨by rfl, ?_⟩) ?_ ?_
                        rotate_left
                        · intro w'
                          go_simp
                          with_reducible rfl
                        rotate_left
                        · simp only [Act.put, List.setIfInBounds_toArray, List.set_cons_zero, List.set_cons_succ, i64_w, i32_w]
                          rfl
                        refine take_ (i := 20) (N := some 49) (v := ?_) (a' := ?_) #[true, true, true, true, true, true, true, true, true, true, true, true, true, true, true, true, true, true, true, true, true, false, false, false, false, false] rfl rfl (take_ofW HT_.out HW_.out (by kernel_rfl)) (fun _ _ _ h => h) (Or.inl ⟨by rfl, ?_⟩) hHeld ?_ ?_
                        rotate_left
                        · rintro w' ⟨s0, s1, s2, s3, s4, s5⟩
                          go_simp
                          with_reducible rfl
                        rotate_left
                        · simp only [Act.put, List.setIfInBounds_toArray, List.set_cons_zero, List.set_cons_succ, i64_w, i32_w]
                          rfl
                        refine pure_ (i := 21) (N := some 50) (v := ?_) (a' := ?_) #[true, true, true, true, true, true, true, true, true, true, true, true, true, true, true, true, true, true, true, true, true, true, false, false, false, false] rfl rfl (any_of HT_.out (by kernel_rfl)) (fun _ _ _ h => h) (Or.inl ⟨by rfl, ?_⟩) ?_ ?_
                        rotate_left
                        · intro w'
                          go_simp
                          with_reducible rfl
                        rotate_left
                        · simp only [Act.put, List.setIfInBounds_toArray, List.set_cons_zero, List.set_cons_succ, i64_w, i32_w]
                          rfl
                        refine pure_ (i := 22) (N := some 51) (v := ?_) (a' := ?_) #[true, true, true, true, true, true, true, true, true, true, true, true, true, true, true, true, true, true, true, true, true, true, true, false, false, false] rfl rfl (any_of HT_.out (by kernel_rfl)) (fun _ _ _ h => h) (Or.inl ⟨by rfl, ?_⟩) ?_ ?_
                        rotate_left
                        · intro w'
                          go_simp
                          with_reducible rfl
                        rotate_left
                        · simp only [Act.put, List.setIfInBounds_toArray, List.set_cons_zero, List.set_cons_succ, i64_w, i32_w]
                          rfl
                        refine last_ (i := 23) (N := none) #[true, true, true, true, true, true, true, true, true, true, true, true, true, true, true, true, true, true, true, true, true, true, true, true, false, false] rfl rfl (one_of HT_.out (by kernel_rfl)) (by decide) (fun K hK => ?_)
                        have hs38 : w37.cell? ⟨gb120, 4, none⟩ = some (.int .i64 ((rd_T62 y116 x25_2).f4)) := (blk_cell BK120.out 4).trans rfl
                        have hfs38 := blk_frozen BK120.out 4
                        refine skip_ (w1 := ?_) (by rfl) rfl ?_ ?_
                        rotate_left
                        · go_simp
                          rfl
                        refine hK.out _ _ ?_
                        clear hK K
                        refine pure_ (i := 24) (N := some 52) (v := ?_) (a' := ?_) #[true, true, true, true, true, true, true, true, true, true, true, true, true, true, true, true, true, true, true, true, true, true, true, true, true, false] rfl rfl (any_of HT_.out (by kernel_rfl)) (fun _ _ _ h => h) (Or.inl ⟨by rfl, ?_⟩) ?_ ?_
                        rotate_left
                        · intro w'
                          go_simp
                          with_reducible rfl
                        rotate_left
                        · simp only [Act.put, List.setIfInBounds_toArray, List.set_cons_zero, List.set_cons_succ, i64_w, i32_w]
                          rfl
                        refine last_ (i := 25) (N := none) #[true, true, true, true, true, true, true, true, true, true, true, true, true, true, true, true, true, true, true, true, true, true, true, true, true, true] rfl rfl (one_of HT_.out (by kernel_rfl)) (by decide) (fun K hK => ?_)
                        have hs39 : w37.cell? ⟨gb120, 5, none⟩ = some (.int .i64 ((rd_T62 y116 x25_2).f5)) := (blk_cell BK120.out 5).trans rfl
                        have hfs39 := blk_frozen BK120.out 5
                        refine skip_ (w1 := ?_) (by rfl) rfl ?_ ?_
                        rotate_left
                        · go_simp
                          rfl
                        refine hK.out _ _ ?_
                        clear hK K
                        refine done_ (done_of HT_.out (by kernel_rfl)) ?_
                        have hcz40_0 : w37.cell? ⟨gb120, 0, none⟩ = some (.int .i64 ((rd_T62 y116 x25_2).f0)) := (blk_cell BK120.out 0).trans rfl
                        have hcz40_1 : w37.cell? ⟨gb120, 1, none⟩ = some (.int .i64 ((rd_T62 y116 x25_2).f1)) := (blk_cell BK120.out 1).trans rfl
                        have hcz40_2 : w37.cell? ⟨gb120, 2, none⟩ = some (.int .i64 ((rd_T62 y116 x25_2).f2)) := (blk_cell BK120.out 2).trans rfl
                        have hcz40_3 : w37.cell? ⟨gb120, 3, none⟩ = some (.int .i64 ((rd_T62 y116 x25_2).f3)) := (blk_cell BK120.out 3).trans rfl
                        have hcz40_4 : w37.cell? ⟨gb120, 4, none⟩ = some (.int .i64 ((rd_T62 y116 x25_2).f4)) := (blk_cell BK120.out 4).trans rfl
                        have hcz40_5 : w37.cell? ⟨gb120, 5, none⟩ = some (.int .i64 ((rd_T62 y116 x25_2).f5)) := (blk_cell BK120.out 5).trans rfl
                        have hfz40_0 := blk_frozen BK120.out 0
                        have hfz40_1 := blk_frozen BK120.out 1
                        have hfz40_2 := blk_frozen BK120.out 2
                        have hfz40_3 := blk_frozen BK120.out 3
                        have hfz40_4 := blk_frozen BK120.out 4
                        have hfz40_5 := blk_frozen BK120.out 5
                        try go_wp2
                        go_roundg k2
                        case measure => have := HJ2.out; have := HK2.out; omega
                        case rel => exact ⟨(x5_2), (wrap64 (x25_2 + 1)), (by first | rfl | (simp; done) | (simp [*]; done)), H', ⟨by have := HJ2.out; have := HK2.out; omega⟩, ⟨by (with_reducible repeat (first | apply Kd.R_alloc | apply Kd.R_drewN | apply Kd.R_drew)); exact Kd.R_mono (Kd.R_far (p := ⟨gb120, 5, none⟩) (Kd.R_far (p := ⟨gb120, 4, none⟩) (Kd.R_mono HO_5.out (fun k_ hk => (⟨hk, hk.2⟩ : _ ∧ k_ ≠ gb120))) (fun _ hk => hk.2) (.int .i64 (wrap64 (Int.tdiv (wrap64 ((wrap64 ((wrap64 (a0 - ((rd_T62 y116 x25_2).f0))) + ((rd_T62 y116 x25_2).f2))) - 1)) ((rd_T62 y116 x25_2).f2))))) (fun _ hk => hk.2) (.int .i64 (wrap64 (Int.tdiv (wrap64 ((wrap64 ((wrap64 (a1 - ((rd_T62 y116 x25_2).f1))) + ((rd_T62 y116 x25_2).f3))) - 1)) ((rd_T62 y116 x25_2).f3))))) (fun _ hk => hk.1.1)⟩, ⟨by (with_reducible repeat (first | apply Kd.R_alloc | apply Kd.R_drewN | apply Kd.R_drew)); exact Kd.R_mono (Kd.R_far (p := ⟨gb120, 5, none⟩) (Kd.R_far (p := ⟨gb120, 4, none⟩) (Kd.R_mono HO_23.out (fun k_ hk => (⟨hk, hk.2⟩ : _ ∧ k_ ≠ gb120))) (fun _ hk => hk.2) (.int .i64 (wrap64 (Int.tdiv (wrap64 ((wrap64 ((wrap64 (a0 - ((rd_T62 y116 x25_2).f0))) + ((rd_T62 y116 x25_2).f2))) - 1)) ((rd_T62 y116 x25_2).f2))))) (fun _ hk => hk.2) (.int .i64 (wrap64 (Int.tdiv (wrap64 ((wrap64 ((wrap64 (a1 - ((rd_T62 y116 x25_2).f1))) + ((rd_T62 y116 x25_2).f3))) - 1)) ((rd_T62 y116 x25_2).f3))))) (fun _ hk => hk.1.1)⟩, ⟨by repeat (first | (with_reducible first | exact HB.out | apply below_alloc | apply pw_below_drewN | apply below_drew1 | refine below_set ?_ GE120.out) | exact HB.out)⟩⟩
                · rw [if_neg c13] at H
                  exact absurd H (by simp)
              · rw [if_neg c12] at H
                exact absurd H (by simp)
            · rw [if_neg c11] at H
              have c11b0 : decide (x25_2 < (y116.length : Int)) = false := decide_eq_false c11
              clear c11
              obtain rfl := Option.some.inj H
              go_wp2
              go_ret
              exact ⟨_, by first | rfl | (simp [errW_none, errW_some] <;> rfl) | (simp [*, errW_none, errW_some] <;> rfl), by (with_reducible repeat (first | apply Kd.R_alloc | apply Kd.R_drewN | apply Kd.R_drew)); exact Kd.R_mono HO_5.out (fun _ hk => trivial), by repeat (first | (with_reducible first | exact HB.out | apply below_alloc | apply pw_below_drewN | apply below_drew1) | exact HB.out)⟩

end Go.Proofs.Ytpjkcdgamlllgaa.PFnPasses
