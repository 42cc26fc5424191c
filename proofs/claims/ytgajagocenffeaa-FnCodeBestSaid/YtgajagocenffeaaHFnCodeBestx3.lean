/- What the functions that the law comes to compute, as plain functions, and that the machine's calls come to just that: written by a program for this claim, and turned where Lean did not take it. No condition. -/
import Derived.StillTailTactics
import Derived.Test.YtgajagocenffeaaThDel
import Derived.Test.YtgajagocenffeaaThNode
import Derived.Lib.SliceRun
import Derived.Test.YtgajagocenffeaaHFnCodeBestx0
import Derived.Test.YtgajagocenffeaaHFnCodeBestx1
import Derived.Test.YtgajagocenffeaaHFnCodeBestx2
namespace Go.Proofs.Ytgajagocenffeaa.PFnCodeBest
open Go.RowKit Go.Proofs.YtgajagocenffeaaW.PrintWords Go.Proofs.YtgajagocenffeaaW.PrintLast Go.Proofs.YtgajagocenffeaaW.PrintMore
attribute [local go_sem] max2_int min2_int max_two min_two max_three min_three max_four min_four   -- for this text's walks alone
set_option linter.unusedVariables false
set_option linter.unusedSimpArgs false

/-! ### spec_CodeFit: function 10 -/
def spec_CodeFit.f (k : Nat) (l0 : List Int) (a1 : Int) : Option (List Int) := (spec_l3Room.f k l0 a1).bind fun t125 => (if t125 = true then ((spec_l3Fit.f k l0 a1).bind fun t126 => (some t126)) else (some (([] : List Int))))
theorem spec_CodeFit.mono : ∀ a0 a1 k, LeO (spec_CodeFit.f k a0 a1) (spec_CodeFit.f (k + 1) a0 a1) := by
  intro a0 a1 k
  unfold spec_CodeFit.f
  repeat' first
      | (with_reducible exact spec_l3Fit.mono _ _ _)
      | (with_reducible exact spec_l3Room.mono _ _ _)
      | (with_reducible exact LeO.refl _)
      | (with_reducible exact LeO.none _)
      | (with_reducible refine LeO.ite ?_ ?_)
      | (with_reducible refine LeO.bind ?_ (fun _ => ?_))
      | exact spec_l3Fit.mono _ _ _
      | exact spec_l3Room.mono _ _ _
      | exact LeO.none _
      | refine LeO.ite ?_ ?_
      | refine LeO.bind ?_ (fun _ => ?_)
set_option maxHeartbeats 8000000 in
set_option maxRecDepth 100000 in
theorem spec_CodeFit.calls (k : Nat) (A0 : Option Addr) (c0 : Nat) (l0 : List Int) (a1 : Int) (r : List Int) (w : World) (hr0 : Kd.C (Kd.int .i64) w A0 l0.length l0) (hc0 : l0.length ≤ c0) (h : spec_CodeFit.f k l0 a1 = some r) :
    Calls Try.prog 10 #[.slice A0 l0.length c0, .int .i64 a1] w fun e w' => ∃ v0_ : Value, e = .returned (v0_) ∧ Kd.R (Kd.int .i64) 3 w' w.heap.size (fun _ => True) v0_ r ∧ Below w.heap.size w w' := by
  have HR0 := Aside0.mk hr0
  have HC0 := Aside0.mk hc0
  clear hr0 hc0
  have HB := Aside0.mk (Below.refl w.heap.size w)
  have H : ((spec_l3Room.f k l0 a1).bind fun t125 => (if t125 = true then ((spec_l3Fit.f k l0 a1).bind fun t126 => (some t126)) else (some (([] : List Int))))) = some r := h
  clear h
  replace H := Option.bind_eq_some_iff.mp H
  obtain ⟨t125, A30, H⟩ := H
  replace H : (if t125 = true then ((spec_l3Fit.f k l0 a1).bind fun t126 => (some t126)) else (some (([] : List Int)))) = some r := H
  have A3 := Aside0.mk A30
  clear A30
  by_cases c4 : t125 = true
  · subst c4
    have H1 : ((spec_l3Fit.f k l0 a1).bind fun t126 => (some t126)) = some r := by first | (rw [if_pos rfl] at H; exact H) | rfl
    clear H
    have H := H1
    clear H1
    replace H := Option.bind_eq_some_iff.mp H
    obtain ⟨t126, A50, H⟩ := H
    replace H : (some t126) = some r := H
    have A5 := Aside0.mk A50
    clear A50
    obtain rfl := Option.some.inj H
    go_enter Try.func10, Try.ntmps10
    go_wp2_with (first | ((with_reducible refine gate_callee (f := 37) rfl ?_); refine goesL_ (some 7) rfl rfl Try.func37 (by kernel_rfl) rfl #[.slice A0 l0.length c0, .int .i64 a1] rfl (by (try simp only [List.map_toArray, List.map_cons, List.map_nil]); first | done | rfl | (simp only [List.length_drop, List.length_take]; rfl)) ?_; (with_reducible refine (spec_l3Room.calls k _ _ l0 a1 true _ ?side1 ?side2 A3.out).mono ?_); (case side1 => repeat (first | exact HR0.out | (with_reducible refine Kd.C_alloc ?_ _) | (with_reducible refine Kd.C_drewN ?_ _) | (with_reducible refine Kd.C_drew ?_))); (case side2 => exact HC0.out); rintro e w' ⟨rfl, ⟨nd, rfl⟩⟩; refine ⟨_, rfl, ?_⟩) | ((with_reducible refine gate_callee (f := 38) rfl ?_); refine goesL_ (some 12) rfl rfl Try.func38 (by kernel_rfl) rfl #[.slice A0 l0.length c0, .int .i64 a1] rfl (by (try simp only [List.map_toArray, List.map_cons, List.map_nil]); first | done | rfl | (simp only [List.length_drop, List.length_take]; rfl)) ?_; (with_reducible refine (spec_l3Fit.calls k _ _ l0 a1 t126 _ ?side1 ?side2 A5.out).mono ?_); (case side1 => repeat (first | exact HR0.out | (with_reducible refine Kd.C_alloc ?_ _) | (with_reducible refine Kd.C_drewN ?_ _) | (with_reducible refine Kd.C_drew ?_))); (case side2 => exact HC0.out); rintro e w6 ⟨v127, rfl, ho0, hb⟩; refine ⟨_, rfl, ?_⟩; have n0_ := Aside0.mk (Kd.R_lower ho0 (below_size (by repeat (first | (with_reducible first | exact HB.out | apply below_alloc | apply pw_below_drewN | apply below_drew1) | exact HB.out)))); have n1_ := Aside0.mk (below_step (by repeat (first | (with_reducible first | exact HB.out | apply below_alloc | apply pw_below_drewN | apply below_drew1) | exact HB.out)) hb); clear HB; have HO128 := n0_; have HB := n1_; clear n0_ n1_; (try clear hb); (try clear hb2); (try clear hk); (try clear hi); (try clear ho0)))
    go_ret
    exact ⟨_, by first | rfl | (simp [errW_none, errW_some] <;> rfl) | (simp [*, errW_none, errW_some] <;> rfl), by (with_reducible repeat (first | apply Kd.R_alloc | apply Kd.R_drewN | apply Kd.R_drew)); exact HO128.out, by repeat (first | (with_reducible first | exact HB.out | apply below_alloc | apply pw_below_drewN | apply below_drew1) | exact HB.out)⟩
  · replace c4 := Bool.eq_false_iff.mpr c4
    subst c4
    have H1 : (some (([] : List Int))) = some r := by first | (rw [if_neg (show ¬ (false = true) by decide)] at H; exact H) | rfl
    clear H
    have H := H1
    clear H1
    obtain ⟨y129, hy129⟩ : ∃ y_ : List Int, y_ = (([] : List Int)) := ⟨_, rfl⟩
    replace H : (some y129) = some r := by first | (rw [hy129]; with_reducible exact H) | (have H2_ := (Option.bind_some _ _).symm.trans H; rw [hy129]; with_reducible exact H2_) | (have H2_ := (Option.bind_some _ _).symm.trans H; with_reducible exact H2_) | with_reducible exact H | (rw [hy129]; exact H) | exact H
    have Ny129 := Aside0.mk hy129
    clear hy129
    obtain rfl := Option.some.inj H
    go_enter Try.func10, Try.ntmps10
    go_wp2_with (first | ((with_reducible refine gate_callee (f := 37) rfl ?_); refine goesL_ (some 7) rfl rfl Try.func37 (by kernel_rfl) rfl #[.slice A0 l0.length c0, .int .i64 a1] rfl (by (try simp only [List.map_toArray, List.map_cons, List.map_nil]); first | done | rfl | (simp only [List.length_drop, List.length_take]; rfl)) ?_; (with_reducible refine (spec_l3Room.calls k _ _ l0 a1 false _ ?side1 ?side2 A3.out).mono ?_); (case side1 => repeat (first | exact HR0.out | (with_reducible refine Kd.C_alloc ?_ _) | (with_reducible refine Kd.C_drewN ?_ _) | (with_reducible refine Kd.C_drew ?_))); (case side2 => exact HC0.out); rintro e w' ⟨rfl, ⟨nd, rfl⟩⟩; refine ⟨_, rfl, ?_⟩) | ((with_reducible refine gate_dst (N := 9) rfl ?_); refine Kd.R_lit (Kd.int .i64) _ 3 ?hg (N := 9) ?hd (xs := ([] : List Int)) (inner := []) (ok := fun _ => True) (okp := fun _ => True) ?hr ?hp (fun _ hk => hk) trivial (Below.refl _ _) (Nat.le_refl _) (by simp) ?_; (case hd => rfl); (case hg => rfl); (case hr => first | (go_simp; done) | (go_simp; rfl)); (case hp => exact (Reps.none _ _)); intro v130 w7 ho8 hb hg_ hnew_; clear hg_ hnew_; (first | rw [← Ny129.out] at ho8 | (simp only [Int.reduceToNat] at ho8; rw [← Ny129.out] at ho8)); have n0_ := Aside0.mk (Kd.R_lower ho8 (below_size (by repeat (first | (with_reducible first | exact HB.out | apply below_alloc | apply pw_below_drewN | apply below_drew1) | exact HB.out)))); have n1_ := Aside0.mk (below_step (by repeat (first | (with_reducible first | exact HB.out | apply below_alloc | apply pw_below_drewN | apply below_drew1) | exact HB.out)) hb); clear HB; have HO131 := n0_; have HB := n1_; clear n0_ n1_; clear hb ho8))
    go_ret
    exact ⟨_, by first | rfl | (simp [errW_none, errW_some] <;> rfl) | (simp [*, errW_none, errW_some] <;> rfl), by (with_reducible repeat (first | apply Kd.R_alloc | apply Kd.R_drewN | apply Kd.R_drew)); exact HO131.out, by repeat (first | (with_reducible first | exact HB.out | apply below_alloc | apply pw_below_drewN | apply below_drew1) | exact HB.out)⟩

/-! ### impl_in: function 39 -/
def impl_in.f (a0 : Int) (a1 : Int) (a2 : Int) : Option (Bool) := if a0 ≥ a1 then (some (decide (a0 ≤ a2))) else (some false)
set_option maxHeartbeats 8000000 in
set_option maxRecDepth 100000 in
theorem impl_in.calls (a0 : Int) (a1 : Int) (a2 : Int) (r : Bool) (w : World) (h : impl_in.f a0 a1 a2 = some r) :
    Calls Try.prog 39 #[.int .i64 a0, .int .i64 a1, .int .i64 a2] w fun e w' => e = .returned (.bool r) ∧ Drawn0 w w' := by
  have H : (if a0 ≥ a1 then (some (decide (a0 ≤ a2))) else (some false)) = some r := h
  clear h
  by_cases c4 : a0 ≥ a1
  · rw [if_pos c4] at H
    have c4b0 : decide (a1 ≤ a0) = true := decide_eq_true c4
    clear c4
    obtain rfl := Option.some.inj H
    go_enter Try.func39, Try.ntmps39
    go_wp2
    go_ret
    exact ⟨by first | rfl | (simp; done) | (simp [*]; done), by repeat (first | exact Drawn0.refl _ | apply Drawn0.step)⟩
  · rw [if_neg c4] at H
    have c4b0 : decide (a1 ≤ a0) = false := decide_eq_false c4
    clear c4
    obtain rfl := Option.some.inj H
    go_enter Try.func39, Try.ntmps39
    go_wp2
    go_ret
    exact ⟨by first | rfl | (simp; done) | (simp [*]; done), by repeat (first | exact Drawn0.refl _ | apply Drawn0.step)⟩

/-! ### slices_Clone_int_int: function 40 -/
def slices_Clone_int_int.f (l0 : List Int) : Option (List Int) := (some (([] : List Int) : List Int)).bind fun y132 => (if y132.length + l0.length < 17592186044416 then (some (y132 ++ l0)) else (none))
set_option maxHeartbeats 8000000 in
set_option maxRecDepth 100000 in
theorem slices_Clone_int_int.calls (A0 : Option Addr) (c0 : Nat) (l0 : List Int) (r : List Int) (w : World) (hr0 : Kd.C (Kd.int .i64) w A0 l0.length l0) (hc0 : l0.length ≤ c0) (h : slices_Clone_int_int.f l0 = some r) :
    Calls Try.prog 40 #[.slice A0 l0.length c0] w fun e w' => ∃ v0_ : Value, e = .returned (v0_) ∧ Kd.R (Kd.int .i64) 3 w' w.heap.size (fun _ => True) v0_ r ∧ Below w.heap.size w w' := by
  have HR0 := Aside0.mk hr0
  have HC0 := Aside0.mk hc0
  clear hr0 hc0
  have HB := Aside0.mk (Below.refl w.heap.size w)
  have H : ((some (([] : List Int) : List Int)).bind fun y132 => (if y132.length + l0.length < 17592186044416 then (some (y132 ++ l0)) else (none))) = some r := h
  clear h
  obtain ⟨y132, hy132⟩ : ∃ y_ : List Int, y_ = (([] : List Int)) := ⟨_, rfl⟩
  replace H : (if y132.length + l0.length < 17592186044416 then (some (y132 ++ l0)) else (none)) = some r := by first | (rw [hy132]; with_reducible exact H) | (have H2_ := (Option.bind_some _ _).symm.trans H; rw [hy132]; with_reducible exact H2_) | (have H2_ := (Option.bind_some _ _).symm.trans H; with_reducible exact H2_) | with_reducible exact H | (rw [hy132]; exact H) | exact H
  have Ny132 := Aside0.mk hy132
  clear hy132
  by_cases c2 : y132.length + l0.length < 17592186044416
  · rw [if_pos c2] at H
    have LMc2 := Aside0.mk c2
    clear c2
    obtain ⟨y135, hy135⟩ : ∃ y_ : List Int, y_ = (y132 ++ l0) := ⟨_, rfl⟩
    replace H : (some y135) = some r := by first | (rw [hy135]; with_reducible exact H) | (have H2_ := (Option.bind_some _ _).symm.trans H; rw [hy135]; with_reducible exact H2_) | (have H2_ := (Option.bind_some _ _).symm.trans H; with_reducible exact H2_) | with_reducible exact H | (rw [hy135]; exact H) | exact H
    have Ny135 := Aside0.mk hy135
    clear hy135
    obtain rfl := Option.some.inj H
    have hnil_ := fun (w : World) => Go.Lib.run_eql_slice_nil (P := Try.prog) w 22 3 A0 l0.length c0 0 0 Try.underlying22
    cases A0 with
    | none =>
      have hz_ : l0 = [] := by
        refine List.eq_nil_of_length_eq_zero (Nat.eq_zero_of_not_pos fun h0_ => ?_)
        obtain ⟨ad_, e_, _⟩ := HR0.out.2.2 h0_
        cases e_
      have hy_ : y135 = [] := by rw [Ny135.out, Ny132.out, hz_]; rfl
      have HY_ := Aside0.mk hy_
      clear hy_ hz_
      go_enter Try.func40, Try.ntmps40
      go_wp2
      go_ret
      exact ⟨_, rfl, by rw [HY_.out]; exact Kd.R_nil _ _ _ _ _, HB.out⟩
    | some adn_ =>
    go_enter Try.func40, Try.ntmps40
    go_wp2_with (first | ((with_reducible refine gate_dst (N := 5) rfl ?_); refine Kd.R_lit (Kd.int .i64) _ 3 ?hg (N := 5) ?hd (xs := ([] : List Int)) (inner := []) (ok := fun _ => True) (okp := fun _ => True) ?hr ?hp (fun _ hk => hk) trivial (Below.refl _ _) (Nat.le_refl _) (by simp) ?_; (case hd => rfl); (case hg => rfl); (case hr => first | (go_simp; done) | (go_simp; rfl)); (case hp => exact (Reps.none _ _)); intro v133 w3 ho4 hb hg_ hnew_; clear hg_ hnew_; (first | rw [← Ny132.out] at ho4 | (simp only [Int.reduceToNat] at ho4; rw [← Ny132.out] at ho4)); have n0_ := Aside0.mk (Kd.R_lower ho4 (below_size (by repeat (first | (with_reducible first | exact HB.out | apply below_alloc | apply pw_below_drewN | apply below_drew1) | exact HB.out)))); have n1_ := Aside0.mk (below_step (by repeat (first | (with_reducible first | exact HB.out | apply below_alloc | apply pw_below_drewN | apply below_drew1) | exact HB.out)) hb); clear HB; have HO134 := n0_; have HB := n1_; clear n0_ n1_; clear hb ho4) | ((with_reducible refine gate_builtin (b := .append) (xs := #[.tmp 5, .tmp 6]) rfl ?_); at_builtin; refine Kd.R_append_rows (Kd.int .i64) (w0 := w) w.heap.size rfl (.tmp 5) (.tmp 6) 22 3 (.int .i64 0) 8 rfl Try.underlying22 info3 rfl (by decide) (by omega) v133 y132 l0 _ _ _ (fun _ => True) (fun _ => False) rfl rfl ?aO ?aR (fun _ _ h => h) (fun _ h => h.elim) ?aF ?aB ?aS ?aL ?_; (case aR => repeat (first | exact (Kd.C_below HR0.out HB.out) | (with_reducible refine Kd.C_alloc ?_ _) | (with_reducible refine Kd.C_drewN ?_ _) | (with_reducible refine Kd.C_drew ?_))); (case aB => exact (by repeat (first | (with_reducible first | exact HB.out | apply below_alloc | apply pw_below_drewN | apply below_drew1) | exact HB.out))); (case aF => exact (fun _ _ => trivial)); (case aO => exact (by (with_reducible repeat (first | apply Kd.R_alloc | apply Kd.R_drewN | apply Kd.R_drew)); exact HO134.out)); (case aS => exact (below_size (by repeat (first | (with_reducible first | exact HB.out | apply below_alloc | apply pw_below_drewN | apply below_drew1) | exact HB.out)))); (case aL => have := LMc2.out; omega); intro v136 w5 ho hb hg hat; rw [← Ny135.out] at ho; have n0_ := Aside0.mk (hb); have n1_ := Aside0.mk (ho); clear HB; clear HO134; have HB := n0_; have HO137 := n1_; clear n0_ n1_; clear ho hb hg hat))
    go_ret
    exact ⟨_, by first | rfl | (simp [errW_none, errW_some] <;> rfl) | (simp [*, errW_none, errW_some] <;> rfl), by (with_reducible repeat (first | apply Kd.R_alloc | apply Kd.R_drewN | apply Kd.R_drew)); exact HO137.out, by repeat (first | (with_reducible first | exact HB.out | apply below_alloc | apply pw_below_drewN | apply below_drew1) | exact HB.out)⟩
  · rw [if_neg c2] at H
    exact absurd H (by simp)

/-! ### impl_treeLengths: function 41 -/
section
open Go.Proofs.Ytgajagocenffeaa.Th
theorem zero69 (w : World) : (zeroValue 69).run Try.prog w = .ok (.agg #[.int .i64 0, .slice none 0 0]) w := by kernel_rfl
theorem info69q : (Try.prog.info? 69).map (fun i => (i.zero, i.size, i.bytes)) = some (some (.agg #[.int .i64 0, .slice none 0 0]), 2, 32) := by kernel_rfl
set_option maxHeartbeats 8000000 in
set_option maxRecDepth 100000 in
theorem del_calls (g c : Nat) (l : List GN) (k : Nat) (base go : Nat) (W : World) (hn : NL W base go 3 69 (.slice (some ⟨g, 0, none⟩) l.length c) l) (hk : k < l.length) (hl : l.length ≤ 1000000) :
    Calls Try.prog 74 #[.slice (some ⟨g, 0, none⟩) l.length c, .int .i64 k, .int .i64 ((k : Int) + 1)] W fun e w' => e = .returned (.slice (some ⟨g, 0, none⟩) (l.length - 1) c) ∧ Aside0 (NL w' base go 3 69 (.slice (some ⟨g, 0, none⟩) (l.length - 1) c) (l.eraseIdx k)) ∧ Aside0 (W.grownBy w' (some g)) := by
  obtain ⟨_, cur, _, _, hnc, hcm, _, _⟩ := row_open hn.row
  have hcm2 : c ≤ 9223372036854775807 := by simpa [maxLen] using hcm
  obtain ⟨n1, hn1⟩ : ∃ n1, l.length = n1 + 1 := ⟨l.length - 1, by omega⟩
  have HL1 := Aside0.mk hn1
  rw [hn1] at hn hk hl hnc ⊢
  have hrow0 := hn.row
  rw [hn1] at hrow0
  have HROW := Aside0.mk hrow0
  have HN := Aside0.mk hn
  clear hn hcm hn1 hrow0
  obtain ⟨i0, hi, hz0, hz1, hz2⟩ := info_parts info69q
  have e1 : ((k : Int) == (k : Int) + 1) = false := beq_eq_false_iff_ne.mpr (by omega)
  have p0 : (0 : Int) ≤ (k : Int) := by omega
  have p1 : (k : Int) ≤ (k : Int) + 1 := by omega
  have p1b : (0 : Int) ≤ (k : Int) + 1 := by omega
  have p2 : (k : Int) + 1 ≤ (n1 : Int) + 1 := by omega
  have p3 : (n1 : Int) + 1 ≤ (c : Int) := by omega
  have p6 : (0 : Int) ≤ (n1 : Int) := by omega
  have p7 : (n1 : Int) ≤ (n1 : Int) + 1 := by omega
  have p8 : n1 + 1 ≤ c := by omega
  have p9 : n1 ≤ c := by omega
  have p10 : ¬ c = n1 := by omega
  have p4 : k ≤ c := by omega
  have p5 : k + 1 ≤ c := by omega
  obtain ⟨A, hA, hA2⟩ : ∃ A : Option Addr, (if c = k + 1 then some (⟨g, 0, none⟩ : Addr) else some ⟨g, (k + 1) * 2, none⟩) = A ∧ A = (if c = k + 1 then some ⟨g, 0, none⟩ else (some (⟨g, 0, none⟩ : Addr)).map (·.add ((k + 1) * 2))) := ⟨_, rfl, by rw [Option.map_some, add_plain]⟩
  have HA := Aside0.mk hA2
  clear hA2
  go_enter Try.func74, Try.ntmps74
  go_wp2_with fail
  go_region_law (refine step_del rfl (.tmp 22) (.tmp 25) 67 69 i0 rfl Try.underlying67 hi hz1 (W := W.drew) HROW.out (flat_one l) k hk (n1 - k) (c - (k + 1)) (by simp [Act.eval, Act.put]) (by simp [Act.eval, Act.put]) HA.out (by omega) ?_; intro w1 hrow hgr)
  all_goals simp only [Nat.add_sub_cancel] at hrow ⊢
  all_goals
    go_wp2_with (refine wpList_clear rfl (.tmp 31) 67 69 rfl (.agg #[.int .i64 0, .slice none 0 0]) (.int .i64 0) (.slice none 0 0) Try.underlying67 zero69 rfl rfl rfl hrow p8 (n1 * 2) (c - n1) (by rfl) rfl ?_; intro w2 hrow2 hgr2)
    go_ret
    have hg2 : W.grownBy w2 (some g) := World.grownBy.trans ⟨hgr.os, hgr.tape, hgr.output, hgr.size, hgr.block⟩ hgr2
    refine ⟨rfl, ⟨?_⟩, ⟨hg2⟩⟩
    have h9 := NL.deleted HN.out HL1.out.symm hk (by decide) (W := W) (w1 := w2) (k := k) (by simpa using hrow2) hg2
    simpa using h9
theorem nd_at {l : List GN} {k : Nat} {x : GN} (h : l[k]? = some x) : (l.map GN.n).getD k ⟨0, [], 0⟩ = x.n := by rw [List.getD_eq_getElem?_getD, List.getElem?_map, h]; rfl
set_option maxHeartbeats 8000000 in
set_option maxRecDepth 100000 in
theorem least_calls (g c : Nat) (l : List GN) (base go : Nat) (W : World) (hn : NL W base go 3 69 (.slice (some ⟨g, 0, none⟩) l.length c) l) (hp : 0 < l.length) (hl : l.length ≤ 1000000) :
    Calls Try.prog 63 #[.slice (some ⟨g, 0, none⟩) l.length c] W fun e w' => ∃ x, Aside0 (l[leastN (l.map GN.n)]? = some x) ∧ e = .returned (.tuple #[.agg #[.int .i64 x.n.w, .slice (some ⟨x.g, 0, none⟩) x.n.syms.length x.c], .slice (some ⟨g, 0, none⟩) (l.length - 1) c]) ∧ Aside0 (NL w' base go 3 69 (.slice (some ⟨g, 0, none⟩) (l.length - 1) c) (l.eraseIdx (leastN (l.map GN.n)))) ∧ Aside0 (W.grownBy w' (some g)) := by
  have HN := Aside0.mk hn
  have hgl := own_lt hn.row g rfl
  clear hn
  go_enter Try.func63, Try.ntmps63
  go_wp2
  go_loopw [4, 10] (fun v4 v10 wr => ∃ (a k : Nat), v4 = .int .i64 a ∧ v10 = .int .i64 k ∧ k ≤ l.length ∧ a < l.length ∧ Aside0 (a ≤ k ∧ LF (l.map GN.n) k a) ∧ Aside0 (wr.heap[W.heap.size]? = some (.cells #[.int .i64 0, .slice none 0 0] 69 (0, 0))) ∧ Aside0 (Below W.heap.size W wr)) (fun _ v10 _ => l.length - (intOf v10).toNat)
  case atStart => exact ⟨0, 0, rfl, rfl, Nat.zero_le _, hp, ⟨Nat.le_refl _, fun j hj => by omega, fun j hj => by omega⟩, ⟨blk_new _ _⟩, ⟨(Below.refl _ _).alloc (Nat.le_refl _) _⟩⟩
  case round =>
    obtain ⟨a, k, rfl, rfl, hk, ha, HLF, HR, HB⟩ := hrel
    have hwr := HB.out.size
    by_cases hlt : k < l.length
    · have c1 : decide ((k : Int) < (l.length : Int)) = true := decide_eq_true (by omega)
      obtain ⟨x, hx⟩ : ∃ x, l[k]? = some x := ⟨_, List.getElem?_eq_getElem hlt⟩
      obtain ⟨y, hy⟩ : ∃ y, l[a]? = some y := ⟨_, List.getElem?_eq_getElem ha⟩
      obtain ⟨cx0, cx1⟩ := HN.out.cells hx
      obtain ⟨cy0, cy1⟩ := HN.out.cells hy
      rw [← HB.out.cell hgl] at cx0 cx1 cy0
      clear cy1
      have p1 : (0 : Int) ≤ (k : Int) := by omega
      have q1 : (k : Int) < (l.length : Int) := by omega
      have p2 : (0 : Int) ≤ (a : Int) := by omega
      have q2 : (a : Int) < (l.length : Int) := by omega
      have cy0b : (wr.alloc (Obj.cells #[.int .i64 x.n.w, .slice (some ⟨x.g, 0, none⟩) x.n.syms.length x.c] 69)).cell? ⟨g, a * 2, none⟩ = some (.int .i64 y.n.w) := pw_cell_below (below_alloc (Below.refl _ _) _) cy0
      have HX := Aside0.mk hx
      have HY := Aside0.mk hy
      clear hx hy
      by_cases hw : x.n.w < y.n.w
      · have c2 : decide (x.n.w < y.n.w) = true := decide_eq_true hw
        have HW := Aside0.mk hw
        clear hw
        go_wp2
        go_quiet (fail)
        go_wp2
        go_roundw
        case rel => exact ⟨k, k + 1, rfl, by go_num, by omega, hlt, ⟨by omega, HLF.out.2.take_ (by rw [nd_at HX.out, nd_at HY.out]; exact HW.out)⟩, ⟨blk_drewN (blk_alloc HR.out _) _⟩, ⟨pw_below_drewN (HB.out.alloc hwr _) _⟩⟩
        case measure => simp [intOf]; omega
      · have c2 : decide (x.n.w < y.n.w) = false := decide_eq_false hw
        have HW := Aside0.mk hw
        clear hw
        go_wp2
        go_quiet (fail)
        go_wp2
        go_roundw
        case rel => exact ⟨a, k + 1, rfl, by go_num, by omega, ha, ⟨by have := HLF.out.1; omega, HLF.out.2.keep (by rw [nd_at HX.out, nd_at HY.out]; have := HW.out; omega)⟩, ⟨blk_drewN (blk_alloc HR.out _) _⟩, ⟨pw_below_drewN (HB.out.alloc hwr _) _⟩⟩
        case measure => simp [intOf]; omega
    · obtain rfl : k = l.length := by omega
      have HA := Aside0.mk (show leastN (l.map GN.n) = a from by
        refine LF.end_ ?_ (by rw [List.length_map]; exact ha)
        rw [List.length_map]; exact HLF.out.2)
      obtain ⟨x, hx⟩ : ∃ x, l[a]? = some x := ⟨_, List.getElem?_eq_getElem ha⟩
      obtain ⟨cx0, cx1⟩ := HN.out.cells hx
      rw [← HB.out.cell hgl] at cx0 cx1
      have HX := Aside0.mk hx
      have HN2 := Aside0.mk (HN.out.below HB.out (Nat.le_refl _))
      have p2 : (0 : Int) ≤ (a : Int) := by omega
      have q2 : (a : Int) < (l.length : Int) := by omega
      have hr1 := blk_lt HR.out
      clear hx hlt HLF
      go_wp2
      have hgW : g ≠ W.heap.size := by omega
      have hrr : wr.heap.size ≠ W.heap.size := by omega
      have hb7 := blk_new wr (Obj.cells #[.int .i64 x.n.w, .slice (some ⟨x.g, 0, none⟩) x.n.syms.length x.c] 69)
      have hb2 := blk_alloc HR.out (Obj.cells #[.int .i64 x.n.w, .slice (some ⟨x.g, 0, none⟩) x.n.syms.length x.c] 69)
      have hbq := HB.out.alloc hwr (Obj.cells #[.int .i64 x.n.w, .slice (some ⟨x.g, 0, none⟩) x.n.syms.length x.c] 69)
      have hsz : (wr.alloc (Obj.cells #[.int .i64 x.n.w, .slice (some ⟨x.g, 0, none⟩) x.n.syms.length x.c] 69)).heap.size = wr.heap.size + 1 := by simp
      generalize wr.alloc (Obj.cells #[.int .i64 x.n.w, .slice (some ⟨x.g, 0, none⟩) x.n.syms.length x.c] 69) = wq at hb7 hb2 hbq hsz ⊢
      obtain ⟨g7, hg7⟩ : ∃ g7, wr.heap.size = g7 := ⟨_, rfl⟩
      rw [hg7] at hb7 hrr hsz hr1 ⊢
      have d0 := (blk_cell hb7 0).trans rfl
      have d1 := (blk_cell hb7 1).trans rfl
      have f0 := (blk_cell hb2 0).trans rfl
      have f1 := (blk_cell hb2 1).trans rfl
      have ff := fun j => blk_frozen hb2 j
      have HBQ := Aside0.mk hbq
      have HB2 := Aside0.mk hb2
      clear hb7 hb2 hbq HB HR HN2 cx0 cx1
      clear hg7
      have hw1 : IntKind.i64.wrap ((a : Int) + 1) = (a : Int) + 1 := by rw [i64_w', w64 (by omega)]
      go_region_held3 (fun w' => w'.cell? ⟨g7, 0, none⟩ = some (.int .i64 x.n.w) ∧ w'.cell? ⟨g7, 1, none⟩ = some (.slice (some ⟨x.g, 0, none⟩) x.n.syms.length x.c)) (first | (go_split_ands; refine ⟨?_, ?_⟩ <;> exact far_set (far_set (by assumption) hrr) hrr) | (go_split_ands; refine ⟨?_, ?_⟩ <;> (rw [hgd.cell_far _ (by simp; omega) (by simp; omega)]; assumption)) | go_keep)
        ((go_at_call 74; refine (del_calls g c l a base go _ (HN.out.below (B := W.heap.size) (by repeat (first | exact HBQ.out | apply Below.drew | refine Below.setCell ?_ (Nat.le_refl _) _)) (Nat.le_refl _)) ha hl).mono ?_; rintro e w5 ⟨rfl, hnd, hgd0⟩; have hgd := hgd0.out; have hb5 := Aside0.mk (blk_grown (by first | exact HB2.out | exact blk_drew HB2.out) hgd (fun e5 => hgW (Option.some.inj e5).symm)); have f50 := (blk_cell hb5.out 0).trans rfl; have f51 := (blk_cell hb5.out 1).trans rfl; have ff5 := fun j => blk_frozen hb5.out j))
      go_wp2_with fail
      have hfin := blk_set (blk_set hb5.out 0 (.int .i64 x.n.w)) 1 (.slice (some ⟨x.g, 0, none⟩) x.n.syms.length x.c)
      refine bodyPost_ret (v := .tuple #[.agg #[.int .i64 x.n.w, .slice (some ⟨x.g, 0, none⟩) x.n.syms.length x.c], .slice (some ⟨g, 0, none⟩) (l.length - 1) c]) ?_ rfl ?_
      · exact results_ct (fn := Try.f63) (p := 2) (u := 3) (ty := 69) rfl _ _ W.heap.size _ _ _ _ (by rfl) hfin Try.underlying69 rfl (by kernel_rfl)
      · have hgr : W.grownBy w5 (some g) := World.grownBy.trans (⟨HBQ.out.os, HBQ.out.tape, HBQ.out.output, HBQ.out.size, fun k hk _ => HBQ.out.block k hk⟩ : W.grownBy wq.drew (some g)) hgd
        have hset : ∀ (w6 : World) (j : Nat) (u : Value), W.grownBy w6 (some g) → W.grownBy (w6.setCell ⟨W.heap.size, j, none⟩ u) (some g) := fun w6 j u h6 => ⟨h6.os, h6.tape, h6.output, by simpa [World.setCell] using h6.size, fun k hk hne => (Below.heap_setCell w6 ⟨W.heap.size, j, none⟩ u k (by simp; omega)).trans (h6.block k hk hne)⟩
        refine ⟨x, ⟨by rw [HA.out]; exact HX.out⟩, rfl, ⟨?_⟩, ⟨hset _ _ _ (hset _ _ _ hgr)⟩⟩
        rw [HA.out]
        have hg1 : ∀ k, (Value.slice (some ⟨g, 0, none⟩) (l.length - 1) c).ownBlock = some k → k ≠ W.heap.size := fun k hk => by
          have : g = k := by simpa [Value.ownBlock] using hk
          omega
        have hg2 : ∀ y ∈ l.eraseIdx a, y.g ≠ W.heap.size := fun y hy => by
          have := (HN.out.ok y (List.mem_of_mem_eraseIdx hy)).lt
          omega
        exact (hnd.out.far1 _ _ hg1 hg2).far1 _ _ hg1 hg2
set_option maxHeartbeats 8000000 in
set_option maxRecDepth 100000 in
theorem grow_calls (n : Int) (h0 : 0 < n) (h1 : n ≤ 1000) (W : World) :
    Calls Try.prog 75 #[.slice none 0 0, .int .i64 n] W fun e w' => ∃ g c, e = .returned (.slice (some ⟨g, 0, none⟩) 0 c) ∧ Aside0 (Kd.R (Kd.int .i64) 3 w' W.heap.size (fun _ => True) (.slice (some ⟨g, 0, none⟩) 0 c) []) ∧ Aside0 (W.heap.size ≤ g) ∧ Aside0 (Below W.heap.size W w') := by
  have c1 : decide (n < 0) = false := decide_eq_false (by omega)
  have c2 : decide (n > 0) = true := decide_eq_true h0
  go_enter Try.func75, Try.ntmps75
  go_wp2_with (at_builtin; refine Kd.R_append_zeros (Kd.int .i64) (w0 := W) W.heap.size rfl (.tmp 20) (.tmp 21) 22 3 3 (.int .i64 0) 8 (by rfl) Try.underlying22 Try.underlying3 info3 rfl (by decide) (by decide) (.slice none 0 0) [] 0 n (fun _ => True) (by rfl) (by rfl) rfl (fun _ _ => trivial) (Kd.R_nil _ _ _ _ _) (by omega) (Below.refl _ _) (Nat.le_refl _) (by simp; omega) ?_; intro v1 w1 hR hB hg hat; rw [List.nil_append] at hR; obtain ⟨gn, cn, rfl, hgn, hgn2, _⟩ := Kd.R_form hR (by rw [List.length_replicate]; omega); have HR := Aside0.mk (Kd.R_take (m := 0) (d := Kd.int .i64) hR (by omega)); have HB := Aside0.mk hB; have HG := Aside0.mk hgn; clear hR hB hg hat hgn hgn2)
  go_ret
  exact ⟨gn, cn, rfl, ⟨by have := HR.out; rwa [List.take_zero] at this⟩, HG, HB⟩
/-- Where the two loops over two rows stand: how many numbers have been counted. -/
def Cat0 (na nb : Nat) (v11 v3 : Value) : Prop := (v11 = .int .i64 0 ∧ v3 = .int .i64 0) ∨ (v11 = .int .i64 1 ∧ v3 = .int .i64 (na : Int)) ∨ (v11 = .int .i64 2 ∧ v3 = .int .i64 ((na : Int) + (nb : Int)))
def Cat1 (W0 : World) (xa xb : GN) (v27 v6 : Value) (w : World) : Prop := Below W0.heap.size W0 w ∧ ∃ g c, W0.heap.size ≤ g ∧ ((v27 = .int .i64 0 ∧ v6 = .slice (some ⟨g, 0, none⟩) 0 c ∧ w.ownsRow W0.heap.size 3 1 (.slice (some ⟨g, 0, none⟩) 0 c) 0 []) ∨
  (v27 = .int .i64 1 ∧ v6 = .slice (some ⟨g, 0, none⟩) xa.n.syms.length c ∧ w.ownsRow W0.heap.size 3 1 (.slice (some ⟨g, 0, none⟩) xa.n.syms.length c) xa.n.syms.length (nums .i64 xa.n.syms)) ∨
  (v27 = .int .i64 2 ∧ v6 = .slice (some ⟨g, 0, none⟩) (xa.n.syms ++ xb.n.syms).length c ∧ w.ownsRow W0.heap.size 3 1 (.slice (some ⟨g, 0, none⟩) (xa.n.syms ++ xb.n.syms).length c) (xa.n.syms ++ xb.n.syms).length (nums .i64 (xa.n.syms ++ xb.n.syms))))
set_option maxHeartbeats 8000000 in
set_option maxRecDepth 100000 in
theorem concat_calls (B : Nat) (xa xb : GN) (base go : Nat) (W : World) (hB : W.heap[B]? = some (.cells #[.slice (some ⟨xa.g, 0, none⟩) xa.n.syms.length xa.c, .slice (some ⟨xb.g, 0, none⟩) xb.n.syms.length xb.c] 22 (0, 0))) (ha : xa.Ok W base go 3) (hb : xb.Ok W base go 3) (hn : 0 < xa.n.syms.length) (hl : (xa.n.syms ++ xb.n.syms).length ≤ 300) :
    Calls Try.prog 64 #[.slice (some ⟨B, 0, none⟩) 2 2] W fun e w' => ∃ g c, e = .returned (.slice (some ⟨g, 0, none⟩) (xa.n.syms ++ xb.n.syms).length c) ∧ Aside0 (w'.ownsRow W.heap.size 3 1 (.slice (some ⟨g, 0, none⟩) (xa.n.syms ++ xb.n.syms).length c) (xa.n.syms ++ xb.n.syms).length (nums .i64 (xa.n.syms ++ xb.n.syms))) ∧ Aside0 (W.heap.size ≤ g) ∧ Aside0 (Below W.heap.size W w') := by
  have HA := Aside0.mk ha
  have HBO := Aside0.mk hb
  have hBl := blk_lt hB
  have d0 : W.cell? ⟨B, 0, none⟩ = some (.slice (some ⟨xa.g, 0, none⟩) xa.n.syms.length xa.c) := (blk_cell hB 0).trans rfl
  have d1 : W.cell? ⟨B, 1, none⟩ = some (.slice (some ⟨xb.g, 0, none⟩) xb.n.syms.length xb.c) := (blk_cell hB 1).trans rfl
  have hl2 := hl
  rw [List.length_append] at hl2
  obtain ⟨na, hna⟩ : ∃ na, xa.n.syms.length = na := ⟨_, rfl⟩
  obtain ⟨nb, hnb⟩ : ∃ nb, xb.n.syms.length = nb := ⟨_, rfl⟩
  have HNA := Aside0.mk hna
  have HNB := Aside0.mk hnb
  rw [hna] at d0 hn hl2
  rw [hnb] at d1 hl2
  clear ha hb hB hna hnb hl
  go_enter Try.func64, Try.ntmps64
  go_wp2
  go_loopw [3, 11] (fun v3 v11 wr => Cat0 na nb v11 v3 ∧ wr = W) (fun _ v11 _ => 2 - (intOf v11).toNat)
  case atStart => exact ⟨.inl ⟨rfl, rfl⟩, rfl⟩
  case round =>
    obtain ⟨hc, rfl⟩ := hrel
    rcases hc with ⟨rfl, rfl⟩ | ⟨rfl, rfl⟩ | ⟨rfl, rfl⟩
    · go_wp2
      go_roundw
      case rel => exact ⟨.inr (.inl ⟨rfl, rfl⟩), trivial⟩
      case measure => simp [intOf]
    · go_wp2
      go_roundw
      case rel => exact ⟨.inr (.inr ⟨rfl, rfl⟩), trivial⟩
      case measure => simp [intOf]
    · obtain ⟨W0, rfl⟩ : ∃ W0 : World, W0 = wr := ⟨_, rfl⟩
      go_wp2_with (go_at_call 75; refine (grow_calls ((na : Int) + (nb : Int)) (by omega) (by omega) _).mono ?_; rintro e w' ⟨g, c, rfl, hR, hG, hBe⟩)
      have HC := Aside0.mk (show Cat1 W0 xa xb (.int .i64 0) (.slice (some ⟨g, 0, none⟩) 0 c) w' from ⟨hBe.out, g, c, hG.out, .inl ⟨rfl, rfl, Kd.own_of_R hR.out⟩⟩)
      clear hR hG hBe
      go_loopw [6, 27] (fun v6 v27 w5 => Cat1 W0 xa xb v27 v6 w5) (fun _ v27 _ => 2 - (intOf v27).toNat)
      case atStart => exact HC.out
      case round =>
        clear HC
        obtain ⟨hbe, g, c, hg, hc⟩ := hrel
        have HBE := Aside0.mk hbe
        have hsz := hbe.size
        rw [← hbe.cell (p := ⟨B, 0, none⟩) hBl] at d0
        rw [← hbe.cell (p := ⟨B, 1, none⟩) hBl] at d1
        have HAW := Aside0.mk (HA.out.move (hbe.block _ HA.out.lt))
        have HBW := Aside0.mk (HBO.out.move (hbe.block _ HBO.out.lt))
        have HG := Aside0.mk hg
        clear hbe hg
        rcases hc with ⟨rfl, rfl, ho⟩ | ⟨rfl, rfl, ho⟩ | ⟨rfl, rfl, ho⟩
        · have HO := Aside0.mk ho
          clear ho
          go_wp2_with (at_builtin; go_loud (refine print_append_row (w0 := W0) W0.heap.size rfl (.tmp 31) (.tmp 32) 22 3 .i64 8 rfl Try.underlying22 info3 (by decide) (.slice (some ⟨g, 0, none⟩) 0 c) [] xa.n.syms (some ⟨xa.g, 0, none⟩) na xa.c (by rfl) (by rfl) HO.out (by have := HAW.out.readsInt; rwa [HNA.out] at this) HBE.out hsz (by simp; omega) ?_; intro v1 w1 hown hBb hgr hat))
          rw [List.nil_append] at hown
          obtain ⟨g1, c1, rfl, hg1, _⟩ := hown.form (by rw [HNA.out]; exact hn)
          have HO1 := Aside0.mk hown
          have HB1 := Aside0.mk hBb
          have HG1 := Aside0.mk hg1
          clear hown hBb hgr hat hg1
          go_wp2
          go_roundw
          case rel => exact ⟨HB1.out, g1, c1, HG1.out, .inr (.inl ⟨rfl, rfl, HO1.out⟩)⟩
          case measure => simp [intOf]
        · have HO := Aside0.mk ho
          clear ho
          go_wp2_with (at_builtin; go_loud (refine print_append_row (w0 := W0) W0.heap.size rfl (.tmp 31) (.tmp 32) 22 3 .i64 8 rfl Try.underlying22 info3 (by decide) (.slice (some ⟨g, 0, none⟩) xa.n.syms.length c) xa.n.syms xb.n.syms (some ⟨xb.g, 0, none⟩) nb xb.c (by rfl) (by rfl) HO.out (by have := HBW.out.readsInt; rwa [HNB.out] at this) HBE.out hsz (by rw [HNA.out]; omega) ?_; intro v1 w1 hown hBb hgr hat))
          obtain ⟨g1, c1, rfl, hg1, _⟩ := hown.form (by rw [List.length_append, HNA.out]; omega)
          have HO1 := Aside0.mk hown
          have HB1 := Aside0.mk hBb
          have HG1 := Aside0.mk hg1
          clear hown hBb hgr hat hg1
          go_wp2
          go_roundw
          case rel => exact ⟨HB1.out, g1, c1, HG1.out, .inr (.inr ⟨rfl, rfl, HO1.out⟩)⟩
          case measure => simp [intOf]
        · have HO := Aside0.mk ho
          clear ho
          go_wp2
          go_ret
          exact ⟨g, c, rfl, HO, HG, HBE⟩
def impl_treeLengths.f (l0 : List Int) : Option (List Int) := if l0.length ≤ 300 ∧ ∀ x ∈ l0, x ≤ 4294967296 then some (treeM l0) else none
set_option maxHeartbeats 8000000 in
set_option maxRecDepth 100000 in
theorem impl_treeLengths.calls (A0 : Option Addr) (c0 : Nat) (l0 : List Int) (r : List Int) (w : World) (hr0 : Kd.C (Kd.int .i64) w A0 l0.length l0) (hc0 : l0.length ≤ c0) (h : impl_treeLengths.f l0 = some r) :
    Calls Try.prog 41 #[.slice A0 l0.length c0] w fun e w' => ∃ v0_ : Value, e = .returned (v0_) ∧ Kd.R (Kd.int .i64) 3 w' w.heap.size (fun _ => True) v0_ r ∧ Below w.heap.size w w' := by
  have HC0 := Aside0.mk hc0
  clear hc0
  obtain ⟨hlen, hval⟩ : l0.length ≤ 300 ∧ ∀ x ∈ l0, x ≤ 4294967296 := by
    unfold impl_treeLengths.f at h
    split at h
    · assumption
    · cases h
  have HT : Aside0 (treeM l0 = r) := ⟨by unfold impl_treeLengths.f at h; rw [if_pos ⟨hlen, hval⟩] at h; exact Option.some.inj h⟩
  have HVAL := Aside0.mk hval
  clear h hval
  have HLEN := Aside0.mk hlen
  have hl0 : (0 : Int) ≤ (l0.length : Int) := by omega
  have hl1 : (l0.length : Int) ≤ 300 := by omega
  have hmk := print_make (P := Try.prog) 22 3 .i64 8 Try.underlying22 info3 (by decide) l0.length (by omega)
  have HR0 := Aside0.mk hr0
  clear hr0 hlen
  go_enter Try.func41, Try.ntmps41
  go_wp2
  have HM0 := Aside0.mk (own_made (w) w.heap.size 3 .i64 l0.length (Nat.le_refl _) (by omega))
  go_loopw [4, 17] (fun v4 v5 wr => ∃ (l : List GN) (k : Nat) (A : Option Addr) (c : Nat), v4 = .slice A l.length c ∧ v5 = .int .i64 k ∧ k ≤ l0.length ∧ Aside0 (NL wr w.heap.size w.heap.size 3 69 (.slice A l.length c) l) ∧ Aside0 (l.map GN.n = leavesN (l0.take k) 0) ∧ Aside0 (wr.heap[w.heap.size]? = some (.cells (madeCells #[.int .i64 0] l0.length) 3 (0, 0))) ∧ Aside0 (Below w.heap.size w wr)) (fun _ v5 _ => l0.length - (intOf v5).toNat)
  case atStart =>
    exact ⟨[], 0, none, 0, rfl, rfl, by omega, ⟨NL.nil _ _ _ _ _⟩, ⟨rfl⟩, ⟨blk_new w _⟩, ⟨(Below.refl _ _).alloc (Nat.le_refl _) _⟩⟩
  case round =>
    obtain ⟨l, k, A, c, rfl, rfl, hk, HN, HL, HG, HB⟩ := hrel
    have HLE := Aside0.mk (show l.length ≤ 300 from by
      have h1 := congrArg List.length HL.out
      have h2 := leavesN_length (l0.take k) 0
      have h3 := HLEN.out
      rw [List.length_map] at h1
      rw [List.length_take] at h2
      omega)
    by_cases hlt : k < l0.length
    · have c1 : decide ((k : Int) < (l0.length : Int)) = true := decide_eq_true (by omega)
      have p1 : 0 ≤ (k : Int) := by omega
      have q1 : (k : Int) < (l0.length : Int) := by omega
      obtain ⟨ad, e1, hx⟩ := Kd.at_int HR0.out (k : Int) p1 q1
      cases e1
      rw [Int.toNat_natCast] at hx
      replace hx := (HB.out.cell (World.block_lt_of_cell? w _ hx)).trans hx
      have hst : l0.take (k + 1) = l0.take k ++ [rd l0 k] := by
        rw [List.take_succ_eq_append_getElem hlt]; simp [rd, List.getD_eq_getElem?_getD, List.getElem?_eq_getElem hlt]
      have HST := Aside0.mk hst
      clear hst
      have HMEM := Aside0.mk (HVAL.out (rd l0 k) (by simp [rd, List.getD_eq_getElem?_getD, List.getElem?_eq_getElem hlt]))
      by_cases hpos : 0 < rd l0 k
      · have c2 : decide (rd l0 k > 0) = true := decide_eq_true hpos
        have HPOS := Aside0.mk hpos
        clear hpos
        go_wp2_with (at_builtin; go_loud (refine print_append_cells (w0 := w) w.heap.size rfl (.tmp 24) (.tmp 29) 67 69 (.agg #[.int .i64 0, .slice none 0 0]) 2 32 rfl Try.underlying67 info69q rfl (by decide) (by decide) (.slice A l.length c) l.length (flat l) [.int .i64 (rd l0 k), .slice (some ⟨wr.heap.size, 0, none⟩) 1 1] (by rfl) (by simp [Act.eval]) rfl (by simp [Value.oneCell']) (HN.out.alloc _).row ?_ ?_ ?_ ?_))
        · exact HB.out.alloc HB.out.size _
        · have := HB.out.size; simp; omega
        · have := HLE.out; omega
        intro v1 w1 hown hB hg hat
        obtain ⟨A1, c1, hv1⟩ := own_slice hown
        have hgo : w.heap.size < wr.heap.size := blk_lt HG.out
        have hx1 := ok_new wr w.heap.size w.heap.size 3 ⟨rd l0 k, [(k : Int)], 0⟩ #[.int .i64 k] (Nat.le_of_lt hgo) hgo (by simp) (fun j s hs => by cases j with | zero => simpa using hs | succ j => simp at hs)
        have HN1 := Aside0.mk ((HN.out.alloc (Obj.cells #[.int .i64 k] 3)).append (by decide) hx1 hown hg (by simpa using hat) (by simp; omega))
        have HG1 := Aside0.mk (blk_grown (blk_alloc HG.out (Obj.cells #[.int .i64 k] 3)) hg (fun e => (HN.out.ne _ e.symm) rfl))
        have HB1 := Aside0.mk hB
        clear hown hB hg hat hx1 hgo
        subst hv1
        go_wp2
        go_roundw
        case rel =>
          exact ⟨l ++ [⟨⟨rd l0 k, [(k : Int)], 0⟩, wr.heap.size, 1⟩], k + 1, A1, c1, by rw [List.length_append]; rfl, by go_num, by omega, ⟨by rw [List.length_append]; exact HN1.out⟩, ⟨by rw [List.map_append, HL.out, HST.out, leavesN_append]; simp [leavesN, if_pos HPOS.out]; omega⟩, HG1, HB1⟩
        case measure => simp [intOf]; omega
      · have c2 : decide (rd l0 k > 0) = false := decide_eq_false (by omega)
        have HPOS := Aside0.mk hpos
        clear hpos
        go_wp2
        go_roundw
        case rel => exact ⟨l, k + 1, A, c, rfl, by go_num, by omega, HN, ⟨by rw [HL.out, HST.out, leavesN_append]; simp [leavesN, if_neg HPOS.out]⟩, HG, HB⟩
        case measure => simp [intOf]; omega
    · obtain rfl : k = l0.length := by omega
      have HL2 := Aside0.mk (show l.map GN.n = leavesN l0 0 from by rw [HL.out, List.take_length])
      clear HL hlt
      have hgo : w.heap.size < wr.heap.size := blk_lt HG.out
      have ho1 : wr.ownsRow w.heap.size 3 1 (.slice (some ⟨w.heap.size, 0, none⟩) l0.length l0.length) l0.length (nums .i64 (List.replicate l0.length 0)) := own_move HM0.out (fun k hk => by
        have : w.heap.size = k := by simpa [Value.ownBlock] using hk
        subst this
        rw [HG.out, blk_new])
      have ho2 : ∀ k, (Value.slice (some ⟨w.heap.size, 0, none⟩) l0.length l0.length).ownBlock = some k → k = w.heap.size := fun k hk => by
        have : w.heap.size = k := by simpa [Value.ownBlock] using hk
        exact this.symm
      have HO := Aside0.mk (Kd.R_of_own (enc := Value.int .i64) (h1 := fun _ => rfl) (ok := fun k => k = w.heap.size) (xs := List.replicate l0.length 0) (by rw [List.length_replicate]; exact ho1) ho2)
      clear ho2
      clear ho1
      go_upto_if 34 with (fail)
      go_cut [] (fun wx => ∃ (o : List Int) (m : Nat), Aside0 (NL wx w.heap.size w.heap.size 3 69 (.slice A l.length c) l) ∧ Aside0 (Kd.R (Kd.int .i64) 3 wx w.heap.size (fun k => k = w.heap.size) (.slice (some ⟨w.heap.size, 0, none⟩) l0.length l0.length) o) ∧ Aside0 (Go.Proofs.Ytgajagocenffeaa.Th.runT m (l.map GN.n) o = r ∧ l.length ≤ m + 1 ∧ o.length = l0.length ∧ m ≤ 300 ∧ ∀ x ∈ o, 0 ≤ x ∧ x ≤ 1) ∧ Aside0 (Below w.heap.size w wx))
      case first =>
        by_cases h1 : l.length = 1
        · have c2 : ((l.length : Int) == 1) = true := by simp [h1]
          obtain ⟨x, rfl⟩ := List.length_eq_one_iff.1 h1
          clear h1
          obtain ⟨gl, cap, hv, hbl, _⟩ := HN.out.form (by simp)
          injection hv with hA _ hc
          subst hA hc
          have hxn : x.n ∈ leavesN l0 0 := by rw [← HL2.out]; simp
          obtain ⟨j, hj, hxj, _⟩ := (mem_leavesN l0 0).1 hxn
          have hs : x.n.syms = [(j : Int)] := by rw [hxj]; simp
          have hcl := (HN.out.cells (i := 0) rfl).2
          rw [hs] at hcl
          have hok := HN.out.ok x (by simp)
          have hcs := hok.cell (j := 0) (by rw [hs]; simp)
          rw [hs] at hcs
          obtain ⟨hco, hfo⟩ := Kd.R_celln 0 HO.out (j : Int) (by omega) (by omega)
          have hpu := Kd.R_putn HO.out (j : Int) 1
          rw [Int.toNat_natCast] at hco hfo hpu
          have HPU := Aside0.mk hpu
          have p1 : (0 : Int) ≤ (j : Int) := by omega
          have q1 : (j : Int) < (l0.length : Int) := by omega
          have HS := Aside0.mk hs
          have HBL := Aside0.mk hbl
          clear hok hpu hxn hxj hs hj hbl
          simp only [List.length_singleton, List.getD_cons_zero] at hcl hcs
          go_wp2
          go_meet
          have hrep : ∀ x ∈ (List.replicate l0.length (0 : Int)).set j 1, 0 ≤ x ∧ x ≤ 1 := fun y hy => by
            rcases List.mem_or_eq_of_mem_set hy with hy | rfl
            · rw [List.mem_replicate] at hy; omega
            · omega
          have htr : (List.replicate l0.length (0 : Int)).set j 1 = r := by
            rw [← HT.out, treeM, ← HL2.out, if_pos (by simp)]
            simp [HS.out]
          exact ⟨_, 0, ⟨HN.out.set _ _⟩, ⟨HPU.out⟩, ⟨htr, by simp, by simp, by omega, hrep⟩, ⟨HB.out.setCell (Nat.le_refl _) _⟩⟩
        · have c2 : ((l.length : Int) == 1) = false := by simp; omega
          have H1 := Aside0.mk h1
          clear h1
          go_wp2
          go_meet
          refine ⟨_, (leavesN l0 0).length, HN, HO, ⟨?_, ?_, by simp, by have := leavesN_length l0 0; have := HLEN.out; omega, fun x hx => by rw [List.mem_replicate] at hx; omega⟩, HB⟩
          · rw [← HT.out, treeM, ← HL2.out, if_neg (by rw [List.length_map]; exact H1.out)]
          · rw [← HL2.out, List.length_map]; omega
      case rest =>
        obtain ⟨o, m, HN1, HO1, HP, HB1⟩ := hcut
        have HI1 := Aside0.mk (show LInv l0.length (l.map GN.n) from by rw [HL2.out]; exact leavesN_inv l0 HLEN.out HVAL.out)
        have hwc : w.heap.size < wc.heap.size := by
          obtain ⟨cells, hc⟩ := Kd.R_typed HO1.out _ rfl
          exact blk_lt hc
        clear HN HO HG HB HL2 HM0 hgo
        go_wp2
        go_loopg [4] m (fun mk v4 wr => ∃ (l : List GN) (A : Option Addr) (c : Nat) (o : List Int), v4 = .slice A l.length c ∧ Aside0 (NL wr w.heap.size w.heap.size 3 69 (.slice A l.length c) l) ∧ Aside0 (Kd.R (Kd.int .i64) 3 wr w.heap.size (fun k => k = w.heap.size) (.slice (some ⟨w.heap.size, 0, none⟩) l0.length l0.length) o) ∧ Aside0 (Go.Proofs.Ytgajagocenffeaa.Th.runT mk (l.map GN.n) o = r ∧ l.length ≤ mk + 1 ∧ o.length = l0.length ∧ mk ≤ 300 ∧ ∀ x ∈ o, 0 ≤ x ∧ x ≤ 1 + 300 * (300 - mk)) ∧ Aside0 (LInv l0.length (l.map GN.n)) ∧ Aside0 (Below w.heap.size w wr))
        case atStart => exact ⟨l, A, c, o, rfl, HN1, HO1, ⟨HP.out.1, HP.out.2.1, HP.out.2.2.1, HP.out.2.2.2.1, fun x hx => by have := HP.out.2.2.2.2 x hx; have := HP.out.2.2.2.1; omega⟩, HI1, HB1⟩
        case round =>
          clear HN1 HO1 HP HI1 HB1 hwc
          obtain ⟨l, A, c, o, rfl, HN, HO, HP, HI, HB⟩ := hrel
          by_cases h1 : 1 < l.length
          · have c1 : decide ((l.length : Int) > 1) = true := decide_eq_true (by omega)
            obtain ⟨gl, cap, hv, hbl, hgl, hcap, hne, _⟩ := HN.out.form (by omega)
            injection hv with hA _ hc
            subst hA hc
            have hlm : l.length ≤ 1000000 := by have h2 := HP.out.2.1; have h4 := HP.out.2.2.2.1; omega
            have HL1 := Aside0.mk h1
            go_upto_region 13 with (fail)
            have hsz2 : ((wr.alloc (Obj.cells #[.int .i64 0, .slice none 0 0] 69)).alloc (Obj.cells #[.int .i64 0, .slice none 0 0] 69)).heap.size = wr.heap.size + 2 := by simp
            have hb7 := at1 wr (Obj.cells #[.int .i64 0, .slice none 0 0] 69) (Obj.cells #[.int .i64 0, .slice none 0 0] 69)
            have hb8 := at2 wr (Obj.cells #[.int .i64 0, .slice none 0 0] 69) (Obj.cells #[.int .i64 0, .slice none 0 0] 69)
            have hn2 := (HN.out.alloc (Obj.cells #[.int .i64 0, .slice none 0 0] 69)).alloc (Obj.cells #[.int .i64 0, .slice none 0 0] 69)
            have hbw : Below wr.heap.size wr ((wr.alloc (Obj.cells #[.int .i64 0, .slice none 0 0] 69)).alloc (Obj.cells #[.int .i64 0, .slice none 0 0] 69)) := ((Below.refl _ _).alloc (Nat.le_refl _) _).alloc (by simp) _
            generalize (wr.alloc (Obj.cells #[.int .i64 0, .slice none 0 0] 69)).alloc (Obj.cells #[.int .i64 0, .slice none 0 0] 69) = w2 at hsz2 hb7 hb8 hn2 hbw ⊢
            have HN2 := Aside0.mk hn2
            have HW2 := Aside0.mk hbw
            have HB7 := Aside0.mk hb7
            have HB8 := Aside0.mk hb8
            clear hn2 hbw hb7 hb8
            go_upto_region 14 with (go_at_call 63; refine (least_calls gl c l w.heap.size w.heap.size _ HN2.out (by omega) hlm).mono ?_; rintro e w3 ⟨xa, HXA, rfl, hn3, hg3⟩; have hb73 := Aside0.mk (blk_grown HB7.out hg3.out (fun e5 => by injection e5 with e5; omega)); have c70 := (blk_cell hb73.out 0).trans rfl; have c71 := (blk_cell hb73.out 1).trans rfl; have f70 := blk_frozen hb73.out 0; have f71 := blk_frozen hb73.out 1)
            have hgo2 : w.heap.size < wr.heap.size := by
              obtain ⟨cells, hc⟩ := Kd.R_typed HO.out w.heap.size rfl
              exact blk_lt hc
            have hb74 := blk_set (blk_set hb73.out 0 (.int .i64 xa.n.w)) 1 (.slice (some ⟨xa.g, 0, none⟩) xa.n.syms.length xa.c)
            have hb84 : ((w3.setCell ⟨wr.heap.size, 0, none⟩ (.int .i64 xa.n.w)).setCell ⟨wr.heap.size, 1, none⟩ (.slice (some ⟨xa.g, 0, none⟩) xa.n.syms.length xa.c)).heap[wr.heap.size + 1]? = some (.cells #[.int .i64 0, .slice none 0 0] 69 (0, 0)) := blk_far (blk_far (blk_grown HB8.out hg3.out (fun e5 => by injection e5 with e5; omega)) (by simp) _) (by simp) _
            have hlen1 : (l.eraseIdx (leastN (l.map GN.n))).length = l.length - 1 := by
              have h1 := (List.getElem?_eq_some_iff.1 HXA.out).1
              rw [List.length_eraseIdx, if_pos h1]
            have hn4 : NL ((w3.setCell ⟨wr.heap.size, 0, none⟩ (.int .i64 xa.n.w)).setCell ⟨wr.heap.size, 1, none⟩ (.slice (some ⟨xa.g, 0, none⟩) xa.n.syms.length xa.c)) w.heap.size w.heap.size 3 69 (.slice (some ⟨gl, 0, none⟩) (l.length - 1) c) (l.eraseIdx (leastN (l.map GN.n))) := by
              have q1 : ∀ k, (Value.slice (some ⟨gl, 0, none⟩) (l.length - 1) c).ownBlock = some k → k ≠ wr.heap.size := fun k hk => by
                have : gl = k := by simpa [Value.ownBlock] using hk
                omega
              have q2 : ∀ y ∈ l.eraseIdx (leastN (l.map GN.n)), y.g ≠ wr.heap.size := fun y hy => by
                have := (HN.out.ok y (List.mem_of_mem_eraseIdx hy)).lt
                omega
              exact (hn3.out.far1 _ _ q1 q2).far1 _ _ q1 q2
            have hk4 : ∀ k, k < wr.heap.size → k ≠ gl → ((w3.setCell ⟨wr.heap.size, 0, none⟩ (.int .i64 xa.n.w)).setCell ⟨wr.heap.size, 1, none⟩ (.slice (some ⟨xa.g, 0, none⟩) xa.n.syms.length xa.c)).heap[k]? = wr.heap[k]? := fun k hk hne => by
              rw [Below.heap_setCell _ _ _ k (by simp; omega), Below.heap_setCell _ _ _ k (by simp; omega), hg3.out.block k (by omega) (fun e5 => by injection e5 with e5; omega)]
              exact HW2.out.block k hk
            have hb4 : Below w.heap.size w ((w3.setCell ⟨wr.heap.size, 0, none⟩ (.int .i64 xa.n.w)).setCell ⟨wr.heap.size, 1, none⟩ (.slice (some ⟨xa.g, 0, none⟩) xa.n.syms.length xa.c)) := (((HB.out.trans (HW2.out.mono (by omega))).grown hg3.out (by omega) (fun k hk => by injection hk with hk; omega)).setCell (by simp <;> omega) _).setCell (by simp <;> omega) _
            have hs4 : wr.heap.size + 2 ≤ ((w3.setCell ⟨wr.heap.size, 0, none⟩ (.int .i64 xa.n.w)).setCell ⟨wr.heap.size, 1, none⟩ (.slice (some ⟨xa.g, 0, none⟩) xa.n.syms.length xa.c)).heap.size := by
              have h3 := hg3.out.size
              simp [World.setCell]
              omega
            generalize (w3.setCell ⟨wr.heap.size, 0, none⟩ (.int .i64 xa.n.w)).setCell ⟨wr.heap.size, 1, none⟩ (.slice (some ⟨xa.g, 0, none⟩) xa.n.syms.length xa.c) = w4 at hb74 hb84 hn4 hk4 hb4 hs4 ⊢
            have hc2 := least_calls gl c (l.eraseIdx (leastN (l.map GN.n))) w.heap.size w.heap.size w4 (by rw [hlen1]; exact hn4) (by rw [hlen1]; omega) (by rw [hlen1]; omega)
            rw [hlen1, map_erase] at hc2
            have HC2 := Aside0.mk hc2
            have HB74 := Aside0.mk (show w4.heap[wr.heap.size]? = some (.cells #[.int .i64 xa.n.w, .slice (some ⟨xa.g, 0, none⟩) xa.n.syms.length xa.c] 69 (0, 0)) from hb74)
            have HB84 := Aside0.mk hb84
            have HK4 := Aside0.mk hk4
            have HB4 := Aside0.mk hb4
            clear hc2 hb74 hb84 hn4 hk4 hb4 hb73 c70 c71 f70 f71 HB7 HB8 HW2 HN2 hn3 hg3 hsz2
            go_upto_region 15 with (go_at_call 63; refine (HC2.out).mono ?_; rintro e w5 ⟨xb, HXB, rfl, hn5, hg5⟩; have hb85 := Aside0.mk (blk_grown HB84.out hg5.out (fun e5 => by injection e5 with e5; omega)); have c80 := (blk_cell hb85.out 0).trans rfl; have c81 := (blk_cell hb85.out 1).trans rfl; have f80 := blk_frozen hb85.out 0; have f81 := blk_frozen hb85.out 1)
            have hb86 := blk_set (blk_set hb85.out 0 (.int .i64 xb.n.w)) 1 (.slice (some ⟨xb.g, 0, none⟩) xb.n.syms.length xb.c)
            have hb76 : ((w5.setCell ⟨wr.heap.size + 1, 0, none⟩ (.int .i64 xb.n.w)).setCell ⟨wr.heap.size + 1, 1, none⟩ (.slice (some ⟨xb.g, 0, none⟩) xb.n.syms.length xb.c)).heap[wr.heap.size]? = some (.cells #[.int .i64 xa.n.w, .slice (some ⟨xa.g, 0, none⟩) xa.n.syms.length xa.c] 69 (0, 0)) := blk_far (blk_far (blk_grown HB74.out hg5.out (fun e5 => by injection e5 with e5; omega)) (by simp) _) (by simp) _
            have hn6 : NL ((w5.setCell ⟨wr.heap.size + 1, 0, none⟩ (.int .i64 xb.n.w)).setCell ⟨wr.heap.size + 1, 1, none⟩ (.slice (some ⟨xb.g, 0, none⟩) xb.n.syms.length xb.c)) w.heap.size w.heap.size 3 69 (.slice (some ⟨gl, 0, none⟩) (l.length - 1 - 1) c) ((l.eraseIdx (leastN (l.map GN.n))).eraseIdx (leastN ((l.map GN.n).eraseIdx (leastN (l.map GN.n))))) := by
              have q1 : ∀ k, (Value.slice (some ⟨gl, 0, none⟩) (l.length - 1 - 1) c).ownBlock = some k → k ≠ wr.heap.size + 1 := fun k hk => by
                have : gl = k := by simpa [Value.ownBlock] using hk
                omega
              have q2 : ∀ y ∈ (l.eraseIdx (leastN (l.map GN.n))).eraseIdx (leastN ((l.map GN.n).eraseIdx (leastN (l.map GN.n)))), y.g ≠ wr.heap.size + 1 := fun y hy => by
                have := (HN.out.ok y (List.mem_of_mem_eraseIdx (List.mem_of_mem_eraseIdx hy))).lt
                omega
              exact (hn5.out.far1 _ _ q1 q2).far1 _ _ q1 q2
            have hk6 : ∀ k, k < wr.heap.size → k ≠ gl → ((w5.setCell ⟨wr.heap.size + 1, 0, none⟩ (.int .i64 xb.n.w)).setCell ⟨wr.heap.size + 1, 1, none⟩ (.slice (some ⟨xb.g, 0, none⟩) xb.n.syms.length xb.c)).heap[k]? = wr.heap[k]? := fun k hk hne => by
              rw [Below.heap_setCell _ _ _ k (by simp <;> omega), Below.heap_setCell _ _ _ k (by simp <;> omega), hg5.out.block k (by omega) (fun e5 => by injection e5 with e5; omega)]
              exact HK4.out k hk hne
            have hb6 : Below w.heap.size w ((w5.setCell ⟨wr.heap.size + 1, 0, none⟩ (.int .i64 xb.n.w)).setCell ⟨wr.heap.size + 1, 1, none⟩ (.slice (some ⟨xb.g, 0, none⟩) xb.n.syms.length xb.c)) := ((HB4.out.grown hg5.out (by omega) (fun k hk => by injection hk with hk; omega)).setCell (by simp <;> omega) _).setCell (by simp <;> omega) _
            have hs6 : wr.heap.size + 2 ≤ ((w5.setCell ⟨wr.heap.size + 1, 0, none⟩ (.int .i64 xb.n.w)).setCell ⟨wr.heap.size + 1, 1, none⟩ (.slice (some ⟨xb.g, 0, none⟩) xb.n.syms.length xb.c)).heap.size := by
              have h3 := hg5.out.size
              simp [World.setCell]
              omega
            generalize ((w5.setCell ⟨wr.heap.size + 1, 0, none⟩ (.int .i64 xb.n.w)).setCell ⟨wr.heap.size + 1, 1, none⟩ (.slice (some ⟨xb.g, 0, none⟩) xb.n.syms.length xb.c)) = w6 at hb86 hb76 hn6 hk6 hb6 hs6 ⊢
            have HB7 := Aside0.mk (show w6.heap[wr.heap.size]? = some (.cells #[.int .i64 xa.n.w, .slice (some ⟨xa.g, 0, none⟩) xa.n.syms.length xa.c] 69 (0, 0)) from hb76)
            have HB8 := Aside0.mk (show w6.heap[wr.heap.size + 1]? = some (.cells #[.int .i64 xb.n.w, .slice (some ⟨xb.g, 0, none⟩) xb.n.syms.length xb.c] 69 (0, 0)) from hb86)
            have HNq := Aside0.mk hn6
            have HK6 := Aside0.mk hk6
            have HBq := Aside0.mk hb6
            have HOq := Aside0.mk (Kd.R_move HO.out (fun k hk => hk6 k (by omega) (by omega)))
            clear HB74 HB84 HK4 HB4 HC2 hb85 c80 c81 f80 f81 hn5 hg5 hb86 hb76 hn6 hk6 hb6
            have hxa := HXA.out
            have hxb := HXB.out
            obtain ⟨m', hm', hrun, hinv, hl2, hwa, hwb, hsw, hsl, hsr⟩ := runT_step HI.out (by rw [List.length_map]; exact HL1.out) (by rw [List.length_map]; exact HP.out.2.1) (a := xa.n) (b := xb.n) (nd_at hxa) (by have h := nd_at hxb; rw [map_erase] at h; exact h) rfl o
            have HST := Aside0.mk (And.intro hm' (And.intro hrun (And.intro hinv hl2)))
            have HSL := Aside0.mk hsl
            have HSR := Aside0.mk hsr
            have hok0a := HN.out.ok xa (List.mem_of_getElem? hxa)
            have hok0b := HN.out.ok xb (List.mem_of_mem_eraseIdx (List.mem_of_getElem? hxb))
            have hne3 : ∀ y : GN, y.Ok wr w.heap.size w.heap.size 3 → y.g ≠ gl := fun y hy he => by
              obtain ⟨_, _, _, _, cs, h5, _⟩ := id hy
              exact HN.out.ne_row (by decide) h5 (by rw [he]; rfl)
            have hoka := hok0a.move (HK6.out _ hok0a.lt (hne3 xa hok0a))
            have hokb := hok0b.move (HK6.out _ hok0b.lt (hne3 xb hok0b))
            have hna : 0 < xa.n.syms.length := List.length_pos_iff.2 (HI.out.some_ _ (List.mem_map.2 ⟨xa, List.mem_of_getElem? hxa, rfl⟩))
            have hsum : IntKind.i64.wrap (xa.n.w + xb.n.w) = xa.n.w + xb.n.w := by rw [i64_w', w64 (by omega)]
            have ca0 := (blk_cell HB7.out 0).trans rfl
            have ca1 := (blk_cell HB7.out 1).trans rfl
            have cb0 := (blk_cell HB8.out 0).trans rfl
            have cb1 := (blk_cell HB8.out 1).trans rfl
            have hwr6 : wr.heap.size < w6.heap.size := by omega
            have hBq6 := HBq.out.size
            have hwr7 : wr.heap.size + 1 < w6.heap.size := by omega
            clear hm' hrun hinv hl2 hwa hwb hsw hsr hxa hxb hok0a hok0b hne3
            go_cut [9] (fun v9 wx => ∃ (gb gs cs : Nat), v9 = .pointer (some ⟨gb, 0, none⟩) ∧ Aside0 (wx.heap[gb]? = some (.cells #[.int .i64 (xa.n.w + xb.n.w), .slice (some ⟨gs, 0, none⟩) (xa.n.syms ++ xb.n.syms).length cs] 69 (0, 0))) ∧ Aside0 ((GN.mk (xa.n.join xb.n) gs cs).Ok wx w.heap.size w.heap.size 3) ∧ Aside0 (w6.heap.size ≤ gb) ∧ Aside0 (Below w6.heap.size w6 wx))
            case first =>
              go_region_held3? (fun w' => w'.cell? ⟨wr.heap.size, 0, none⟩ = some (.int .i64 xa.n.w) ∧ w'.cell? ⟨wr.heap.size, 1, none⟩ = some (.slice (some ⟨xa.g, 0, none⟩) xa.n.syms.length xa.c) ∧ w'.cell? ⟨wr.heap.size + 1, 0, none⟩ = some (.int .i64 xb.n.w) ∧ w'.cell? ⟨wr.heap.size + 1, 1, none⟩ = some (.slice (some ⟨xb.g, 0, none⟩) xb.n.syms.length xb.c)) (first | (go_split_ands; refine ⟨?_, ?_, ?_, ?_⟩ <;> exact realloc (W := w7) (by assumption) (by have h3 := hbe.out.size; simp at h3 ⊢; omega) _) | (go_split_ands; refine ⟨?_, ?_, ?_, ?_⟩ <;> exact far_set (far_set (by assumption) (by simp; omega)) (by simp; omega)) | (go_split_ands; refine ⟨?_, ?_, ?_, ?_⟩ <;> exact pw_cell_below hbe.out (by assumption)) | go_keep)
                ((go_at_call 64; refine (concat_calls _ xa xb w.heap.size w.heap.size _ (by first | exact at2 _ _ _ | exact at1 _ _ _ | exact blk_new _ _) (by repeat (first | exact hoka | apply GN.Ok.alloc | apply GN.Ok.drew)) (by repeat (first | exact hokb | apply GN.Ok.alloc | apply GN.Ok.drew)) hna hsl).mono ?_; rintro e w7 ⟨gs, cs, rfl, hown, hgs, hbe⟩; (try have hby := Aside0.mk (blk_below (g := w6.heap.size) (o := .cells #[.int .i64 0, .slice none 0 0] 69 (0, 0)) (by exact at1 _ _ _) hbe.out)); (try have hby := Aside0.mk (blk_below (g := w6.heap.size + 1) (o := .cells #[.int .i64 0, .slice none 0 0] 69 (0, 0)) (by exact at2 _ _ _) hbe.out)); (try (have hbc0 := blk_cell hby.out 0; have hbc1 := blk_cell hby.out 1; have hbf := blk_frozen hby.out))))
              all_goals go_wp2_with fail
              all_goals go_meet
              all_goals
                have hok3 := ok_own (n := xa.n.join xb.n) (W := w7) (base := w.heap.size) (go := w.heap.size) (e := 3) (g := gs) (c := cs) (own_weaken hown.out (by have h3 := hBq6; simp <;> omega)) (by have h3 := hgs.out; simp at h3; omega)
              all_goals
                have hbe2 := Aside0.mk (Below.trans (Below.mono (show Below w6.heap.size w6 _ from by repeat (first | exact Below.refl _ _ | apply Below.drew | refine Below.alloc ?_ (by simp <;> omega) _)) (Nat.le_refl _)) (hbe.out.mono (by simp <;> omega)))
              all_goals first
                | exact ⟨w7.heap.size, gs, cs, rfl, ⟨by rw [List.length_append]; exact blk_new _ _⟩, ⟨hok3.alloc _⟩, ⟨hbe2.out.size⟩, ⟨hbe2.out.alloc hbe2.out.size _⟩⟩
                | exact ⟨_, gs, cs, rfl, ⟨by rw [List.length_append]; exact blk_set (blk_set hby.out 0 _) 1 _⟩, ⟨(hok3.far hby.out (by decide) _ _).far (blk_set hby.out 0 _) (by decide) _ _⟩, ⟨by simp <;> omega⟩, ⟨(hbe2.out.setCell (by simp <;> omega) _).setCell (by simp <;> omega) _⟩⟩
            case rest =>
              obtain ⟨gb, gs, cs, rfl, HBX1, HNEW, HGB, HBW⟩ := hcut
              have HN := Aside0.mk (HNq.out.below HBW.out (Nat.le_refl _))
              have HO := Aside0.mk (Kd.R_below HOq.out HBW.out)
              have HB := Aside0.mk (HBq.out.trans (HBW.out.mono hBq6))
              have hgo3 : gb ≠ w.heap.size := by have := HGB.out; omega
              have hgbc := blk_lt HBX1.out
              have cn1 : wc.cell? ⟨gb, 1, none⟩ = some (.slice (some ⟨gs, 0, none⟩) (xa.n.syms ++ xb.n.syms).length cs) := (blk_cell HBX1.out 1).trans rfl
              obtain ⟨S, hS⟩ : ∃ S, xa.n.syms ++ xb.n.syms = S := ⟨_, rfl⟩
              rw [hS] at HBX1 HSL HSR HST cn1
              have HSE := Aside0.mk hS
              clear hS hsum
              go_wp2
              go_loopw [71] (fun v71 wr => ∃ k : Nat, v71 = .int .i64 k ∧ k ≤ S.length ∧ Aside0 (Kd.R (Kd.int .i64) 3 wr w.heap.size (fun k => k = w.heap.size) (.slice (some ⟨w.heap.size, 0, none⟩) l0.length l0.length) (bump o (S.take k))) ∧ Aside0 (KeepBut wc wr w.heap.size none) ∧ Aside0 (Below w.heap.size w wr)) (fun v71 _ => S.length - (intOf v71).toNat)
              case atStart => exact ⟨0, rfl, Nat.zero_le _, HO, ⟨KeepBut.refl _ _ _⟩, HB⟩
              case round =>
                obtain ⟨k, rfl, hk, HO3, HK3, HB3⟩ := hrel
                have HNW := Aside0.mk (HNEW.out.move (HK3.out.2 gs HNEW.out.lt HNEW.out.2.1 (by simp)))
                have hsl := HSL.out
                by_cases hlt : k < S.length
                · obtain ⟨s, hs⟩ : ∃ s, S[k]? = some s := ⟨_, List.getElem?_eq_getElem hlt⟩
                  have hsk : wr.cell? ⟨gs, k, none⟩ = some (.int .i64 s) := by
                    have h1 := HNW.out.cell (j := k) (by show k < (xa.n.syms ++ xb.n.syms).length; rw [HSE.out]; exact hlt)
                    have h2 : (xa.n.syms ++ xb.n.syms).getD k 0 = s := by rw [HSE.out, List.getD_eq_getElem?_getD, hs]; rfl
                    rw [← h2]; exact h1
                  obtain ⟨hs0, hs1⟩ := HSR.out s (List.mem_of_getElem? hs)
                  have hstk : S.take (k + 1) = S.take k ++ [s] := by rw [List.take_add_one, hs]; rfl
                  have HSTK := Aside0.mk hstk
                  clear hstk hs
                  obtain ⟨hco, hfo⟩ := Kd.R_celln 0 HO3.out s hs0 (by omega)
                  have hpu := Kd.R_putn HO3.out s (rdOf 0 (bump o (S.take k)) s + 1)
                  have HPU := Aside0.mk hpu
                  clear hpu
                  have hbd : 0 ≤ rdOf 0 (bump o (S.take k)) s ∧ rdOf 0 (bump o (S.take k)) s ≤ 1000000 := by
                    have hb4 := bump_le (M := 1 + 300 * (300 - (gk : Int))) (S.take k) o HP.out.2.2.2.2
                    have hln : s.toNat < (bump o (S.take k)).length := by rw [bump_length, HP.out.2.2.1]; omega
                    have hb5 := hb4 (rdOf 0 (bump o (S.take k)) s) (by unfold rdOf; rw [List.getD_eq_getElem?_getD, List.getElem?_eq_getElem hln]; exact List.getElem_mem _)
                    have hb6 := HP.out.2.2.2.1
                    have hb7 : (S.take k).length ≤ k := List.length_take_le _ _
                    omega
                  obtain ⟨hbd0, hbd1⟩ := hbd
                  obtain ⟨q, hq⟩ : ∃ q, rdOf 0 (bump o (S.take k)) s = q := ⟨_, rfl⟩
                  rw [hq] at hco hbd0 hbd1
                  have HQ := Aside0.mk hq
                  clear hq
                  have hw : IntKind.i64.wrap (q + 1) = q + 1 := by rw [i64_w', w64 (by omega)]
                  have p1 : (0 : Int) ≤ (k : Int) := by omega
                  have q1 : (k : Int) < (S.length : Int) := by omega
                  go_wp2
                  go_roundw
                  case rel =>
                    refine ⟨k + 1, by go_num, by omega, ⟨?_⟩, ⟨HK3.out.set_ _ _⟩, ⟨HB3.out.setCell (Nat.le_refl _) _⟩⟩
                    rw [HSTK.out, bump_append]
                    have h1 := HPU.out
                    rw [HQ.out] at h1
                    have h2 : bump (bump o (S.take k)) [s] = (bump o (S.take k)).set s.toNat (q + 1) := by
                      rw [← HQ.out]; rfl
                    rw [h2]
                    exact h1
                  case measure => simp [intOf]; omega
                · obtain rfl : k = S.length := by omega
                  rw [List.take_length] at HO3
                  have HBB := Aside0.mk (HK3.out.blk HBX1.out hgo3 (by simp))
                  have HN3 := Aside0.mk (HN.out.move (fun i h1 h2 => HK3.out.2 i h1 h2 (by simp)))
                  clear HN HO HB HK3 hlt hsl HNq HOq HBq HBX1 HBW HGB hgbc hoka hokb hna ca0 ca1 cb0 cb1 hgo3 cn1
                  obtain ⟨R, hR⟩ : ∃ R, (l.eraseIdx (leastN (l.map GN.n))).eraseIdx (leastN ((l.map GN.n).eraseIdx (leastN (l.map GN.n)))) = R := ⟨_, rfl⟩
                  have hRm : ((l.map GN.n).eraseIdx (leastN (l.map GN.n))).eraseIdx (leastN ((l.map GN.n).eraseIdx (leastN (l.map GN.n)))) = R.map GN.n := by
                    rw [← hR, map_erase, map_erase]
                  rw [hR] at HN3
                  rw [hRm] at HST
                  clear hR hRm
                  obtain ⟨hm', hrun, hinv, hl2⟩ := HST.out
                  rw [List.length_map, List.length_map] at hl2
                  have HM := Aside0.mk hm'
                  have HRUN := Aside0.mk hrun
                  have HINV := Aside0.mk hinv
                  have hRl : l.length - 1 - 1 = R.length := by omega
                  rw [hRl] at HN3 ⊢
                  clear hm' hrun hinv
                  have cb0 : wr.cell? ⟨gb, 0, none⟩ = some (.int .i64 (xa.n.w + xb.n.w)) := (blk_cell HBB.out 0).trans rfl
                  have cb1 : wr.cell? ⟨gb, 1, none⟩ = some (.slice (some ⟨gs, 0, none⟩) S.length cs) := (blk_cell HBB.out 1).trans rfl
                  have hll := HP.out.2.1
                  have hgk := HP.out.2.2.2.1
                  have HGO := Aside0.mk (show w.heap.size < wr.heap.size from by obtain ⟨cells, hc⟩ := Kd.R_typed HO3.out w.heap.size rfl; exact blk_lt hc)
                  have hgo4 := HGO.out
                  obtain ⟨w3, hw3⟩ : ∃ w3 : World, w3 = wr := ⟨_, rfl⟩
                  go_wp2_with (at_builtin; go_loud (refine print_append_cells (w0 := w) w.heap.size rfl (.tmp 82) (.tmp 84) 67 69 (.agg #[.int .i64 0, .slice none 0 0]) 2 32 rfl Try.underlying67 info69q rfl (by decide) (by decide) (.slice (some ⟨gl, 0, none⟩) R.length c) R.length (flat R) [.int .i64 (xa.n.w + xb.n.w), .slice (some ⟨gs, 0, none⟩) S.length cs] (by rfl) (by simp [Act.eval]) rfl (by simp [Value.oneCell']) HN3.out.row ?_ ?_ ?_ ?_))
                  · exact HB3.out
                  · omega
                  · omega
                  intro v1 w1 hown hB hg hat
                  obtain ⟨A1, c1', hv1⟩ := own_slice hown
                  have hxc : (GN.mk (xa.n.join xb.n) gs cs).cells = [.int .i64 (xa.n.w + xb.n.w), .slice (some ⟨gs, 0, none⟩) S.length cs] := by rw [← HSE.out]; rfl
                  have HN1 := Aside0.mk (HN3.out.append (by decide) HNW.out (by rw [hxc]; exact hown) hg hat (by omega))
                  have HO1 := Aside0.mk (Kd.R_grown HO3.out hg (fun k hk he => (HN3.out.ne k he.symm) hk))
                  have HB1 := Aside0.mk hB
                  clear hown hB hg hat hxc
                  subst hv1
                  go_wp2
                  go_roundg m'
                  case measure => have := HM.out; omega
                  case rel =>
                    have hmap : (R ++ [GN.mk (xa.n.join xb.n) gs cs]).map GN.n = R.map GN.n ++ [xa.n.join xb.n] := by
                      rw [List.map_append]; rfl
                    have hlen : (R ++ [GN.mk (xa.n.join xb.n) gs cs]).length = R.length + 1 := by rw [List.length_append]; rfl
                    refine ⟨R ++ [GN.mk (xa.n.join xb.n) gs cs], A1, c1', bump o S, by rw [List.length_append]; rfl, ⟨by rw [List.length_append]; exact HN1.out⟩, HO1, ⟨?_, ?_, ?_, ?_, ?_⟩, ⟨by rw [hmap]; exact HINV.out⟩, HB1⟩
                    · rw [hmap, ← HRUN.out]; exact HP.out.1
                    · have h2 := HM.out; have h3 := HP.out.2.1; omega
                    · rw [bump_length]; exact HP.out.2.2.1
                    · have := HM.out; omega
                    · intro x hx
                      have h1 := bump_le (M := 1 + 300 * (300 - (gk : Int))) S o HP.out.2.2.2.2 x hx
                      have h2 := HM.out
                      have h3 := HSL.out
                      omega
          · obtain ⟨hrun, hll, _, _, _⟩ := HP.out
            have hfin : o = r := by
              rw [← hrun]
              cases gk with
              | zero => rfl
              | succ n => unfold Go.Proofs.Ytgajagocenffeaa.Th.runT; rw [if_neg (by rw [List.length_map]; exact h1)]
            subst hfin
            clear hrun hll
            have c1 : decide ((l.length : Int) > 1) = false := decide_eq_false (by omega)
            have HO1 := Aside0.mk (Kd.R_mono HO.out (fun _ _ => trivial))
            go_wp2
            go_ret
            exact ⟨_, rfl, HO1.out, HB.out⟩
end

end Go.Proofs.Ytgajagocenffeaa.PFnCodeBest
