/- What the functions that the law comes to compute, as plain functions, and that the machine's calls come to just that: written by a program for this claim, and turned where Lean did not take it. No condition. -/
import Derived.Test.YtgajagocenffeaaHFnCodeFullx0
import Derived.Test.YtgajagocenffeaaHFnCodeFullx1
import Derived.Test.YtgajagocenffeaaHFnCodeFullx2
import Derived.Test.YtgajagocenffeaaHFnCodeFullx5
import Derived.Test.YtgajagocenffeaaHFnCodeFullx6
namespace Go.Proofs.Ytgajagocenffeaa.PFnCodeFull
open Go.RowKit Go.Proofs.YtgajagocenffeaaW.PrintWords Go.Proofs.YtgajagocenffeaaW.PrintLast Go.Proofs.YtgajagocenffeaaW.PrintMore
attribute [local go_sem] max2_int min2_int max_two min_two max_three min_three max_four min_four   -- for this text's walks alone
set_option linter.unusedVariables false
set_option linter.unusedSimpArgs false

/-! ### laws_FnCodeFull: function 9 -/
mutual
def laws_FnCodeFull.j0 : Nat → List Int → List Int → Bool → Option (Bool)
  | 0, _, _, _ => none
  | k + 1, x0, x1, x17 => if x17 = true then (some true) else ((spec_DrawCodeFull.f k x0).bind fun t281 => ((impl_CodeFull.f k t281).bind fun t284 => ((spec_CodeFull.f k t281).bind fun t285 => (if (t284 != t285) = true then (laws_FnCodeFull.j1 k x1 t281 t284 true) else ((impl_CodeOk.f k t281).bind fun t286 => ((spec_CodeOk.f k t281).bind fun t287 => (laws_FnCodeFull.j1 k x1 t281 t284 (t286 != t287))))))))
def laws_FnCodeFull.j1 : Nat → List Int → List Int → Bool → Bool → Option (Bool)
  | 0, _, _, _, _ => none
  | k + 1, x1, x5, x6, x32 => if x32 = true then (some false) else ((spec_DrawCrc32.f k x1).bind fun t288 => (if (t288.size : Int) ≥ 2 then (if (t288.size : Int) ≤ 9000 then (laws_FnCodeFull.j2 k x5 x6 t288 x6) else (laws_FnCodeFull.j2 k x5 x6 t288 false)) else (laws_FnCodeFull.j2 k x5 x6 t288 false)))
def laws_FnCodeFull.j2 : Nat → List Int → Bool → ByteArray → Bool → Option (Bool)
  | 0, _, _, _, _ => none
  | k + 1, x5, x6, x7, x45 => if x45 = true then ((impl_CodeGet.f k x7 0 x5).bind fun bt289 => (if bt289.1 < 0 then (laws_FnCodeFull.j3 k x5 x6 true) else (if 0 ≤ bt289.1 then (if bt289.1 < (x5.length : Int) then (laws_FnCodeFull.j3 k x5 x6 (bt289.2 != (rd x5 bt289.1))) else (none)) else (none)))) else ((spec_CodeOk.f k x5).bind fun t303 => (if t303 = true then (if (x5.length : Int) ≥ 300 then (some true) else ((some (([] : List Int) : List Int)).bind fun y304 => (if y304.length + x5.length < 17592186044416 then ((some (y304 ++ x5 : List Int)).bind fun y307 => (if y307.length < 17592186044416 then ((impl_CodeOk.f k (y307 ++ [15])).bind fun t313 => (some (x6 == (!t313)))) else (none))) else (none)))) else (some true)))
def laws_FnCodeFull.j3 : Nat → List Int → Bool → Bool → Option (Bool)
  | 0, _, _, _ => none
  | k + 1, x5, x6, x61 => if x61 = true then (some false) else ((spec_CodeOk.f k x5).bind fun t292 => (if t292 = true then (if (x5.length : Int) ≥ 300 then (some true) else ((some (([] : List Int) : List Int)).bind fun y293 => (if y293.length + x5.length < 17592186044416 then ((some (y293 ++ x5 : List Int)).bind fun y296 => (if y296.length < 17592186044416 then ((impl_CodeOk.f k (y296 ++ [15])).bind fun t302 => (some (x6 == (!t302)))) else (none))) else (none)))) else (some true)))
end
def laws_FnCodeFull.f (k : Nat) (l0 : List Int) (l1 : List Int) : Option (Bool) := if (l0.length : Int) > 1048576 then (laws_FnCodeFull.j0 k l0 l1 true) else (laws_FnCodeFull.j0 k l0 l1 (decide ((l1.length : Int) > 1048576)))
theorem laws_FnCodeFull.mono_l : ∀ k, (∀ y0 y1 y2, LeO (laws_FnCodeFull.j0 k y0 y1 y2) (laws_FnCodeFull.j0 (k + 1) y0 y1 y2)) ∧ (∀ y0 y1 y2 y3, LeO (laws_FnCodeFull.j1 k y0 y1 y2 y3) (laws_FnCodeFull.j1 (k + 1) y0 y1 y2 y3)) ∧ (∀ y0 y1 y2 y3, LeO (laws_FnCodeFull.j2 k y0 y1 y2 y3) (laws_FnCodeFull.j2 (k + 1) y0 y1 y2 y3)) ∧ (∀ y0 y1 y2, LeO (laws_FnCodeFull.j3 k y0 y1 y2) (laws_FnCodeFull.j3 (k + 1) y0 y1 y2))
  | 0 => ⟨fun _ _ _ r h => by simp [laws_FnCodeFull.j0] at h, fun _ _ _ _ r h => by simp [laws_FnCodeFull.j1] at h, fun _ _ _ _ r h => by simp [laws_FnCodeFull.j2] at h, fun _ _ _ r h => by simp [laws_FnCodeFull.j3] at h⟩
  | k + 1 => by
    obtain ⟨ih0, ih1, ih2, ih3⟩ := laws_FnCodeFull.mono_l k
    refine ⟨?_, ?_, ?_, ?_⟩
    · intro y0 y1 y2
      unfold laws_FnCodeFull.j0
      repeat' first
      | (with_reducible exact ih0 _ _ _)
      | (with_reducible exact ih1 _ _ _ _)
      | (with_reducible exact ih2 _ _ _ _)
      | (with_reducible exact ih3 _ _ _)
      | (with_reducible exact impl_CodeFull.mono _ _)
      | (with_reducible exact impl_CodeGet.mono _ _ _ _)
      | (with_reducible exact impl_CodeOk.mono _ _)
      | (with_reducible exact spec_CodeFull.mono _ _)
      | (with_reducible exact spec_CodeOk.mono _ _)
      | (with_reducible exact spec_DrawCodeFull.mono _ _)
      | (with_reducible exact spec_DrawCrc32.mono _ _)
      | (with_reducible exact LeO.refl _)
      | (with_reducible exact LeO.none _)
      | (with_reducible refine LeO.ite ?_ ?_)
      | (with_reducible refine LeO.bind ?_ (fun _ => ?_))
      | exact ih0 _ _ _
      | exact ih1 _ _ _ _
      | exact ih2 _ _ _ _
      | exact ih3 _ _ _
      | exact impl_CodeFull.mono _ _
      | exact impl_CodeGet.mono _ _ _ _
      | exact impl_CodeOk.mono _ _
      | exact spec_CodeFull.mono _ _
      | exact spec_CodeOk.mono _ _
      | exact spec_DrawCodeFull.mono _ _
      | exact spec_DrawCrc32.mono _ _
      | exact LeO.none _
      | refine LeO.ite ?_ ?_
      | refine LeO.bind ?_ (fun _ => ?_)
    · intro y0 y1 y2 y3
      unfold laws_FnCodeFull.j1
      repeat' first
      | (with_reducible exact ih0 _ _ _)
      | (with_reducible exact ih1 _ _ _ _)
      | (with_reducible exact ih2 _ _ _ _)
      | (with_reducible exact ih3 _ _ _)
      | (with_reducible exact impl_CodeFull.mono _ _)
      | (with_reducible exact impl_CodeGet.mono _ _ _ _)
      | (with_reducible exact impl_CodeOk.mono _ _)
      | (with_reducible exact spec_CodeFull.mono _ _)
      | (with_reducible exact spec_CodeOk.mono _ _)
      | (with_reducible exact spec_DrawCodeFull.mono _ _)
      | (with_reducible exact spec_DrawCrc32.mono _ _)
      | (with_reducible exact LeO.refl _)
      | (with_reducible exact LeO.none _)
      | (with_reducible refine LeO.ite ?_ ?_)
      | (with_reducible refine LeO.bind ?_ (fun _ => ?_))
      | exact ih0 _ _ _
      | exact ih1 _ _ _ _
      | exact ih2 _ _ _ _
      | exact ih3 _ _ _
      | exact impl_CodeFull.mono _ _
      | exact impl_CodeGet.mono _ _ _ _
      | exact impl_CodeOk.mono _ _
      | exact spec_CodeFull.mono _ _
      | exact spec_CodeOk.mono _ _
      | exact spec_DrawCodeFull.mono _ _
      | exact spec_DrawCrc32.mono _ _
      | exact LeO.none _
      | refine LeO.ite ?_ ?_
      | refine LeO.bind ?_ (fun _ => ?_)
    · intro y0 y1 y2 y3
      unfold laws_FnCodeFull.j2
      repeat' first
      | (with_reducible exact ih0 _ _ _)
      | (with_reducible exact ih1 _ _ _ _)
      | (with_reducible exact ih2 _ _ _ _)
      | (with_reducible exact ih3 _ _ _)
      | (with_reducible exact impl_CodeFull.mono _ _)
      | (with_reducible exact impl_CodeGet.mono _ _ _ _)
      | (with_reducible exact impl_CodeOk.mono _ _)
      | (with_reducible exact spec_CodeFull.mono _ _)
      | (with_reducible exact spec_CodeOk.mono _ _)
      | (with_reducible exact spec_DrawCodeFull.mono _ _)
      | (with_reducible exact spec_DrawCrc32.mono _ _)
      | (with_reducible exact LeO.refl _)
      | (with_reducible exact LeO.none _)
      | (with_reducible refine LeO.ite ?_ ?_)
      | (with_reducible refine LeO.bind ?_ (fun _ => ?_))
      | exact ih0 _ _ _
      | exact ih1 _ _ _ _
      | exact ih2 _ _ _ _
      | exact ih3 _ _ _
      | exact impl_CodeFull.mono _ _
      | exact impl_CodeGet.mono _ _ _ _
      | exact impl_CodeOk.mono _ _
      | exact spec_CodeFull.mono _ _
      | exact spec_CodeOk.mono _ _
      | exact spec_DrawCodeFull.mono _ _
      | exact spec_DrawCrc32.mono _ _
      | exact LeO.none _
      | refine LeO.ite ?_ ?_
      | refine LeO.bind ?_ (fun _ => ?_)
    · intro y0 y1 y2
      unfold laws_FnCodeFull.j3
      repeat' first
      | (with_reducible exact ih0 _ _ _)
      | (with_reducible exact ih1 _ _ _ _)
      | (with_reducible exact ih2 _ _ _ _)
      | (with_reducible exact ih3 _ _ _)
      | (with_reducible exact impl_CodeFull.mono _ _)
      | (with_reducible exact impl_CodeGet.mono _ _ _ _)
      | (with_reducible exact impl_CodeOk.mono _ _)
      | (with_reducible exact spec_CodeFull.mono _ _)
      | (with_reducible exact spec_CodeOk.mono _ _)
      | (with_reducible exact spec_DrawCodeFull.mono _ _)
      | (with_reducible exact spec_DrawCrc32.mono _ _)
      | (with_reducible exact LeO.refl _)
      | (with_reducible exact LeO.none _)
      | (with_reducible refine LeO.ite ?_ ?_)
      | (with_reducible refine LeO.bind ?_ (fun _ => ?_))
      | exact ih0 _ _ _
      | exact ih1 _ _ _ _
      | exact ih2 _ _ _ _
      | exact ih3 _ _ _
      | exact impl_CodeFull.mono _ _
      | exact impl_CodeGet.mono _ _ _ _
      | exact impl_CodeOk.mono _ _
      | exact spec_CodeFull.mono _ _
      | exact spec_CodeOk.mono _ _
      | exact spec_DrawCodeFull.mono _ _
      | exact spec_DrawCrc32.mono _ _
      | exact LeO.none _
      | refine LeO.ite ?_ ?_
      | refine LeO.bind ?_ (fun _ => ?_)
theorem laws_FnCodeFull.mono : ∀ a0 a1 k, LeO (laws_FnCodeFull.f k a0 a1) (laws_FnCodeFull.f (k + 1) a0 a1) := by
  intro a0 a1 k
  obtain ⟨ih0, ih1, ih2, ih3⟩ := laws_FnCodeFull.mono_l k
  unfold laws_FnCodeFull.f
  repeat' first
      | (with_reducible exact ih0 _ _ _)
      | (with_reducible exact ih1 _ _ _ _)
      | (with_reducible exact ih2 _ _ _ _)
      | (with_reducible exact ih3 _ _ _)
      | (with_reducible exact impl_CodeFull.mono _ _)
      | (with_reducible exact impl_CodeGet.mono _ _ _ _)
      | (with_reducible exact impl_CodeOk.mono _ _)
      | (with_reducible exact spec_CodeFull.mono _ _)
      | (with_reducible exact spec_CodeOk.mono _ _)
      | (with_reducible exact spec_DrawCodeFull.mono _ _)
      | (with_reducible exact spec_DrawCrc32.mono _ _)
      | (with_reducible exact LeO.refl _)
      | (with_reducible exact LeO.none _)
      | (with_reducible refine LeO.ite ?_ ?_)
      | (with_reducible refine LeO.bind ?_ (fun _ => ?_))
      | exact ih0 _ _ _
      | exact ih1 _ _ _ _
      | exact ih2 _ _ _ _
      | exact ih3 _ _ _
      | exact impl_CodeFull.mono _ _
      | exact impl_CodeGet.mono _ _ _ _
      | exact impl_CodeOk.mono _ _
      | exact spec_CodeFull.mono _ _
      | exact spec_CodeOk.mono _ _
      | exact spec_DrawCodeFull.mono _ _
      | exact spec_DrawCrc32.mono _ _
      | exact LeO.none _
      | refine LeO.ite ?_ ?_
      | refine LeO.bind ?_ (fun _ => ?_)
set_option maxHeartbeats 8000000 in
set_option maxRecDepth 100000 in
theorem laws_FnCodeFull.calls (k : Nat) (A0 : Option Addr) (c0 : Nat) (l0 : List Int) (A1 : Option Addr) (c1 : Nat) (l1 : List Int) (r : Bool) (w : World) (hr0 : Kd.C (Kd.int .u8) w A0 l0.length l0) (hc0 : l0.length ≤ c0) (hr1 : Kd.C (Kd.int .u8) w A1 l1.length l1) (hc1 : l1.length ≤ c1) (h : laws_FnCodeFull.f k l0 l1 = some r) :
    Calls Try.prog 9 #[.slice A0 l0.length c0, .slice A1 l1.length c1] w fun e w' => e = .returned (.bool r) ∧ Below w.heap.size w w' := by
  have HR0 := Aside0.mk hr0
  have HC0 := Aside0.mk hc0
  clear hr0 hc0
  have HR1 := Aside0.mk hr1
  have HC1 := Aside0.mk hc1
  clear hr1 hc1
  have HB := Aside0.mk (Below.refl w.heap.size w)
  have H : (if (l0.length : Int) > 1048576 then (laws_FnCodeFull.j0 k l0 l1 true) else (laws_FnCodeFull.j0 k l0 l1 (decide ((l1.length : Int) > 1048576)))) = some r := h
  clear h
  have HC3 := Aside0.mk H
  clear H
  go_enter Try.func9, Try.ntmps9
  go_upto_region 1 with (fail)
  go_cut [17] (fun v17 wc => ∃ (kq : Nat) (x17_2 : Bool), v17 = .bool x17_2 ∧ Aside0 (laws_FnCodeFull.j0 kq l0 l1 x17_2 = some r) ∧ Aside0 (kq ≤ k) ∧ Aside0 (Below w.heap.size w wc))
  case first =>
    have H := HC3.out
    clear HC3
    by_cases c4 : (l0.length : Int) > 1048576
    · rw [if_pos c4] at H
      have c4b0 : decide (1048576 < (l0.length : Int)) = true := decide_eq_true c4
      have c4b1 : decide (1048576 < l0.length) = true := decide_eq_true (by omega)
      clear c4
      (first | rw [c4b0] | (simp only [i64_w, i32_w]; rw [c4b0]) | skip)
      have H' := Aside0.mk H
      clear H
      go_wp2
      go_meet
      case rel => exact ⟨_, (true), (by first | rfl | (simp; done) | (simp [*]; done)), H', ⟨by first | omega | exact Nat.le_refl _⟩, ⟨by repeat (first | (with_reducible first | exact HB.out | apply below_alloc | apply pw_below_drewN | apply below_drew1) | exact HB.out)⟩⟩
    · rw [if_neg c4] at H
      have c4b0 : decide (1048576 < (l0.length : Int)) = false := decide_eq_false c4
      have c4b1 : decide (1048576 < l0.length) = false := decide_eq_false (by omega)
      clear c4
      (first | rw [c4b0] | (simp only [i64_w, i32_w]; rw [c4b0]) | skip)
      have H' := Aside0.mk H
      clear H
      go_wp2
      go_meet
      case rel => exact ⟨_, (decide ((l1.length : Int) > 1048576)), (by first | rfl | (simp; done) | (simp [*]; done)), H', ⟨by first | omega | exact Nat.le_refl _⟩, ⟨by repeat (first | (with_reducible first | exact HB.out | apply below_alloc | apply pw_below_drewN | apply below_drew1) | exact HB.out)⟩⟩
  case rest =>
    clear HC3
    try clear c1
    try clear p2
    try clear c4
    try clear c4b0
    try clear c4b1
    obtain ⟨kq, x17_2, rfl, HA, HJ2, HB⟩ := hcut
    cases kq with
    | zero => exact absurd HA.out (by simp [laws_FnCodeFull.j0])
    | succ kj2 =>
      have H := HA.out
      clear HA
      simp only [laws_FnCodeFull.j0] at H
      by_cases c5 : x17_2 = true
      · subst c5
        have H1 : (some true) = some r := by first | (rw [if_pos rfl] at H; exact H) | rfl
        clear H
        have H := H1
        clear H1
        obtain rfl := Option.some.inj H
        go_wp2
        go_ret
        exact ⟨by first | rfl | (simp [errW_none, errW_some] <;> rfl) | (simp [*, errW_none, errW_some] <;> rfl), by repeat (first | (with_reducible first | exact HB.out | apply below_alloc | apply pw_below_drewN | apply below_drew1) | exact HB.out)⟩
      · replace c5 := Bool.eq_false_iff.mpr c5
        subst c5
        have H1 : ((spec_DrawCodeFull.f kj2 l0).bind fun t281 => ((impl_CodeFull.f kj2 t281).bind fun t284 => ((spec_CodeFull.f kj2 t281).bind fun t285 => (if (t284 != t285) = true then (laws_FnCodeFull.j1 kj2 l1 t281 t284 true) else ((impl_CodeOk.f kj2 t281).bind fun t286 => ((spec_CodeOk.f kj2 t281).bind fun t287 => (laws_FnCodeFull.j1 kj2 l1 t281 t284 (t286 != t287)))))))) = some r := by first | (rw [if_neg (show ¬ (false = true) by decide)] at H; exact H) | rfl
        clear H
        have H := H1
        clear H1
        replace H := Option.bind_eq_some_iff.mp H
        obtain ⟨t281, A60, H⟩ := H
        replace H : ((impl_CodeFull.f kj2 t281).bind fun t284 => ((spec_CodeFull.f kj2 t281).bind fun t285 => (if (t284 != t285) = true then (laws_FnCodeFull.j1 kj2 l1 t281 t284 true) else ((impl_CodeOk.f kj2 t281).bind fun t286 => ((spec_CodeOk.f kj2 t281).bind fun t287 => (laws_FnCodeFull.j1 kj2 l1 t281 t284 (t286 != t287))))))) = some r := H
        have A6 := Aside0.mk A60
        clear A60
        replace H := Option.bind_eq_some_iff.mp H
        obtain ⟨t284, A70, H⟩ := H
        replace H : ((spec_CodeFull.f kj2 t281).bind fun t285 => (if (t284 != t285) = true then (laws_FnCodeFull.j1 kj2 l1 t281 t284 true) else ((impl_CodeOk.f kj2 t281).bind fun t286 => ((spec_CodeOk.f kj2 t281).bind fun t287 => (laws_FnCodeFull.j1 kj2 l1 t281 t284 (t286 != t287)))))) = some r := H
        have A7 := Aside0.mk A70
        clear A70
        have HC8 := Aside0.mk H
        clear H
        go_upto_region 5 with (first | ((with_reducible refine gate_callee (f := 34) rfl ?_); refine goesL_ (some 19) rfl rfl Try.func34 (by kernel_rfl) rfl #[.slice A0 l0.length c0] rfl (by (try simp only [List.map_toArray, List.map_cons, List.map_nil]); first | done | rfl | (simp only [List.length_drop, List.length_take]; rfl)) ?_; (with_reducible refine (spec_DrawCodeFull.calls kj2 _ _ l0 t281 _ ?side1 ?side2 A6.out).mono ?_); (case side1 => repeat (first | exact (Kd.C_below HR0.out HB.out) | (with_reducible refine Kd.C_alloc ?_ _) | (with_reducible refine Kd.C_drewN ?_ _) | (with_reducible refine Kd.C_drew ?_))); (case side2 => exact HC0.out); rintro e w9 ⟨v282, rfl, ho0, hb⟩; refine ⟨_, rfl, ?_⟩; have n0_ := Aside0.mk (Kd.R_lower ho0 (below_size (by repeat (first | (with_reducible first | exact HB.out | apply below_alloc | apply pw_below_drewN | apply below_drew1) | exact HB.out)))); have n1_ := Aside0.mk (below_step (by repeat (first | (with_reducible first | exact HB.out | apply below_alloc | apply pw_below_drewN | apply below_drew1) | exact HB.out)) hb); clear HB; have HO283 := n0_; have HB := n1_; clear n0_ n1_; (try clear hb); (try clear hb2); (try clear hk); (try clear hi); (try clear ho0); obtain ⟨Ao10, co10, eo10⟩ := Kd.R_slice HO283.out; subst eo10) | ((with_reducible refine gate_callee (f := 19) rfl ?_); refine goesL_ (some 21) rfl rfl Try.func19 (by kernel_rfl) rfl #[.slice Ao10 t281.length co10] rfl (by (try simp only [List.map_toArray, List.map_cons, List.map_nil]); first | done | rfl | (simp only [List.length_drop, List.length_take]; rfl)) ?_; (with_reducible refine (impl_CodeFull.calls kj2 _ _ t281 t284 _ ?side1 ?side2 A7.out).mono ?_); (case side1 => repeat (first | exact (Kd.R_reads' HO283.out).2.2 | (with_reducible refine Kd.C_alloc ?_ _) | (with_reducible refine Kd.C_drewN ?_ _) | (with_reducible refine Kd.C_drew ?_))); (case side2 => exact (Kd.R_reads' HO283.out).2.1); rintro e w' ⟨rfl, ⟨nd, rfl⟩⟩; refine ⟨_, rfl, ?_⟩))
        (try simp only [Act.put, List.setIfInBounds_toArray, List.set_cons_zero, List.set_cons_succ])
        go_cut [32] (fun v32 wc => ∃ (kq : Nat) (x32_7 : Bool), v32 = .bool x32_7 ∧ Aside0 (laws_FnCodeFull.j1 kq l1 t281 t284 x32_7 = some r) ∧ Aside0 (kq ≤ kj2) ∧ Aside0 (Kd.R (Kd.int .i64) 3 wc w.heap.size (fun _ => True) (.slice Ao10 t281.length co10) t281) ∧ Aside0 (Below w.heap.size w wc))
        case first =>
          have H := HC8.out
          clear HC8
          replace H := Option.bind_eq_some_iff.mp H
          obtain ⟨t285, A110, H⟩ := H
          replace H : (if (t284 != t285) = true then (laws_FnCodeFull.j1 kj2 l1 t281 t284 true) else ((impl_CodeOk.f kj2 t281).bind fun t286 => ((spec_CodeOk.f kj2 t281).bind fun t287 => (laws_FnCodeFull.j1 kj2 l1 t281 t284 (t286 != t287))))) = some r := H
          have A11 := Aside0.mk A110
          clear A110
          by_cases c12 : (t284 != t285) = true
          · rw [if_pos c12] at H
            have c12b0 : (t284 != t285) = true := c12
            (try (have c12b1 : decide (t284 = t285) = false := by simpa using c12))
            (try (have c12b2 : (t284 == t285) = false := by simpa using c12))
            (try (have c12b3 : ¬ (t284 = t285) := by simpa using c12))
            clear c12
            (first | rw [c12b0] | (simp only [i64_w, i32_w]; rw [c12b0]) | skip)
            have H' := Aside0.mk H
            clear H
            go_wp2_with (first | ((with_reducible refine gate_callee (f := 35) rfl ?_); refine goesL_ (some 24) rfl rfl Try.func35 (by kernel_rfl) rfl #[.slice Ao10 t281.length co10] rfl (by (try simp only [List.map_toArray, List.map_cons, List.map_nil]); first | done | rfl | (simp only [List.length_drop, List.length_take]; rfl)) ?_; (with_reducible refine (spec_CodeFull.calls kj2 _ _ t281 t285 _ ?side1 ?side2 A11.out).mono ?_); (case side1 => repeat (first | exact (Kd.R_reads' HO283.out).2.2 | (with_reducible refine Kd.C_alloc ?_ _) | (with_reducible refine Kd.C_drewN ?_ _) | (with_reducible refine Kd.C_drew ?_))); (case side2 => exact (Kd.R_reads' HO283.out).2.1); rintro e w' ⟨rfl, ⟨nd, rfl⟩⟩; refine ⟨_, rfl, ?_⟩))
            go_meet
            case rel => exact ⟨_, (true), (by first | rfl | (simp; done) | (simp [*]; done)), H', ⟨by have := HJ2.out; first | omega | exact Nat.le_refl _⟩, ⟨by (with_reducible repeat (first | apply Kd.R_alloc | apply Kd.R_drewN | apply Kd.R_drew)); exact HO283.out⟩, ⟨by repeat (first | (with_reducible first | exact HB.out | apply below_alloc | apply pw_below_drewN | apply below_drew1) | exact HB.out)⟩⟩
          · rw [if_neg c12] at H
            have c12b0 : (t284 != t285) = false := by simpa using c12
            (try (have c12b1 : decide (t284 = t285) = true := by simpa using c12))
            (try (have c12b2 : (t284 == t285) = true := by simpa using c12))
            clear c12
            (first | rw [c12b0] | (simp only [i64_w, i32_w]; rw [c12b0]) | skip)
            replace H := Option.bind_eq_some_iff.mp H
            obtain ⟨t286, A130, H⟩ := H
            replace H : ((spec_CodeOk.f kj2 t281).bind fun t287 => (laws_FnCodeFull.j1 kj2 l1 t281 t284 (t286 != t287))) = some r := H
            have A13 := Aside0.mk A130
            clear A130
            replace H := Option.bind_eq_some_iff.mp H
            obtain ⟨t287, A140, H⟩ := H
            replace H : (laws_FnCodeFull.j1 kj2 l1 t281 t284 (t286 != t287)) = some r := H
            have A14 := Aside0.mk A140
            clear A140
            have H' := Aside0.mk H
            clear H
            go_wp2_with (first | ((with_reducible refine gate_callee (f := 35) rfl ?_); refine goesL_ (some 24) rfl rfl Try.func35 (by kernel_rfl) rfl #[.slice Ao10 t281.length co10] rfl (by (try simp only [List.map_toArray, List.map_cons, List.map_nil]); first | done | rfl | (simp only [List.length_drop, List.length_take]; rfl)) ?_; (with_reducible refine (spec_CodeFull.calls kj2 _ _ t281 t285 _ ?side1 ?side2 A11.out).mono ?_); (case side1 => repeat (first | exact (Kd.R_reads' HO283.out).2.2 | (with_reducible refine Kd.C_alloc ?_ _) | (with_reducible refine Kd.C_drewN ?_ _) | (with_reducible refine Kd.C_drew ?_))); (case side2 => exact (Kd.R_reads' HO283.out).2.1); rintro e w' ⟨rfl, ⟨nd, rfl⟩⟩; refine ⟨_, rfl, ?_⟩) | (go_at_call 18; (with_reducible refine (impl_CodeOk.calls kj2 _ _ t281 t286 _ ?side1 ?side2 A13.out).mono ?_); (case side1 => repeat (first | exact (Kd.R_reads' HO283.out).2.2 | (with_reducible refine Kd.C_alloc ?_ _) | (with_reducible refine Kd.C_drewN ?_ _) | (with_reducible refine Kd.C_drew ?_))); (case side2 => exact (Kd.R_reads' HO283.out).2.1); rintro e w' ⟨rfl, ⟨nd, rfl⟩⟩) | (go_at_call 26; (with_reducible refine (spec_CodeOk.calls kj2 _ _ t281 t287 _ ?side1 ?side2 A14.out).mono ?_); (case side1 => repeat (first | exact (Kd.R_reads' HO283.out).2.2 | (with_reducible refine Kd.C_alloc ?_ _) | (with_reducible refine Kd.C_drewN ?_ _) | (with_reducible refine Kd.C_drew ?_))); (case side2 => exact (Kd.R_reads' HO283.out).2.1); rintro e w' ⟨rfl, ⟨nd, rfl⟩⟩))
            go_meet
            case rel => exact ⟨_, ((t286 != t287)), (by first | rfl | (simp; done) | (simp [*]; done)), H', ⟨by have := HJ2.out; first | omega | exact Nat.le_refl _⟩, ⟨by (with_reducible repeat (first | apply Kd.R_alloc | apply Kd.R_drewN | apply Kd.R_drew)); exact HO283.out⟩, ⟨by repeat (first | (with_reducible first | exact HB.out | apply below_alloc | apply pw_below_drewN | apply below_drew1) | exact HB.out)⟩⟩
        case rest =>
          clear HC8
          try clear c1
          try clear p2
          try clear c3
          try clear c4
          try clear c4b0
          try clear c4b1
          try clear c5
          try clear c9
          try clear c12
          try clear c12b0
          try clear c12b1
          try clear c12b2
          try clear p2
          obtain ⟨kq, x32_7, rfl, HA, HJ7, HO_5, HB⟩ := hcut
          cases kq with
          | zero => exact absurd HA.out (by simp [laws_FnCodeFull.j1])
          | succ kj7 =>
            have H := HA.out
            clear HA
            simp only [laws_FnCodeFull.j1] at H
            by_cases c15 : x32_7 = true
            · subst c15
              have H1 : (some false) = some r := by first | (rw [if_pos rfl] at H; exact H) | rfl
              clear H
              have H := H1
              clear H1
              obtain rfl := Option.some.inj H
              go_wp2
              go_ret
              exact ⟨by first | rfl | (simp [errW_none, errW_some] <;> rfl) | (simp [*, errW_none, errW_some] <;> rfl), by repeat (first | (with_reducible first | exact HB.out | apply below_alloc | apply pw_below_drewN | apply below_drew1) | exact HB.out)⟩
            · replace c15 := Bool.eq_false_iff.mpr c15
              subst c15
              have H1 : ((spec_DrawCrc32.f kj7 l1).bind fun t288 => (if (t288.size : Int) ≥ 2 then (if (t288.size : Int) ≤ 9000 then (laws_FnCodeFull.j2 kj7 t281 t284 t288 t284) else (laws_FnCodeFull.j2 kj7 t281 t284 t288 false)) else (laws_FnCodeFull.j2 kj7 t281 t284 t288 false))) = some r := by first | (rw [if_neg (show ¬ (false = true) by decide)] at H; exact H) | rfl
              clear H
              have H := H1
              clear H1
              replace H := Option.bind_eq_some_iff.mp H
              obtain ⟨t288, A160, H⟩ := H
              replace H : (if (t288.size : Int) ≥ 2 then (if (t288.size : Int) ≤ 9000 then (laws_FnCodeFull.j2 kj7 t281 t284 t288 t284) else (laws_FnCodeFull.j2 kj7 t281 t284 t288 false)) else (laws_FnCodeFull.j2 kj7 t281 t284 t288 false)) = some r := H
              have A16 := Aside0.mk A160
              clear A160
              have HC17 := Aside0.mk H
              clear H
              go_upto_region 8 with (first | ((with_reducible refine gate_callee (f := 36) rfl ?_); refine goesL_ (some 34) rfl rfl Try.func36 (by kernel_rfl) rfl #[.slice A1 l1.length c1] rfl (by (try simp only [List.map_toArray, List.map_cons, List.map_nil]); first | done | rfl | (simp only [List.length_drop, List.length_take]; rfl)) ?_; (with_reducible refine (spec_DrawCrc32.calls kj7 _ _ l1 t288 _ ?side1 ?side2 A16.out).mono ?_); (case side1 => repeat (first | exact (Kd.C_below HR1.out HB.out) | (with_reducible refine Kd.C_alloc ?_ _) | (with_reducible refine Kd.C_drewN ?_ _) | (with_reducible refine Kd.C_drew ?_))); (case side2 => exact HC1.out); rintro e w18 ⟨rfl, hb⟩; refine ⟨_, rfl, ?_⟩; have n0_ := Aside0.mk (Kd.R_below (by (with_reducible repeat (first | apply Kd.R_alloc | apply Kd.R_drewN | apply Kd.R_drew)); exact HO_5.out) hb); have n1_ := Aside0.mk (below_step (by repeat (first | (with_reducible first | exact HB.out | apply below_alloc | apply pw_below_drewN | apply below_drew1) | exact HB.out)) hb); clear HO_5; clear HB; have HO_5 := n0_; have HB := n1_; clear n0_ n1_; (try clear hb); (try clear hb2); (try clear hk); (try clear hi)))
              (try simp only [Act.put, List.setIfInBounds_toArray, List.set_cons_zero, List.set_cons_succ])
              go_cut [45] (fun v45 wc => ∃ (kq : Nat) (x45_16 : Bool), v45 = .bool x45_16 ∧ Aside0 (laws_FnCodeFull.j2 kq t281 t284 t288 x45_16 = some r) ∧ Aside0 (kq ≤ kj7) ∧ Aside0 (Kd.R (Kd.int .i64) 3 wc w.heap.size (fun _ => True) (.slice Ao10 t281.length co10) t281) ∧ Aside0 (Below w.heap.size w wc))
              case first =>
                have H := HC17.out
                clear HC17
                by_cases c19 : (t288.size : Int) ≥ 2
                · rw [if_pos c19] at H
                  have c19b0 : decide (2 ≤ (t288.size : Int)) = true := decide_eq_true c19
                  have c19b1 : decide (2 ≤ t288.size) = true := decide_eq_true (by omega)
                  clear c19
                  (first | rw [c19b0] | (simp only [i64_w, i32_w]; rw [c19b0]) | skip)
                  by_cases c20 : (t288.size : Int) ≤ 9000
                  · rw [if_pos c20] at H
                    have c20b0 : decide ((t288.size : Int) ≤ 9000) = true := decide_eq_true c20
                    have c20b1 : decide (t288.size ≤ 9000) = true := decide_eq_true (by omega)
                    clear c20
                    have H' := Aside0.mk H
                    clear H
                    go_wp2
                    go_meet
                    case rel => exact ⟨_, (t284), (by first | rfl | (simp; done) | (simp [*]; done)), H', ⟨by have := HJ2.out; have := HJ7.out; first | omega | exact Nat.le_refl _⟩, ⟨by (with_reducible repeat (first | apply Kd.R_alloc | apply Kd.R_drewN | apply Kd.R_drew)); exact HO_5.out⟩, ⟨by repeat (first | (with_reducible first | exact HB.out | apply below_alloc | apply pw_below_drewN | apply below_drew1) | exact HB.out)⟩⟩
                  · rw [if_neg c20] at H
                    have c20b0 : decide ((t288.size : Int) ≤ 9000) = false := decide_eq_false c20
                    have c20b1 : decide (t288.size ≤ 9000) = false := decide_eq_false (by omega)
                    clear c20
                    have H' := Aside0.mk H
                    clear H
                    go_wp2
                    go_meet
                    case rel => exact ⟨_, (false), (by first | rfl | (simp; done) | (simp [*]; done)), H', ⟨by have := HJ2.out; have := HJ7.out; first | omega | exact Nat.le_refl _⟩, ⟨by (with_reducible repeat (first | apply Kd.R_alloc | apply Kd.R_drewN | apply Kd.R_drew)); exact HO_5.out⟩, ⟨by repeat (first | (with_reducible first | exact HB.out | apply below_alloc | apply pw_below_drewN | apply below_drew1) | exact HB.out)⟩⟩
                · rw [if_neg c19] at H
                  have c19b0 : decide (2 ≤ (t288.size : Int)) = false := decide_eq_false c19
                  have c19b1 : decide (2 ≤ t288.size) = false := decide_eq_false (by omega)
                  clear c19
                  (first | rw [c19b0] | (simp only [i64_w, i32_w]; rw [c19b0]) | skip)
                  have H' := Aside0.mk H
                  clear H
                  go_wp2
                  go_meet
                  case rel => exact ⟨_, (false), (by first | rfl | (simp; done) | (simp [*]; done)), H', ⟨by have := HJ2.out; have := HJ7.out; first | omega | exact Nat.le_refl _⟩, ⟨by (with_reducible repeat (first | apply Kd.R_alloc | apply Kd.R_drewN | apply Kd.R_drew)); exact HO_5.out⟩, ⟨by repeat (first | (with_reducible first | exact HB.out | apply below_alloc | apply pw_below_drewN | apply below_drew1) | exact HB.out)⟩⟩
              case rest =>
                clear HC17
                try clear c1
                try clear c2
                try clear p2
                try clear c3
                try clear c4
                try clear c4b0
                try clear c4b1
                try clear c5
                try clear c9
                try clear c12
                try clear c12b0
                try clear c12b1
                try clear c12b2
                try clear c15
                try clear c19
                try clear c19b0
                try clear c19b1
                try clear c20
                try clear c20b0
                try clear c20b1
                try clear p2
                obtain ⟨kq, x45_16, rfl, HA, HJ16, HO_5, HB⟩ := hcut
                cases kq with
                | zero => exact absurd HA.out (by simp [laws_FnCodeFull.j2])
                | succ kj16 =>
                  have H := HA.out
                  clear HA
                  simp only [laws_FnCodeFull.j2] at H
                  by_cases c21 : x45_16 = true
                  · subst c21
                    have H1 : ((impl_CodeGet.f kj16 t288 0 t281).bind fun bt289 => (if bt289.1 < 0 then (laws_FnCodeFull.j3 kj16 t281 t284 true) else (if 0 ≤ bt289.1 then (if bt289.1 < (t281.length : Int) then (laws_FnCodeFull.j3 kj16 t281 t284 (bt289.2 != (rd t281 bt289.1))) else (none)) else (none)))) = some r := by first | (rw [if_pos rfl] at H; exact H) | rfl
                    clear H
                    have H := H1
                    clear H1
                    replace H := Option.bind_eq_some_iff.mp H
                    obtain ⟨⟨t289, t290⟩, A220, H⟩ := H
                    replace H : (if t289 < 0 then (laws_FnCodeFull.j3 kj16 t281 t284 true) else (if 0 ≤ t289 then (if t289 < (t281.length : Int) then (laws_FnCodeFull.j3 kj16 t281 t284 (t290 != (rd t281 t289))) else (none)) else (none))) = some r := H
                    have A22 := Aside0.mk A220
                    clear A220
                    have HC23 := Aside0.mk H
                    clear H
                    go_upto_region 10 with (first | ((with_reducible refine gate_callee (f := 30) rfl ?_); refine goesL_ (some 49) rfl rfl Try.func30 (by kernel_rfl) rfl #[.string t288, .int .i64 0, .slice Ao10 t281.length co10] rfl (by (try simp only [List.map_toArray, List.map_cons, List.map_nil]); first | done | rfl | (simp only [List.length_drop, List.length_take]; rfl)) ?_; (with_reducible refine (impl_CodeGet.calls kj16 t288 0 _ _ t281 t289 t290 _ ?side1 ?side2 A22.out).mono ?_); (case side1 => repeat (first | exact (Kd.R_reads' HO_5.out).2.2 | (with_reducible refine Kd.C_alloc ?_ _) | (with_reducible refine Kd.C_drewN ?_ _) | (with_reducible refine Kd.C_drew ?_))); (case side2 => exact (Kd.R_reads' HO_5.out).2.1); rintro e w24 ⟨rfl, hb⟩; refine ⟨_, rfl, ?_⟩; have n0_ := Aside0.mk (Kd.R_below (by (with_reducible repeat (first | apply Kd.R_alloc | apply Kd.R_drewN | apply Kd.R_drew)); exact HO_5.out) hb); have n1_ := Aside0.mk (below_step (by repeat (first | (with_reducible first | exact HB.out | apply below_alloc | apply pw_below_drewN | apply below_drew1) | exact HB.out)) hb); clear HO_5; clear HB; have HO_5 := n0_; have HB := n1_; clear n0_ n1_; (try clear hb); (try clear hb2); (try clear hk); (try clear hi)))
                    (try simp only [Act.put, List.setIfInBounds_toArray, List.set_cons_zero, List.set_cons_succ])
                    go_cut [61] (fun v61 wc => ∃ (kq : Nat) (x61_22 : Bool), v61 = .bool x61_22 ∧ Aside0 (laws_FnCodeFull.j3 kq t281 t284 x61_22 = some r) ∧ Aside0 (kq ≤ kj16) ∧ Aside0 (Kd.R (Kd.int .i64) 3 wc w.heap.size (fun _ => True) (.slice Ao10 t281.length co10) t281) ∧ Aside0 (Below w.heap.size w wc))
                    case first =>
                      have H := HC23.out
                      clear HC23
                      by_cases c25 : t289 < 0
                      · rw [if_pos c25] at H
                        have c25b0 : decide (t289 < 0) = true := decide_eq_true c25
                        clear c25
                        (first | rw [c25b0] | (simp only [i64_w, i32_w]; rw [c25b0]) | skip)
                        have H' := Aside0.mk H
                        clear H
                        go_wp2
                        go_meet
                        case rel => exact ⟨_, (true), (by first | rfl | (simp; done) | (simp [*]; done)), H', ⟨by have := HJ2.out; have := HJ7.out; have := HJ16.out; first | omega | exact Nat.le_refl _⟩, ⟨by (with_reducible repeat (first | apply Kd.R_alloc | apply Kd.R_drewN | apply Kd.R_drew)); exact HO_5.out⟩, ⟨by repeat (first | (with_reducible first | exact HB.out | apply below_alloc | apply pw_below_drewN | apply below_drew1) | exact HB.out)⟩⟩
                      · rw [if_neg c25] at H
                        have c25b0 : decide (t289 < 0) = false := decide_eq_false c25
                        clear c25
                        (first | rw [c25b0] | (simp only [i64_w, i32_w]; rw [c25b0]) | skip)
                        by_cases c26 : 0 ≤ t289
                        · rw [if_pos c26] at H
                          have c26b0 : decide (0 ≤ t289) = true := decide_eq_true c26
                          clear c26
                          by_cases c27 : t289 < (t281.length : Int)
                          · rw [if_pos c27] at H
                            have c27b0 : decide (t289 < (t281.length : Int)) = true := decide_eq_true c27
                            clear c27
                            have H' := Aside0.mk H
                            clear H
                            have p291 : 0 ≤ (t289 : Int) := of_decide_eq_true (by first | (with_reducible assumption) | assumption)
                            have q291 : t289 < (t281.length : Int) := of_decide_eq_true (by first | (with_reducible assumption) | assumption)
                            obtain ⟨ad291, e291, hx291_0⟩ := Kd.at_int (Kd.R_reads' HO_5.out).2.2 t289 p291 q291
                            cases e291
                            replace p291 := eq_true p291
                            replace q291 := eq_true q291
                            go_wp2
                            go_meet
                            case rel => exact ⟨_, ((t290 != (rd t281 t289))), (by first | rfl | (simp; done) | (simp [*]; done)), H', ⟨by have := HJ2.out; have := HJ7.out; have := HJ16.out; first | omega | exact Nat.le_refl _⟩, ⟨by (with_reducible repeat (first | apply Kd.R_alloc | apply Kd.R_drewN | apply Kd.R_drew)); exact HO_5.out⟩, ⟨by repeat (first | (with_reducible first | exact HB.out | apply below_alloc | apply pw_below_drewN | apply below_drew1) | exact HB.out)⟩⟩
                          · rw [if_neg c27] at H
                            exact absurd H (by simp)
                        · rw [if_neg c26] at H
                          exact absurd H (by simp)
                    case rest =>
                      clear HC23
                      try clear c1
                      try clear c2
                      try clear p2
                      try clear q2
                      try clear hx2
                      try clear c3
                      try clear c4
                      try clear c4b0
                      try clear c4b1
                      try clear c5
                      try clear c9
                      try clear c12
                      try clear c12b0
                      try clear c12b1
                      try clear c12b2
                      try clear c15
                      try clear c19
                      try clear c19b0
                      try clear c19b1
                      try clear c20
                      try clear c20b0
                      try clear c20b1
                      try clear c21
                      try clear c25
                      try clear c25b0
                      try clear c26
                      try clear c26b0
                      try clear c27
                      try clear c27b0
                      try clear hx291_0
                      try clear p2
                      try clear p291
                      try clear q291
                      obtain ⟨kq, x61_22, rfl, HA, HJ22, HO_5, HB⟩ := hcut
                      cases kq with
                      | zero => exact absurd HA.out (by simp [laws_FnCodeFull.j3])
                      | succ kj22 =>
                        have H := HA.out
                        clear HA
                        simp only [laws_FnCodeFull.j3] at H
                        by_cases c28 : x61_22 = true
                        · subst c28
                          have H1 : (some false) = some r := by first | (rw [if_pos rfl] at H; exact H) | rfl
                          clear H
                          have H := H1
                          clear H1
                          obtain rfl := Option.some.inj H
                          go_wp2
                          go_ret
                          exact ⟨by first | rfl | (simp [errW_none, errW_some] <;> rfl) | (simp [*, errW_none, errW_some] <;> rfl), by repeat (first | (with_reducible first | exact HB.out | apply below_alloc | apply pw_below_drewN | apply below_drew1) | exact HB.out)⟩
                        · replace c28 := Bool.eq_false_iff.mpr c28
                          subst c28
                          have H1 : ((spec_CodeOk.f kj22 t281).bind fun t292 => (if t292 = true then (if (t281.length : Int) ≥ 300 then (some true) else ((some (([] : List Int) : List Int)).bind fun y293 => (if y293.length + t281.length < 17592186044416 then ((some (y293 ++ t281 : List Int)).bind fun y296 => (if y296.length < 17592186044416 then ((impl_CodeOk.f kj22 (y296 ++ [15])).bind fun t302 => (some (t284 == (!t302)))) else (none))) else (none)))) else (some true))) = some r := by first | (rw [if_neg (show ¬ (false = true) by decide)] at H; exact H) | rfl
                          clear H
                          have H := H1
                          clear H1
                          replace H := Option.bind_eq_some_iff.mp H
                          obtain ⟨t292, A290, H⟩ := H
                          replace H : (if t292 = true then (if (t281.length : Int) ≥ 300 then (some true) else ((some (([] : List Int) : List Int)).bind fun y293 => (if y293.length + t281.length < 17592186044416 then ((some (y293 ++ t281 : List Int)).bind fun y296 => (if y296.length < 17592186044416 then ((impl_CodeOk.f kj22 (y296 ++ [15])).bind fun t302 => (some (t284 == (!t302)))) else (none))) else (none)))) else (some true)) = some r := H
                          have A29 := Aside0.mk A290
                          clear A290
                          by_cases c30 : t292 = true
                          · subst c30
                            have H1 : (if (t281.length : Int) ≥ 300 then (some true) else ((some (([] : List Int) : List Int)).bind fun y293 => (if y293.length + t281.length < 17592186044416 then ((some (y293 ++ t281 : List Int)).bind fun y296 => (if y296.length < 17592186044416 then ((impl_CodeOk.f kj22 (y296 ++ [15])).bind fun t302 => (some (t284 == (!t302)))) else (none))) else (none)))) = some r := by first | (rw [if_pos rfl] at H; exact H) | rfl
                            clear H
                            have H := H1
                            clear H1
                            by_cases c31 : (t281.length : Int) ≥ 300
                            · rw [if_pos c31] at H
                              have c31b0 : decide (300 ≤ (t281.length : Int)) = true := decide_eq_true c31
                              have c31b1 : decide (300 ≤ t281.length) = true := decide_eq_true (by omega)
                              clear c31
                              obtain rfl := Option.some.inj H
                              go_wp2_with (first | ((with_reducible refine gate_callee (f := 26) rfl ?_); refine goesL_ (some 63) rfl rfl Try.func26 (by kernel_rfl) rfl #[.slice Ao10 t281.length co10] rfl (by (try simp only [List.map_toArray, List.map_cons, List.map_nil]); first | done | rfl | (simp only [List.length_drop, List.length_take]; rfl)) ?_; (with_reducible refine (spec_CodeOk.calls kj22 _ _ t281 true _ ?side1 ?side2 A29.out).mono ?_); (case side1 => repeat (first | exact (Kd.R_reads' HO_5.out).2.2 | (with_reducible refine Kd.C_alloc ?_ _) | (with_reducible refine Kd.C_drewN ?_ _) | (with_reducible refine Kd.C_drew ?_))); (case side2 => exact (Kd.R_reads' HO_5.out).2.1); rintro e w' ⟨rfl, ⟨nd, rfl⟩⟩; refine ⟨_, rfl, ?_⟩))
                              go_ret
                              exact ⟨by first | rfl | (simp [errW_none, errW_some] <;> rfl) | (simp [*, errW_none, errW_some] <;> rfl), by repeat (first | (with_reducible first | exact HB.out | apply below_alloc | apply pw_below_drewN | apply below_drew1) | exact HB.out)⟩
                            · rw [if_neg c31] at H
                              have c31b0 : decide (300 ≤ (t281.length : Int)) = false := decide_eq_false c31
                              have c31b1 : decide (300 ≤ t281.length) = false := decide_eq_false (by omega)
                              clear c31
                              obtain ⟨y293, hy293⟩ : ∃ y_ : List Int, y_ = (([] : List Int)) := ⟨_, rfl⟩
                              replace H : (if y293.length + t281.length < 17592186044416 then ((some (y293 ++ t281 : List Int)).bind fun y296 => (if y296.length < 17592186044416 then ((impl_CodeOk.f kj22 (y296 ++ [15])).bind fun t302 => (some (t284 == (!t302)))) else (none))) else (none)) = some r := by first | (rw [hy293]; with_reducible exact H) | (have H2_ := (Option.bind_some _ _).symm.trans H; rw [hy293]; with_reducible exact H2_) | (have H2_ := (Option.bind_some _ _).symm.trans H; with_reducible exact H2_) | with_reducible exact H | (rw [hy293]; exact H) | exact H
                              have Ny293 := Aside0.mk hy293
                              clear hy293
                              by_cases c32 : y293.length + t281.length < 17592186044416
                              · rw [if_pos c32] at H
                                have LMc32 := Aside0.mk c32
                                clear c32
                                obtain ⟨y296, hy296⟩ : ∃ y_ : List Int, y_ = (y293 ++ t281) := ⟨_, rfl⟩
                                replace H : (if y296.length < 17592186044416 then ((impl_CodeOk.f kj22 (y296 ++ [15])).bind fun t302 => (some (t284 == (!t302)))) else (none)) = some r := by first | (rw [hy296]; with_reducible exact H) | (have H2_ := (Option.bind_some _ _).symm.trans H; rw [hy296]; with_reducible exact H2_) | (have H2_ := (Option.bind_some _ _).symm.trans H; with_reducible exact H2_) | with_reducible exact H | (rw [hy296]; exact H) | exact H
                                have Ny296 := Aside0.mk hy296
                                clear hy296
                                by_cases c33 : y296.length < 17592186044416
                                · rw [if_pos c33] at H
                                  have LMc33 := Aside0.mk c33
                                  clear c33
                                  obtain ⟨y299, hy299⟩ : ∃ y_ : List Int, y_ = (y296 ++ [15]) := ⟨_, rfl⟩
                                  replace H : ((impl_CodeOk.f kj22 y299).bind fun t302 => (some (t284 == (!t302)))) = some r := by first | (rw [hy299]; with_reducible exact H) | (have H2_ := (Option.bind_some _ _).symm.trans H; rw [hy299]; with_reducible exact H2_) | (have H2_ := (Option.bind_some _ _).symm.trans H; with_reducible exact H2_) | with_reducible exact H | (rw [hy299]; exact H) | exact H
                                  have Ny299 := Aside0.mk hy299
                                  clear hy299
                                  replace H := Option.bind_eq_some_iff.mp H
                                  obtain ⟨t302, A340, H⟩ := H
                                  replace H : (some (t284 == (!t302))) = some r := H
                                  have A34 := Aside0.mk A340
                                  clear A340
                                  obtain rfl := Option.some.inj H
                                  go_wp2_with (first | ((with_reducible refine gate_callee (f := 26) rfl ?_); refine goesL_ (some 63) rfl rfl Try.func26 (by kernel_rfl) rfl #[.slice Ao10 t281.length co10] rfl (by (try simp only [List.map_toArray, List.map_cons, List.map_nil]); first | done | rfl | (simp only [List.length_drop, List.length_take]; rfl)) ?_; (with_reducible refine (spec_CodeOk.calls kj22 _ _ t281 true _ ?side1 ?side2 A29.out).mono ?_); (case side1 => repeat (first | exact (Kd.R_reads' HO_5.out).2.2 | (with_reducible refine Kd.C_alloc ?_ _) | (with_reducible refine Kd.C_drewN ?_ _) | (with_reducible refine Kd.C_drew ?_))); (case side2 => exact (Kd.R_reads' HO_5.out).2.1); rintro e w' ⟨rfl, ⟨nd, rfl⟩⟩; refine ⟨_, rfl, ?_⟩) | ((with_reducible refine gate_dst (N := 72) rfl ?_); (try (refine gate_guard (by rfl) ?_; dsimp only)); refine Kd.R_lit (Kd.int .i64) _ 3 ?hg (N := 72) ?hd (xs := ([] : List Int)) (inner := []) (ok := fun _ => True) (okp := fun _ => True) ?hr ?hp (fun _ hk => hk) trivial (Below.refl _ _) (Nat.le_refl _) (by simp) ?_; (case hd => rfl); (case hg => rfl); (case hr => first | (go_simp; done) | (go_simp; rfl)); (case hp => exact (Reps.none _ _)); intro v294 w35 ho36 hb hg_ hnew_; clear hg_ hnew_; (first | rw [← Ny293.out] at ho36 | (simp only [Int.reduceToNat] at ho36; rw [← Ny293.out] at ho36)); have n0_ := Aside0.mk (Kd.R_elder' (by (with_reducible repeat (first | apply Kd.R_alloc | apply Kd.R_drewN | apply Kd.R_drew)); exact HO_5.out) (Kd.R_base ho36) hb); have n1_ := Aside0.mk (Kd.R_lower (Kd.R_new' ho36 (Kd.R_lt (by (with_reducible repeat (first | apply Kd.R_alloc | apply Kd.R_drewN | apply Kd.R_drew)); exact HO_5.out))) (below_size (by repeat (first | (with_reducible first | exact HB.out | apply below_alloc | apply pw_below_drewN | apply below_drew1) | exact HB.out)))); have n2_ := Aside0.mk (below_step (by repeat (first | (with_reducible first | exact HB.out | apply below_alloc | apply pw_below_drewN | apply below_drew1) | exact HB.out)) hb); clear HO_5; clear HB; have HO_5 := n0_; have HO295 := n1_; have HB := n2_; clear n0_ n1_ n2_; clear hb ho36) | ((with_reducible refine gate_builtin (b := .append) (xs := #[.tmp 72, .tmp 73]) rfl ?_); (try (refine gate_guard (by rfl) ?_; dsimp only)); at_builtin; refine Kd.R_append_rows (Kd.int .i64) (w0 := w) w.heap.size rfl (.tmp 72) (.tmp 73) 22 3 (.int .i64 0) 8 rfl Try.underlying22 info3 rfl (by decide) (by omega) v294 y293 t281 _ _ _ (fun k_ => some k_ ≠ (.slice Ao10 t281.length co10 : Value).ownBlock) (fun _ => False) rfl rfl ?aO ?aR (fun _ _ h => h) (fun _ h => h.elim) ?aF ?aB ?aS ?aL ?_; (case aR => repeat (first | exact (Kd.R_reads' HO_5.out).2.2 | (with_reducible refine Kd.C_alloc ?_ _) | (with_reducible refine Kd.C_drewN ?_ _) | (with_reducible refine Kd.C_drew ?_))); (case aB => exact (by repeat (first | (with_reducible first | exact HB.out | apply below_alloc | apply pw_below_drewN | apply below_drew1) | exact HB.out))); (case aF => exact (fun k_ hk => Kd.fresh' (Kd.R_lt (by (with_reducible repeat (first | apply Kd.R_alloc | apply Kd.R_drewN | apply Kd.R_drew)); exact HO_5.out)) k_ hk)); (case aO => exact (by (with_reducible repeat (first | apply Kd.R_alloc | apply Kd.R_drewN | apply Kd.R_drew)); exact Kd.R_mono HO295.out (fun _ hk => hk.2))); (case aS => exact (below_size (by repeat (first | (with_reducible first | exact HB.out | apply below_alloc | apply pw_below_drewN | apply below_drew1) | exact HB.out)))); (case aL => have := LMc32.out; omega); intro v297 w37 ho hb hg hat; rw [← Ny296.out] at ho; have n0_ := Aside0.mk (Kd.R_after (ok := (fun _ => True)) (by (with_reducible repeat (first | apply Kd.R_alloc | apply Kd.R_drewN | apply Kd.R_drew)); exact HO_5.out) hg hat); have n1_ := Aside0.mk (hb); have n2_ := Aside0.mk (ho); clear HO_5; clear HB; clear HO295; have HO_5 := n0_; have HB := n1_; have HO298 := n2_; clear n0_ n1_ n2_; clear ho hb hg hat) | ((with_reducible refine gate_builtin (b := .append) (xs := #[.tmp 74, .tmp 75]) rfl ?_); (try (refine gate_guard (by rfl) ?_; dsimp only)); at_builtin; refine Kd.R_append (Kd.int .i64) (w0 := w) w.heap.size rfl (.tmp 74) (.tmp 75) 22 3 (.int .i64 0) 8 rfl Try.underlying22 info3 rfl (by decide) (by omega) v297 y296 15 [.int .i64 15] (fun k_ => some k_ ≠ (.slice Ao10 t281.length co10 : Value).ownBlock) (fun _ => False) rfl rfl ?aP (fun _ hk => hk.elim) ?aF ?aO ?aB ?aS ?aL ?_; (case aP => exact rfl); (case aB => exact (by repeat (first | (with_reducible first | exact HB.out | apply below_alloc | apply pw_below_drewN | apply below_drew1) | exact HB.out))); (case aF => exact (fun k_ hk => Kd.fresh' (Kd.R_lt (by (with_reducible repeat (first | apply Kd.R_alloc | apply Kd.R_drewN | apply Kd.R_drew)); exact HO_5.out)) k_ hk)); (case aO => exact (by (with_reducible repeat (first | apply Kd.R_alloc | apply Kd.R_drewN | apply Kd.R_drew)); exact HO298.out)); (case aS => exact (below_size (by repeat (first | (with_reducible first | exact HB.out | apply below_alloc | apply pw_below_drewN | apply below_drew1) | exact HB.out)))); (case aL => have := LMc33.out; omega); intro v300 w38 ho hb hg hat; rw [← Ny299.out] at ho; have n0_ := Aside0.mk (Kd.R_after (ok := (fun _ => True)) (by (with_reducible repeat (first | apply Kd.R_alloc | apply Kd.R_drewN | apply Kd.R_drew)); exact HO_5.out) hg hat); have n1_ := Aside0.mk (hb); have n2_ := Aside0.mk (ho); clear HO_5; clear HB; clear HO298; have HO_5 := n0_; have HB := n1_; have HO301 := n2_; clear n0_ n1_ n2_; clear ho hb hg hat; obtain ⟨Ao39, co39, eo39⟩ := Kd.R_slice HO301.out; subst eo39) | (go_at_call 18; (with_reducible refine (impl_CodeOk.calls kj22 _ _ y299 t302 _ ?side1 ?side2 A34.out).mono ?_); (case side1 => repeat (first | exact (Kd.R_reads' HO301.out).2.2 | (with_reducible refine Kd.C_alloc ?_ _) | (with_reducible refine Kd.C_drewN ?_ _) | (with_reducible refine Kd.C_drew ?_))); (case side2 => exact (Kd.R_reads' HO301.out).2.1); rintro e w' ⟨rfl, ⟨nd, rfl⟩⟩))
                                  go_ret
                                  exact ⟨by first | rfl | (simp [errW_none, errW_some] <;> rfl) | (simp [*, errW_none, errW_some] <;> rfl), by repeat (first | (with_reducible first | exact HB.out | apply below_alloc | apply pw_below_drewN | apply below_drew1) | exact HB.out)⟩
                                · rw [if_neg c33] at H
                                  exact absurd H (by simp)
                              · rw [if_neg c32] at H
                                exact absurd H (by simp)
                          · replace c30 := Bool.eq_false_iff.mpr c30
                            subst c30
                            have H1 : (some true) = some r := by first | (rw [if_neg (show ¬ (false = true) by decide)] at H; exact H) | rfl
                            clear H
                            have H := H1
                            clear H1
                            obtain rfl := Option.some.inj H
                            go_wp2_with (first | ((with_reducible refine gate_callee (f := 26) rfl ?_); refine goesL_ (some 63) rfl rfl Try.func26 (by kernel_rfl) rfl #[.slice Ao10 t281.length co10] rfl (by (try simp only [List.map_toArray, List.map_cons, List.map_nil]); first | done | rfl | (simp only [List.length_drop, List.length_take]; rfl)) ?_; (with_reducible refine (spec_CodeOk.calls kj22 _ _ t281 false _ ?side1 ?side2 A29.out).mono ?_); (case side1 => repeat (first | exact (Kd.R_reads' HO_5.out).2.2 | (with_reducible refine Kd.C_alloc ?_ _) | (with_reducible refine Kd.C_drewN ?_ _) | (with_reducible refine Kd.C_drew ?_))); (case side2 => exact (Kd.R_reads' HO_5.out).2.1); rintro e w' ⟨rfl, ⟨nd, rfl⟩⟩; refine ⟨_, rfl, ?_⟩))
                            go_ret
                            exact ⟨by first | rfl | (simp [errW_none, errW_some] <;> rfl) | (simp [*, errW_none, errW_some] <;> rfl), by repeat (first | (with_reducible first | exact HB.out | apply below_alloc | apply pw_below_drewN | apply below_drew1) | exact HB.out)⟩
                  · replace c21 := Bool.eq_false_iff.mpr c21
                    subst c21
                    have H1 : ((spec_CodeOk.f kj16 t281).bind fun t303 => (if t303 = true then (if (t281.length : Int) ≥ 300 then (some true) else ((some (([] : List Int) : List Int)).bind fun y304 => (if y304.length + t281.length < 17592186044416 then ((some (y304 ++ t281 : List Int)).bind fun y307 => (if y307.length < 17592186044416 then ((impl_CodeOk.f kj16 (y307 ++ [15])).bind fun t313 => (some (t284 == (!t313)))) else (none))) else (none)))) else (some true))) = some r := by first | (rw [if_neg (show ¬ (false = true) by decide)] at H; exact H) | rfl
                    clear H
                    have H := H1
                    clear H1
                    replace H := Option.bind_eq_some_iff.mp H
                    obtain ⟨t303, A400, H⟩ := H
                    replace H : (if t303 = true then (if (t281.length : Int) ≥ 300 then (some true) else ((some (([] : List Int) : List Int)).bind fun y304 => (if y304.length + t281.length < 17592186044416 then ((some (y304 ++ t281 : List Int)).bind fun y307 => (if y307.length < 17592186044416 then ((impl_CodeOk.f kj16 (y307 ++ [15])).bind fun t313 => (some (t284 == (!t313)))) else (none))) else (none)))) else (some true)) = some r := H
                    have A40 := Aside0.mk A400
                    clear A400
                    by_cases c41 : t303 = true
                    · subst c41
                      have H1 : (if (t281.length : Int) ≥ 300 then (some true) else ((some (([] : List Int) : List Int)).bind fun y304 => (if y304.length + t281.length < 17592186044416 then ((some (y304 ++ t281 : List Int)).bind fun y307 => (if y307.length < 17592186044416 then ((impl_CodeOk.f kj16 (y307 ++ [15])).bind fun t313 => (some (t284 == (!t313)))) else (none))) else (none)))) = some r := by first | (rw [if_pos rfl] at H; exact H) | rfl
                      clear H
                      have H := H1
                      clear H1
                      by_cases c42 : (t281.length : Int) ≥ 300
                      · rw [if_pos c42] at H
                        have c42b0 : decide (300 ≤ (t281.length : Int)) = true := decide_eq_true c42
                        have c42b1 : decide (300 ≤ t281.length) = true := decide_eq_true (by omega)
                        clear c42
                        obtain rfl := Option.some.inj H
                        go_wp2_with (first | ((with_reducible refine gate_callee (f := 26) rfl ?_); refine goesL_ (some 63) rfl rfl Try.func26 (by kernel_rfl) rfl #[.slice Ao10 t281.length co10] rfl (by (try simp only [List.map_toArray, List.map_cons, List.map_nil]); first | done | rfl | (simp only [List.length_drop, List.length_take]; rfl)) ?_; (with_reducible refine (spec_CodeOk.calls kj16 _ _ t281 true _ ?side1 ?side2 A40.out).mono ?_); (case side1 => repeat (first | exact (Kd.R_reads' HO_5.out).2.2 | (with_reducible refine Kd.C_alloc ?_ _) | (with_reducible refine Kd.C_drewN ?_ _) | (with_reducible refine Kd.C_drew ?_))); (case side2 => exact (Kd.R_reads' HO_5.out).2.1); rintro e w' ⟨rfl, ⟨nd, rfl⟩⟩; refine ⟨_, rfl, ?_⟩))
                        go_ret
                        exact ⟨by first | rfl | (simp [errW_none, errW_some] <;> rfl) | (simp [*, errW_none, errW_some] <;> rfl), by repeat (first | (with_reducible first | exact HB.out | apply below_alloc | apply pw_below_drewN | apply below_drew1) | exact HB.out)⟩
                      · rw [if_neg c42] at H
                        have c42b0 : decide (300 ≤ (t281.length : Int)) = false := decide_eq_false c42
                        have c42b1 : decide (300 ≤ t281.length) = false := decide_eq_false (by omega)
                        clear c42
                        obtain ⟨y304, hy304⟩ : ∃ y_ : List Int, y_ = (([] : List Int)) := ⟨_, rfl⟩
                        replace H : (if y304.length + t281.length < 17592186044416 then ((some (y304 ++ t281 : List Int)).bind fun y307 => (if y307.length < 17592186044416 then ((impl_CodeOk.f kj16 (y307 ++ [15])).bind fun t313 => (some (t284 == (!t313)))) else (none))) else (none)) = some r := by first | (rw [hy304]; with_reducible exact H) | (have H2_ := (Option.bind_some _ _).symm.trans H; rw [hy304]; with_reducible exact H2_) | (have H2_ := (Option.bind_some _ _).symm.trans H; with_reducible exact H2_) | with_reducible exact H | (rw [hy304]; exact H) | exact H
                        have Ny304 := Aside0.mk hy304
                        clear hy304
                        by_cases c43 : y304.length + t281.length < 17592186044416
                        · rw [if_pos c43] at H
                          have LMc43 := Aside0.mk c43
                          clear c43
                          obtain ⟨y307, hy307⟩ : ∃ y_ : List Int, y_ = (y304 ++ t281) := ⟨_, rfl⟩
                          replace H : (if y307.length < 17592186044416 then ((impl_CodeOk.f kj16 (y307 ++ [15])).bind fun t313 => (some (t284 == (!t313)))) else (none)) = some r := by first | (rw [hy307]; with_reducible exact H) | (have H2_ := (Option.bind_some _ _).symm.trans H; rw [hy307]; with_reducible exact H2_) | (have H2_ := (Option.bind_some _ _).symm.trans H; with_reducible exact H2_) | with_reducible exact H | (rw [hy307]; exact H) | exact H
                          have Ny307 := Aside0.mk hy307
                          clear hy307
                          by_cases c44 : y307.length < 17592186044416
                          · rw [if_pos c44] at H
                            have LMc44 := Aside0.mk c44
                            clear c44
                            obtain ⟨y310, hy310⟩ : ∃ y_ : List Int, y_ = (y307 ++ [15]) := ⟨_, rfl⟩
                            replace H : ((impl_CodeOk.f kj16 y310).bind fun t313 => (some (t284 == (!t313)))) = some r := by first | (rw [hy310]; with_reducible exact H) | (have H2_ := (Option.bind_some _ _).symm.trans H; rw [hy310]; with_reducible exact H2_) | (have H2_ := (Option.bind_some _ _).symm.trans H; with_reducible exact H2_) | with_reducible exact H | (rw [hy310]; exact H) | exact H
                            have Ny310 := Aside0.mk hy310
                            clear hy310
                            replace H := Option.bind_eq_some_iff.mp H
                            obtain ⟨t313, A450, H⟩ := H
                            replace H : (some (t284 == (!t313))) = some r := H
                            have A45 := Aside0.mk A450
                            clear A450
                            obtain rfl := Option.some.inj H
                            go_wp2_with (first | ((with_reducible refine gate_callee (f := 26) rfl ?_); refine goesL_ (some 63) rfl rfl Try.func26 (by kernel_rfl) rfl #[.slice Ao10 t281.length co10] rfl (by (try simp only [List.map_toArray, List.map_cons, List.map_nil]); first | done | rfl | (simp only [List.length_drop, List.length_take]; rfl)) ?_; (with_reducible refine (spec_CodeOk.calls kj16 _ _ t281 true _ ?side1 ?side2 A40.out).mono ?_); (case side1 => repeat (first | exact (Kd.R_reads' HO_5.out).2.2 | (with_reducible refine Kd.C_alloc ?_ _) | (with_reducible refine Kd.C_drewN ?_ _) | (with_reducible refine Kd.C_drew ?_))); (case side2 => exact (Kd.R_reads' HO_5.out).2.1); rintro e w' ⟨rfl, ⟨nd, rfl⟩⟩; refine ⟨_, rfl, ?_⟩) | ((with_reducible refine gate_dst (N := 72) rfl ?_); (try (refine gate_guard (by rfl) ?_; dsimp only)); refine Kd.R_lit (Kd.int .i64) _ 3 ?hg (N := 72) ?hd (xs := ([] : List Int)) (inner := []) (ok := fun _ => True) (okp := fun _ => True) ?hr ?hp (fun _ hk => hk) trivial (Below.refl _ _) (Nat.le_refl _) (by simp) ?_; (case hd => rfl); (case hg => rfl); (case hr => first | (go_simp; done) | (go_simp; rfl)); (case hp => exact (Reps.none _ _)); intro v305 w46 ho47 hb hg_ hnew_; clear hg_ hnew_; (first | rw [← Ny304.out] at ho47 | (simp only [Int.reduceToNat] at ho47; rw [← Ny304.out] at ho47)); have n0_ := Aside0.mk (Kd.R_elder' (by (with_reducible repeat (first | apply Kd.R_alloc | apply Kd.R_drewN | apply Kd.R_drew)); exact HO_5.out) (Kd.R_base ho47) hb); have n1_ := Aside0.mk (Kd.R_lower (Kd.R_new' ho47 (Kd.R_lt (by (with_reducible repeat (first | apply Kd.R_alloc | apply Kd.R_drewN | apply Kd.R_drew)); exact HO_5.out))) (below_size (by repeat (first | (with_reducible first | exact HB.out | apply below_alloc | apply pw_below_drewN | apply below_drew1) | exact HB.out)))); have n2_ := Aside0.mk (below_step (by repeat (first | (with_reducible first | exact HB.out | apply below_alloc | apply pw_below_drewN | apply below_drew1) | exact HB.out)) hb); clear HO_5; clear HB; have HO_5 := n0_; have HO306 := n1_; have HB := n2_; clear n0_ n1_ n2_; clear hb ho47) | ((with_reducible refine gate_builtin (b := .append) (xs := #[.tmp 72, .tmp 73]) rfl ?_); (try (refine gate_guard (by rfl) ?_; dsimp only)); at_builtin; refine Kd.R_append_rows (Kd.int .i64) (w0 := w) w.heap.size rfl (.tmp 72) (.tmp 73) 22 3 (.int .i64 0) 8 rfl Try.underlying22 info3 rfl (by decide) (by omega) v305 y304 t281 _ _ _ (fun k_ => some k_ ≠ (.slice Ao10 t281.length co10 : Value).ownBlock) (fun _ => False) rfl rfl ?aO ?aR (fun _ _ h => h) (fun _ h => h.elim) ?aF ?aB ?aS ?aL ?_; (case aR => repeat (first | exact (Kd.R_reads' HO_5.out).2.2 | (with_reducible refine Kd.C_alloc ?_ _) | (with_reducible refine Kd.C_drewN ?_ _) | (with_reducible refine Kd.C_drew ?_))); (case aB => exact (by repeat (first | (with_reducible first | exact HB.out | apply below_alloc | apply pw_below_drewN | apply below_drew1) | exact HB.out))); (case aF => exact (fun k_ hk => Kd.fresh' (Kd.R_lt (by (with_reducible repeat (first | apply Kd.R_alloc | apply Kd.R_drewN | apply Kd.R_drew)); exact HO_5.out)) k_ hk)); (case aO => exact (by (with_reducible repeat (first | apply Kd.R_alloc | apply Kd.R_drewN | apply Kd.R_drew)); exact Kd.R_mono HO306.out (fun _ hk => hk.2))); (case aS => exact (below_size (by repeat (first | (with_reducible first | exact HB.out | apply below_alloc | apply pw_below_drewN | apply below_drew1) | exact HB.out)))); (case aL => have := LMc43.out; omega); intro v308 w48 ho hb hg hat; rw [← Ny307.out] at ho; have n0_ := Aside0.mk (Kd.R_after (ok := (fun _ => True)) (by (with_reducible repeat (first | apply Kd.R_alloc | apply Kd.R_drewN | apply Kd.R_drew)); exact HO_5.out) hg hat); have n1_ := Aside0.mk (hb); have n2_ := Aside0.mk (ho); clear HO_5; clear HB; clear HO306; have HO_5 := n0_; have HB := n1_; have HO309 := n2_; clear n0_ n1_ n2_; clear ho hb hg hat) | ((with_reducible refine gate_builtin (b := .append) (xs := #[.tmp 74, .tmp 75]) rfl ?_); (try (refine gate_guard (by rfl) ?_; dsimp only)); at_builtin; refine Kd.R_append (Kd.int .i64) (w0 := w) w.heap.size rfl (.tmp 74) (.tmp 75) 22 3 (.int .i64 0) 8 rfl Try.underlying22 info3 rfl (by decide) (by omega) v308 y307 15 [.int .i64 15] (fun k_ => some k_ ≠ (.slice Ao10 t281.length co10 : Value).ownBlock) (fun _ => False) rfl rfl ?aP (fun _ hk => hk.elim) ?aF ?aO ?aB ?aS ?aL ?_; (case aP => exact rfl); (case aB => exact (by repeat (first | (with_reducible first | exact HB.out | apply below_alloc | apply pw_below_drewN | apply below_drew1) | exact HB.out))); (case aF => exact (fun k_ hk => Kd.fresh' (Kd.R_lt (by (with_reducible repeat (first | apply Kd.R_alloc | apply Kd.R_drewN | apply Kd.R_drew)); exact HO_5.out)) k_ hk)); (case aO => exact (by (with_reducible repeat (first | apply Kd.R_alloc | apply Kd.R_drewN | apply Kd.R_drew)); exact HO309.out)); (case aS => exact (below_size (by repeat (first | (with_reducible first | exact HB.out | apply below_alloc | apply pw_below_drewN | apply below_drew1) | exact HB.out)))); (case aL => have := LMc44.out; omega); intro v311 w49 ho hb hg hat; rw [← Ny310.out] at ho; have n0_ := Aside0.mk (Kd.R_after (ok := (fun _ => True)) (by (with_reducible repeat (first | apply Kd.R_alloc | apply Kd.R_drewN | apply Kd.R_drew)); exact HO_5.out) hg hat); have n1_ := Aside0.mk (hb); have n2_ := Aside0.mk (ho); clear HO_5; clear HB; clear HO309; have HO_5 := n0_; have HB := n1_; have HO312 := n2_; clear n0_ n1_ n2_; clear ho hb hg hat; obtain ⟨Ao50, co50, eo50⟩ := Kd.R_slice HO312.out; subst eo50) | (go_at_call 18; (with_reducible refine (impl_CodeOk.calls kj16 _ _ y310 t313 _ ?side1 ?side2 A45.out).mono ?_); (case side1 => repeat (first | exact (Kd.R_reads' HO312.out).2.2 | (with_reducible refine Kd.C_alloc ?_ _) | (with_reducible refine Kd.C_drewN ?_ _) | (with_reducible refine Kd.C_drew ?_))); (case side2 => exact (Kd.R_reads' HO312.out).2.1); rintro e w' ⟨rfl, ⟨nd, rfl⟩⟩))
                            go_ret
                            exact ⟨by first | rfl | (simp [errW_none, errW_some] <;> rfl) | (simp [*, errW_none, errW_some] <;> rfl), by repeat (first | (with_reducible first | exact HB.out | apply below_alloc | apply pw_below_drewN | apply below_drew1) | exact HB.out)⟩
                          · rw [if_neg c44] at H
                            exact absurd H (by simp)
                        · rw [if_neg c43] at H
                          exact absurd H (by simp)
                    · replace c41 := Bool.eq_false_iff.mpr c41
                      subst c41
                      have H1 : (some true) = some r := by first | (rw [if_neg (show ¬ (false = true) by decide)] at H; exact H) | rfl
                      clear H
                      have H := H1
                      clear H1
                      obtain rfl := Option.some.inj H
                      go_wp2_with (first | ((with_reducible refine gate_callee (f := 26) rfl ?_); refine goesL_ (some 63) rfl rfl Try.func26 (by kernel_rfl) rfl #[.slice Ao10 t281.length co10] rfl (by (try simp only [List.map_toArray, List.map_cons, List.map_nil]); first | done | rfl | (simp only [List.length_drop, List.length_take]; rfl)) ?_; (with_reducible refine (spec_CodeOk.calls kj16 _ _ t281 false _ ?side1 ?side2 A40.out).mono ?_); (case side1 => repeat (first | exact (Kd.R_reads' HO_5.out).2.2 | (with_reducible refine Kd.C_alloc ?_ _) | (with_reducible refine Kd.C_drewN ?_ _) | (with_reducible refine Kd.C_drew ?_))); (case side2 => exact (Kd.R_reads' HO_5.out).2.1); rintro e w' ⟨rfl, ⟨nd, rfl⟩⟩; refine ⟨_, rfl, ?_⟩))
                      go_ret
                      exact ⟨by first | rfl | (simp [errW_none, errW_some] <;> rfl) | (simp [*, errW_none, errW_some] <;> rfl), by repeat (first | (with_reducible first | exact HB.out | apply below_alloc | apply pw_below_drewN | apply below_drew1) | exact HB.out)⟩

/-- THE ONE PURE STATEMENT of laws_FnCodeFull: yours. -/
def laws_FnCodeFull.Pure : Prop := ∀ (l0 : List Int) (l1 : List Int), l0.length ≤ maxLen → l0.length * 1 ≤ 140737488351232 → (∀ x ∈ l0, (Lit.int .u8 x).wf = true) → l1.length ≤ maxLen → l1.length * 1 ≤ 140737488351232 → (∀ x ∈ l1, (Lit.int .u8 x).wf = true) → ∃ k, laws_FnCodeFull.f k l0 l1 = some true
theorem laws_FnCodeFull.walk (P : laws_FnCodeFull.Pure) (a0 : Option Addr) (len0 cap0 : Nat) (z0 : List Int) (a1 : Option Addr) (len1 cap1 : Nat) (z1 : List Int) (w : World) (w0 : (a0 = none ∧ len0 = 0 ∧ cap0 = 0 ∧ z0 = []) ∨ ∃ x, a0 = some x ∧ len0 ≤ cap0 ∧ cap0 ≤ maxLen ∧ z0.length = cap0 ∧ (∀ i, i < z0.length → w.cell? (x.add i) = some (.int .u8 (z0.getD i 0))) ∧ ∀ n ∈ z0, (Lit.int .u8 n).wf = true) (y0 : len0 * 1 ≤ 140737488351232) (w1 : (a1 = none ∧ len1 = 0 ∧ cap1 = 0 ∧ z1 = []) ∨ ∃ x, a1 = some x ∧ len1 ≤ cap1 ∧ cap1 ≤ maxLen ∧ z1.length = cap1 ∧ (∀ i, i < z1.length → w.cell? (x.add i) = some (.int .u8 (z1.getD i 0))) ∧ ∀ n ∈ z1, (Lit.int .u8 n).wf = true) (y1 : len1 * 1 ≤ 140737488351232) :
    Calls Try.prog 9 #[.slice a0 len0 cap0, .slice a1 len1 cap1] w fun e w' => e = .returned (.bool true) ∧ Below w.heap.size w w' := by
  obtain ⟨l0, rfl, hr0, hm0, hw0, hc0⟩ := ReadsInt.ofRowC w0
  obtain ⟨l1, rfl, hr1, hm1, hw1, hc1⟩ := ReadsInt.ofRowC w1
  obtain ⟨k, h⟩ := P l0 l1 hm0 y0 hw0 hm1 y1 hw1
  refine (laws_FnCodeFull.calls k _ _ l0 _ _ l1 true w (Kd.C_of_reads (d := (0 : Int)) (h1 := fun _ => rfl) hr0) hc0 (Kd.C_of_reads (d := (0 : Int)) (h1 := fun _ => rfl) hr1) hc1 h).mono ?_
  rintro e w' ⟨rfl, hd⟩
  exact ⟨rfl, hd⟩

end Go.Proofs.Ytgajagocenffeaa.PFnCodeFull
