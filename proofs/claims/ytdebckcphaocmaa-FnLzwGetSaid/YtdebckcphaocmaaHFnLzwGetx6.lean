/- What the functions that the law comes to compute, as plain functions, and that the machine's calls come to just that: written by a program for this claim, and turned where Lean did not take it. No condition. -/
import Derived.Test.YtdebckcphaocmaaThRowZ
import Derived.Test.YtdebckcphaocmaaHFnLzwGetx0
import Derived.Test.YtdebckcphaocmaaHFnLzwGetx1
import Derived.Test.YtdebckcphaocmaaHFnLzwGetx2
import Derived.Test.YtdebckcphaocmaaHFnLzwGetx3
import Derived.Test.YtdebckcphaocmaaHFnLzwGetx4
import Derived.Test.YtdebckcphaocmaaHFnLzwGetx5
namespace Go.Proofs.Ytdebckcphaocmaa.PFnLzwGet
open Go.RowKit Go.Proofs.YtdebckcphaocmaaW.PrintWords Go.Proofs.YtdebckcphaocmaaW.PrintLast Go.Proofs.YtdebckcphaocmaaW.PrintMore
attribute [local go_sem] max2_int min2_int max_two min_two max_three min_three max_four min_four   -- for this text's walks alone
set_option linter.unusedVariables false
set_option linter.unusedSimpArgs false

/-! ### spec_LzwPut: function 16 -/
def spec_LzwPut.j0 : Nat → ByteArray → Int → Bool → Bool → Option (ByteArray)
  | 0, _, _, _, _ => none
  | k + 1, x0, x1, x2, x21 => if x21 = true then (some (⟨#[]⟩ : ByteArray)) else ((spec_l6Put.f k x0 x1 x2).bind fun t271 => ((spec_l1Put.f k t271 x2).bind fun t274 => (some t274)))
def spec_LzwPut.f (k : Nat) (a0 : ByteArray) (a1 : Int) (a2 : Bool) : Option (ByteArray) := (spec_l6Ok.f a1 a2).bind fun t269 => (if t269 = true then (if (a0.size : Int) > 5000 then (spec_LzwPut.j0 k a0 a1 a2 true) else ((spec_l6Fits.f k a0 a1).bind fun t270 => (spec_LzwPut.j0 k a0 a1 a2 (!t270)))) else (spec_LzwPut.j0 k a0 a1 a2 true))
theorem spec_LzwPut.mono_l : ∀ k, (∀ y0 y1 y2 y3, LeO (spec_LzwPut.j0 k y0 y1 y2 y3) (spec_LzwPut.j0 (k + 1) y0 y1 y2 y3))
  | 0 => fun _ _ _ _ r h => by simp [spec_LzwPut.j0] at h
  | k + 1 => by
    have ih0 := spec_LzwPut.mono_l k
    · intro y0 y1 y2 y3
      unfold spec_LzwPut.j0
      repeat' first
      | (with_reducible exact ih0 _ _ _ _)
      | (with_reducible exact spec_l1Put.mono _ _ _)
      | (with_reducible exact spec_l6Fits.mono _ _ _)
      | (with_reducible exact spec_l6Put.mono _ _ _ _)
      | (with_reducible exact LeO.refl _)
      | (with_reducible exact LeO.none _)
      | (with_reducible refine LeO.ite ?_ ?_)
      | (with_reducible refine LeO.bind ?_ (fun _ => ?_))
      | exact ih0 _ _ _ _
      | exact spec_l1Put.mono _ _ _
      | exact spec_l6Fits.mono _ _ _
      | exact spec_l6Put.mono _ _ _ _
      | exact LeO.none _
      | refine LeO.ite ?_ ?_
      | refine LeO.bind ?_ (fun _ => ?_)
theorem spec_LzwPut.mono : ∀ a0 a1 a2 k, LeO (spec_LzwPut.f k a0 a1 a2) (spec_LzwPut.f (k + 1) a0 a1 a2) := by
  intro a0 a1 a2 k
  have ih0 := spec_LzwPut.mono_l k
  unfold spec_LzwPut.f
  repeat' first
      | (with_reducible exact ih0 _ _ _ _)
      | (with_reducible exact spec_l1Put.mono _ _ _)
      | (with_reducible exact spec_l6Fits.mono _ _ _)
      | (with_reducible exact spec_l6Put.mono _ _ _ _)
      | (with_reducible exact LeO.refl _)
      | (with_reducible exact LeO.none _)
      | (with_reducible refine LeO.ite ?_ ?_)
      | (with_reducible refine LeO.bind ?_ (fun _ => ?_))
      | exact ih0 _ _ _ _
      | exact spec_l1Put.mono _ _ _
      | exact spec_l6Fits.mono _ _ _
      | exact spec_l6Put.mono _ _ _ _
      | exact LeO.none _
      | refine LeO.ite ?_ ?_
      | refine LeO.bind ?_ (fun _ => ?_)
set_option maxHeartbeats 8000000 in
set_option maxRecDepth 100000 in
theorem spec_LzwPut.calls (k : Nat) (a0 : ByteArray) (a1 : Int) (a2 : Bool) (r : ByteArray) (w : World) (h : spec_LzwPut.f k a0 a1 a2 = some r) :
    Calls Try.prog 16 #[.string a0, .int .i64 a1, .bool a2] w fun e w' => e = .returned (.string r) ∧ Below w.heap.size w w' := by
  have HB := Aside0.mk (Below.refl w.heap.size w)
  have H : ((spec_l6Ok.f a1 a2).bind fun t269 => (if t269 = true then (if (a0.size : Int) > 5000 then (spec_LzwPut.j0 k a0 a1 a2 true) else ((spec_l6Fits.f k a0 a1).bind fun t270 => (spec_LzwPut.j0 k a0 a1 a2 (!t270)))) else (spec_LzwPut.j0 k a0 a1 a2 true))) = some r := h
  clear h
  have HC4 := Aside0.mk H
  clear H
  go_enter Try.func16, Try.ntmps16
  go_upto_region 1 with (fail)
  go_cut [21] (fun v21 wc => ∃ (kq : Nat) (x21_3 : Bool), v21 = .bool x21_3 ∧ Aside0 (spec_LzwPut.j0 kq a0 a1 a2 x21_3 = some r) ∧ Aside0 (kq ≤ k) ∧ Aside0 (Below w.heap.size w wc))
  case first =>
    have H := HC4.out
    clear HC4
    replace H := Option.bind_eq_some_iff.mp H
    obtain ⟨t269, A50, H⟩ := H
    replace H : (if t269 = true then (if (a0.size : Int) > 5000 then (spec_LzwPut.j0 k a0 a1 a2 true) else ((spec_l6Fits.f k a0 a1).bind fun t270 => (spec_LzwPut.j0 k a0 a1 a2 (!t270)))) else (spec_LzwPut.j0 k a0 a1 a2 true)) = some r := H
    have A5 := Aside0.mk A50
    clear A50
    by_cases c6 : t269 = true
    · subst c6
      have H1 : (if (a0.size : Int) > 5000 then (spec_LzwPut.j0 k a0 a1 a2 true) else ((spec_l6Fits.f k a0 a1).bind fun t270 => (spec_LzwPut.j0 k a0 a1 a2 (!t270)))) = some r := by first | (rw [if_pos rfl] at H; exact H) | rfl
      clear H
      have H := H1
      clear H1
      by_cases c7 : (a0.size : Int) > 5000
      · rw [if_pos c7] at H
        have c7b0 : decide (5000 < (a0.size : Int)) = true := decide_eq_true c7
        have c7b1 : decide (5000 < a0.size) = true := decide_eq_true (by omega)
        clear c7
        (first | rw [c7b0] | (simp only [i64_w, i32_w]; rw [c7b0]) | skip)
        have H' := Aside0.mk H
        clear H
        go_wp2_with (first | ((with_reducible refine gate_callee (f := 23) rfl ?_); refine goesL_ (some 9) rfl rfl Try.func23 (by kernel_rfl) rfl #[.int .i64 a1, .bool a2] rfl (by (try simp only [List.map_toArray, List.map_cons, List.map_nil]); first | done | rfl | (simp only [List.length_drop, List.length_take]; rfl)) ?_; (with_reducible refine (spec_l6Ok.calls a1 a2 true _ A5.out).mono ?_); rintro e w' ⟨rfl, ⟨nd, rfl⟩⟩; refine ⟨_, rfl, ?_⟩))
        go_meet
        case rel => exact ⟨_, (true), (by first | rfl | (simp; done) | (simp [*]; done)), H', ⟨by first | omega | exact Nat.le_refl _⟩, ⟨by repeat (first | (with_reducible first | exact HB.out | apply below_alloc | apply pw_below_drewN | apply below_drew1) | exact HB.out)⟩⟩
      · rw [if_neg c7] at H
        have c7b0 : decide (5000 < (a0.size : Int)) = false := decide_eq_false c7
        have c7b1 : decide (5000 < a0.size) = false := decide_eq_false (by omega)
        clear c7
        (first | rw [c7b0] | (simp only [i64_w, i32_w]; rw [c7b0]) | skip)
        replace H := Option.bind_eq_some_iff.mp H
        obtain ⟨t270, A80, H⟩ := H
        replace H : (spec_LzwPut.j0 k a0 a1 a2 (!t270)) = some r := H
        have A8 := Aside0.mk A80
        clear A80
        have H' := Aside0.mk H
        clear H
        go_wp2_with (first | ((with_reducible refine gate_callee (f := 23) rfl ?_); refine goesL_ (some 9) rfl rfl Try.func23 (by kernel_rfl) rfl #[.int .i64 a1, .bool a2] rfl (by (try simp only [List.map_toArray, List.map_cons, List.map_nil]); first | done | rfl | (simp only [List.length_drop, List.length_take]; rfl)) ?_; (with_reducible refine (spec_l6Ok.calls a1 a2 true _ A5.out).mono ?_); rintro e w' ⟨rfl, ⟨nd, rfl⟩⟩; refine ⟨_, rfl, ?_⟩) | (go_at_call 28; (with_reducible refine (spec_l6Fits.calls k a0 a1 t270 _ A8.out).mono ?_); rintro e w' ⟨rfl, ⟨nd, rfl⟩⟩))
        go_meet
        case rel => exact ⟨_, (!t270), (by first | rfl | (simp; done) | (simp [*]; done)), H', ⟨by first | omega | exact Nat.le_refl _⟩, ⟨by repeat (first | (with_reducible first | exact HB.out | apply below_alloc | apply pw_below_drewN | apply below_drew1) | exact HB.out)⟩⟩
    · replace c6 := Bool.eq_false_iff.mpr c6
      subst c6
      have H1 : (spec_LzwPut.j0 k a0 a1 a2 true) = some r := by first | (rw [if_neg (show ¬ (false = true) by decide)] at H; exact H) | rfl
      clear H
      have H := H1
      clear H1
      have H' := Aside0.mk H
      clear H
      go_wp2_with (first | ((with_reducible refine gate_callee (f := 23) rfl ?_); refine goesL_ (some 9) rfl rfl Try.func23 (by kernel_rfl) rfl #[.int .i64 a1, .bool a2] rfl (by (try simp only [List.map_toArray, List.map_cons, List.map_nil]); first | done | rfl | (simp only [List.length_drop, List.length_take]; rfl)) ?_; (with_reducible refine (spec_l6Ok.calls a1 a2 false _ A5.out).mono ?_); rintro e w' ⟨rfl, ⟨nd, rfl⟩⟩; refine ⟨_, rfl, ?_⟩))
      go_meet
      case rel => exact ⟨_, (true), (by first | rfl | (simp; done) | (simp [*]; done)), H', ⟨by first | omega | exact Nat.le_refl _⟩, ⟨by repeat (first | (with_reducible first | exact HB.out | apply below_alloc | apply pw_below_drewN | apply below_drew1) | exact HB.out)⟩⟩
  case rest =>
    clear HC4
    try clear c1
    try clear c2
    try clear p2
    try clear c6
    try clear c7
    try clear c7b0
    try clear c7b1
    obtain ⟨kq, x21_3, rfl, HA, HJ3, HB⟩ := hcut
    cases kq with
    | zero => exact absurd HA.out (by simp [spec_LzwPut.j0])
    | succ kj3 =>
      have H := HA.out
      clear HA
      simp only [spec_LzwPut.j0] at H
      by_cases c9 : x21_3 = true
      · subst c9
        have H1 : (some (⟨#[]⟩ : ByteArray)) = some r := by first | (rw [if_pos rfl] at H; exact H) | rfl
        clear H
        have H := H1
        clear H1
        obtain rfl := Option.some.inj H
        go_wp2
        go_ret
        exact ⟨by first | rfl | (simp [errW_none, errW_some] <;> rfl) | (simp [*, errW_none, errW_some] <;> rfl), by repeat (first | (with_reducible first | exact HB.out | apply below_alloc | apply pw_below_drewN | apply below_drew1) | exact HB.out)⟩
      · replace c9 := Bool.eq_false_iff.mpr c9
        subst c9
        have H1 : ((spec_l6Put.f kj3 a0 a1 a2).bind fun t271 => ((spec_l1Put.f kj3 t271 a2).bind fun t274 => (some t274))) = some r := by first | (rw [if_neg (show ¬ (false = true) by decide)] at H; exact H) | rfl
        clear H
        have H := H1
        clear H1
        replace H := Option.bind_eq_some_iff.mp H
        obtain ⟨t271, A100, H⟩ := H
        replace H : ((spec_l1Put.f kj3 t271 a2).bind fun t274 => (some t274)) = some r := H
        have A10 := Aside0.mk A100
        clear A100
        replace H := Option.bind_eq_some_iff.mp H
        obtain ⟨t274, A110, H⟩ := H
        replace H : (some t274) = some r := H
        have A11 := Aside0.mk A110
        clear A110
        obtain rfl := Option.some.inj H
        go_wp2_with (first | ((with_reducible refine gate_callee (f := 30) rfl ?_); refine goesL_ (some 25) rfl rfl Try.func30 (by kernel_rfl) rfl #[.string a0, .int .i64 a1, .bool a2] rfl (by (try simp only [List.map_toArray, List.map_cons, List.map_nil]); first | done | rfl | (simp only [List.length_drop, List.length_take]; rfl)) ?_; (with_reducible refine (spec_l6Put.calls kj3 a0 a1 a2 t271 _ A10.out).mono ?_); rintro e w12 ⟨v272, rfl, ho0, hb⟩; refine ⟨_, rfl, ?_⟩; have n0_ := Aside0.mk (Kd.R_lower ho0 (below_size (by repeat (first | (with_reducible first | exact HB.out | apply below_alloc | apply pw_below_drewN | apply below_drew1) | exact HB.out)))); have n1_ := Aside0.mk (below_step (by repeat (first | (with_reducible first | exact HB.out | apply below_alloc | apply pw_below_drewN | apply below_drew1) | exact HB.out)) hb); clear HB; have HO273 := n0_; have HB := n1_; clear n0_ n1_; (try clear hb); (try clear hb2); (try clear hk); (try clear hi); (try clear ho0); obtain ⟨Ao13, co13, eo13⟩ := Kd.R_slice HO273.out; subst eo13) | ((with_reducible refine gate_callee (f := 29) rfl ?_); refine goesL_ (some 27) rfl rfl Try.func29 (by kernel_rfl) rfl #[.slice Ao13 t271.length co13, .bool a2] rfl (by (try simp only [List.map_toArray, List.map_cons, List.map_nil]); first | done | rfl | (simp only [List.length_drop, List.length_take]; rfl)) ?_; (with_reducible refine (spec_l1Put.calls kj3 _ _ t271 a2 t274 _ ?side1 ?side2 A11.out).mono ?_); (case side1 => repeat (first | exact (Kd.R_reads' HO273.out).2.2 | (with_reducible refine Kd.C_alloc ?_ _) | (with_reducible refine Kd.C_drewN ?_ _) | (with_reducible refine Kd.C_drew ?_))); (case side2 => exact (Kd.R_reads' HO273.out).2.1); rintro e w14 ⟨rfl, hb⟩; refine ⟨_, rfl, ?_⟩; have n0_ := Aside0.mk (Kd.R_below (by (with_reducible repeat (first | apply Kd.R_alloc | apply Kd.R_drewN | apply Kd.R_drew)); exact HO273.out) hb); have n1_ := Aside0.mk (below_step (by repeat (first | (with_reducible first | exact HB.out | apply below_alloc | apply pw_below_drewN | apply below_drew1) | exact HB.out)) hb); clear HO273; clear HB; have HO273 := n0_; have HB := n1_; clear n0_ n1_; (try clear hb); (try clear hb2); (try clear hk); (try clear hi)))
        go_ret
        exact ⟨by first | rfl | (simp [errW_none, errW_some] <;> rfl) | (simp [*, errW_none, errW_some] <;> rfl), by repeat (first | (with_reducible first | exact HB.out | apply below_alloc | apply pw_below_drewN | apply below_drew1) | exact HB.out)⟩

/-! ### spec_l14Bend: function 18 -/
def spec_l14Bend.f (k : Nat) (s0_0 : List Int) (s0_1 : Int) (a1 : ByteArray) : Option (ByteArray × Int) := if a1.toList = ([] : List UInt8) then (some (a1, s0_1)) else (if a1.size ≤ 9223372036854775807 then ((some (bytesOf a1 : List Int)).bind fun y275 => ((spec_l1Rd_pick.f k s0_0 s0_1 (y275.length : Int)).bind fun bt278 => (if 0 ≤ bt278.1 then (if bt278.1 < (y275.length : Int) then ((spec_l1Rd_pick.f k s0_0 bt278.2 255).bind fun bt281 => (some (strOfNums (y275.set (bt278.1 : Int).toNat (Go.bits .xor .u8 (rd y275 bt278.1) ((wrap64 (1 + bt281.1)) % 256))), bt281.2))) else (none)) else (none)))) else (none))
theorem spec_l14Bend.mono : ∀ a0 a1 a2 k, LeO (spec_l14Bend.f k a0 a1 a2) (spec_l14Bend.f (k + 1) a0 a1 a2) := by
  intro a0 a1 a2 k
  unfold spec_l14Bend.f
  repeat' first
      | (with_reducible exact spec_l1Rd_pick.mono _ _ _ _)
      | (with_reducible exact LeO.refl _)
      | (with_reducible exact LeO.none _)
      | (with_reducible refine LeO.ite ?_ ?_)
      | (with_reducible refine LeO.bind ?_ (fun _ => ?_))
      | exact spec_l1Rd_pick.mono _ _ _ _
      | exact LeO.none _
      | refine LeO.ite ?_ ?_
      | refine LeO.bind ?_ (fun _ => ?_)
def spec_l14Bend.T5 : Bool × List (List Nat × List Nat) := (true, [([], []), ([], []), ([], []), ([], []), ([2, 3], [2, 3]), ([4], [4]), ([], []), ([6], [6]), ([7], [7]), ([8], [8]), ([5, 9], [5, 9]), ([0, 1, 0, 1, 2, 3, 4, 5, 6, 7, 8, 9, 10], [0, 1]), ([11, 10, 7, 0, 1, 2, 3, 4, 5, 6, 7, 8, 9, 10], [10, 11])])
def spec_l14Bend.B5 : List Nat := [0, 0, 0, 0, 12, 28, 0, 64, 192, 448, 1020, 2047, 4095]
theorem spec_l14Bend.tab5 : rtab .any (opsOf Try.f18 5) = spec_l14Bend.T5 := by kernel_rfl
theorem spec_l14Bend.bits5 : waitsOk spec_l14Bend.T5.2 spec_l14Bend.B5 = true := by kernel_rfl
set_option maxHeartbeats 8000000 in
set_option maxRecDepth 100000 in
theorem spec_l14Bend.calls (k : Nat) (g : Nat) (s0_0 : List Int) (s0_1 : Int) (a1 : ByteArray) (r1 : ByteArray) (r2 : Int) (w0 w : World) (hI : IsS58 w0 w g s0_0 s0_1) (hB : Below w0.heap.size w0 w) (h : spec_l14Bend.f k s0_0 s0_1 a1 = some (r1, r2)) :
    Calls Try.prog 18 #[.pointer (some ⟨g, 0, none⟩), .string a1] w fun e w' => e = .returned (.string r1) ∧ IsS58 w0 w' g s0_0 r2 ∧ Below w0.heap.size w0 w' ∧ KeepBut w w' g none := by
  have HI0 := Aside0.mk hI
  have HK := Aside0.mk (KeepBut.refl w g none)
  have HL := Aside0.mk hB.size
  clear hI
  have HW0 := Aside0.mk hB.size
  have HB := Aside0.mk hB
  clear hB
  have H : (if a1.toList = ([] : List UInt8) then (some (a1, s0_1)) else (if a1.size ≤ 9223372036854775807 then ((some (bytesOf a1 : List Int)).bind fun y275 => ((spec_l1Rd_pick.f k s0_0 s0_1 (y275.length : Int)).bind fun bt278 => (if 0 ≤ bt278.1 then (if bt278.1 < (y275.length : Int) then ((spec_l1Rd_pick.f k s0_0 bt278.2 255).bind fun bt281 => (some (strOfNums (y275.set (bt278.1 : Int).toNat (Go.bits .xor .u8 (rd y275 bt278.1) ((wrap64 (1 + bt281.1)) % 256))), bt281.2))) else (none)) else (none)))) else (none))) = some (r1, r2) := h
  clear h
  by_cases c3 : a1.toList = ([] : List UInt8)
  · rw [if_pos c3] at H
    have c3b0 : (a1.toList == ([] : List UInt8)) = true := beq_iff_eq.mpr c3
    have c3b1 : (a1.toList != ([] : List UInt8)) = false := bne_eq_false_iff_eq.mpr c3
    clear c3
    simp only [Option.some.injEq, Prod.mk.injEq] at H
    obtain ⟨rfl, rfl⟩ := H
    go_enter Try.func18, Try.ntmps18
    go_wp2
    go_ret
    exact ⟨by first | rfl | (simp [errW_none, errW_some] <;> rfl) | (simp [*, errW_none, errW_some] <;> rfl), by repeat (first | (with_reducible first | exact HI0.out | apply IsS58.alloc | apply IsS58.drewN | apply IsS58.drew | apply IsS58.set_1) | exact HI0.out), by repeat (first | (with_reducible first | exact HB.out | apply below_alloc | apply pw_below_drewN | apply below_drew1 | refine below_set ?_ (IsS58.ge HI0.out)) | exact HB.out), by repeat (first | (with_reducible first | exact HK.out | apply KeepBut.set_ | apply keep_drewN | apply keep_drew | apply keep_alloc) | exact HK.out)⟩
  · rw [if_neg c3] at H
    have c3b0 : (a1.toList == ([] : List UInt8)) = false := beq_eq_false_iff_ne.mpr c3
    have c3b1 : (a1.toList != ([] : List UInt8)) = true := bne_iff_ne.mpr c3
    by_cases c4 : a1.size ≤ 9223372036854775807
    · rw [if_pos c4] at H
      have c4b0 := eq_true c4
      have c4b1 : decide (a1.size ≤ 9223372036854775807) = true := decide_eq_true c4
      try have c4b2 : (9223372036854775807 < a1.size) = False := eq_false (Nat.not_lt.2 c4)
      clear c4
      obtain ⟨y275, hy275⟩ : ∃ y_ : List Int, y_ = (bytesOf a1) := ⟨_, rfl⟩
      replace H : ((spec_l1Rd_pick.f k s0_0 s0_1 (y275.length : Int)).bind fun bt278 => (if 0 ≤ bt278.1 then (if bt278.1 < (y275.length : Int) then ((spec_l1Rd_pick.f k s0_0 bt278.2 255).bind fun bt281 => (some (strOfNums (y275.set (bt278.1 : Int).toNat (Go.bits .xor .u8 (rd y275 bt278.1) ((wrap64 (1 + bt281.1)) % 256))), bt281.2))) else (none)) else (none))) = some (r1, r2) := by first | (rw [hy275]; with_reducible exact H) | (have H2_ := (Option.bind_some _ _).symm.trans H; rw [hy275]; with_reducible exact H2_) | (have H2_ := (Option.bind_some _ _).symm.trans H; with_reducible exact H2_) | with_reducible exact H | (rw [hy275]; exact H) | exact H
      have Ny275 := Aside0.mk hy275
      clear hy275
      replace H := Option.bind_eq_some_iff.mp H
      obtain ⟨⟨t278, t279⟩, A60, H⟩ := H
      replace H : (if 0 ≤ t278 then (if t278 < (y275.length : Int) then ((spec_l1Rd_pick.f k s0_0 t279 255).bind fun bt281 => (some (strOfNums (y275.set (t278 : Int).toNat (Go.bits .xor .u8 (rd y275 t278) ((wrap64 (1 + bt281.1)) % 256))), bt281.2))) else (none)) else (none)) = some (r1, r2) := H
      have A6 := Aside0.mk A60
      clear A60
      by_cases c7 : 0 ≤ t278
      · rw [if_pos c7] at H
        have c7b0 : decide (0 ≤ t278) = true := decide_eq_true c7
        clear c7
        by_cases c8 : t278 < (y275.length : Int)
        · rw [if_pos c8] at H
          have c8b0 : decide (t278 < (y275.length : Int)) = true := decide_eq_true c8
          clear c8
          replace H := Option.bind_eq_some_iff.mp H
          obtain ⟨⟨t281, t282⟩, A90, H⟩ := H
          replace H : (some (strOfNums (y275.set (t278 : Int).toNat (Go.bits .xor .u8 (rd y275 t278) ((wrap64 (1 + t281)) % 256))), t282)) = some (r1, r2) := H
          have A9 := Aside0.mk A90
          clear A90
          obtain ⟨y283, hy283⟩ : ∃ y_ : List Int, y_ = (y275.set (t278 : Int).toNat (Go.bits .xor .u8 (rd y275 t278) ((wrap64 (1 + t281)) % 256))) := ⟨_, rfl⟩
          replace H : (some (strOfNums y283, t282)) = some (r1, r2) := by first | (rw [hy283]; with_reducible exact H) | (have H2_ := (Option.bind_some _ _).symm.trans H; rw [hy283]; with_reducible exact H2_) | (have H2_ := (Option.bind_some _ _).symm.trans H; with_reducible exact H2_) | with_reducible exact H | (rw [hy283]; exact H) | exact H
          have Ny283 := Aside0.mk hy283
          clear hy283
          simp only [Option.some.injEq, Prod.mk.injEq] at H
          obtain ⟨rfl, rfl⟩ := H
          go_enter Try.func18, Try.ntmps18
          try go_wp2_with (first | ((with_reducible refine gate_dst (N := 11) rfl ?_); refine Go.Proofs.Ytdebckcphaocmaa.Th.convZ_event ?hg (N := 11) ?hd (s := a1) (e := 5) ?hr (of_decide_eq_true c4b1) ?_; (case hd => rfl); (case hg => rfl); (case hr => first | (have kbCV := fun W => print_bytes (P := Try.prog) 9 22 5 Try.underlying9 Try.underlying22 Try.underlying5 a1 W; go_simp; done) | (have kbCV := fun W => print_bytes (P := Try.prog) 9 22 5 Try.underlying9 Try.underlying22 Try.underlying5 a1 W; go_simp; rfl)); intro v276 w11 ho12 hb; rw [← Ny275.out] at ho12; have n0_ := Aside0.mk (Go.Proofs.Ytdebckcphaocmaa.Th.RZ.lower ho12 (keep_size (w := w) (g := g) (row := none) (by repeat (first | (with_reducible first | exact HK.out | apply KeepBut.set_ | apply keep_drewN | apply keep_drew | apply keep_alloc) | exact HK.out)))); have n1_ := Aside0.mk (IsS58.below (by repeat (first | (with_reducible first | exact HI0.out | apply IsS58.alloc | apply IsS58.drewN | apply IsS58.drew | apply IsS58.set_1) | exact HI0.out)) hb); have n2_ := Aside0.mk (KeepBut.trans (by repeat (first | (with_reducible first | exact HK.out | apply KeepBut.set_ | apply keep_drewN | apply keep_drew | apply keep_alloc) | exact HK.out)) (KeepBut.of_below hb g none) (.inl rfl)); have n3_ := Aside0.mk (below_step (by repeat (first | (with_reducible first | exact HB.out | apply below_alloc | apply pw_below_drewN | apply below_drew1 | refine below_set ?_ (IsS58.ge HI0.out)) | exact HB.out)) hb); clear HI0; clear HK; clear HB; have HO277 := n0_; have HI0 := n1_; have HK := n2_; have HB := n3_; clear n0_ n1_ n2_ n3_; clear hb ho12; obtain ⟨Ao13, co13, eo13⟩ := Go.Proofs.Ytdebckcphaocmaa.Th.RZ.slice HO277.out; subst eo13) | ((with_reducible refine gate_callee (f := 17) rfl ?_); refine goesL_ (some 15) rfl rfl Try.func17 (by kernel_rfl) rfl #[.pointer (some ⟨g, 0, none⟩), .int .i64 (y275.length : Int)] rfl (by (try simp only [List.map_toArray, List.map_cons, List.map_nil]); first | done | rfl | (simp only [List.length_drop, List.length_take]; rfl)) ?_; (with_reducible refine (spec_l1Rd_pick.calls k g s0_0 s0_1 (y275.length : Int) t278 t279 w0 _ ?side1 ?side2 A6.out).mono ?_); (case side1 => repeat (first | (with_reducible first | exact HI0.out | apply IsS58.alloc | apply IsS58.drewN | apply IsS58.drew | apply IsS58.set_1) | exact HI0.out)); (case side2 => repeat (first | (with_reducible first | exact HB.out | apply below_alloc | apply pw_below_drewN | apply below_drew1 | refine below_set ?_ (IsS58.ge HI0.out)) | exact HB.out)); rintro e w14 ⟨rfl, hi, hb, hk⟩; refine ⟨_, rfl, ?_⟩; have n0_ := Aside0.mk (Go.Proofs.Ytdebckcphaocmaa.Th.RZ.keep (by repeat (first | exact HO277.out | apply Go.Proofs.Ytdebckcphaocmaa.Th.RZ.drewN | apply Go.Proofs.Ytdebckcphaocmaa.Th.RZ.drew)) (Go.Proofs.Ytdebckcphaocmaa.Th.RZ.ne HO277.out (by obtain ⟨_, _, h_, _⟩ := HI0.out; exact ⟨_, _, _, h_, by decide⟩)) hk); have n1_ := Aside0.mk (KeepBut.trans (by repeat (first | (with_reducible first | exact HK.out | apply KeepBut.set_ | apply keep_drewN | apply keep_drew | apply keep_alloc) | exact HK.out)) hk (.inl rfl)); have n2_ := Aside0.mk (hb); have n3_ := Aside0.mk (hi); clear HO277; clear HK; clear HB; clear HI0; have HO277 := n0_; have HK := n1_; have HB := n2_; have HI0 := n3_; clear n0_ n1_ n2_ n3_; (try clear hb); (try clear hb2); (try clear hk); (try clear hi)))
          have n0_ := Aside0.mk (Go.Proofs.Ytdebckcphaocmaa.Th.RZ.drew HO277.out)
          have n1_ := Aside0.mk (IsS58.drew HI0.out)
          have n2_ := Aside0.mk (keep_drew HK.out)
          have n3_ := Aside0.mk (below_drew1 HB.out)
          clear HO277
          clear HI0
          clear HK
          clear HB
          have HO277 := n0_
          have HI0 := n1_
          have HK := n2_
          have HB := n3_
          clear n0_ n1_ n2_ n3_
          have p280 : 0 ≤ (t278 : Int) := of_decide_eq_true (by first | (with_reducible assumption) | assumption)
          have q280 : t278 < (y275.length : Int) := of_decide_eq_true (by first | (with_reducible assumption) | assumption)
          obtain ⟨ad280, e280, hx280_0⟩ := Kd.at_int (Go.Proofs.Ytdebckcphaocmaa.Th.RZ.C HO277.out) t278 p280 q280
          cases e280
          replace p280 := eq_true p280
          replace q280 := eq_true q280
          refine start_ (n := 13) (S := fun w' => w'.cell? (ad280.add (t278).toNat) = some (.int .u8 (rd y275 t278))) (ds := [12]) #[false, false, false, false, false, false, false, false, false, false, false, false, false] (by kernel_rfl) rfl rfl (hx280_0) (fun hHeld => ?_); refine with_tabW spec_l14Bend.tab5 spec_l14Bend.bits5 (fun HT_ HW_ => ?_)
          generalize w14.drew = w15 at HO277 HI0 HK HB hx280_0 hHeld ⊢
          refine pure_ (i := 0) (N := some 16) (v := ?_) (a' := ?_) #[true, false, false, false, false, false, false, false, false, false, false, false, false] rfl rfl (any_of HT_.out (by kernel_rfl)) (fun _ _ _ h => h) (Or.inl ⟨by rfl, ?_⟩) ?_ ?_
          rotate_left
          · intro w'
            go_simp
            with_reducible rfl
          rotate_left
          · simp only [Act.put, List.setIfInBounds_toArray, List.set_cons_zero, List.set_cons_succ, i64_w, i32_w]
            rfl
          refine pure_ (i := 1) (N := some 17) (v := ?_) (a' := ?_) #[true, true, false, false, false, false, false, false, false, false, false, false, false] rfl rfl (any_of HT_.out (by kernel_rfl)) (fun _ _ _ h => h) (Or.inl ⟨by rfl, ?_⟩) ?_ ?_
          rotate_left
          · intro w'
            go_simp
            with_reducible rfl
          rotate_left
          · simp only [Act.put, List.setIfInBounds_toArray, List.set_cons_zero, List.set_cons_succ, i64_w, i32_w]
            rfl
          refine pure_ (i := 2) (N := some 18) (v := ?_) (a' := ?_) #[true, true, true, false, false, false, false, false, false, false, false, false, false] rfl rfl (any_of HT_.out (by kernel_rfl)) (fun _ _ _ h => h) (Or.inl ⟨by rfl, ?_⟩) ?_ ?_
          rotate_left
          · intro w'
            go_simp
            with_reducible rfl
          rotate_left
          · simp only [Act.put, List.setIfInBounds_toArray, List.set_cons_zero, List.set_cons_succ, i64_w, i32_w]
            rfl
          refine pure_ (i := 3) (N := some 19) (v := ?_) (a' := ?_) #[true, true, true, true, false, false, false, false, false, false, false, false, false] rfl rfl (any_of HT_.out (by kernel_rfl)) (fun _ _ _ h => h) (Or.inl ⟨by rfl, ?_⟩) ?_ ?_
          rotate_left
          · intro w'
            go_simp
            with_reducible rfl
          rotate_left
          · simp only [Act.put, List.setIfInBounds_toArray, List.set_cons_zero, List.set_cons_succ, i64_w, i32_w]
            rfl
          refine pure_ (i := 4) (N := some 20) (v := ?_) (a' := ?_) #[true, true, true, true, true, false, false, false, false, false, false, false, false] rfl rfl (any_of HT_.out (by kernel_rfl)) (fun _ _ _ h => h) (Or.inl ⟨by rfl, ?_⟩) ?_ ?_
          rotate_left
          · intro w'
            go_simp
            with_reducible rfl
          rotate_left
          · simp only [Act.put, List.setIfInBounds_toArray, List.set_cons_zero, List.set_cons_succ, i64_w, i32_w]
            rfl
          refine pure_ (i := 6) (N := some 22) (v := ?_) (a' := ?_) #[true, true, true, true, true, false, true, false, false, false, false, false, false] rfl rfl (any_of HT_.out (by kernel_rfl)) (fun _ _ _ h => h) (Or.inl ⟨by rfl, ?_⟩) ?_ ?_
          rotate_left
          · intro w'
            go_simp
            with_reducible rfl
          rotate_left
          · simp only [Act.put, List.setIfInBounds_toArray, List.set_cons_zero, List.set_cons_succ, i64_w, i32_w]
            rfl
          refine take_ (i := 5) (N := some 21) (v := ?_) (a' := ?_) #[true, true, true, true, true, true, true, false, false, false, false, false, false] rfl rfl (take_ofW HT_.out HW_.out (by kernel_rfl)) (fun _ _ _ h => h) (Or.inl ⟨by rfl, ?_⟩) hHeld ?_ ?_
          rotate_left
          · intro w' s0
            go_simp
            with_reducible rfl
          rotate_left
          · simp only [Act.put, List.setIfInBounds_toArray, List.set_cons_zero, List.set_cons_succ, i64_w, i32_w]
            rfl
          refine one_ (i := 7) (N := some 23) #[true, true, true, true, true, true, true, true, false, false, false, false, false] rfl rfl (one_of HT_.out (by kernel_rfl)) (by decide) (fun K hK => ?_)
          refine goes_ Try.func17 (by kernel_rfl) rfl #[.pointer (some ⟨g, 0, none⟩), .int .i64 255] (by rfl) rfl rfl (by (try simp only [List.map_toArray, List.map_cons, List.map_nil]); first | done | rfl | (simp only [List.length_drop, List.length_take]; rfl)) ?_
          with_reducible refine (spec_l1Rd_pick.calls k g s0_0 t279 255 t281 t282 w0 _ ?side1 ?side2 A9.out).mono ?_
          (case side1 => repeat (first | (with_reducible first | exact HI0.out | apply IsS58.alloc | apply IsS58.drewN | apply IsS58.drew | apply IsS58.set_1) | exact HI0.out))
          (case side2 => repeat (first | (with_reducible first | exact HB.out | apply below_alloc | apply pw_below_drewN | apply below_drew1 | refine below_set ?_ (IsS58.ge HI0.out)) | exact HB.out))
          rintro e w16 ⟨rfl, hi, hb, hk⟩
          have HS0_ := keep_cell hk (hHeld) (by first | (rw [add_block]; exact Kd.own_blk (Go.Proofs.Ytdebckcphaocmaa.Th.RZ.ne HO277.out (by obtain ⟨_, _, h_, _⟩ := HI0.out; exact ⟨_, _, _, h_, by decide⟩))) | (show (Addr.add _ _).block ≠ _; rw [add_block]; exact Kd.own_blk (Go.Proofs.Ytdebckcphaocmaa.Th.RZ.ne HO277.out (by obtain ⟨_, _, h_, _⟩ := HI0.out; exact ⟨_, _, _, h_, by decide⟩))) | exact Kd.own_blk (Go.Proofs.Ytdebckcphaocmaa.Th.RZ.ne HO277.out (by obtain ⟨_, _, h_, _⟩ := HI0.out; exact ⟨_, _, _, h_, by decide⟩)))
          refine ⟨_, rfl, ?_⟩
          have n0_ := Aside0.mk (Go.Proofs.Ytdebckcphaocmaa.Th.RZ.keep (by repeat (first | exact HO277.out | apply Go.Proofs.Ytdebckcphaocmaa.Th.RZ.drewN | apply Go.Proofs.Ytdebckcphaocmaa.Th.RZ.drew)) (Go.Proofs.Ytdebckcphaocmaa.Th.RZ.ne HO277.out (by obtain ⟨_, _, h_, _⟩ := HI0.out; exact ⟨_, _, _, h_, by decide⟩)) hk)
          have n1_ := Aside0.mk (KeepBut.trans (by repeat (first | (with_reducible first | exact HK.out | apply KeepBut.set_ | apply keep_drewN | apply keep_drew | apply keep_alloc) | exact HK.out)) hk (.inl rfl))
          have n2_ := Aside0.mk (hb)
          have n3_ := Aside0.mk (hi)
          clear HO277
          clear HK
          clear HB
          clear HI0
          have HO277 := n0_
          have HK := n1_
          have HB := n2_
          have HI0 := n3_
          clear n0_ n1_ n2_ n3_
          (try clear hb)
          (try clear hb2)
          (try clear hk)
          (try clear hi)
          have p10 : 0 ≤ (t278 : Int) := of_decide_eq_true (by first | (with_reducible assumption) | assumption)
          have q10 : (t278 : Int) < ((y275.length : Int) : Int) := of_decide_eq_true (by first | (with_reducible assumption) | assumption)
          obtain ⟨go10, co10, eo10, gb10, gl10, cl10, HG10⟩ := Go.Proofs.Ytdebckcphaocmaa.Th.RZ.form HO277.out
          (first | cases eo10 | (injection eo10 with ea_ en_ ec_; (first | subst ea_ | (injection ea_ with ea_; subst ea_)); subst ec_; clear en_))
          have GB10 := Aside0.mk gb10
          have GG10 := Aside0.mk HG10
          clear gb10 gl10 HG10
          (first | simp only [add_plain] at hx280_0 | skip)
          obtain ⟨hx10_0, hf10_0⟩ := Go.Proofs.Ytdebckcphaocmaa.Th.RZ.celln HO277.out (t278 : Int) p10 q10
          replace p10 := eq_true p10
          replace q10 := eq_true q10
          have HN0_go10 := Aside0.mk (show g ≠ go10 from by have h_ := (Go.Proofs.Ytdebckcphaocmaa.Th.RZ.ne HO277.out (by obtain ⟨_, _, h_, _⟩ := HI0.out; exact ⟨_, _, _, h_, by decide⟩)); intro e_; exact h_ (by rw [e_]; rfl))
          have HP17 := Go.Proofs.Ytdebckcphaocmaa.Th.RZ.putn HO277.out (t278 : Int) (Go.bits .xor .u8 (rd y275 t278) ((wrap64 (1 + t281)) % 256))
          rw [← Ny283.out] at HP17
          have HQ17 := Aside0.mk HP17
          clear HP17
          refine hK.out _ _ (HS0_) (fun hHeld => ?_)
          clear hK K
          refine norm_ (a' := ?_) ?_ ?_
          rotate_left
          · show Act.put _ (some 23) _ = _
            simp only [Act.put, List.setIfInBounds_toArray, List.set_cons_zero, List.set_cons_succ, i64_w, i32_w]
            rfl
          refine pure_ (i := 8) (N := some 24) (v := ?_) (a' := ?_) #[true, true, true, true, true, true, true, true, true, false, false, false, false] rfl rfl (any_of HT_.out (by kernel_rfl)) (fun _ _ _ h => h) (Or.inl ⟨by rfl, ?_⟩) ?_ ?_
          rotate_left
          · intro w'
            go_simp
            with_reducible rfl
          rotate_left
          · simp only [Act.put, List.setIfInBounds_toArray, List.set_cons_zero, List.set_cons_succ, i64_w, i32_w]
            rfl
          refine pure_ (i := 9) (N := some 25) (v := ?_) (a' := ?_) #[true, true, true, true, true, true, true, true, true, true, false, false, false] rfl rfl (any_of HT_.out (by kernel_rfl)) (fun _ _ _ h => h) (Or.inl ⟨by rfl, ?_⟩) ?_ ?_
          rotate_left
          · intro w'
            go_simp
            with_reducible rfl
          rotate_left
          · simp only [Act.put, List.setIfInBounds_toArray, List.set_cons_zero, List.set_cons_succ, i64_w, i32_w]
            rfl
          refine pure_ (i := 10) (N := some 26) (v := ?_) (a' := ?_) #[true, true, true, true, true, true, true, true, true, true, true, false, false] rfl rfl (any_of HT_.out (by kernel_rfl)) (fun _ _ _ h => h) (Or.inl ⟨by rfl, ?_⟩) ?_ ?_
          rotate_left
          · intro w'
            go_simp
            with_reducible rfl
          rotate_left
          · simp only [Act.put, List.setIfInBounds_toArray, List.set_cons_zero, List.set_cons_succ, i64_w, i32_w]
            rfl
          refine pure_ (i := 11) (N := some 27) (v := ?_) (a' := ?_) #[true, true, true, true, true, true, true, true, true, true, true, true, false] rfl rfl (any_of HT_.out (by kernel_rfl)) (fun _ _ _ h => h) (Or.inl ⟨by rfl, ?_⟩) ?_ ?_
          rotate_left
          · intro w'
            go_simp
            with_reducible rfl
          rotate_left
          · simp only [Act.put, List.setIfInBounds_toArray, List.set_cons_zero, List.set_cons_succ, i64_w, i32_w]
            rfl
          refine last_ (i := 12) (N := none) #[true, true, true, true, true, true, true, true, true, true, true, true, true] rfl rfl (one_of HT_.out (by kernel_rfl)) (by decide) (fun K hK => ?_)
          refine skip_ (w1 := ?_) (by rfl) rfl ?_ ?_
          rotate_left
          · go_simp
            rfl
          refine hK.out _ _ ?_
          clear hK K
          refine done_ (done_of HT_.out (by kernel_rfl)) ?_
          refine Go.Proofs.Ytdebckcphaocmaa.Th.world_gen ?_
          intro wz_ hwz_
          have HZ_ := Aside0.mk (show Go.Proofs.Ytdebckcphaocmaa.Th.RZ 5 wz_ _ _ _ from by rw [hwz_]; exact HQ17.out)
          clear HO277
          have HO277 := HZ_
          clear HQ17
          have HQ17 := HZ_
          clear HZ_
          have n0_ := Aside0.mk (show IsS58 w0 wz_ g s0_0 t282 from by rw [hwz_]; refine IsS58.far ?_ HN0_go10.out _; repeat (first | (with_reducible first | exact HI0.out | apply IsS58.alloc | apply IsS58.drewN | apply IsS58.drew) | exact HI0.out))
          have n1_ := Aside0.mk (show Below w0.heap.size w0 wz_ from by rw [hwz_]; refine below_set ?_ (Nat.le_trans HL.out GB10.out); repeat (first | (with_reducible first | exact HB.out | apply below_alloc | apply pw_below_drewN | apply below_drew1) | exact HB.out))
          have n2_ := Aside0.mk (show KeepBut w wz_ g none from by rw [hwz_]; refine keep_far ?_ GB10.out _; repeat (first | (with_reducible first | exact HK.out | apply keep_drewN | apply keep_drew | apply keep_alloc) | exact HK.out))
          clear HI0 HB HK
          have HI0 := n0_
          have HB := n1_
          have HK := n2_
          clear n0_ n1_ n2_
          clear hwz_
          have hcv18 := Go.Proofs.Ytdebckcphaocmaa.Th.RZ.own_string (P := Try.prog) Try.underlying22 Try.underlying5 Try.underlying9 HO277.out
          try go_wp2
          go_ret
          exact ⟨by first | rfl | (simp [errW_none, errW_some] <;> rfl) | (simp [*, errW_none, errW_some] <;> rfl), by repeat (first | (with_reducible first | exact HI0.out | apply IsS58.alloc | apply IsS58.drewN | apply IsS58.drew | apply IsS58.set_1 | refine IsS58.far ?_ HN0_go10.out _) | exact HI0.out), by repeat (first | (with_reducible first | exact HB.out | apply below_alloc | apply pw_below_drewN | apply below_drew1 | refine below_set ?_ (Nat.le_trans HL.out GB10.out) | refine below_set ?_ (IsS58.ge HI0.out)) | exact HB.out), by repeat (first | (with_reducible first | exact HK.out | apply KeepBut.set_ | apply keep_drewN | apply keep_drew | apply keep_alloc | refine keep_far ?_ GB10.out _) | exact HK.out)⟩
        · rw [if_neg c8] at H
          exact absurd H (by simp)
      · rw [if_neg c7] at H
        exact absurd H (by simp)
    · rw [if_neg c4] at H
      exact absurd H (by simp)

/-! ### spec_l14Limit: function 21 -/
def spec_l14Limit.f (k : Nat) (s0_0 : List Int) (s0_1 : Int) : Option (Int × Int) := (spec_l1Rd_pick.f k s0_0 s0_1 40).bind fun bt284 => ((some (([5000, 5000, bt284.1, 5001, (-1)] : List Int) : List Int)).bind fun y286 => ((spec_l1Rd_pick.f k s0_0 bt284.2 14).bind fun bt289 => (if 0 ≤ (wrap64 (Int.tdiv (wrap64 (bt289.1 * 5)) 14)) then (if (wrap64 (Int.tdiv (wrap64 (bt289.1 * 5)) 14)) < (y286.length : Int) then (some (rd y286 (wrap64 (Int.tdiv (wrap64 (bt289.1 * 5)) 14)), bt289.2)) else (none)) else (none))))
theorem spec_l14Limit.mono : ∀ a0 a1 k, LeO (spec_l14Limit.f k a0 a1) (spec_l14Limit.f (k + 1) a0 a1) := by
  intro a0 a1 k
  unfold spec_l14Limit.f
  repeat' first
      | (with_reducible exact spec_l1Rd_pick.mono _ _ _ _)
      | (with_reducible exact LeO.refl _)
      | (with_reducible exact LeO.none _)
      | (with_reducible refine LeO.ite ?_ ?_)
      | (with_reducible refine LeO.bind ?_ (fun _ => ?_))
      | exact spec_l1Rd_pick.mono _ _ _ _
      | exact LeO.none _
      | refine LeO.ite ?_ ?_
      | refine LeO.bind ?_ (fun _ => ?_)
set_option maxHeartbeats 8000000 in
set_option maxRecDepth 100000 in
theorem spec_l14Limit.calls (k : Nat) (g : Nat) (s0_0 : List Int) (s0_1 : Int) (r1 : Int) (r2 : Int) (w0 w : World) (hI : IsS58 w0 w g s0_0 s0_1) (hB : Below w0.heap.size w0 w) (h : spec_l14Limit.f k s0_0 s0_1 = some (r1, r2)) :
    Calls Try.prog 21 #[.pointer (some ⟨g, 0, none⟩)] w fun e w' => e = .returned (.int .i64 r1) ∧ IsS58 w0 w' g s0_0 r2 ∧ Below w0.heap.size w0 w' ∧ KeepBut w w' g none := by
  have HI0 := Aside0.mk hI
  have HK := Aside0.mk (KeepBut.refl w g none)
  have HL := Aside0.mk hB.size
  clear hI
  have HW0 := Aside0.mk hB.size
  have HB := Aside0.mk hB
  clear hB
  have H : ((spec_l1Rd_pick.f k s0_0 s0_1 40).bind fun bt284 => ((some (([5000, 5000, bt284.1, 5001, (-1)] : List Int) : List Int)).bind fun y286 => ((spec_l1Rd_pick.f k s0_0 bt284.2 14).bind fun bt289 => (if 0 ≤ (wrap64 (Int.tdiv (wrap64 (bt289.1 * 5)) 14)) then (if (wrap64 (Int.tdiv (wrap64 (bt289.1 * 5)) 14)) < (y286.length : Int) then (some (rd y286 (wrap64 (Int.tdiv (wrap64 (bt289.1 * 5)) 14)), bt289.2)) else (none)) else (none))))) = some (r1, r2) := h
  clear h
  replace H := Option.bind_eq_some_iff.mp H
  obtain ⟨⟨t284, t285⟩, A20, H⟩ := H
  replace H : ((some (([5000, 5000, t284, 5001, (-1)] : List Int) : List Int)).bind fun y286 => ((spec_l1Rd_pick.f k s0_0 t285 14).bind fun bt289 => (if 0 ≤ (wrap64 (Int.tdiv (wrap64 (bt289.1 * 5)) 14)) then (if (wrap64 (Int.tdiv (wrap64 (bt289.1 * 5)) 14)) < (y286.length : Int) then (some (rd y286 (wrap64 (Int.tdiv (wrap64 (bt289.1 * 5)) 14)), bt289.2)) else (none)) else (none)))) = some (r1, r2) := H
  have A2 := Aside0.mk A20
  clear A20
  obtain ⟨y286, hy286⟩ : ∃ y_ : List Int, y_ = (([5000, 5000, t284, 5001, (-1)] : List Int)) := ⟨_, rfl⟩
  replace H : ((spec_l1Rd_pick.f k s0_0 t285 14).bind fun bt289 => (if 0 ≤ (wrap64 (Int.tdiv (wrap64 (bt289.1 * 5)) 14)) then (if (wrap64 (Int.tdiv (wrap64 (bt289.1 * 5)) 14)) < (y286.length : Int) then (some (rd y286 (wrap64 (Int.tdiv (wrap64 (bt289.1 * 5)) 14)), bt289.2)) else (none)) else (none))) = some (r1, r2) := by first | (rw [hy286]; with_reducible exact H) | (have H2_ := (Option.bind_some _ _).symm.trans H; rw [hy286]; with_reducible exact H2_) | (have H2_ := (Option.bind_some _ _).symm.trans H; with_reducible exact H2_) | with_reducible exact H | (rw [hy286]; exact H) | exact H
  have Ny286 := Aside0.mk hy286
  clear hy286
  replace H := Option.bind_eq_some_iff.mp H
  obtain ⟨⟨t289, t290⟩, A30, H⟩ := H
  replace H : (if 0 ≤ (wrap64 (Int.tdiv (wrap64 (t289 * 5)) 14)) then (if (wrap64 (Int.tdiv (wrap64 (t289 * 5)) 14)) < (y286.length : Int) then (some (rd y286 (wrap64 (Int.tdiv (wrap64 (t289 * 5)) 14)), t290)) else (none)) else (none)) = some (r1, r2) := H
  have A3 := Aside0.mk A30
  clear A30
  obtain ⟨ji4, hji4⟩ : ∃ j_ : Int, (wrap64 (Int.tdiv (wrap64 (t289 * 5)) 14)) = j_ := ⟨_, rfl⟩
  replace H : (if 0 ≤ (ji4) then (if (ji4) < (y286.length : Int) then (some (rd y286 (ji4), t290)) else (none)) else (none)) = some (r1, r2) := by first | (rw [hji4] at H; exact H) | (simp only [hji4] at H ⊢; exact H)
  (try rw [hji4] at A2)
  (try rw [hji4] at A3)
  have hji4w : (IntKind.i64.wrap (Int.tdiv (wrap64 (t289 * 5)) 14)) = ji4 := (i64_w _).trans hji4
  by_cases c5 : 0 ≤ (ji4)
  · rw [if_pos c5] at H
    have c5b0 : decide (0 ≤ (ji4)) = true := decide_eq_true c5
    clear c5
    by_cases c6 : (ji4) < (y286.length : Int)
    · rw [if_pos c6] at H
      have c6b0 : decide ((ji4) < (y286.length : Int)) = true := decide_eq_true c6
      clear c6
      simp only [Option.some.injEq, Prod.mk.injEq] at H
      obtain ⟨rfl, rfl⟩ := H
      go_enter Try.func21, Try.ntmps21
      go_wp2_with (first | ((with_reducible refine gate_callee (f := 17) rfl ?_); refine goesL_ (some 4) rfl rfl Try.func17 (by kernel_rfl) rfl #[.pointer (some ⟨g, 0, none⟩), .int .i64 40] rfl (by (try simp only [List.map_toArray, List.map_cons, List.map_nil]); first | done | rfl | (simp only [List.length_drop, List.length_take]; rfl)) ?_; (with_reducible refine (spec_l1Rd_pick.calls k g s0_0 s0_1 40 t284 t285 w0 _ ?side1 ?side2 A2.out).mono ?_); (case side1 => repeat (first | (with_reducible first | exact HI0.out | apply IsS58.alloc | apply IsS58.drewN | apply IsS58.drew | apply IsS58.set_1) | exact HI0.out)); (case side2 => repeat (first | (with_reducible first | exact HB.out | apply below_alloc | apply pw_below_drewN | apply below_drew1 | refine below_set ?_ (IsS58.ge HI0.out)) | exact HB.out)); rintro e w7 ⟨rfl, hi, hb, hk⟩; refine ⟨_, rfl, ?_⟩; have n0_ := Aside0.mk (KeepBut.trans (by repeat (first | (with_reducible first | exact HK.out | apply KeepBut.set_ | apply keep_drewN | apply keep_drew | apply keep_alloc) | exact HK.out)) hk (.inl rfl)); have n1_ := Aside0.mk (hb); have n2_ := Aside0.mk (hi); clear HK; clear HB; clear HI0; have HK := n0_; have HB := n1_; have HI0 := n2_; clear n0_ n1_ n2_; (try clear hb); (try clear hb2); (try clear hk); (try clear hi)) | ((with_reducible refine gate_dst (N := 5) rfl ?_); refine Kd.R_lit (Kd.int .i64) _ 3 ?hg (N := 5) ?hd (xs := ([5000, 5000, t284, 5001, (-1)] : List Int)) (inner := [.int .i64 5000, .int .i64 5000, .int .i64 t284, .int .i64 5001, .int .i64 (-1)]) (ok := fun _ => True) (okp := fun _ => True) ?hr ?hp (fun _ hk => hk) trivial (Below.refl _ _) (Nat.le_refl _) (by simp) ?_; (case hd => rfl); (case hg => rfl); (case hr => first | (go_simp; done) | (go_simp; rfl)); (case hp => exact (Reps.one (show Kd.M (Kd.int .i64) _ _ _ 5000 [.int .i64 5000] from rfl) (Reps.one (show Kd.M (Kd.int .i64) _ _ _ 5000 [.int .i64 5000] from rfl) (Reps.one (show Kd.M (Kd.int .i64) _ _ _ t284 [.int .i64 t284] from rfl) (Reps.one (show Kd.M (Kd.int .i64) _ _ _ 5001 [.int .i64 5001] from rfl) (Reps.one (show Kd.M (Kd.int .i64) _ _ _ (-1) [.int .i64 (-1)] from rfl) (Reps.none _ _))))))); intro v287 w8 ho9 hb hg_ hnew_; clear hg_ hnew_; (first | rw [← Ny286.out] at ho9 | (simp only [Int.reduceToNat] at ho9; rw [← Ny286.out] at ho9)); have n0_ := Aside0.mk (Kd.R_lower ho9 (keep_size (w := w) (g := g) (row := none) (by repeat (first | (with_reducible first | exact HK.out | apply KeepBut.set_ | apply keep_drewN | apply keep_drew | apply keep_alloc) | exact HK.out)))); have n1_ := Aside0.mk (IsS58.below (by repeat (first | (with_reducible first | exact HI0.out | apply IsS58.alloc | apply IsS58.drewN | apply IsS58.drew | apply IsS58.set_1) | exact HI0.out)) hb); have n2_ := Aside0.mk (KeepBut.trans (by repeat (first | (with_reducible first | exact HK.out | apply KeepBut.set_ | apply keep_drewN | apply keep_drew | apply keep_alloc) | exact HK.out)) (KeepBut.of_below hb g none) (.inl rfl)); have n3_ := Aside0.mk (below_step (by repeat (first | (with_reducible first | exact HB.out | apply below_alloc | apply pw_below_drewN | apply below_drew1 | refine below_set ?_ (IsS58.ge HI0.out)) | exact HB.out)) hb); clear HI0; clear HK; clear HB; have HO288 := n0_; have HI0 := n1_; have HK := n2_; have HB := n3_; clear n0_ n1_ n2_ n3_; clear hb ho9) | ((with_reducible refine gate_callee (f := 17) rfl ?_); refine goesL_ (some 7) rfl rfl Try.func17 (by kernel_rfl) rfl #[.pointer (some ⟨g, 0, none⟩), .int .i64 14] rfl (by (try simp only [List.map_toArray, List.map_cons, List.map_nil]); first | done | rfl | (simp only [List.length_drop, List.length_take]; rfl)) ?_; (with_reducible refine (spec_l1Rd_pick.calls k g s0_0 t285 14 t289 t290 w0 _ ?side1 ?side2 A3.out).mono ?_); (case side1 => repeat (first | (with_reducible first | exact HI0.out | apply IsS58.alloc | apply IsS58.drewN | apply IsS58.drew | apply IsS58.set_1) | exact HI0.out)); (case side2 => repeat (first | (with_reducible first | exact HB.out | apply below_alloc | apply pw_below_drewN | apply below_drew1 | refine below_set ?_ (IsS58.ge HI0.out)) | exact HB.out)); rintro e w10 ⟨rfl, hi, hb, hk⟩; refine ⟨_, rfl, ?_⟩; have n0_ := Aside0.mk (Kd.R_mono (Kd.R_keep (IsS58.apart (show IsS58 w0 _ g s0_0 t285 from by repeat (first | (with_reducible first | exact HI0.out | apply IsS58.alloc | apply IsS58.drewN | apply IsS58.drew | apply IsS58.set_1) | exact HI0.out)) (by (with_reducible repeat (first | apply Kd.R_alloc | apply Kd.R_drewN | apply Kd.R_drew)); exact HO288.out) (by decide)) hk (fun _ h => h.2)) (fun _ h => h.1)); have n1_ := Aside0.mk (KeepBut.trans (by repeat (first | (with_reducible first | exact HK.out | apply KeepBut.set_ | apply keep_drewN | apply keep_drew | apply keep_alloc) | exact HK.out)) hk (.inl rfl)); have n2_ := Aside0.mk (hb); have n3_ := Aside0.mk (hi); clear HO288; clear HK; clear HB; clear HI0; have HO288 := n0_; have HK := n1_; have HB := n2_; have HI0 := n3_; clear n0_ n1_ n2_ n3_; (try clear hb); (try clear hb2); (try clear hk); (try clear hi); obtain ⟨Ao11, co11, eo11⟩ := Kd.R_slice HO288.out; subst eo11; have p291 : 0 ≤ ((ji4) : Int) := of_decide_eq_true (by first | (with_reducible assumption) | assumption); have q291 : (ji4) < (y286.length : Int) := of_decide_eq_true (by first | (with_reducible assumption) | assumption); obtain ⟨ad291, e291, hx291_0⟩ := Kd.at_int (Kd.R_reads' HO288.out).2.2 (ji4) p291 q291; cases e291; replace p291 := eq_true p291; replace q291 := eq_true q291))
      go_ret
      exact ⟨by first | rfl | (simp [errW_none, errW_some] <;> rfl) | (simp only [← hji4]; first | rfl | (simp [errW_none, errW_some] <;> rfl)) | (simp [*, errW_none, errW_some] <;> rfl), by repeat (first | (with_reducible first | exact HI0.out | apply IsS58.alloc | apply IsS58.drewN | apply IsS58.drew | apply IsS58.set_1) | exact HI0.out), by repeat (first | (with_reducible first | exact HB.out | apply below_alloc | apply pw_below_drewN | apply below_drew1 | refine below_set ?_ (IsS58.ge HI0.out)) | exact HB.out), by repeat (first | (with_reducible first | exact HK.out | apply KeepBut.set_ | apply keep_drewN | apply keep_drew | apply keep_alloc) | exact HK.out)⟩
    · rw [if_neg c6] at H
      exact absurd H (by simp)
  · rw [if_neg c5] at H
    exact absurd H (by simp)

/-! ### spec_DrawLzwGet: function 5 -/
def spec_DrawLzwGet.f (k : Nat) (l0 : List Int) : Option (ByteArray × Int × Bool × Int) := (spec_l1Open.f l0).bind fun bt292 => ((spec_DrawLzwPut.f k l0).bind fun bt295 => ((spec_LzwPut.f k bt295.1 bt295.2.1 bt295.2.2).bind fun t298 => ((spec_l1Rd_pick.f k bt292.1 bt292.2 6).bind fun bt299 => (if bt299.1 = 0 then ((spec_l14Bend.f k bt292.1 bt299.2 t298).bind fun bt301 => ((spec_l14Limit.f k bt292.1 bt301.2).bind fun bt303 => (some (bt301.1, bt295.2.1, bt295.2.2, bt303.1)))) else (if bt299.1 = 1 then ((spec_l1Rd_pick.f k bt292.1 bt299.2 (wrap64 ((t298.size : Int) + 1))).bind fun bt305 => (if 0 ≤ bt305.1 then (if bt305.1 ≤ (t298.size : Int) then ((spec_l14Limit.f k bt292.1 bt305.2).bind fun bt307 => (some (t298.extract 0 (bt305.1 : Int).toNat, bt295.2.1, bt295.2.2, bt307.1))) else (none)) else (none))) else (if bt299.1 = 2 then ((spec_l1Rd_of.f k bt292.1 bt299.2 (([(⟨#[]⟩ : ByteArray), (⟨#[120]⟩ : ByteArray)] : List ByteArray))).bind fun bt312 => (if t298.size + bt312.1.size ≤ 9223372036854775807 then ((spec_l14Limit.f k bt292.1 bt312.2).bind fun bt314 => (some (t298 ++ bt312.1, bt295.2.1, bt295.2.2, bt314.1))) else (none))) else (if bt299.1 = 3 then ((spec_l14Text.f k bt292.1 bt299.2).bind fun bt316 => ((spec_l14Limit.f k bt292.1 bt316.2).bind fun bt318 => (some (bt316.1, bt295.2.1, bt295.2.2, bt318.1)))) else ((spec_l14Limit.f k bt292.1 bt299.2).bind fun bt320 => (some (t298, bt295.2.1, bt295.2.2, bt320.1))))))))))
theorem spec_DrawLzwGet.mono : ∀ a0 k, LeO (spec_DrawLzwGet.f k a0) (spec_DrawLzwGet.f (k + 1) a0) := by
  intro a0 k
  unfold spec_DrawLzwGet.f
  repeat' first
      | (with_reducible exact spec_DrawLzwPut.mono _ _)
      | (with_reducible exact spec_LzwPut.mono _ _ _ _)
      | (with_reducible exact spec_l14Bend.mono _ _ _ _)
      | (with_reducible exact spec_l14Limit.mono _ _ _)
      | (with_reducible exact spec_l14Text.mono _ _ _)
      | (with_reducible exact spec_l1Rd_of.mono _ _ _ _)
      | (with_reducible exact spec_l1Rd_pick.mono _ _ _ _)
      | (with_reducible exact LeO.refl _)
      | (with_reducible exact LeO.none _)
      | (with_reducible refine LeO.ite ?_ ?_)
      | (with_reducible refine LeO.bind ?_ (fun _ => ?_))
      | exact spec_DrawLzwPut.mono _ _
      | exact spec_LzwPut.mono _ _ _ _
      | exact spec_l14Bend.mono _ _ _ _
      | exact spec_l14Limit.mono _ _ _
      | exact spec_l14Text.mono _ _ _
      | exact spec_l1Rd_of.mono _ _ _ _
      | exact spec_l1Rd_pick.mono _ _ _ _
      | exact LeO.none _
      | refine LeO.ite ?_ ?_
      | refine LeO.bind ?_ (fun _ => ?_)
set_option maxHeartbeats 8000000 in
set_option maxRecDepth 100000 in
theorem spec_DrawLzwGet.calls (k : Nat) (A0 : Option Addr) (c0 : Nat) (l0 : List Int) (r1 : ByteArray) (r2 : Int) (r3 : Bool) (r4 : Int) (w : World) (hr0 : Kd.C (Kd.int .u8) w A0 l0.length l0) (hc0 : l0.length ≤ c0) (h : spec_DrawLzwGet.f k l0 = some (r1, r2, r3, r4)) :
    Calls Try.prog 5 #[.slice A0 l0.length c0] w fun e w' => e = .returned (.tuple #[.string r1, .int .i64 r2, .bool r3, .int .i64 r4]) ∧ Below w.heap.size w w' := by
  have HR0 := Aside0.mk hr0
  have HC0 := Aside0.mk hc0
  clear hr0 hc0
  have HB := Aside0.mk (Below.refl w.heap.size w)
  have H : ((spec_l1Open.f l0).bind fun bt292 => ((spec_DrawLzwPut.f k l0).bind fun bt295 => ((spec_LzwPut.f k bt295.1 bt295.2.1 bt295.2.2).bind fun t298 => ((spec_l1Rd_pick.f k bt292.1 bt292.2 6).bind fun bt299 => (if bt299.1 = 0 then ((spec_l14Bend.f k bt292.1 bt299.2 t298).bind fun bt301 => ((spec_l14Limit.f k bt292.1 bt301.2).bind fun bt303 => (some (bt301.1, bt295.2.1, bt295.2.2, bt303.1)))) else (if bt299.1 = 1 then ((spec_l1Rd_pick.f k bt292.1 bt299.2 (wrap64 ((t298.size : Int) + 1))).bind fun bt305 => (if 0 ≤ bt305.1 then (if bt305.1 ≤ (t298.size : Int) then ((spec_l14Limit.f k bt292.1 bt305.2).bind fun bt307 => (some (t298.extract 0 (bt305.1 : Int).toNat, bt295.2.1, bt295.2.2, bt307.1))) else (none)) else (none))) else (if bt299.1 = 2 then ((spec_l1Rd_of.f k bt292.1 bt299.2 (([(⟨#[]⟩ : ByteArray), (⟨#[120]⟩ : ByteArray)] : List ByteArray))).bind fun bt312 => (if t298.size + bt312.1.size ≤ 9223372036854775807 then ((spec_l14Limit.f k bt292.1 bt312.2).bind fun bt314 => (some (t298 ++ bt312.1, bt295.2.1, bt295.2.2, bt314.1))) else (none))) else (if bt299.1 = 3 then ((spec_l14Text.f k bt292.1 bt299.2).bind fun bt316 => ((spec_l14Limit.f k bt292.1 bt316.2).bind fun bt318 => (some (bt316.1, bt295.2.1, bt295.2.2, bt318.1)))) else ((spec_l14Limit.f k bt292.1 bt299.2).bind fun bt320 => (some (t298, bt295.2.1, bt295.2.2, bt320.1))))))))))) = some (r1, r2, r3, r4) := h
  clear h
  replace H := Option.bind_eq_some_iff.mp H
  obtain ⟨⟨t292, t293⟩, A20, H⟩ := H
  replace H : ((spec_DrawLzwPut.f k l0).bind fun bt295 => ((spec_LzwPut.f k bt295.1 bt295.2.1 bt295.2.2).bind fun t298 => ((spec_l1Rd_pick.f k t292 t293 6).bind fun bt299 => (if bt299.1 = 0 then ((spec_l14Bend.f k t292 bt299.2 t298).bind fun bt301 => ((spec_l14Limit.f k t292 bt301.2).bind fun bt303 => (some (bt301.1, bt295.2.1, bt295.2.2, bt303.1)))) else (if bt299.1 = 1 then ((spec_l1Rd_pick.f k t292 bt299.2 (wrap64 ((t298.size : Int) + 1))).bind fun bt305 => (if 0 ≤ bt305.1 then (if bt305.1 ≤ (t298.size : Int) then ((spec_l14Limit.f k t292 bt305.2).bind fun bt307 => (some (t298.extract 0 (bt305.1 : Int).toNat, bt295.2.1, bt295.2.2, bt307.1))) else (none)) else (none))) else (if bt299.1 = 2 then ((spec_l1Rd_of.f k t292 bt299.2 (([(⟨#[]⟩ : ByteArray), (⟨#[120]⟩ : ByteArray)] : List ByteArray))).bind fun bt312 => (if t298.size + bt312.1.size ≤ 9223372036854775807 then ((spec_l14Limit.f k t292 bt312.2).bind fun bt314 => (some (t298 ++ bt312.1, bt295.2.1, bt295.2.2, bt314.1))) else (none))) else (if bt299.1 = 3 then ((spec_l14Text.f k t292 bt299.2).bind fun bt316 => ((spec_l14Limit.f k t292 bt316.2).bind fun bt318 => (some (bt316.1, bt295.2.1, bt295.2.2, bt318.1)))) else ((spec_l14Limit.f k t292 bt299.2).bind fun bt320 => (some (t298, bt295.2.1, bt295.2.2, bt320.1)))))))))) = some (r1, r2, r3, r4) := H
  have A2 := Aside0.mk A20
  clear A20
  replace H := Option.bind_eq_some_iff.mp H
  obtain ⟨⟨t295, t296, t297⟩, A30, H⟩ := H
  replace H : ((spec_LzwPut.f k t295 t296 t297).bind fun t298 => ((spec_l1Rd_pick.f k t292 t293 6).bind fun bt299 => (if bt299.1 = 0 then ((spec_l14Bend.f k t292 bt299.2 t298).bind fun bt301 => ((spec_l14Limit.f k t292 bt301.2).bind fun bt303 => (some (bt301.1, t296, t297, bt303.1)))) else (if bt299.1 = 1 then ((spec_l1Rd_pick.f k t292 bt299.2 (wrap64 ((t298.size : Int) + 1))).bind fun bt305 => (if 0 ≤ bt305.1 then (if bt305.1 ≤ (t298.size : Int) then ((spec_l14Limit.f k t292 bt305.2).bind fun bt307 => (some (t298.extract 0 (bt305.1 : Int).toNat, t296, t297, bt307.1))) else (none)) else (none))) else (if bt299.1 = 2 then ((spec_l1Rd_of.f k t292 bt299.2 (([(⟨#[]⟩ : ByteArray), (⟨#[120]⟩ : ByteArray)] : List ByteArray))).bind fun bt312 => (if t298.size + bt312.1.size ≤ 9223372036854775807 then ((spec_l14Limit.f k t292 bt312.2).bind fun bt314 => (some (t298 ++ bt312.1, t296, t297, bt314.1))) else (none))) else (if bt299.1 = 3 then ((spec_l14Text.f k t292 bt299.2).bind fun bt316 => ((spec_l14Limit.f k t292 bt316.2).bind fun bt318 => (some (bt316.1, t296, t297, bt318.1)))) else ((spec_l14Limit.f k t292 bt299.2).bind fun bt320 => (some (t298, t296, t297, bt320.1))))))))) = some (r1, r2, r3, r4) := H
  have A3 := Aside0.mk A30
  clear A30
  replace H := Option.bind_eq_some_iff.mp H
  obtain ⟨t298, A40, H⟩ := H
  replace H : ((spec_l1Rd_pick.f k t292 t293 6).bind fun bt299 => (if bt299.1 = 0 then ((spec_l14Bend.f k t292 bt299.2 t298).bind fun bt301 => ((spec_l14Limit.f k t292 bt301.2).bind fun bt303 => (some (bt301.1, t296, t297, bt303.1)))) else (if bt299.1 = 1 then ((spec_l1Rd_pick.f k t292 bt299.2 (wrap64 ((t298.size : Int) + 1))).bind fun bt305 => (if 0 ≤ bt305.1 then (if bt305.1 ≤ (t298.size : Int) then ((spec_l14Limit.f k t292 bt305.2).bind fun bt307 => (some (t298.extract 0 (bt305.1 : Int).toNat, t296, t297, bt307.1))) else (none)) else (none))) else (if bt299.1 = 2 then ((spec_l1Rd_of.f k t292 bt299.2 (([(⟨#[]⟩ : ByteArray), (⟨#[120]⟩ : ByteArray)] : List ByteArray))).bind fun bt312 => (if t298.size + bt312.1.size ≤ 9223372036854775807 then ((spec_l14Limit.f k t292 bt312.2).bind fun bt314 => (some (t298 ++ bt312.1, t296, t297, bt314.1))) else (none))) else (if bt299.1 = 3 then ((spec_l14Text.f k t292 bt299.2).bind fun bt316 => ((spec_l14Limit.f k t292 bt316.2).bind fun bt318 => (some (bt316.1, t296, t297, bt318.1)))) else ((spec_l14Limit.f k t292 bt299.2).bind fun bt320 => (some (t298, t296, t297, bt320.1)))))))) = some (r1, r2, r3, r4) := H
  have A4 := Aside0.mk A40
  clear A40
  replace H := Option.bind_eq_some_iff.mp H
  obtain ⟨⟨t299, t300⟩, A50, H⟩ := H
  replace H : (if t299 = 0 then ((spec_l14Bend.f k t292 t300 t298).bind fun bt301 => ((spec_l14Limit.f k t292 bt301.2).bind fun bt303 => (some (bt301.1, t296, t297, bt303.1)))) else (if t299 = 1 then ((spec_l1Rd_pick.f k t292 t300 (wrap64 ((t298.size : Int) + 1))).bind fun bt305 => (if 0 ≤ bt305.1 then (if bt305.1 ≤ (t298.size : Int) then ((spec_l14Limit.f k t292 bt305.2).bind fun bt307 => (some (t298.extract 0 (bt305.1 : Int).toNat, t296, t297, bt307.1))) else (none)) else (none))) else (if t299 = 2 then ((spec_l1Rd_of.f k t292 t300 (([(⟨#[]⟩ : ByteArray), (⟨#[120]⟩ : ByteArray)] : List ByteArray))).bind fun bt312 => (if t298.size + bt312.1.size ≤ 9223372036854775807 then ((spec_l14Limit.f k t292 bt312.2).bind fun bt314 => (some (t298 ++ bt312.1, t296, t297, bt314.1))) else (none))) else (if t299 = 3 then ((spec_l14Text.f k t292 t300).bind fun bt316 => ((spec_l14Limit.f k t292 bt316.2).bind fun bt318 => (some (bt316.1, t296, t297, bt318.1)))) else ((spec_l14Limit.f k t292 t300).bind fun bt320 => (some (t298, t296, t297, bt320.1))))))) = some (r1, r2, r3, r4) := H
  have A5 := Aside0.mk A50
  clear A50
  by_cases c6 : t299 = 0
  · rw [if_pos c6] at H
    have c6b0 : (t299 == 0) = true := beq_iff_eq.mpr c6
    have c6b1 : (t299 != 0) = false := bne_eq_false_iff_eq.mpr c6
    clear c6
    replace H := Option.bind_eq_some_iff.mp H
    obtain ⟨⟨t301, t302⟩, A70, H⟩ := H
    replace H : ((spec_l14Limit.f k t292 t302).bind fun bt303 => (some (t301, t296, t297, bt303.1))) = some (r1, r2, r3, r4) := H
    have A7 := Aside0.mk A70
    clear A70
    replace H := Option.bind_eq_some_iff.mp H
    obtain ⟨⟨t303, t304⟩, A80, H⟩ := H
    replace H : (some (t301, t296, t297, t303)) = some (r1, r2, r3, r4) := H
    have A8 := Aside0.mk A80
    clear A80
    simp only [Option.some.injEq, Prod.mk.injEq] at H
    obtain ⟨rfl, rfl, rfl, rfl⟩ := H
    go_enter Try.func5, Try.ntmps5
    go_wp2_with (first | ((with_reducible refine gate_callee (f := 14) rfl ?_); refine goesL_ (some 12) rfl rfl Try.func14 (by kernel_rfl) rfl #[.slice A0 l0.length c0] rfl (by (try simp only [List.map_toArray, List.map_cons, List.map_nil]); first | done | rfl | (simp only [List.length_drop, List.length_take]; rfl)) ?_; (with_reducible refine (spec_l1Open.calls _ _ l0 t292 t293 w _ ?side1 ?side2 ?side3 A2.out).mono ?_); (case side1 => repeat (first | (with_reducible first | exact HB.out | apply below_alloc | apply pw_below_drewN | apply below_drew1) | exact HB.out)); (case side2 => exact HR0.out); (case side3 => exact HC0.out); rintro e w9 ⟨g294, rfl, hi, hb, hb2⟩; refine ⟨_, rfl, ?_⟩; have n0_ := Aside0.mk (hb); have n1_ := Aside0.mk (hi); clear HB; have HB := n0_; have HI294 := n1_; clear n0_ n1_; (try clear hb); (try clear hb2); (try clear hk); (try clear hi)) | ((with_reducible refine gate_callee (f := 15) rfl ?_); refine goesL_ (some 15) rfl rfl Try.func15 (by kernel_rfl) rfl #[.slice A0 l0.length c0] rfl (by (try simp only [List.map_toArray, List.map_cons, List.map_nil]); first | done | rfl | (simp only [List.length_drop, List.length_take]; rfl)) ?_; (with_reducible refine (spec_DrawLzwPut.calls k _ _ l0 t295 t296 t297 _ ?side1 ?side2 A3.out).mono ?_); (case side1 => repeat (first | exact (Kd.C_below HR0.out HB.out) | (with_reducible refine Kd.C_alloc ?_ _) | (with_reducible refine Kd.C_drewN ?_ _) | (with_reducible refine Kd.C_drew ?_))); (case side2 => exact HC0.out); rintro e w10 ⟨rfl, hb⟩; refine ⟨_, rfl, ?_⟩; have n0_ := Aside0.mk (IsS58.below (by repeat (first | (with_reducible first | exact HI294.out | apply IsS58.alloc | apply IsS58.drewN | apply IsS58.drew | apply IsS58.set_1) | exact HI294.out)) hb); have n1_ := Aside0.mk (below_step (by repeat (first | (with_reducible first | exact HB.out | apply below_alloc | apply pw_below_drewN | apply below_drew1 | refine below_set ?_ (IsS58.ge HI294.out)) | exact HB.out)) hb); clear HI294; clear HB; have HI294 := n0_; have HB := n1_; clear n0_ n1_; (try clear hb); (try clear hb2); (try clear hk); (try clear hi)) | ((with_reducible refine gate_callee (f := 16) rfl ?_); refine goesL_ (some 22) rfl rfl Try.func16 (by kernel_rfl) rfl #[.string t295, .int .i64 t296, .bool t297] rfl (by (try simp only [List.map_toArray, List.map_cons, List.map_nil]); first | done | rfl | (simp only [List.length_drop, List.length_take]; rfl)) ?_; (with_reducible refine (spec_LzwPut.calls k t295 t296 t297 t298 _ A4.out).mono ?_); rintro e w11 ⟨rfl, hb⟩; refine ⟨_, rfl, ?_⟩; have n0_ := Aside0.mk (IsS58.below (by repeat (first | (with_reducible first | exact HI294.out | apply IsS58.alloc | apply IsS58.drewN | apply IsS58.drew | apply IsS58.set_1) | exact HI294.out)) hb); have n1_ := Aside0.mk (below_step (by repeat (first | (with_reducible first | exact HB.out | apply below_alloc | apply pw_below_drewN | apply below_drew1 | refine below_set ?_ (IsS58.ge HI294.out)) | exact HB.out)) hb); clear HI294; clear HB; have HI294 := n0_; have HB := n1_; clear n0_ n1_; (try clear hb); (try clear hb2); (try clear hk); (try clear hi)) | ((with_reducible refine gate_callee (f := 17) rfl ?_); refine goesL_ (some 24) rfl rfl Try.func17 (by kernel_rfl) rfl #[.pointer (some ⟨g294, 0, none⟩), .int .i64 6] rfl (by (try simp only [List.map_toArray, List.map_cons, List.map_nil]); first | done | rfl | (simp only [List.length_drop, List.length_take]; rfl)) ?_; (with_reducible refine (spec_l1Rd_pick.calls k g294 t292 t293 6 t299 t300 w _ ?side1 ?side2 A5.out).mono ?_); (case side1 => repeat (first | (with_reducible first | exact HI294.out | apply IsS58.alloc | apply IsS58.drewN | apply IsS58.drew | apply IsS58.set_1) | exact HI294.out)); (case side2 => repeat (first | (with_reducible first | exact HB.out | apply below_alloc | apply pw_below_drewN | apply below_drew1 | refine below_set ?_ (IsS58.ge HI294.out)) | exact HB.out)); rintro e w12 ⟨rfl, hi, hb, hk⟩; refine ⟨_, rfl, ?_⟩; have n0_ := Aside0.mk (hb); have n1_ := Aside0.mk (hi); clear HB; clear HI294; have HB := n0_; have HI294 := n1_; clear n0_ n1_; (try clear hb); (try clear hb2); (try clear hk); (try clear hi)) | ((with_reducible refine gate_callee (f := 18) rfl ?_); refine goesL_ (some 29) rfl rfl Try.func18 (by kernel_rfl) rfl #[.pointer (some ⟨g294, 0, none⟩), .string t298] rfl (by (try simp only [List.map_toArray, List.map_cons, List.map_nil]); first | done | rfl | (simp only [List.length_drop, List.length_take]; rfl)) ?_; (with_reducible refine (spec_l14Bend.calls k g294 t292 t300 t298 t301 t302 w _ ?side1 ?side2 A7.out).mono ?_); (case side1 => repeat (first | (with_reducible first | exact HI294.out | apply IsS58.alloc | apply IsS58.drewN | apply IsS58.drew | apply IsS58.set_1) | exact HI294.out)); (case side2 => repeat (first | (with_reducible first | exact HB.out | apply below_alloc | apply pw_below_drewN | apply below_drew1 | refine below_set ?_ (IsS58.ge HI294.out)) | exact HB.out)); rintro e w13 ⟨rfl, hi, hb, hk⟩; refine ⟨_, rfl, ?_⟩; have n0_ := Aside0.mk (hb); have n1_ := Aside0.mk (hi); clear HB; clear HI294; have HB := n0_; have HI294 := n1_; clear n0_ n1_; (try clear hb); (try clear hb2); (try clear hk); (try clear hi)) | ((with_reducible refine gate_callee (f := 21) rfl ?_); refine goesL_ (some 54) rfl rfl Try.func21 (by kernel_rfl) rfl #[.pointer (some ⟨g294, 0, none⟩)] rfl (by (try simp only [List.map_toArray, List.map_cons, List.map_nil]); first | done | rfl | (simp only [List.length_drop, List.length_take]; rfl)) ?_; (with_reducible refine (spec_l14Limit.calls k g294 t292 t302 t303 t304 w _ ?side1 ?side2 A8.out).mono ?_); (case side1 => repeat (first | (with_reducible first | exact HI294.out | apply IsS58.alloc | apply IsS58.drewN | apply IsS58.drew | apply IsS58.set_1) | exact HI294.out)); (case side2 => repeat (first | (with_reducible first | exact HB.out | apply below_alloc | apply pw_below_drewN | apply below_drew1 | refine below_set ?_ (IsS58.ge HI294.out)) | exact HB.out)); rintro e w14 ⟨rfl, hi, hb, hk⟩; refine ⟨_, rfl, ?_⟩; have n0_ := Aside0.mk (hb); have n1_ := Aside0.mk (hi); clear HB; clear HI294; have HB := n0_; have HI294 := n1_; clear n0_ n1_; (try clear hb); (try clear hb2); (try clear hk); (try clear hi)))
    refine bodyPost_ret (results_list (rs := [.tmp 2, .tmp 3, .tmp 4, .tmp 5]) rfl (by simp) (.tmp (.tmp (.tmp (.tmp .nil))))) rfl ?_
    exact ⟨by first | rfl | (simp [errW_none, errW_some] <;> rfl) | (simp [*, errW_none, errW_some] <;> rfl), by repeat (first | (with_reducible first | exact HB.out | apply below_alloc | apply pw_below_drewN | apply below_drew1 | refine below_set ?_ (IsS58.ge HI294.out)) | exact HB.out)⟩
  · rw [if_neg c6] at H
    have c6b0 : (t299 == 0) = false := beq_eq_false_iff_ne.mpr c6
    have c6b1 : (t299 != 0) = true := bne_iff_ne.mpr c6
    by_cases c15 : t299 = 1
    · rw [if_pos c15] at H
      have c15b0 : (t299 == 1) = true := beq_iff_eq.mpr c15
      have c15b1 : (t299 != 1) = false := bne_eq_false_iff_eq.mpr c15
      clear c15
      replace H := Option.bind_eq_some_iff.mp H
      obtain ⟨⟨t305, t306⟩, A160, H⟩ := H
      replace H : (if 0 ≤ t305 then (if t305 ≤ (t298.size : Int) then ((spec_l14Limit.f k t292 t306).bind fun bt307 => (some (t298.extract 0 (t305 : Int).toNat, t296, t297, bt307.1))) else (none)) else (none)) = some (r1, r2, r3, r4) := H
      have A16 := Aside0.mk A160
      clear A160
      by_cases c17 : 0 ≤ t305
      · rw [if_pos c17] at H
        have c17b0 := eq_true c17
        have c17b1 : decide (0 ≤ t305) = true := decide_eq_true c17
        clear c17
        by_cases c18 : t305 ≤ (t298.size : Int)
        · rw [if_pos c18] at H
          have c18b0 := eq_true c18
          have c18b1 : decide (t305 ≤ (t298.size : Int)) = true := decide_eq_true c18
          clear c18
          replace H := Option.bind_eq_some_iff.mp H
          obtain ⟨⟨t307, t308⟩, A190, H⟩ := H
          replace H : (some (t298.extract 0 (t305 : Int).toNat, t296, t297, t307)) = some (r1, r2, r3, r4) := H
          have A19 := Aside0.mk A190
          clear A190
          simp only [Option.some.injEq, Prod.mk.injEq] at H
          obtain ⟨rfl, rfl, rfl, rfl⟩ := H
          go_enter Try.func5, Try.ntmps5
          go_wp2_with (first | ((with_reducible refine gate_callee (f := 14) rfl ?_); refine goesL_ (some 12) rfl rfl Try.func14 (by kernel_rfl) rfl #[.slice A0 l0.length c0] rfl (by (try simp only [List.map_toArray, List.map_cons, List.map_nil]); first | done | rfl | (simp only [List.length_drop, List.length_take]; rfl)) ?_; (with_reducible refine (spec_l1Open.calls _ _ l0 t292 t293 w _ ?side1 ?side2 ?side3 A2.out).mono ?_); (case side1 => repeat (first | (with_reducible first | exact HB.out | apply below_alloc | apply pw_below_drewN | apply below_drew1) | exact HB.out)); (case side2 => exact HR0.out); (case side3 => exact HC0.out); rintro e w20 ⟨g294, rfl, hi, hb, hb2⟩; refine ⟨_, rfl, ?_⟩; have n0_ := Aside0.mk (hb); have n1_ := Aside0.mk (hi); clear HB; have HB := n0_; have HI294 := n1_; clear n0_ n1_; (try clear hb); (try clear hb2); (try clear hk); (try clear hi)) | ((with_reducible refine gate_callee (f := 15) rfl ?_); refine goesL_ (some 15) rfl rfl Try.func15 (by kernel_rfl) rfl #[.slice A0 l0.length c0] rfl (by (try simp only [List.map_toArray, List.map_cons, List.map_nil]); first | done | rfl | (simp only [List.length_drop, List.length_take]; rfl)) ?_; (with_reducible refine (spec_DrawLzwPut.calls k _ _ l0 t295 t296 t297 _ ?side1 ?side2 A3.out).mono ?_); (case side1 => repeat (first | exact (Kd.C_below HR0.out HB.out) | (with_reducible refine Kd.C_alloc ?_ _) | (with_reducible refine Kd.C_drewN ?_ _) | (with_reducible refine Kd.C_drew ?_))); (case side2 => exact HC0.out); rintro e w21 ⟨rfl, hb⟩; refine ⟨_, rfl, ?_⟩; have n0_ := Aside0.mk (IsS58.below (by repeat (first | (with_reducible first | exact HI294.out | apply IsS58.alloc | apply IsS58.drewN | apply IsS58.drew | apply IsS58.set_1) | exact HI294.out)) hb); have n1_ := Aside0.mk (below_step (by repeat (first | (with_reducible first | exact HB.out | apply below_alloc | apply pw_below_drewN | apply below_drew1 | refine below_set ?_ (IsS58.ge HI294.out)) | exact HB.out)) hb); clear HI294; clear HB; have HI294 := n0_; have HB := n1_; clear n0_ n1_; (try clear hb); (try clear hb2); (try clear hk); (try clear hi)) | ((with_reducible refine gate_callee (f := 16) rfl ?_); refine goesL_ (some 22) rfl rfl Try.func16 (by kernel_rfl) rfl #[.string t295, .int .i64 t296, .bool t297] rfl (by (try simp only [List.map_toArray, List.map_cons, List.map_nil]); first | done | rfl | (simp only [List.length_drop, List.length_take]; rfl)) ?_; (with_reducible refine (spec_LzwPut.calls k t295 t296 t297 t298 _ A4.out).mono ?_); rintro e w22 ⟨rfl, hb⟩; refine ⟨_, rfl, ?_⟩; have n0_ := Aside0.mk (IsS58.below (by repeat (first | (with_reducible first | exact HI294.out | apply IsS58.alloc | apply IsS58.drewN | apply IsS58.drew | apply IsS58.set_1) | exact HI294.out)) hb); have n1_ := Aside0.mk (below_step (by repeat (first | (with_reducible first | exact HB.out | apply below_alloc | apply pw_below_drewN | apply below_drew1 | refine below_set ?_ (IsS58.ge HI294.out)) | exact HB.out)) hb); clear HI294; clear HB; have HI294 := n0_; have HB := n1_; clear n0_ n1_; (try clear hb); (try clear hb2); (try clear hk); (try clear hi)) | ((with_reducible refine gate_callee (f := 17) rfl ?_); refine goesL_ (some 24) rfl rfl Try.func17 (by kernel_rfl) rfl #[.pointer (some ⟨g294, 0, none⟩), .int .i64 6] rfl (by (try simp only [List.map_toArray, List.map_cons, List.map_nil]); first | done | rfl | (simp only [List.length_drop, List.length_take]; rfl)) ?_; (with_reducible refine (spec_l1Rd_pick.calls k g294 t292 t293 6 t299 t300 w _ ?side1 ?side2 A5.out).mono ?_); (case side1 => repeat (first | (with_reducible first | exact HI294.out | apply IsS58.alloc | apply IsS58.drewN | apply IsS58.drew | apply IsS58.set_1) | exact HI294.out)); (case side2 => repeat (first | (with_reducible first | exact HB.out | apply below_alloc | apply pw_below_drewN | apply below_drew1 | refine below_set ?_ (IsS58.ge HI294.out)) | exact HB.out)); rintro e w23 ⟨rfl, hi, hb, hk⟩; refine ⟨_, rfl, ?_⟩; have n0_ := Aside0.mk (hb); have n1_ := Aside0.mk (hi); clear HB; clear HI294; have HB := n0_; have HI294 := n1_; clear n0_ n1_; (try clear hb); (try clear hb2); (try clear hk); (try clear hi)) | ((with_reducible refine gate_callee (f := 17) rfl ?_); refine goesL_ (some 37) rfl rfl Try.func17 (by kernel_rfl) rfl #[.pointer (some ⟨g294, 0, none⟩), .int .i64 (wrap64 ((t298.size : Int) + 1))] rfl (by (try simp only [List.map_toArray, List.map_cons, List.map_nil]); first | done | rfl | (simp only [List.length_drop, List.length_take]; rfl)) ?_; (with_reducible refine (spec_l1Rd_pick.calls k g294 t292 t300 (wrap64 ((t298.size : Int) + 1)) t305 t306 w _ ?side1 ?side2 A16.out).mono ?_); (case side1 => repeat (first | (with_reducible first | exact HI294.out | apply IsS58.alloc | apply IsS58.drewN | apply IsS58.drew | apply IsS58.set_1) | exact HI294.out)); (case side2 => repeat (first | (with_reducible first | exact HB.out | apply below_alloc | apply pw_below_drewN | apply below_drew1 | refine below_set ?_ (IsS58.ge HI294.out)) | exact HB.out)); rintro e w24 ⟨rfl, hi, hb, hk⟩; refine ⟨_, rfl, ?_⟩; have n0_ := Aside0.mk (hb); have n1_ := Aside0.mk (hi); clear HB; clear HI294; have HB := n0_; have HI294 := n1_; clear n0_ n1_; (try clear hb); (try clear hb2); (try clear hk); (try clear hi)) | ((with_reducible refine gate_callee (f := 21) rfl ?_); refine goesL_ (some 54) rfl rfl Try.func21 (by kernel_rfl) rfl #[.pointer (some ⟨g294, 0, none⟩)] rfl (by (try simp only [List.map_toArray, List.map_cons, List.map_nil]); first | done | rfl | (simp only [List.length_drop, List.length_take]; rfl)) ?_; (with_reducible refine (spec_l14Limit.calls k g294 t292 t306 t307 t308 w _ ?side1 ?side2 A19.out).mono ?_); (case side1 => repeat (first | (with_reducible first | exact HI294.out | apply IsS58.alloc | apply IsS58.drewN | apply IsS58.drew | apply IsS58.set_1) | exact HI294.out)); (case side2 => repeat (first | (with_reducible first | exact HB.out | apply below_alloc | apply pw_below_drewN | apply below_drew1 | refine below_set ?_ (IsS58.ge HI294.out)) | exact HB.out)); rintro e w25 ⟨rfl, hi, hb, hk⟩; refine ⟨_, rfl, ?_⟩; have n0_ := Aside0.mk (hb); have n1_ := Aside0.mk (hi); clear HB; clear HI294; have HB := n0_; have HI294 := n1_; clear n0_ n1_; (try clear hb); (try clear hb2); (try clear hk); (try clear hi)))
          refine bodyPost_ret (results_list (rs := [.tmp 2, .tmp 3, .tmp 4, .tmp 5]) rfl (by simp) (.tmp (.tmp (.tmp (.tmp .nil))))) rfl ?_
          exact ⟨by first | rfl | (simp [errW_none, errW_some] <;> rfl) | (simp [*, errW_none, errW_some] <;> rfl), by repeat (first | (with_reducible first | exact HB.out | apply below_alloc | apply pw_below_drewN | apply below_drew1 | refine below_set ?_ (IsS58.ge HI294.out)) | exact HB.out)⟩
        · rw [if_neg c18] at H
          exact absurd H (by simp)
      · rw [if_neg c17] at H
        exact absurd H (by simp)
    · rw [if_neg c15] at H
      have c15b0 : (t299 == 1) = false := beq_eq_false_iff_ne.mpr c15
      have c15b1 : (t299 != 1) = true := bne_iff_ne.mpr c15
      by_cases c26 : t299 = 2
      · rw [if_pos c26] at H
        have c26b0 : (t299 == 2) = true := beq_iff_eq.mpr c26
        have c26b1 : (t299 != 2) = false := bne_eq_false_iff_eq.mpr c26
        clear c26
        obtain ⟨y309, hy309⟩ : ∃ y_ : List ByteArray, y_ = (([(⟨#[]⟩ : ByteArray), (⟨#[120]⟩ : ByteArray)] : List ByteArray)) := ⟨_, rfl⟩
        replace H : ((spec_l1Rd_of.f k t292 t300 y309).bind fun bt312 => (if t298.size + bt312.1.size ≤ 9223372036854775807 then ((spec_l14Limit.f k t292 bt312.2).bind fun bt314 => (some (t298 ++ bt312.1, t296, t297, bt314.1))) else (none))) = some (r1, r2, r3, r4) := by first | (rw [hy309]; with_reducible exact H) | (have H2_ := (Option.bind_some _ _).symm.trans H; rw [hy309]; with_reducible exact H2_) | (have H2_ := (Option.bind_some _ _).symm.trans H; with_reducible exact H2_) | with_reducible exact H | (rw [hy309]; exact H) | exact H
        have Ny309 := Aside0.mk hy309
        clear hy309
        replace H := Option.bind_eq_some_iff.mp H
        obtain ⟨⟨t312, t313⟩, A270, H⟩ := H
        replace H : (if t298.size + t312.size ≤ 9223372036854775807 then ((spec_l14Limit.f k t292 t313).bind fun bt314 => (some (t298 ++ t312, t296, t297, bt314.1))) else (none)) = some (r1, r2, r3, r4) := H
        have A27 := Aside0.mk A270
        clear A270
        by_cases c28 : t298.size + t312.size ≤ 9223372036854775807
        · rw [if_pos c28] at H
          have c28b0 := eq_true c28
          have c28b1 : decide (t298.size + t312.size ≤ 9223372036854775807) = true := decide_eq_true c28
          try have c28b2 : (9223372036854775807 < t298.size + t312.size) = False := eq_false (Nat.not_lt.2 c28)
          replace H := Option.bind_eq_some_iff.mp H
          obtain ⟨⟨t314, t315⟩, A290, H⟩ := H
          replace H : (some (t298 ++ t312, t296, t297, t314)) = some (r1, r2, r3, r4) := H
          have A29 := Aside0.mk A290
          clear A290
          simp only [Option.some.injEq, Prod.mk.injEq] at H
          obtain ⟨rfl, rfl, rfl, rfl⟩ := H
          go_enter Try.func5, Try.ntmps5
          go_wp2_with (first | ((with_reducible refine gate_callee (f := 14) rfl ?_); refine goesL_ (some 12) rfl rfl Try.func14 (by kernel_rfl) rfl #[.slice A0 l0.length c0] rfl (by (try simp only [List.map_toArray, List.map_cons, List.map_nil]); first | done | rfl | (simp only [List.length_drop, List.length_take]; rfl)) ?_; (with_reducible refine (spec_l1Open.calls _ _ l0 t292 t293 w _ ?side1 ?side2 ?side3 A2.out).mono ?_); (case side1 => repeat (first | (with_reducible first | exact HB.out | apply below_alloc | apply pw_below_drewN | apply below_drew1) | exact HB.out)); (case side2 => exact HR0.out); (case side3 => exact HC0.out); rintro e w30 ⟨g294, rfl, hi, hb, hb2⟩; refine ⟨_, rfl, ?_⟩; have n0_ := Aside0.mk (hb); have n1_ := Aside0.mk (hi); clear HB; have HB := n0_; have HI294 := n1_; clear n0_ n1_; (try clear hb); (try clear hb2); (try clear hk); (try clear hi)) | ((with_reducible refine gate_callee (f := 15) rfl ?_); refine goesL_ (some 15) rfl rfl Try.func15 (by kernel_rfl) rfl #[.slice A0 l0.length c0] rfl (by (try simp only [List.map_toArray, List.map_cons, List.map_nil]); first | done | rfl | (simp only [List.length_drop, List.length_take]; rfl)) ?_; (with_reducible refine (spec_DrawLzwPut.calls k _ _ l0 t295 t296 t297 _ ?side1 ?side2 A3.out).mono ?_); (case side1 => repeat (first | exact (Kd.C_below HR0.out HB.out) | (with_reducible refine Kd.C_alloc ?_ _) | (with_reducible refine Kd.C_drewN ?_ _) | (with_reducible refine Kd.C_drew ?_))); (case side2 => exact HC0.out); rintro e w31 ⟨rfl, hb⟩; refine ⟨_, rfl, ?_⟩; have n0_ := Aside0.mk (IsS58.below (by repeat (first | (with_reducible first | exact HI294.out | apply IsS58.alloc | apply IsS58.drewN | apply IsS58.drew | apply IsS58.set_1) | exact HI294.out)) hb); have n1_ := Aside0.mk (below_step (by repeat (first | (with_reducible first | exact HB.out | apply below_alloc | apply pw_below_drewN | apply below_drew1 | refine below_set ?_ (IsS58.ge HI294.out)) | exact HB.out)) hb); clear HI294; clear HB; have HI294 := n0_; have HB := n1_; clear n0_ n1_; (try clear hb); (try clear hb2); (try clear hk); (try clear hi)) | ((with_reducible refine gate_callee (f := 16) rfl ?_); refine goesL_ (some 22) rfl rfl Try.func16 (by kernel_rfl) rfl #[.string t295, .int .i64 t296, .bool t297] rfl (by (try simp only [List.map_toArray, List.map_cons, List.map_nil]); first | done | rfl | (simp only [List.length_drop, List.length_take]; rfl)) ?_; (with_reducible refine (spec_LzwPut.calls k t295 t296 t297 t298 _ A4.out).mono ?_); rintro e w32 ⟨rfl, hb⟩; refine ⟨_, rfl, ?_⟩; have n0_ := Aside0.mk (IsS58.below (by repeat (first | (with_reducible first | exact HI294.out | apply IsS58.alloc | apply IsS58.drewN | apply IsS58.drew | apply IsS58.set_1) | exact HI294.out)) hb); have n1_ := Aside0.mk (below_step (by repeat (first | (with_reducible first | exact HB.out | apply below_alloc | apply pw_below_drewN | apply below_drew1 | refine below_set ?_ (IsS58.ge HI294.out)) | exact HB.out)) hb); clear HI294; clear HB; have HI294 := n0_; have HB := n1_; clear n0_ n1_; (try clear hb); (try clear hb2); (try clear hk); (try clear hi)) | ((with_reducible refine gate_callee (f := 17) rfl ?_); refine goesL_ (some 24) rfl rfl Try.func17 (by kernel_rfl) rfl #[.pointer (some ⟨g294, 0, none⟩), .int .i64 6] rfl (by (try simp only [List.map_toArray, List.map_cons, List.map_nil]); first | done | rfl | (simp only [List.length_drop, List.length_take]; rfl)) ?_; (with_reducible refine (spec_l1Rd_pick.calls k g294 t292 t293 6 t299 t300 w _ ?side1 ?side2 A5.out).mono ?_); (case side1 => repeat (first | (with_reducible first | exact HI294.out | apply IsS58.alloc | apply IsS58.drewN | apply IsS58.drew | apply IsS58.set_1) | exact HI294.out)); (case side2 => repeat (first | (with_reducible first | exact HB.out | apply below_alloc | apply pw_below_drewN | apply below_drew1 | refine below_set ?_ (IsS58.ge HI294.out)) | exact HB.out)); rintro e w33 ⟨rfl, hi, hb, hk⟩; refine ⟨_, rfl, ?_⟩; have n0_ := Aside0.mk (hb); have n1_ := Aside0.mk (hi); clear HB; clear HI294; have HB := n0_; have HI294 := n1_; clear n0_ n1_; (try clear hb); (try clear hb2); (try clear hk); (try clear hi)) | ((with_reducible refine gate_dst (N := 43) rfl ?_); refine Kd.R_lit Kd.string _ 9 ?hg (N := 43) ?hd (xs := ([(⟨#[]⟩ : ByteArray), (⟨#[120]⟩ : ByteArray)] : List ByteArray)) (inner := [.string (⟨#[]⟩ : ByteArray), .string (⟨#[120]⟩ : ByteArray)]) (ok := fun _ => True) (okp := fun _ => True) ?hr ?hp (fun _ hk => hk) trivial (Below.refl _ _) (Nat.le_refl _) (by simp) ?_; (case hd => rfl); (case hg => rfl); (case hr => first | (go_simp; done) | (go_simp; rfl)); (case hp => exact (Reps.one (show Kd.M Kd.string _ _ _ (⟨#[]⟩ : ByteArray) [.string (⟨#[]⟩ : ByteArray)] from rfl) (Reps.one (show Kd.M Kd.string _ _ _ (⟨#[120]⟩ : ByteArray) [.string (⟨#[120]⟩ : ByteArray)] from rfl) (Reps.none _ _)))); intro v310 w34 ho35 hb hg_ hnew_; clear hg_ hnew_; (first | rw [← Ny309.out] at ho35 | (simp only [Int.reduceToNat] at ho35; rw [← Ny309.out] at ho35)); have n0_ := Aside0.mk (Kd.R_lower ho35 (below_size (by repeat (first | (with_reducible first | exact HB.out | apply below_alloc | apply pw_below_drewN | apply below_drew1 | refine below_set ?_ (IsS58.ge HI294.out)) | exact HB.out)))); have n1_ := Aside0.mk (IsS58.below (by repeat (first | (with_reducible first | exact HI294.out | apply IsS58.alloc | apply IsS58.drewN | apply IsS58.drew | apply IsS58.set_1) | exact HI294.out)) hb); have n2_ := Aside0.mk (below_step (by repeat (first | (with_reducible first | exact HB.out | apply below_alloc | apply pw_below_drewN | apply below_drew1 | refine below_set ?_ (IsS58.ge HI294.out)) | exact HB.out)) hb); clear HI294; clear HB; have HO311 := n0_; have HI294 := n1_; have HB := n2_; clear n0_ n1_ n2_; clear hb ho35; obtain ⟨Ao36, co36, eo36⟩ := Kd.R_slice HO311.out; subst eo36) | ((with_reducible refine gate_callee (f := 19) rfl ?_); refine goesL_ (some 44) rfl rfl Try.func19 (by kernel_rfl) rfl #[.pointer (some ⟨g294, 0, none⟩), .slice Ao36 y309.length co36] rfl (by (try simp only [List.map_toArray, List.map_cons, List.map_nil]); first | done | rfl | (simp only [List.length_drop, List.length_take]; rfl)) ?_; (with_reducible refine (spec_l1Rd_of.calls k g294 t292 t300 _ _ y309 t312 t313 w _ ?side1 ?side2 ?side3 ?side4 ?side5 A27.out).mono ?_); (case side1 => repeat (first | (with_reducible first | exact HI294.out | apply IsS58.alloc | apply IsS58.drewN | apply IsS58.drew | apply IsS58.set_1) | exact HI294.out)); (case side2 => repeat (first | (with_reducible first | exact HB.out | apply below_alloc | apply pw_below_drewN | apply below_drew1 | refine below_set ?_ (IsS58.ge HI294.out)) | exact HB.out)); (case side3 => repeat (first | exact (Kd.R_reads' HO311.out).2.2 | (with_reducible refine Kd.C_alloc ?_ _) | (with_reducible refine Kd.C_drewN ?_ _) | (with_reducible refine Kd.C_drew ?_))); (case side4 => exact (Kd.R_reads' HO311.out).2.1); (case side5 => exact far_slice (IsS58.own_ne HI294.out HO311.out (by decide))); rintro e w37 ⟨rfl, hi, hb, hk⟩; refine ⟨_, rfl, ?_⟩; have n0_ := Aside0.mk (Kd.R_mono (Kd.R_keep (IsS58.apart (show IsS58 w _ g294 t292 t300 from by repeat (first | (with_reducible first | exact HI294.out | apply IsS58.alloc | apply IsS58.drewN | apply IsS58.drew | apply IsS58.set_1) | exact HI294.out)) (by (with_reducible repeat (first | apply Kd.R_alloc | apply Kd.R_drewN | apply Kd.R_drew)); exact HO311.out) (by decide)) hk (fun _ h => h.2)) (fun _ h => h.1)); have n1_ := Aside0.mk (hb); have n2_ := Aside0.mk (hi); clear HO311; clear HB; clear HI294; have HO311 := n0_; have HB := n1_; have HI294 := n2_; clear n0_ n1_ n2_; (try clear hb); (try clear hb2); (try clear hk); (try clear hi)) | ((with_reducible refine gate_callee (f := 21) rfl ?_); refine goesL_ (some 54) rfl rfl Try.func21 (by kernel_rfl) rfl #[.pointer (some ⟨g294, 0, none⟩)] rfl (by (try simp only [List.map_toArray, List.map_cons, List.map_nil]); first | done | rfl | (simp only [List.length_drop, List.length_take]; rfl)) ?_; (with_reducible refine (spec_l14Limit.calls k g294 t292 t313 t314 t315 w _ ?side1 ?side2 A29.out).mono ?_); (case side1 => repeat (first | (with_reducible first | exact HI294.out | apply IsS58.alloc | apply IsS58.drewN | apply IsS58.drew | apply IsS58.set_1) | exact HI294.out)); (case side2 => repeat (first | (with_reducible first | exact HB.out | apply below_alloc | apply pw_below_drewN | apply below_drew1 | refine below_set ?_ (IsS58.ge HI294.out)) | exact HB.out)); rintro e w38 ⟨rfl, hi, hb, hk⟩; refine ⟨_, rfl, ?_⟩; have n0_ := Aside0.mk (Kd.R_mono (Kd.R_keep (IsS58.apart (show IsS58 w _ g294 t292 t313 from by repeat (first | (with_reducible first | exact HI294.out | apply IsS58.alloc | apply IsS58.drewN | apply IsS58.drew | apply IsS58.set_1) | exact HI294.out)) (by (with_reducible repeat (first | apply Kd.R_alloc | apply Kd.R_drewN | apply Kd.R_drew)); exact HO311.out) (by decide)) hk (fun _ h => h.2)) (fun _ h => h.1)); have n1_ := Aside0.mk (hb); have n2_ := Aside0.mk (hi); clear HO311; clear HB; clear HI294; have HO311 := n0_; have HB := n1_; have HI294 := n2_; clear n0_ n1_ n2_; (try clear hb); (try clear hb2); (try clear hk); (try clear hi)))
          refine bodyPost_ret (results_list (rs := [.tmp 2, .tmp 3, .tmp 4, .tmp 5]) rfl (by simp) (.tmp (.tmp (.tmp (.tmp .nil))))) rfl ?_
          exact ⟨by first | rfl | (simp [errW_none, errW_some] <;> rfl) | (simp [*, errW_none, errW_some] <;> rfl), by repeat (first | (with_reducible first | exact HB.out | apply below_alloc | apply pw_below_drewN | apply below_drew1 | refine below_set ?_ (IsS58.ge HI294.out)) | exact HB.out)⟩
        · rw [if_neg c28] at H
          exact absurd H (by simp)
      · rw [if_neg c26] at H
        have c26b0 : (t299 == 2) = false := beq_eq_false_iff_ne.mpr c26
        have c26b1 : (t299 != 2) = true := bne_iff_ne.mpr c26
        by_cases c39 : t299 = 3
        · rw [if_pos c39] at H
          have c39b0 : (t299 == 3) = true := beq_iff_eq.mpr c39
          have c39b1 : (t299 != 3) = false := bne_eq_false_iff_eq.mpr c39
          clear c39
          replace H := Option.bind_eq_some_iff.mp H
          obtain ⟨⟨t316, t317⟩, A400, H⟩ := H
          replace H : ((spec_l14Limit.f k t292 t317).bind fun bt318 => (some (t316, t296, t297, bt318.1))) = some (r1, r2, r3, r4) := H
          have A40 := Aside0.mk A400
          clear A400
          replace H := Option.bind_eq_some_iff.mp H
          obtain ⟨⟨t318, t319⟩, A410, H⟩ := H
          replace H : (some (t316, t296, t297, t318)) = some (r1, r2, r3, r4) := H
          have A41 := Aside0.mk A410
          clear A410
          simp only [Option.some.injEq, Prod.mk.injEq] at H
          obtain ⟨rfl, rfl, rfl, rfl⟩ := H
          go_enter Try.func5, Try.ntmps5
          go_wp2_with (first | ((with_reducible refine gate_callee (f := 14) rfl ?_); refine goesL_ (some 12) rfl rfl Try.func14 (by kernel_rfl) rfl #[.slice A0 l0.length c0] rfl (by (try simp only [List.map_toArray, List.map_cons, List.map_nil]); first | done | rfl | (simp only [List.length_drop, List.length_take]; rfl)) ?_; (with_reducible refine (spec_l1Open.calls _ _ l0 t292 t293 w _ ?side1 ?side2 ?side3 A2.out).mono ?_); (case side1 => repeat (first | (with_reducible first | exact HB.out | apply below_alloc | apply pw_below_drewN | apply below_drew1) | exact HB.out)); (case side2 => exact HR0.out); (case side3 => exact HC0.out); rintro e w42 ⟨g294, rfl, hi, hb, hb2⟩; refine ⟨_, rfl, ?_⟩; have n0_ := Aside0.mk (hb); have n1_ := Aside0.mk (hi); clear HB; have HB := n0_; have HI294 := n1_; clear n0_ n1_; (try clear hb); (try clear hb2); (try clear hk); (try clear hi)) | ((with_reducible refine gate_callee (f := 15) rfl ?_); refine goesL_ (some 15) rfl rfl Try.func15 (by kernel_rfl) rfl #[.slice A0 l0.length c0] rfl (by (try simp only [List.map_toArray, List.map_cons, List.map_nil]); first | done | rfl | (simp only [List.length_drop, List.length_take]; rfl)) ?_; (with_reducible refine (spec_DrawLzwPut.calls k _ _ l0 t295 t296 t297 _ ?side1 ?side2 A3.out).mono ?_); (case side1 => repeat (first | exact (Kd.C_below HR0.out HB.out) | (with_reducible refine Kd.C_alloc ?_ _) | (with_reducible refine Kd.C_drewN ?_ _) | (with_reducible refine Kd.C_drew ?_))); (case side2 => exact HC0.out); rintro e w43 ⟨rfl, hb⟩; refine ⟨_, rfl, ?_⟩; have n0_ := Aside0.mk (IsS58.below (by repeat (first | (with_reducible first | exact HI294.out | apply IsS58.alloc | apply IsS58.drewN | apply IsS58.drew | apply IsS58.set_1) | exact HI294.out)) hb); have n1_ := Aside0.mk (below_step (by repeat (first | (with_reducible first | exact HB.out | apply below_alloc | apply pw_below_drewN | apply below_drew1 | refine below_set ?_ (IsS58.ge HI294.out)) | exact HB.out)) hb); clear HI294; clear HB; have HI294 := n0_; have HB := n1_; clear n0_ n1_; (try clear hb); (try clear hb2); (try clear hk); (try clear hi)) | ((with_reducible refine gate_callee (f := 16) rfl ?_); refine goesL_ (some 22) rfl rfl Try.func16 (by kernel_rfl) rfl #[.string t295, .int .i64 t296, .bool t297] rfl (by (try simp only [List.map_toArray, List.map_cons, List.map_nil]); first | done | rfl | (simp only [List.length_drop, List.length_take]; rfl)) ?_; (with_reducible refine (spec_LzwPut.calls k t295 t296 t297 t298 _ A4.out).mono ?_); rintro e w44 ⟨rfl, hb⟩; refine ⟨_, rfl, ?_⟩; have n0_ := Aside0.mk (IsS58.below (by repeat (first | (with_reducible first | exact HI294.out | apply IsS58.alloc | apply IsS58.drewN | apply IsS58.drew | apply IsS58.set_1) | exact HI294.out)) hb); have n1_ := Aside0.mk (below_step (by repeat (first | (with_reducible first | exact HB.out | apply below_alloc | apply pw_below_drewN | apply below_drew1 | refine below_set ?_ (IsS58.ge HI294.out)) | exact HB.out)) hb); clear HI294; clear HB; have HI294 := n0_; have HB := n1_; clear n0_ n1_; (try clear hb); (try clear hb2); (try clear hk); (try clear hi)) | ((with_reducible refine gate_callee (f := 17) rfl ?_); refine goesL_ (some 24) rfl rfl Try.func17 (by kernel_rfl) rfl #[.pointer (some ⟨g294, 0, none⟩), .int .i64 6] rfl (by (try simp only [List.map_toArray, List.map_cons, List.map_nil]); first | done | rfl | (simp only [List.length_drop, List.length_take]; rfl)) ?_; (with_reducible refine (spec_l1Rd_pick.calls k g294 t292 t293 6 t299 t300 w _ ?side1 ?side2 A5.out).mono ?_); (case side1 => repeat (first | (with_reducible first | exact HI294.out | apply IsS58.alloc | apply IsS58.drewN | apply IsS58.drew | apply IsS58.set_1) | exact HI294.out)); (case side2 => repeat (first | (with_reducible first | exact HB.out | apply below_alloc | apply pw_below_drewN | apply below_drew1 | refine below_set ?_ (IsS58.ge HI294.out)) | exact HB.out)); rintro e w45 ⟨rfl, hi, hb, hk⟩; refine ⟨_, rfl, ?_⟩; have n0_ := Aside0.mk (hb); have n1_ := Aside0.mk (hi); clear HB; clear HI294; have HB := n0_; have HI294 := n1_; clear n0_ n1_; (try clear hb); (try clear hb2); (try clear hk); (try clear hi)) | ((with_reducible refine gate_callee (f := 20) rfl ?_); refine goesL_ (some 49) rfl rfl Try.func20 (by kernel_rfl) rfl #[.pointer (some ⟨g294, 0, none⟩)] rfl (by (try simp only [List.map_toArray, List.map_cons, List.map_nil]); first | done | rfl | (simp only [List.length_drop, List.length_take]; rfl)) ?_; (with_reducible refine (spec_l14Text.calls k g294 t292 t300 t316 t317 w _ ?side1 ?side2 A40.out).mono ?_); (case side1 => repeat (first | (with_reducible first | exact HI294.out | apply IsS58.alloc | apply IsS58.drewN | apply IsS58.drew | apply IsS58.set_1) | exact HI294.out)); (case side2 => repeat (first | (with_reducible first | exact HB.out | apply below_alloc | apply pw_below_drewN | apply below_drew1 | refine below_set ?_ (IsS58.ge HI294.out)) | exact HB.out)); rintro e w46 ⟨rfl, hi, hb, hk⟩; refine ⟨_, rfl, ?_⟩; have n0_ := Aside0.mk (hb); have n1_ := Aside0.mk (hi); clear HB; clear HI294; have HB := n0_; have HI294 := n1_; clear n0_ n1_; (try clear hb); (try clear hb2); (try clear hk); (try clear hi)) | ((with_reducible refine gate_callee (f := 21) rfl ?_); refine goesL_ (some 54) rfl rfl Try.func21 (by kernel_rfl) rfl #[.pointer (some ⟨g294, 0, none⟩)] rfl (by (try simp only [List.map_toArray, List.map_cons, List.map_nil]); first | done | rfl | (simp only [List.length_drop, List.length_take]; rfl)) ?_; (with_reducible refine (spec_l14Limit.calls k g294 t292 t317 t318 t319 w _ ?side1 ?side2 A41.out).mono ?_); (case side1 => repeat (first | (with_reducible first | exact HI294.out | apply IsS58.alloc | apply IsS58.drewN | apply IsS58.drew | apply IsS58.set_1) | exact HI294.out)); (case side2 => repeat (first | (with_reducible first | exact HB.out | apply below_alloc | apply pw_below_drewN | apply below_drew1 | refine below_set ?_ (IsS58.ge HI294.out)) | exact HB.out)); rintro e w47 ⟨rfl, hi, hb, hk⟩; refine ⟨_, rfl, ?_⟩; have n0_ := Aside0.mk (hb); have n1_ := Aside0.mk (hi); clear HB; clear HI294; have HB := n0_; have HI294 := n1_; clear n0_ n1_; (try clear hb); (try clear hb2); (try clear hk); (try clear hi)))
          refine bodyPost_ret (results_list (rs := [.tmp 2, .tmp 3, .tmp 4, .tmp 5]) rfl (by simp) (.tmp (.tmp (.tmp (.tmp .nil))))) rfl ?_
          exact ⟨by first | rfl | (simp [errW_none, errW_some] <;> rfl) | (simp [*, errW_none, errW_some] <;> rfl), by repeat (first | (with_reducible first | exact HB.out | apply below_alloc | apply pw_below_drewN | apply below_drew1 | refine below_set ?_ (IsS58.ge HI294.out)) | exact HB.out)⟩
        · rw [if_neg c39] at H
          have c39b0 : (t299 == 3) = false := beq_eq_false_iff_ne.mpr c39
          have c39b1 : (t299 != 3) = true := bne_iff_ne.mpr c39
          replace H := Option.bind_eq_some_iff.mp H
          obtain ⟨⟨t320, t321⟩, A480, H⟩ := H
          replace H : (some (t298, t296, t297, t320)) = some (r1, r2, r3, r4) := H
          have A48 := Aside0.mk A480
          clear A480
          simp only [Option.some.injEq, Prod.mk.injEq] at H
          obtain ⟨rfl, rfl, rfl, rfl⟩ := H
          go_enter Try.func5, Try.ntmps5
          go_wp2_with (first | ((with_reducible refine gate_callee (f := 14) rfl ?_); refine goesL_ (some 12) rfl rfl Try.func14 (by kernel_rfl) rfl #[.slice A0 l0.length c0] rfl (by (try simp only [List.map_toArray, List.map_cons, List.map_nil]); first | done | rfl | (simp only [List.length_drop, List.length_take]; rfl)) ?_; (with_reducible refine (spec_l1Open.calls _ _ l0 t292 t293 w _ ?side1 ?side2 ?side3 A2.out).mono ?_); (case side1 => repeat (first | (with_reducible first | exact HB.out | apply below_alloc | apply pw_below_drewN | apply below_drew1) | exact HB.out)); (case side2 => exact HR0.out); (case side3 => exact HC0.out); rintro e w49 ⟨g294, rfl, hi, hb, hb2⟩; refine ⟨_, rfl, ?_⟩; have n0_ := Aside0.mk (hb); have n1_ := Aside0.mk (hi); clear HB; have HB := n0_; have HI294 := n1_; clear n0_ n1_; (try clear hb); (try clear hb2); (try clear hk); (try clear hi)) | ((with_reducible refine gate_callee (f := 15) rfl ?_); refine goesL_ (some 15) rfl rfl Try.func15 (by kernel_rfl) rfl #[.slice A0 l0.length c0] rfl (by (try simp only [List.map_toArray, List.map_cons, List.map_nil]); first | done | rfl | (simp only [List.length_drop, List.length_take]; rfl)) ?_; (with_reducible refine (spec_DrawLzwPut.calls k _ _ l0 t295 t296 t297 _ ?side1 ?side2 A3.out).mono ?_); (case side1 => repeat (first | exact (Kd.C_below HR0.out HB.out) | (with_reducible refine Kd.C_alloc ?_ _) | (with_reducible refine Kd.C_drewN ?_ _) | (with_reducible refine Kd.C_drew ?_))); (case side2 => exact HC0.out); rintro e w50 ⟨rfl, hb⟩; refine ⟨_, rfl, ?_⟩; have n0_ := Aside0.mk (IsS58.below (by repeat (first | (with_reducible first | exact HI294.out | apply IsS58.alloc | apply IsS58.drewN | apply IsS58.drew | apply IsS58.set_1) | exact HI294.out)) hb); have n1_ := Aside0.mk (below_step (by repeat (first | (with_reducible first | exact HB.out | apply below_alloc | apply pw_below_drewN | apply below_drew1 | refine below_set ?_ (IsS58.ge HI294.out)) | exact HB.out)) hb); clear HI294; clear HB; have HI294 := n0_; have HB := n1_; clear n0_ n1_; (try clear hb); (try clear hb2); (try clear hk); (try clear hi)) | ((with_reducible refine gate_callee (f := 16) rfl ?_); refine goesL_ (some 22) rfl rfl Try.func16 (by kernel_rfl) rfl #[.string t295, .int .i64 t296, .bool t297] rfl (by (try simp only [List.map_toArray, List.map_cons, List.map_nil]); first | done | rfl | (simp only [List.length_drop, List.length_take]; rfl)) ?_; (with_reducible refine (spec_LzwPut.calls k t295 t296 t297 t298 _ A4.out).mono ?_); rintro e w51 ⟨rfl, hb⟩; refine ⟨_, rfl, ?_⟩; have n0_ := Aside0.mk (IsS58.below (by repeat (first | (with_reducible first | exact HI294.out | apply IsS58.alloc | apply IsS58.drewN | apply IsS58.drew | apply IsS58.set_1) | exact HI294.out)) hb); have n1_ := Aside0.mk (below_step (by repeat (first | (with_reducible first | exact HB.out | apply below_alloc | apply pw_below_drewN | apply below_drew1 | refine below_set ?_ (IsS58.ge HI294.out)) | exact HB.out)) hb); clear HI294; clear HB; have HI294 := n0_; have HB := n1_; clear n0_ n1_; (try clear hb); (try clear hb2); (try clear hk); (try clear hi)) | ((with_reducible refine gate_callee (f := 17) rfl ?_); refine goesL_ (some 24) rfl rfl Try.func17 (by kernel_rfl) rfl #[.pointer (some ⟨g294, 0, none⟩), .int .i64 6] rfl (by (try simp only [List.map_toArray, List.map_cons, List.map_nil]); first | done | rfl | (simp only [List.length_drop, List.length_take]; rfl)) ?_; (with_reducible refine (spec_l1Rd_pick.calls k g294 t292 t293 6 t299 t300 w _ ?side1 ?side2 A5.out).mono ?_); (case side1 => repeat (first | (with_reducible first | exact HI294.out | apply IsS58.alloc | apply IsS58.drewN | apply IsS58.drew | apply IsS58.set_1) | exact HI294.out)); (case side2 => repeat (first | (with_reducible first | exact HB.out | apply below_alloc | apply pw_below_drewN | apply below_drew1 | refine below_set ?_ (IsS58.ge HI294.out)) | exact HB.out)); rintro e w52 ⟨rfl, hi, hb, hk⟩; refine ⟨_, rfl, ?_⟩; have n0_ := Aside0.mk (hb); have n1_ := Aside0.mk (hi); clear HB; clear HI294; have HB := n0_; have HI294 := n1_; clear n0_ n1_; (try clear hb); (try clear hb2); (try clear hk); (try clear hi)) | ((with_reducible refine gate_callee (f := 21) rfl ?_); refine goesL_ (some 54) rfl rfl Try.func21 (by kernel_rfl) rfl #[.pointer (some ⟨g294, 0, none⟩)] rfl (by (try simp only [List.map_toArray, List.map_cons, List.map_nil]); first | done | rfl | (simp only [List.length_drop, List.length_take]; rfl)) ?_; (with_reducible refine (spec_l14Limit.calls k g294 t292 t300 t320 t321 w _ ?side1 ?side2 A48.out).mono ?_); (case side1 => repeat (first | (with_reducible first | exact HI294.out | apply IsS58.alloc | apply IsS58.drewN | apply IsS58.drew | apply IsS58.set_1) | exact HI294.out)); (case side2 => repeat (first | (with_reducible first | exact HB.out | apply below_alloc | apply pw_below_drewN | apply below_drew1 | refine below_set ?_ (IsS58.ge HI294.out)) | exact HB.out)); rintro e w53 ⟨rfl, hi, hb, hk⟩; refine ⟨_, rfl, ?_⟩; have n0_ := Aside0.mk (hb); have n1_ := Aside0.mk (hi); clear HB; clear HI294; have HB := n0_; have HI294 := n1_; clear n0_ n1_; (try clear hb); (try clear hb2); (try clear hk); (try clear hi)))
          refine bodyPost_ret (results_list (rs := [.tmp 2, .tmp 3, .tmp 4, .tmp 5]) rfl (by simp) (.tmp (.tmp (.tmp (.tmp .nil))))) rfl ?_
          exact ⟨by first | rfl | (simp [errW_none, errW_some] <;> rfl) | (simp [*, errW_none, errW_some] <;> rfl), by repeat (first | (with_reducible first | exact HB.out | apply below_alloc | apply pw_below_drewN | apply below_drew1 | refine below_set ?_ (IsS58.ge HI294.out)) | exact HB.out)⟩

/-! ### impl_in: function 33 -/
def impl_in.f (a0 : Int) (a1 : Int) (a2 : Int) : Option (Bool) := if a0 ≥ a1 then (some (decide (a0 ≤ a2))) else (some false)
set_option maxHeartbeats 8000000 in
set_option maxRecDepth 100000 in
theorem impl_in.calls (a0 : Int) (a1 : Int) (a2 : Int) (r : Bool) (w : World) (h : impl_in.f a0 a1 a2 = some r) :
    Calls Try.prog 33 #[.int .i64 a0, .int .i64 a1, .int .i64 a2] w fun e w' => e = .returned (.bool r) ∧ Drawn0 w w' := by
  have H : (if a0 ≥ a1 then (some (decide (a0 ≤ a2))) else (some false)) = some r := h
  clear h
  by_cases c4 : a0 ≥ a1
  · rw [if_pos c4] at H
    have c4b0 : decide (a1 ≤ a0) = true := decide_eq_true c4
    clear c4
    obtain rfl := Option.some.inj H
    go_enter Try.func33, Try.ntmps33
    go_wp2
    go_ret
    exact ⟨by first | rfl | (simp; done) | (simp [*]; done), by repeat (first | exact Drawn0.refl _ | apply Drawn0.step)⟩
  · rw [if_neg c4] at H
    have c4b0 : decide (a1 ≤ a0) = false := decide_eq_false c4
    clear c4
    obtain rfl := Option.some.inj H
    go_enter Try.func33, Try.ntmps33
    go_wp2
    go_ret
    exact ⟨by first | rfl | (simp; done) | (simp [*]; done), by repeat (first | exact Drawn0.refl _ | apply Drawn0.step)⟩

/-! ### impl_lzwOk: function 32 -/
def impl_lzwOk.f (a0 : Int) (a1 : Bool) : Option (Bool) := (impl_in.f a0 2 8).bind fun t322 => (if t322 = true then (if a1 = true then (some (a0 == 8)) else (some true)) else (some false))
set_option maxHeartbeats 8000000 in
set_option maxRecDepth 100000 in
theorem impl_lzwOk.calls (a0 : Int) (a1 : Bool) (r : Bool) (w : World) (h : impl_lzwOk.f a0 a1 = some r) :
    Calls Try.prog 32 #[.int .i64 a0, .bool a1] w fun e w' => e = .returned (.bool r) ∧ Drawn0 w w' := by
  have H : ((impl_in.f a0 2 8).bind fun t322 => (if t322 = true then (if a1 = true then (some (a0 == 8)) else (some true)) else (some false))) = some r := h
  clear h
  replace H := Option.bind_eq_some_iff.mp H
  obtain ⟨t322, A30, H⟩ := H
  replace H : (if t322 = true then (if a1 = true then (some (a0 == 8)) else (some true)) else (some false)) = some r := H
  have A3 := Aside0.mk A30
  clear A30
  by_cases c4 : t322 = true
  · subst c4
    have H1 : (if a1 = true then (some (a0 == 8)) else (some true)) = some r := by first | (rw [if_pos rfl] at H; exact H) | rfl
    clear H
    have H := H1
    clear H1
    by_cases c5 : a1 = true
    · subst c5
      have H1 : (some (a0 == 8)) = some r := by first | (rw [if_pos rfl] at H; exact H) | rfl
      clear H
      have H := H1
      clear H1
      obtain rfl := Option.some.inj H
      go_enter Try.func32, Try.ntmps32
      go_wp2_with (first | ((with_reducible refine gate_callee (f := 33) rfl ?_); refine goesL_ (some 6) rfl rfl Try.func33 (by kernel_rfl) rfl #[.int .i64 a0, .int .i64 2, .int .i64 8] rfl (by (try simp only [List.map_toArray, List.map_cons, List.map_nil]); first | done | rfl | (simp only [List.length_drop, List.length_take]; rfl)) ?_; (with_reducible refine (impl_in.calls a0 2 8 true _ A3.out).mono ?_); rintro e w' ⟨rfl, ⟨nd, rfl⟩⟩; refine ⟨_, rfl, ?_⟩))
      go_ret
      exact ⟨by first | rfl | (simp; done) | (simp [*]; done), by repeat (first | exact Drawn0.refl _ | apply Drawn0.step)⟩
    · replace c5 := Bool.eq_false_iff.mpr c5
      subst c5
      have H1 : (some true) = some r := by first | (rw [if_neg (show ¬ (false = true) by decide)] at H; exact H) | rfl
      clear H
      have H := H1
      clear H1
      obtain rfl := Option.some.inj H
      go_enter Try.func32, Try.ntmps32
      go_wp2_with (first | ((with_reducible refine gate_callee (f := 33) rfl ?_); refine goesL_ (some 6) rfl rfl Try.func33 (by kernel_rfl) rfl #[.int .i64 a0, .int .i64 2, .int .i64 8] rfl (by (try simp only [List.map_toArray, List.map_cons, List.map_nil]); first | done | rfl | (simp only [List.length_drop, List.length_take]; rfl)) ?_; (with_reducible refine (impl_in.calls a0 2 8 true _ A3.out).mono ?_); rintro e w' ⟨rfl, ⟨nd, rfl⟩⟩; refine ⟨_, rfl, ?_⟩))
      go_ret
      exact ⟨by first | rfl | (simp; done) | (simp [*]; done), by repeat (first | exact Drawn0.refl _ | apply Drawn0.step)⟩
  · replace c4 := Bool.eq_false_iff.mpr c4
    subst c4
    have H1 : (some false) = some r := by first | (rw [if_neg (show ¬ (false = true) by decide)] at H; exact H) | rfl
    clear H
    have H := H1
    clear H1
    obtain rfl := Option.some.inj H
    go_enter Try.func32, Try.ntmps32
    go_wp2_with (first | ((with_reducible refine gate_callee (f := 33) rfl ?_); refine goesL_ (some 6) rfl rfl Try.func33 (by kernel_rfl) rfl #[.int .i64 a0, .int .i64 2, .int .i64 8] rfl (by (try simp only [List.map_toArray, List.map_cons, List.map_nil]); first | done | rfl | (simp only [List.length_drop, List.length_take]; rfl)) ?_; (with_reducible refine (impl_in.calls a0 2 8 false _ A3.out).mono ?_); rintro e w' ⟨rfl, ⟨nd, rfl⟩⟩; refine ⟨_, rfl, ?_⟩))
    go_ret
    exact ⟨by first | rfl | (simp; done) | (simp [*]; done), by repeat (first | exact Drawn0.refl _ | apply Drawn0.step)⟩

/-! ### impl_bitAt: function 45 -/
def impl_bitAt.f (a0 : ByteArray) (a1 : Int) (a2 : Bool) : Option (Int) := if a2 = true then (if 0 ≤ (wrap64 (Int.tdiv a1 8)) then (if (wrap64 (Int.tdiv a1 8)) < (a0.size : Int) then (if 0 ≤ (wrap64 (7 - (Int.tmod a1 8))) then (some (Go.bits .and .i64 (shr .i64 (wrap64 (bt a0 (wrap64 (Int.tdiv a1 8)))) (wrap64 (7 - (Int.tmod a1 8)))) 1)) else (none)) else (none)) else (none)) else (if 0 ≤ (wrap64 (Int.tdiv a1 8)) then (if (wrap64 (Int.tdiv a1 8)) < (a0.size : Int) then (if 0 ≤ (Int.tmod a1 8) then (some (Go.bits .and .i64 (shr .i64 (wrap64 (bt a0 (wrap64 (Int.tdiv a1 8)))) (Int.tmod a1 8)) 1)) else (none)) else (none)) else (none))
set_option maxHeartbeats 8000000 in
set_option maxRecDepth 100000 in
theorem impl_bitAt.calls (a0 : ByteArray) (a1 : Int) (a2 : Bool) (r : Int) (w : World) (h : impl_bitAt.f a0 a1 a2 = some r) :
    Calls Try.prog 45 #[.string a0, .int .i64 a1, .bool a2] w fun e w' => e = .returned (.int .i64 r) ∧ Drawn0 w w' := by
  have H : (if a2 = true then (if 0 ≤ (wrap64 (Int.tdiv a1 8)) then (if (wrap64 (Int.tdiv a1 8)) < (a0.size : Int) then (if 0 ≤ (wrap64 (7 - (Int.tmod a1 8))) then (some (Go.bits .and .i64 (shr .i64 (wrap64 (bt a0 (wrap64 (Int.tdiv a1 8)))) (wrap64 (7 - (Int.tmod a1 8)))) 1)) else (none)) else (none)) else (none)) else (if 0 ≤ (wrap64 (Int.tdiv a1 8)) then (if (wrap64 (Int.tdiv a1 8)) < (a0.size : Int) then (if 0 ≤ (Int.tmod a1 8) then (some (Go.bits .and .i64 (shr .i64 (wrap64 (bt a0 (wrap64 (Int.tdiv a1 8)))) (Int.tmod a1 8)) 1)) else (none)) else (none)) else (none))) = some r := h
  clear h
  by_cases c4 : a2 = true
  · subst c4
    have H1 : (if 0 ≤ (wrap64 (Int.tdiv a1 8)) then (if (wrap64 (Int.tdiv a1 8)) < (a0.size : Int) then (if 0 ≤ (wrap64 (7 - (Int.tmod a1 8))) then (some (Go.bits .and .i64 (shr .i64 (wrap64 (bt a0 (wrap64 (Int.tdiv a1 8)))) (wrap64 (7 - (Int.tmod a1 8)))) 1)) else (none)) else (none)) else (none)) = some r := by first | (rw [if_pos rfl] at H; exact H) | rfl
    clear H
    have H := H1
    clear H1
    obtain ⟨ji5, hji5⟩ : ∃ j_ : Int, (wrap64 (Int.tdiv a1 8)) = j_ := ⟨_, rfl⟩
    replace H : (if 0 ≤ (ji5) then (if (ji5) < (a0.size : Int) then (if 0 ≤ (wrap64 (7 - (Int.tmod a1 8))) then (some (Go.bits .and .i64 (shr .i64 (wrap64 (bt a0 (ji5))) (wrap64 (7 - (Int.tmod a1 8)))) 1)) else (none)) else (none)) else (none)) = some r := by first | (rw [hji5] at H; exact H) | (simp only [hji5] at H ⊢; exact H)
    have hji5w : (IntKind.i64.wrap (Int.tdiv a1 8)) = ji5 := (i64_w _).trans hji5
    by_cases c6 : 0 ≤ (ji5)
    · rw [if_pos c6] at H
      have c6b0 : decide (0 ≤ (ji5)) = true := decide_eq_true c6
      clear c6
      by_cases c7 : (ji5) < (a0.size : Int)
      · rw [if_pos c7] at H
        have c7b0 : decide ((ji5) < (a0.size : Int)) = true := decide_eq_true c7
        clear c7
        obtain ⟨ji9, hji9⟩ : ∃ j_ : Int, (wrap64 (7 - (Int.tmod a1 8))) = j_ := ⟨_, rfl⟩
        replace H : (if 0 ≤ (ji9) then (some (Go.bits .and .i64 (shr .i64 (wrap64 (bt a0 (ji5))) (ji9)) 1)) else (none)) = some r := by first | (rw [hji9] at H; exact H) | (simp only [hji9] at H ⊢; exact H)
        have hji9w : (IntKind.i64.wrap (7 - (Int.tmod a1 8))) = ji9 := (i64_w _).trans hji9
        by_cases c10 : 0 ≤ (ji9)
        · rw [if_pos c10] at H
          have c10b0 := eq_true c10
          have c10b1 : decide (0 ≤ (ji9)) = true := decide_eq_true c10
          clear c10
          obtain ⟨ji11, hji11⟩ : ∃ j_ : Int, (shr .i64 (wrap64 (bt a0 (ji5))) (ji9)) = j_ := ⟨_, rfl⟩
          replace H : (some (Go.bits .and .i64 (ji11) 1)) = some r := by first | (rw [hji11] at H; exact H) | (simp only [hji11] at H ⊢; exact H)
          have hji11_ : ((wrap64 (bt a0 (ji5))) / 2 ^ min (ji9).toNat 64) = ji11 := hji11
          have hji11z : (ji9) ≤ 64 → ((wrap64 (bt a0 (ji5))) / 2 ^ (ji9).toNat) = ji11 := shr_small hji11
          obtain rfl := Option.some.inj H
          have p8 : 0 ≤ ((ji5) : Int) := of_decide_eq_true (by first | (with_reducible assumption) | assumption)
          have q8 : (ji5) < (a0.size : Int) := of_decide_eq_true (by first | (with_reducible assumption) | assumption)
          have hx8 := bt_at a0 (ji5)
          replace p8 := eq_true p8
          replace q8 := eq_true q8
          go_enter Try.func45, Try.ntmps45
          go_wp2
          go_ret
          exact ⟨by first | rfl | (simp; done) | (simp only [← hji5, ← hji9, ← hji11] <;> (first | rfl | simp)) | (simp [*]; done), by repeat (first | exact Drawn0.refl _ | apply Drawn0.step)⟩
        · rw [if_neg c10] at H
          exact absurd H (by simp)
      · rw [if_neg c7] at H
        exact absurd H (by simp)
    · rw [if_neg c6] at H
      exact absurd H (by simp)
  · replace c4 := Bool.eq_false_iff.mpr c4
    subst c4
    have H1 : (if 0 ≤ (wrap64 (Int.tdiv a1 8)) then (if (wrap64 (Int.tdiv a1 8)) < (a0.size : Int) then (if 0 ≤ (Int.tmod a1 8) then (some (Go.bits .and .i64 (shr .i64 (wrap64 (bt a0 (wrap64 (Int.tdiv a1 8)))) (Int.tmod a1 8)) 1)) else (none)) else (none)) else (none)) = some r := by first | (rw [if_neg (show ¬ (false = true) by decide)] at H; exact H) | rfl
    clear H
    have H := H1
    clear H1
    obtain ⟨ji12, hji12⟩ : ∃ j_ : Int, (wrap64 (Int.tdiv a1 8)) = j_ := ⟨_, rfl⟩
    replace H : (if 0 ≤ (ji12) then (if (ji12) < (a0.size : Int) then (if 0 ≤ (Int.tmod a1 8) then (some (Go.bits .and .i64 (shr .i64 (wrap64 (bt a0 (ji12))) (Int.tmod a1 8)) 1)) else (none)) else (none)) else (none)) = some r := by first | (rw [hji12] at H; exact H) | (simp only [hji12] at H ⊢; exact H)
    have hji12w : (IntKind.i64.wrap (Int.tdiv a1 8)) = ji12 := (i64_w _).trans hji12
    by_cases c13 : 0 ≤ (ji12)
    · rw [if_pos c13] at H
      have c13b0 : decide (0 ≤ (ji12)) = true := decide_eq_true c13
      clear c13
      by_cases c14 : (ji12) < (a0.size : Int)
      · rw [if_pos c14] at H
        have c14b0 : decide ((ji12) < (a0.size : Int)) = true := decide_eq_true c14
        clear c14
        obtain ⟨ji16, hji16⟩ : ∃ j_ : Int, (Int.tmod a1 8) = j_ := ⟨_, rfl⟩
        replace H : (if 0 ≤ (ji16) then (some (Go.bits .and .i64 (shr .i64 (wrap64 (bt a0 (ji12))) (ji16)) 1)) else (none)) = some r := by first | (rw [hji16] at H; exact H) | (simp only [hji16] at H ⊢; exact H)
        by_cases c17 : 0 ≤ (ji16)
        · rw [if_pos c17] at H
          have c17b0 := eq_true c17
          have c17b1 : decide (0 ≤ (ji16)) = true := decide_eq_true c17
          clear c17
          obtain ⟨ji18, hji18⟩ : ∃ j_ : Int, (shr .i64 (wrap64 (bt a0 (ji12))) (ji16)) = j_ := ⟨_, rfl⟩
          replace H : (some (Go.bits .and .i64 (ji18) 1)) = some r := by first | (rw [hji18] at H; exact H) | (simp only [hji18] at H ⊢; exact H)
          have hji18_ : ((wrap64 (bt a0 (ji12))) / 2 ^ min (ji16).toNat 64) = ji18 := hji18
          have hji18z : (ji16) ≤ 64 → ((wrap64 (bt a0 (ji12))) / 2 ^ (ji16).toNat) = ji18 := shr_small hji18
          obtain rfl := Option.some.inj H
          have p15 : 0 ≤ ((ji12) : Int) := of_decide_eq_true (by first | (with_reducible assumption) | assumption)
          have q15 : (ji12) < (a0.size : Int) := of_decide_eq_true (by first | (with_reducible assumption) | assumption)
          have hx15 := bt_at a0 (ji12)
          replace p15 := eq_true p15
          replace q15 := eq_true q15
          go_enter Try.func45, Try.ntmps45
          go_wp2
          go_ret
          exact ⟨by first | rfl | (simp; done) | (simp only [← hji12, ← hji16, ← hji18] <;> (first | rfl | simp)) | (simp [*]; done), by repeat (first | exact Drawn0.refl _ | apply Drawn0.step)⟩
        · rw [if_neg c17] at H
          exact absurd H (by simp)
      · rw [if_neg c14] at H
        exact absurd H (by simp)
    · rw [if_neg c13] at H
      exact absurd H (by simp)

end Go.Proofs.Ytdebckcphaocmaa.PFnLzwGet
