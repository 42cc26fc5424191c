/- What the functions that the law comes to compute, as plain functions, and that the machine's calls come to just that: written by a program for this claim, and turned where Lean did not take it. No condition. -/
import Derived.Test.YtfladcffgblfdaaThRowZ
import Derived.Test.YtfladcffgblfdaaHFnCrcBitx0
import Derived.Test.YtfladcffgblfdaaHFnCrcBitx1
import Derived.Test.YtfladcffgblfdaaHFnCrcBitx2
import Derived.Test.YtfladcffgblfdaaHFnCrcBitx3
namespace Go.Proofs.Ytfladcffgblfdaa.PFnCrcBit
open Go.RowKit Go.Proofs.YtfladcffgblfdaaW.PrintWords Go.Proofs.YtfladcffgblfdaaW.PrintLast Go.Proofs.YtfladcffgblfdaaW.PrintMore
attribute [local go_sem] max2_int min2_int max_two min_two max_three min_three max_four min_four   -- for this text's walks alone
set_option linter.unusedVariables false
set_option linter.unusedSimpArgs false

/-! ### laws_FnCrcBit: function 5 -/
mutual
def laws_FnCrcBit.j0 : Nat → List Int → List Int → Bool → Option (Bool)
  | 0, _, _, _ => none
  | k + 1, x0, x1, x15 => if x15 = true then (some true) else ((spec_DrawCrc32.f k x0).bind fun t159 => ((impl_Crc32.f k t159).bind fun t160 => ((spec_Crc32.f k t159).bind fun t161 => (if t160 = t161 then ((impl_Adler32.f k t159).bind fun t162 => ((spec_Adler32.f k t159).bind fun t163 => (if t162 = t163 then (if t159.toList = ([] : List UInt8) then (laws_FnCrcBit.j1 k x0 x1 t159 true) else (laws_FnCrcBit.j1 k x0 x1 t159 (decide ((t159.size : Int) > 9000)))) else (laws_FnCrcBit.j1 k x0 x1 t159 true)))) else (laws_FnCrcBit.j1 k x0 x1 t159 true)))))
def laws_FnCrcBit.j1 : Nat → List Int → List Int → ByteArray → Bool → Option (Bool)
  | 0, _, _, _, _ => none
  | k + 1, x0, x1, x5, x38 => if x38 = true then ((impl_Crc32.f k x5).bind fun t164 => ((spec_Crc32.f k x5).bind fun t165 => (if t164 = t165 then ((impl_Adler32.f k x5).bind fun t166 => ((spec_Adler32.f k x5).bind fun t167 => (some (t166 == t167)))) else (some false)))) else (if x5.size ≤ 9223372036854775807 then ((some (bytesOf x5 : List Int)).bind fun y168 => (if (y168.length : Int) = 0 then (none) else (if 0 ≤ ((x1.length : Int) % (y168.length : Int)) then (if ((x1.length : Int) % (y168.length : Int)) < (y168.length : Int) then ((laws_wiPow.f k ((x0.length : Int) % 8)).bind fun t172 => ((some (y168.set (((x1.length : Int) % (y168.length : Int)) : Int).toNat (Go.bits .xor .u8 (rd y168 ((x1.length : Int) % (y168.length : Int))) ((t172) % 256)) : List Int)).bind fun y173 => ((impl_Crc32.f k (strOfNums y173)).bind fun t174 => ((impl_Crc32.f k x5).bind fun t175 => (if t174 = t175 then (some false) else ((impl_Adler32.f k (strOfNums y173)).bind fun t176 => ((impl_Adler32.f k x5).bind fun t177 => (some (t176 != t177))))))))) else (none)) else (none)))) else (none))
end
def laws_FnCrcBit.f (k : Nat) (l0 : List Int) (l1 : List Int) : Option (Bool) := if (l0.length : Int) > 1048576 then (laws_FnCrcBit.j0 k l0 l1 true) else (laws_FnCrcBit.j0 k l0 l1 (decide ((l1.length : Int) > 1048576)))
theorem laws_FnCrcBit.mono_l : ∀ k, (∀ y0 y1 y2, LeO (laws_FnCrcBit.j0 k y0 y1 y2) (laws_FnCrcBit.j0 (k + 1) y0 y1 y2)) ∧ (∀ y0 y1 y2 y3, LeO (laws_FnCrcBit.j1 k y0 y1 y2 y3) (laws_FnCrcBit.j1 (k + 1) y0 y1 y2 y3))
  | 0 => ⟨fun _ _ _ r h => by simp [laws_FnCrcBit.j0] at h, fun _ _ _ _ r h => by simp [laws_FnCrcBit.j1] at h⟩
  | k + 1 => by
    obtain ⟨ih0, ih1⟩ := laws_FnCrcBit.mono_l k
    refine ⟨?_, ?_⟩
    · intro y0 y1 y2
      unfold laws_FnCrcBit.j0
      repeat' first
      | (with_reducible exact ih0 _ _ _)
      | (with_reducible exact ih1 _ _ _ _)
      | (with_reducible exact impl_Adler32.mono _ _)
      | (with_reducible exact impl_Crc32.mono _ _)
      | (with_reducible exact laws_wiPow.mono _ _)
      | (with_reducible exact spec_Adler32.mono _ _)
      | (with_reducible exact spec_Crc32.mono _ _)
      | (with_reducible exact spec_DrawCrc32.mono _ _)
      | (with_reducible exact LeO.refl _)
      | (with_reducible exact LeO.none _)
      | (with_reducible refine LeO.ite ?_ ?_)
      | (with_reducible refine LeO.bind ?_ (fun _ => ?_))
      | exact ih0 _ _ _
      | exact ih1 _ _ _ _
      | exact impl_Adler32.mono _ _
      | exact impl_Crc32.mono _ _
      | exact laws_wiPow.mono _ _
      | exact spec_Adler32.mono _ _
      | exact spec_Crc32.mono _ _
      | exact spec_DrawCrc32.mono _ _
      | exact LeO.none _
      | refine LeO.ite ?_ ?_
      | refine LeO.bind ?_ (fun _ => ?_)
    · intro y0 y1 y2 y3
      unfold laws_FnCrcBit.j1
      repeat' first
      | (with_reducible exact ih0 _ _ _)
      | (with_reducible exact ih1 _ _ _ _)
      | (with_reducible exact impl_Adler32.mono _ _)
      | (with_reducible exact impl_Crc32.mono _ _)
      | (with_reducible exact laws_wiPow.mono _ _)
      | (with_reducible exact spec_Adler32.mono _ _)
      | (with_reducible exact spec_Crc32.mono _ _)
      | (with_reducible exact spec_DrawCrc32.mono _ _)
      | (with_reducible exact LeO.refl _)
      | (with_reducible exact LeO.none _)
      | (with_reducible refine LeO.ite ?_ ?_)
      | (with_reducible refine LeO.bind ?_ (fun _ => ?_))
      | exact ih0 _ _ _
      | exact ih1 _ _ _ _
      | exact impl_Adler32.mono _ _
      | exact impl_Crc32.mono _ _
      | exact laws_wiPow.mono _ _
      | exact spec_Adler32.mono _ _
      | exact spec_Crc32.mono _ _
      | exact spec_DrawCrc32.mono _ _
      | exact LeO.none _
      | refine LeO.ite ?_ ?_
      | refine LeO.bind ?_ (fun _ => ?_)
theorem laws_FnCrcBit.mono : ∀ a0 a1 k, LeO (laws_FnCrcBit.f k a0 a1) (laws_FnCrcBit.f (k + 1) a0 a1) := by
  intro a0 a1 k
  obtain ⟨ih0, ih1⟩ := laws_FnCrcBit.mono_l k
  unfold laws_FnCrcBit.f
  repeat' first
      | (with_reducible exact ih0 _ _ _)
      | (with_reducible exact ih1 _ _ _ _)
      | (with_reducible exact impl_Adler32.mono _ _)
      | (with_reducible exact impl_Crc32.mono _ _)
      | (with_reducible exact laws_wiPow.mono _ _)
      | (with_reducible exact spec_Adler32.mono _ _)
      | (with_reducible exact spec_Crc32.mono _ _)
      | (with_reducible exact spec_DrawCrc32.mono _ _)
      | (with_reducible exact LeO.refl _)
      | (with_reducible exact LeO.none _)
      | (with_reducible refine LeO.ite ?_ ?_)
      | (with_reducible refine LeO.bind ?_ (fun _ => ?_))
      | exact ih0 _ _ _
      | exact ih1 _ _ _ _
      | exact impl_Adler32.mono _ _
      | exact impl_Crc32.mono _ _
      | exact laws_wiPow.mono _ _
      | exact spec_Adler32.mono _ _
      | exact spec_Crc32.mono _ _
      | exact spec_DrawCrc32.mono _ _
      | exact LeO.none _
      | refine LeO.ite ?_ ?_
      | refine LeO.bind ?_ (fun _ => ?_)
def laws_FnCrcBit.T8 : Bool × List (List Nat × List Nat) := (true, [([], []), ([], []), ([], []), ([], []), ([2, 3], [2, 3]), ([4], [4]), ([], []), ([6], [6]), ([7], [7]), ([8], [8]), ([9], [9]), ([5, 10], [5, 10]), ([0, 1, 0, 1, 2, 3, 4, 5, 6, 7, 8, 9, 10, 11], [0, 1]), ([12, 11, 9, 0, 1, 2, 3, 4, 5, 6, 7, 8, 9, 10, 11], [11, 12])])
def laws_FnCrcBit.B8 : List Nat := [0, 0, 0, 0, 12, 28, 0, 64, 192, 448, 960, 2044, 4095, 8191]
theorem laws_FnCrcBit.tab8 : rtab .any (opsOf Try.f5 8) = laws_FnCrcBit.T8 := by kernel_rfl
theorem laws_FnCrcBit.bits8 : waitsOk laws_FnCrcBit.T8.2 laws_FnCrcBit.B8 = true := by kernel_rfl
set_option maxHeartbeats 8000000 in
set_option maxRecDepth 100000 in
theorem laws_FnCrcBit.calls (k : Nat) (A0 : Option Addr) (c0 : Nat) (l0 : List Int) (A1 : Option Addr) (c1 : Nat) (l1 : List Int) (r : Bool) (w : World) (hr0 : Kd.C (Kd.int .u8) w A0 l0.length l0) (hc0 : l0.length ≤ c0) (hr1 : Kd.C (Kd.int .u8) w A1 l1.length l1) (hc1 : l1.length ≤ c1) (h : laws_FnCrcBit.f k l0 l1 = some r) :
    Calls Try.prog 5 #[.slice A0 l0.length c0, .slice A1 l1.length c1] w fun e w' => e = .returned (.bool r) ∧ Below w.heap.size w w' := by
  have HR0 := Aside0.mk hr0
  have HC0 := Aside0.mk hc0
  clear hr0 hc0
  have HR1 := Aside0.mk hr1
  have HC1 := Aside0.mk hc1
  clear hr1 hc1
  have HB := Aside0.mk (Below.refl w.heap.size w)
  have H : (if (l0.length : Int) > 1048576 then (laws_FnCrcBit.j0 k l0 l1 true) else (laws_FnCrcBit.j0 k l0 l1 (decide ((l1.length : Int) > 1048576)))) = some r := h
  clear h
  have HC3 := Aside0.mk H
  clear H
  go_enter Try.func5, Try.ntmps5
  go_upto_region 1 with (fail)
  go_cut [15] (fun v15 wc => ∃ (kq : Nat) (x15_2 : Bool), v15 = .bool x15_2 ∧ Aside0 (laws_FnCrcBit.j0 kq l0 l1 x15_2 = some r) ∧ Aside0 (kq ≤ k) ∧ Aside0 (Below w.heap.size w wc))
  case first =>
    have H := HC3.out
    clear HC3
    by_cases c4 : (l0.length : Int) > 1048576
    · rw [if_pos c4] at H
      have c4b0 : decide (1048576 < (l0.length : Int)) = true := decide_eq_true c4
      have c4b1 : decide (1048576 < l0.length) = true := decide_eq_true (by omega)
      clear c4
      (first | rw [c4b0] | (simp only [i64_w, i32_w]; rw [c4b0]) | skip)
      have H' := Aside0.mk H
      clear H
      go_wp2
      go_meet
      case rel => exact ⟨_, (true), (by first | rfl | (simp; done) | (simp [*]; done)), H', ⟨by first | omega | exact Nat.le_refl _⟩, ⟨by repeat (first | (with_reducible first | exact HB.out | apply below_alloc | apply pw_below_drewN | apply below_drew1) | exact HB.out)⟩⟩
    · rw [if_neg c4] at H
      have c4b0 : decide (1048576 < (l0.length : Int)) = false := decide_eq_false c4
      have c4b1 : decide (1048576 < l0.length) = false := decide_eq_false (by omega)
      clear c4
      (first | rw [c4b0] | (simp only [i64_w, i32_w]; rw [c4b0]) | skip)
      have H' := Aside0.mk H
      clear H
      go_wp2
      go_meet
      case rel => exact ⟨_, (decide ((l1.length : Int) > 1048576)), (by first | rfl | (simp; done) | (simp [*]; done)), H', ⟨by first | omega | exact Nat.le_refl _⟩, ⟨by repeat (first | (with_reducible first | exact HB.out | apply below_alloc | apply pw_below_drewN | apply below_drew1) | exact HB.out)⟩⟩
  case rest =>
    clear HC3
    try clear c1
    try clear p2
    try clear c4
    try clear c4b0
    try clear c4b1
    obtain ⟨kq, x15_2, rfl, HA, HJ2, HB⟩ := hcut
    cases kq with
    | zero => exact absurd HA.out (by simp [laws_FnCrcBit.j0])
    | succ kj2 =>
      have H := HA.out
      clear HA
      simp only [laws_FnCrcBit.j0] at H
      by_cases c5 : x15_2 = true
      · subst c5
        have H1 : (some true) = some r := by rw [if_pos rfl] at H; exact H
        clear H
        have H := H1
        clear H1
        obtain rfl := Option.some.inj H
        go_wp2
        go_ret
        exact ⟨by first | rfl | (simp [errW_none, errW_some] <;> rfl) | (simp [*, errW_none, errW_some] <;> rfl), by repeat (first | (with_reducible first | exact HB.out | apply below_alloc | apply pw_below_drewN | apply below_drew1) | exact HB.out)⟩
      · replace c5 := Bool.eq_false_iff.mpr c5
        subst c5
        have H1 : ((spec_DrawCrc32.f kj2 l0).bind fun t159 => ((impl_Crc32.f kj2 t159).bind fun t160 => ((spec_Crc32.f kj2 t159).bind fun t161 => (if t160 = t161 then ((impl_Adler32.f kj2 t159).bind fun t162 => ((spec_Adler32.f kj2 t159).bind fun t163 => (if t162 = t163 then (if t159.toList = ([] : List UInt8) then (laws_FnCrcBit.j1 kj2 l0 l1 t159 true) else (laws_FnCrcBit.j1 kj2 l0 l1 t159 (decide ((t159.size : Int) > 9000)))) else (laws_FnCrcBit.j1 kj2 l0 l1 t159 true)))) else (laws_FnCrcBit.j1 kj2 l0 l1 t159 true))))) = some r := by rw [if_neg (show ¬ (false = true) by decide)] at H; exact H
        clear H
        have H := H1
        clear H1
        replace H := Option.bind_eq_some_iff.mp H
        obtain ⟨t159, A60, H⟩ := H
        replace H : ((impl_Crc32.f kj2 t159).bind fun t160 => ((spec_Crc32.f kj2 t159).bind fun t161 => (if t160 = t161 then ((impl_Adler32.f kj2 t159).bind fun t162 => ((spec_Adler32.f kj2 t159).bind fun t163 => (if t162 = t163 then (if t159.toList = ([] : List UInt8) then (laws_FnCrcBit.j1 kj2 l0 l1 t159 true) else (laws_FnCrcBit.j1 kj2 l0 l1 t159 (decide ((t159.size : Int) > 9000)))) else (laws_FnCrcBit.j1 kj2 l0 l1 t159 true)))) else (laws_FnCrcBit.j1 kj2 l0 l1 t159 true)))) = some r := H
        have A6 := Aside0.mk A60
        clear A60
        have HC7 := Aside0.mk H
        clear H
        go_upto_region 4 with (first | ((with_reducible refine gate_callee (f := 15) rfl ?_); refine goesL_ (some 17) rfl rfl Try.func15 (by kernel_rfl) rfl #[.slice A0 l0.length c0] rfl (by (try simp only [List.map_toArray, List.map_cons, List.map_nil]); first | done | rfl | (simp only [List.length_drop, List.length_take]; rfl)) ?_; (with_reducible refine (spec_DrawCrc32.calls kj2 _ _ l0 t159 _ ?side1 ?side2 A6.out).mono ?_); (case side1 => repeat (first | exact (Kd.C_below HR0.out HB.out) | (with_reducible refine Kd.C_alloc ?_ _) | (with_reducible refine Kd.C_drewN ?_ _) | (with_reducible refine Kd.C_drew ?_))); (case side2 => exact HC0.out); rintro e w8 ⟨rfl, hb⟩; refine ⟨_, rfl, ?_⟩; have n0_ := Aside0.mk (below_step (by repeat (first | (with_reducible first | exact HB.out | apply below_alloc | apply pw_below_drewN | apply below_drew1) | exact HB.out)) hb); clear HB; have HB := n0_; clear n0_; (try clear hb); (try clear hb2); (try clear hk); (try clear hi)))
        (try simp only [Act.put, List.setIfInBounds_toArray, List.set_cons_zero, List.set_cons_succ])
        go_cut [38] (fun v38 wc => ∃ (kq : Nat) (x38_6 : Bool), v38 = .bool x38_6 ∧ Aside0 (laws_FnCrcBit.j1 kq l0 l1 t159 x38_6 = some r) ∧ Aside0 (kq ≤ kj2) ∧ Aside0 (Below w.heap.size w wc))
        case first =>
          have H := HC7.out
          clear HC7
          replace H := Option.bind_eq_some_iff.mp H
          obtain ⟨t160, A90, H⟩ := H
          replace H : ((spec_Crc32.f kj2 t159).bind fun t161 => (if t160 = t161 then ((impl_Adler32.f kj2 t159).bind fun t162 => ((spec_Adler32.f kj2 t159).bind fun t163 => (if t162 = t163 then (if t159.toList = ([] : List UInt8) then (laws_FnCrcBit.j1 kj2 l0 l1 t159 true) else (laws_FnCrcBit.j1 kj2 l0 l1 t159 (decide ((t159.size : Int) > 9000)))) else (laws_FnCrcBit.j1 kj2 l0 l1 t159 true)))) else (laws_FnCrcBit.j1 kj2 l0 l1 t159 true))) = some r := H
          have A9 := Aside0.mk A90
          clear A90
          replace H := Option.bind_eq_some_iff.mp H
          obtain ⟨t161, A100, H⟩ := H
          replace H : (if t160 = t161 then ((impl_Adler32.f kj2 t159).bind fun t162 => ((spec_Adler32.f kj2 t159).bind fun t163 => (if t162 = t163 then (if t159.toList = ([] : List UInt8) then (laws_FnCrcBit.j1 kj2 l0 l1 t159 true) else (laws_FnCrcBit.j1 kj2 l0 l1 t159 (decide ((t159.size : Int) > 9000)))) else (laws_FnCrcBit.j1 kj2 l0 l1 t159 true)))) else (laws_FnCrcBit.j1 kj2 l0 l1 t159 true)) = some r := H
          have A10 := Aside0.mk A100
          clear A100
          by_cases c11 : t160 = t161
          · rw [if_pos c11] at H
            have c11b0 : (t160 == t161) = true := beq_iff_eq.mpr c11
            have c11b1 : (t160 != t161) = false := bne_eq_false_iff_eq.mpr c11
            clear c11
            (first | rw [c11b0] | (simp only [i64_w, i32_w]; rw [c11b0]) | skip)
            replace H := Option.bind_eq_some_iff.mp H
            obtain ⟨t162, A120, H⟩ := H
            replace H : ((spec_Adler32.f kj2 t159).bind fun t163 => (if t162 = t163 then (if t159.toList = ([] : List UInt8) then (laws_FnCrcBit.j1 kj2 l0 l1 t159 true) else (laws_FnCrcBit.j1 kj2 l0 l1 t159 (decide ((t159.size : Int) > 9000)))) else (laws_FnCrcBit.j1 kj2 l0 l1 t159 true))) = some r := H
            have A12 := Aside0.mk A120
            clear A120
            replace H := Option.bind_eq_some_iff.mp H
            obtain ⟨t163, A130, H⟩ := H
            replace H : (if t162 = t163 then (if t159.toList = ([] : List UInt8) then (laws_FnCrcBit.j1 kj2 l0 l1 t159 true) else (laws_FnCrcBit.j1 kj2 l0 l1 t159 (decide ((t159.size : Int) > 9000)))) else (laws_FnCrcBit.j1 kj2 l0 l1 t159 true)) = some r := H
            have A13 := Aside0.mk A130
            clear A130
            by_cases c14 : t162 = t163
            · rw [if_pos c14] at H
              have c14b0 : (t162 == t163) = true := beq_iff_eq.mpr c14
              have c14b1 : (t162 != t163) = false := bne_eq_false_iff_eq.mpr c14
              clear c14
              by_cases c15 : t159.toList = ([] : List UInt8)
              · rw [if_pos c15] at H
                have c15b0 : (t159.toList == ([] : List UInt8)) = true := beq_iff_eq.mpr c15
                have c15b1 : (t159.toList != ([] : List UInt8)) = false := bne_eq_false_iff_eq.mpr c15
                clear c15
                have H' := Aside0.mk H
                clear H
                go_wp2_with (first | ((with_reducible refine gate_callee (f := 17) rfl ?_); refine goesL_ (some 19) rfl rfl Try.func17 (by kernel_rfl) rfl #[.string t159] rfl (by (try simp only [List.map_toArray, List.map_cons, List.map_nil]); first | done | rfl | (simp only [List.length_drop, List.length_take]; rfl)) ?_; (with_reducible refine (impl_Crc32.calls kj2 t159 t160 _ A9.out).mono ?_); rintro e w16 ⟨rfl, hb⟩; refine ⟨_, rfl, ?_⟩; have n0_ := Aside0.mk (below_step (by repeat (first | (with_reducible first | exact HB.out | apply below_alloc | apply pw_below_drewN | apply below_drew1) | exact HB.out)) hb); clear HB; have HB := n0_; clear n0_; (try clear hb); (try clear hb2); (try clear hk); (try clear hi)) | ((with_reducible refine gate_callee (f := 18) rfl ?_); refine goesL_ (some 21) rfl rfl Try.func18 (by kernel_rfl) rfl #[.string t159] rfl (by (try simp only [List.map_toArray, List.map_cons, List.map_nil]); first | done | rfl | (simp only [List.length_drop, List.length_take]; rfl)) ?_; (with_reducible refine (spec_Crc32.calls kj2 t159 t161 _ A10.out).mono ?_); rintro e w' ⟨rfl, ⟨nd, rfl⟩⟩; refine ⟨_, rfl, ?_⟩) | (go_at_call 25; (with_reducible refine (impl_Adler32.calls kj2 t159 t162 _ A12.out).mono ?_); rintro e w17 ⟨rfl, hb⟩; have n0_ := Aside0.mk (below_step (by repeat (first | (with_reducible first | exact HB.out | apply below_alloc | apply pw_below_drewN | apply below_drew1) | exact HB.out)) hb); clear HB; have HB := n0_; clear n0_; (try clear hb); (try clear hb2); (try clear hk); (try clear hi)) | (go_at_call 26; (with_reducible refine (spec_Adler32.calls kj2 t159 t163 _ A13.out).mono ?_); rintro e w' ⟨rfl, ⟨nd, rfl⟩⟩))
                go_meet
                case rel => exact ⟨_, (true), (by first | rfl | (simp; done) | (simp [*]; done)), H', ⟨by have := HJ2.out; first | omega | exact Nat.le_refl _⟩, ⟨by repeat (first | (with_reducible first | exact HB.out | apply below_alloc | apply pw_below_drewN | apply below_drew1) | exact HB.out)⟩⟩
              · rw [if_neg c15] at H
                have c15b0 : (t159.toList == ([] : List UInt8)) = false := beq_eq_false_iff_ne.mpr c15
                have c15b1 : (t159.toList != ([] : List UInt8)) = true := bne_iff_ne.mpr c15
                have H' := Aside0.mk H
                clear H
                go_wp2_with (first | ((with_reducible refine gate_callee (f := 17) rfl ?_); refine goesL_ (some 19) rfl rfl Try.func17 (by kernel_rfl) rfl #[.string t159] rfl (by (try simp only [List.map_toArray, List.map_cons, List.map_nil]); first | done | rfl | (simp only [List.length_drop, List.length_take]; rfl)) ?_; (with_reducible refine (impl_Crc32.calls kj2 t159 t160 _ A9.out).mono ?_); rintro e w18 ⟨rfl, hb⟩; refine ⟨_, rfl, ?_⟩; have n0_ := Aside0.mk (below_step (by repeat (first | (with_reducible first | exact HB.out | apply below_alloc | apply pw_below_drewN | apply below_drew1) | exact HB.out)) hb); clear HB; have HB := n0_; clear n0_; (try clear hb); (try clear hb2); (try clear hk); (try clear hi)) | ((with_reducible refine gate_callee (f := 18) rfl ?_); refine goesL_ (some 21) rfl rfl Try.func18 (by kernel_rfl) rfl #[.string t159] rfl (by (try simp only [List.map_toArray, List.map_cons, List.map_nil]); first | done | rfl | (simp only [List.length_drop, List.length_take]; rfl)) ?_; (with_reducible refine (spec_Crc32.calls kj2 t159 t161 _ A10.out).mono ?_); rintro e w' ⟨rfl, ⟨nd, rfl⟩⟩; refine ⟨_, rfl, ?_⟩) | (go_at_call 25; (with_reducible refine (impl_Adler32.calls kj2 t159 t162 _ A12.out).mono ?_); rintro e w19 ⟨rfl, hb⟩; have n0_ := Aside0.mk (below_step (by repeat (first | (with_reducible first | exact HB.out | apply below_alloc | apply pw_below_drewN | apply below_drew1) | exact HB.out)) hb); clear HB; have HB := n0_; clear n0_; (try clear hb); (try clear hb2); (try clear hk); (try clear hi)) | (go_at_call 26; (with_reducible refine (spec_Adler32.calls kj2 t159 t163 _ A13.out).mono ?_); rintro e w' ⟨rfl, ⟨nd, rfl⟩⟩))
                go_meet
                case rel => exact ⟨_, (decide ((t159.size : Int) > 9000)), (by first | rfl | (simp; done) | (simp [*]; done)), H', ⟨by have := HJ2.out; first | omega | exact Nat.le_refl _⟩, ⟨by repeat (first | (with_reducible first | exact HB.out | apply below_alloc | apply pw_below_drewN | apply below_drew1) | exact HB.out)⟩⟩
            · rw [if_neg c14] at H
              have c14b0 : (t162 == t163) = false := beq_eq_false_iff_ne.mpr c14
              have c14b1 : (t162 != t163) = true := bne_iff_ne.mpr c14
              have H' := Aside0.mk H
              clear H
              go_wp2_with (first | ((with_reducible refine gate_callee (f := 17) rfl ?_); refine goesL_ (some 19) rfl rfl Try.func17 (by kernel_rfl) rfl #[.string t159] rfl (by (try simp only [List.map_toArray, List.map_cons, List.map_nil]); first | done | rfl | (simp only [List.length_drop, List.length_take]; rfl)) ?_; (with_reducible refine (impl_Crc32.calls kj2 t159 t160 _ A9.out).mono ?_); rintro e w20 ⟨rfl, hb⟩; refine ⟨_, rfl, ?_⟩; have n0_ := Aside0.mk (below_step (by repeat (first | (with_reducible first | exact HB.out | apply below_alloc | apply pw_below_drewN | apply below_drew1) | exact HB.out)) hb); clear HB; have HB := n0_; clear n0_; (try clear hb); (try clear hb2); (try clear hk); (try clear hi)) | ((with_reducible refine gate_callee (f := 18) rfl ?_); refine goesL_ (some 21) rfl rfl Try.func18 (by kernel_rfl) rfl #[.string t159] rfl (by (try simp only [List.map_toArray, List.map_cons, List.map_nil]); first | done | rfl | (simp only [List.length_drop, List.length_take]; rfl)) ?_; (with_reducible refine (spec_Crc32.calls kj2 t159 t161 _ A10.out).mono ?_); rintro e w' ⟨rfl, ⟨nd, rfl⟩⟩; refine ⟨_, rfl, ?_⟩) | (go_at_call 25; (with_reducible refine (impl_Adler32.calls kj2 t159 t162 _ A12.out).mono ?_); rintro e w21 ⟨rfl, hb⟩; have n0_ := Aside0.mk (below_step (by repeat (first | (with_reducible first | exact HB.out | apply below_alloc | apply pw_below_drewN | apply below_drew1) | exact HB.out)) hb); clear HB; have HB := n0_; clear n0_; (try clear hb); (try clear hb2); (try clear hk); (try clear hi)) | (go_at_call 26; (with_reducible refine (spec_Adler32.calls kj2 t159 t163 _ A13.out).mono ?_); rintro e w' ⟨rfl, ⟨nd, rfl⟩⟩))
              go_meet
              case rel => exact ⟨_, (true), (by first | rfl | (simp; done) | (simp [*]; done)), H', ⟨by have := HJ2.out; first | omega | exact Nat.le_refl _⟩, ⟨by repeat (first | (with_reducible first | exact HB.out | apply below_alloc | apply pw_below_drewN | apply below_drew1) | exact HB.out)⟩⟩
          · rw [if_neg c11] at H
            have c11b0 : (t160 == t161) = false := beq_eq_false_iff_ne.mpr c11
            have c11b1 : (t160 != t161) = true := bne_iff_ne.mpr c11
            (first | rw [c11b0] | (simp only [i64_w, i32_w]; rw [c11b0]) | skip)
            have H' := Aside0.mk H
            clear H
            go_wp2_with (first | ((with_reducible refine gate_callee (f := 17) rfl ?_); refine goesL_ (some 19) rfl rfl Try.func17 (by kernel_rfl) rfl #[.string t159] rfl (by (try simp only [List.map_toArray, List.map_cons, List.map_nil]); first | done | rfl | (simp only [List.length_drop, List.length_take]; rfl)) ?_; (with_reducible refine (impl_Crc32.calls kj2 t159 t160 _ A9.out).mono ?_); rintro e w22 ⟨rfl, hb⟩; refine ⟨_, rfl, ?_⟩; have n0_ := Aside0.mk (below_step (by repeat (first | (with_reducible first | exact HB.out | apply below_alloc | apply pw_below_drewN | apply below_drew1) | exact HB.out)) hb); clear HB; have HB := n0_; clear n0_; (try clear hb); (try clear hb2); (try clear hk); (try clear hi)) | ((with_reducible refine gate_callee (f := 18) rfl ?_); refine goesL_ (some 21) rfl rfl Try.func18 (by kernel_rfl) rfl #[.string t159] rfl (by (try simp only [List.map_toArray, List.map_cons, List.map_nil]); first | done | rfl | (simp only [List.length_drop, List.length_take]; rfl)) ?_; (with_reducible refine (spec_Crc32.calls kj2 t159 t161 _ A10.out).mono ?_); rintro e w' ⟨rfl, ⟨nd, rfl⟩⟩; refine ⟨_, rfl, ?_⟩))
            go_meet
            case rel => exact ⟨_, (true), (by first | rfl | (simp; done) | (simp [*]; done)), H', ⟨by have := HJ2.out; first | omega | exact Nat.le_refl _⟩, ⟨by repeat (first | (with_reducible first | exact HB.out | apply below_alloc | apply pw_below_drewN | apply below_drew1) | exact HB.out)⟩⟩
        case rest =>
          clear HC7
          try clear c1
          try clear p2
          try clear c3
          try clear c4
          try clear c4b0
          try clear c4b1
          try clear c5
          try clear c11
          try clear c11b0
          try clear c11b1
          try clear c14
          try clear c14b0
          try clear c14b1
          try clear c15
          try clear c15b0
          try clear c15b1
          try clear c17
          try clear c18
          try clear p2
          obtain ⟨kq, x38_6, rfl, HA, HJ6, HB⟩ := hcut
          cases kq with
          | zero => exact absurd HA.out (by simp [laws_FnCrcBit.j1])
          | succ kj6 =>
            have H := HA.out
            clear HA
            simp only [laws_FnCrcBit.j1] at H
            by_cases c23 : x38_6 = true
            · subst c23
              have H1 : ((impl_Crc32.f kj6 t159).bind fun t164 => ((spec_Crc32.f kj6 t159).bind fun t165 => (if t164 = t165 then ((impl_Adler32.f kj6 t159).bind fun t166 => ((spec_Adler32.f kj6 t159).bind fun t167 => (some (t166 == t167)))) else (some false)))) = some r := by rw [if_pos rfl] at H; exact H
              clear H
              have H := H1
              clear H1
              replace H := Option.bind_eq_some_iff.mp H
              obtain ⟨t164, A240, H⟩ := H
              replace H : ((spec_Crc32.f kj6 t159).bind fun t165 => (if t164 = t165 then ((impl_Adler32.f kj6 t159).bind fun t166 => ((spec_Adler32.f kj6 t159).bind fun t167 => (some (t166 == t167)))) else (some false))) = some r := H
              have A24 := Aside0.mk A240
              clear A240
              replace H := Option.bind_eq_some_iff.mp H
              obtain ⟨t165, A250, H⟩ := H
              replace H : (if t164 = t165 then ((impl_Adler32.f kj6 t159).bind fun t166 => ((spec_Adler32.f kj6 t159).bind fun t167 => (some (t166 == t167)))) else (some false)) = some r := H
              have A25 := Aside0.mk A250
              clear A250
              by_cases c26 : t164 = t165
              · rw [if_pos c26] at H
                have c26b0 : (t164 == t165) = true := beq_iff_eq.mpr c26
                have c26b1 : (t164 != t165) = false := bne_eq_false_iff_eq.mpr c26
                clear c26
                replace H := Option.bind_eq_some_iff.mp H
                obtain ⟨t166, A270, H⟩ := H
                replace H : ((spec_Adler32.f kj6 t159).bind fun t167 => (some (t166 == t167))) = some r := H
                have A27 := Aside0.mk A270
                clear A270
                replace H := Option.bind_eq_some_iff.mp H
                obtain ⟨t167, A280, H⟩ := H
                replace H : (some (t166 == t167)) = some r := H
                have A28 := Aside0.mk A280
                clear A280
                obtain rfl := Option.some.inj H
                go_wp2_with (first | ((with_reducible refine gate_callee (f := 17) rfl ?_); refine goesL_ (some 40) rfl rfl Try.func17 (by kernel_rfl) rfl #[.string t159] rfl (by (try simp only [List.map_toArray, List.map_cons, List.map_nil]); first | done | rfl | (simp only [List.length_drop, List.length_take]; rfl)) ?_; (with_reducible refine (impl_Crc32.calls kj6 t159 t164 _ A24.out).mono ?_); rintro e w29 ⟨rfl, hb⟩; refine ⟨_, rfl, ?_⟩; have n0_ := Aside0.mk (below_step (by repeat (first | (with_reducible first | exact HB.out | apply below_alloc | apply pw_below_drewN | apply below_drew1) | exact HB.out)) hb); clear HB; have HB := n0_; clear n0_; (try clear hb); (try clear hb2); (try clear hk); (try clear hi)) | ((with_reducible refine gate_callee (f := 18) rfl ?_); refine goesL_ (some 42) rfl rfl Try.func18 (by kernel_rfl) rfl #[.string t159] rfl (by (try simp only [List.map_toArray, List.map_cons, List.map_nil]); first | done | rfl | (simp only [List.length_drop, List.length_take]; rfl)) ?_; (with_reducible refine (spec_Crc32.calls kj6 t159 t165 _ A25.out).mono ?_); rintro e w' ⟨rfl, ⟨nd, rfl⟩⟩; refine ⟨_, rfl, ?_⟩) | (go_at_call 25; (with_reducible refine (impl_Adler32.calls kj6 t159 t166 _ A27.out).mono ?_); rintro e w30 ⟨rfl, hb⟩; have n0_ := Aside0.mk (below_step (by repeat (first | (with_reducible first | exact HB.out | apply below_alloc | apply pw_below_drewN | apply below_drew1) | exact HB.out)) hb); clear HB; have HB := n0_; clear n0_; (try clear hb); (try clear hb2); (try clear hk); (try clear hi)) | (go_at_call 26; (with_reducible refine (spec_Adler32.calls kj6 t159 t167 _ A28.out).mono ?_); rintro e w' ⟨rfl, ⟨nd, rfl⟩⟩))
                go_ret
                exact ⟨by first | rfl | (simp [errW_none, errW_some] <;> rfl) | (simp [*, errW_none, errW_some] <;> rfl), by repeat (first | (with_reducible first | exact HB.out | apply below_alloc | apply pw_below_drewN | apply below_drew1) | exact HB.out)⟩
              · rw [if_neg c26] at H
                have c26b0 : (t164 == t165) = false := beq_eq_false_iff_ne.mpr c26
                have c26b1 : (t164 != t165) = true := bne_iff_ne.mpr c26
                obtain rfl := Option.some.inj H
                go_wp2_with (first | ((with_reducible refine gate_callee (f := 17) rfl ?_); refine goesL_ (some 40) rfl rfl Try.func17 (by kernel_rfl) rfl #[.string t159] rfl (by (try simp only [List.map_toArray, List.map_cons, List.map_nil]); first | done | rfl | (simp only [List.length_drop, List.length_take]; rfl)) ?_; (with_reducible refine (impl_Crc32.calls kj6 t159 t164 _ A24.out).mono ?_); rintro e w31 ⟨rfl, hb⟩; refine ⟨_, rfl, ?_⟩; have n0_ := Aside0.mk (below_step (by repeat (first | (with_reducible first | exact HB.out | apply below_alloc | apply pw_below_drewN | apply below_drew1) | exact HB.out)) hb); clear HB; have HB := n0_; clear n0_; (try clear hb); (try clear hb2); (try clear hk); (try clear hi)) | ((with_reducible refine gate_callee (f := 18) rfl ?_); refine goesL_ (some 42) rfl rfl Try.func18 (by kernel_rfl) rfl #[.string t159] rfl (by (try simp only [List.map_toArray, List.map_cons, List.map_nil]); first | done | rfl | (simp only [List.length_drop, List.length_take]; rfl)) ?_; (with_reducible refine (spec_Crc32.calls kj6 t159 t165 _ A25.out).mono ?_); rintro e w' ⟨rfl, ⟨nd, rfl⟩⟩; refine ⟨_, rfl, ?_⟩))
                go_ret
                exact ⟨by first | rfl | (simp [errW_none, errW_some] <;> rfl) | (simp [*, errW_none, errW_some] <;> rfl), by repeat (first | (with_reducible first | exact HB.out | apply below_alloc | apply pw_below_drewN | apply below_drew1) | exact HB.out)⟩
            · replace c23 := Bool.eq_false_iff.mpr c23
              subst c23
              have H1 : (if t159.size ≤ 9223372036854775807 then ((some (bytesOf t159 : List Int)).bind fun y168 => (if (y168.length : Int) = 0 then (none) else (if 0 ≤ ((l1.length : Int) % (y168.length : Int)) then (if ((l1.length : Int) % (y168.length : Int)) < (y168.length : Int) then ((laws_wiPow.f kj6 ((l0.length : Int) % 8)).bind fun t172 => ((some (y168.set (((l1.length : Int) % (y168.length : Int)) : Int).toNat (Go.bits .xor .u8 (rd y168 ((l1.length : Int) % (y168.length : Int))) ((t172) % 256)) : List Int)).bind fun y173 => ((impl_Crc32.f kj6 (strOfNums y173)).bind fun t174 => ((impl_Crc32.f kj6 t159).bind fun t175 => (if t174 = t175 then (some false) else ((impl_Adler32.f kj6 (strOfNums y173)).bind fun t176 => ((impl_Adler32.f kj6 t159).bind fun t177 => (some (t176 != t177))))))))) else (none)) else (none)))) else (none)) = some r := by rw [if_neg (show ¬ (false = true) by decide)] at H; exact H
              clear H
              have H := H1
              clear H1
              by_cases c32 : t159.size ≤ 9223372036854775807
              · rw [if_pos c32] at H
                have c32b0 := eq_true c32
                have c32b1 : decide (t159.size ≤ 9223372036854775807) = true := decide_eq_true c32
                try have c32b2 : (9223372036854775807 < t159.size) = False := eq_false (Nat.not_lt.2 c32)
                clear c32
                obtain ⟨y168, hy168⟩ : ∃ y_ : List Int, y_ = (bytesOf t159) := ⟨_, rfl⟩
                replace H : (if (y168.length : Int) = 0 then (none) else (if 0 ≤ ((l1.length : Int) % (y168.length : Int)) then (if ((l1.length : Int) % (y168.length : Int)) < (y168.length : Int) then ((laws_wiPow.f kj6 ((l0.length : Int) % 8)).bind fun t172 => ((some (y168.set (((l1.length : Int) % (y168.length : Int)) : Int).toNat (Go.bits .xor .u8 (rd y168 ((l1.length : Int) % (y168.length : Int))) ((t172) % 256)) : List Int)).bind fun y173 => ((impl_Crc32.f kj6 (strOfNums y173)).bind fun t174 => ((impl_Crc32.f kj6 t159).bind fun t175 => (if t174 = t175 then (some false) else ((impl_Adler32.f kj6 (strOfNums y173)).bind fun t176 => ((impl_Adler32.f kj6 t159).bind fun t177 => (some (t176 != t177))))))))) else (none)) else (none))) = some r := by first | (rw [hy168]; with_reducible exact H) | (have H2_ := (Option.bind_some _ _).symm.trans H; rw [hy168]; with_reducible exact H2_) | (have H2_ := (Option.bind_some _ _).symm.trans H; with_reducible exact H2_) | with_reducible exact H | (rw [hy168]; exact H) | exact H
                have Ny168 := Aside0.mk hy168
                clear hy168
                by_cases c34 : (y168.length : Int) = 0
                · rw [if_pos c34] at H
                  exact absurd H (by simp)
                · rw [if_neg c34] at H
                  have c34b0 : ((y168.length : Int) == 0) = false := beq_eq_false_iff_ne.mpr c34
                  have c34b1 : ((y168.length : Int) != 0) = true := bne_iff_ne.mpr c34
                  have c34b2 : ¬ (y168 = []) := fun h_ => c34 (by rw [h_]; rfl)
                  obtain ⟨ji35, hji35⟩ : ∃ j_ : Int, ((l1.length : Int) % (y168.length : Int)) = j_ := ⟨_, rfl⟩
                  replace H : (if 0 ≤ (ji35) then (if (ji35) < (y168.length : Int) then ((laws_wiPow.f kj6 ((l0.length : Int) % 8)).bind fun t172 => ((some (y168.set ((ji35) : Int).toNat (Go.bits .xor .u8 (rd y168 (ji35)) ((t172) % 256)) : List Int)).bind fun y173 => ((impl_Crc32.f kj6 (strOfNums y173)).bind fun t174 => ((impl_Crc32.f kj6 t159).bind fun t175 => (if t174 = t175 then (some false) else ((impl_Adler32.f kj6 (strOfNums y173)).bind fun t176 => ((impl_Adler32.f kj6 t159).bind fun t177 => (some (t176 != t177))))))))) else (none)) else (none)) = some r := by first | (rw [hji35] at H; exact H) | (simp only [hji35] at H ⊢; exact H)
                  by_cases c36 : 0 ≤ (ji35)
                  · rw [if_pos c36] at H
                    have c36b0 : decide (0 ≤ (ji35)) = true := decide_eq_true c36
                    clear c36
                    by_cases c37 : (ji35) < (y168.length : Int)
                    · rw [if_pos c37] at H
                      have c37b0 : decide ((ji35) < (y168.length : Int)) = true := decide_eq_true c37
                      clear c37
                      replace H := Option.bind_eq_some_iff.mp H
                      obtain ⟨t172, A380, H⟩ := H
                      replace H : ((some (y168.set ((ji35) : Int).toNat (Go.bits .xor .u8 (rd y168 (ji35)) ((t172) % 256)) : List Int)).bind fun y173 => ((impl_Crc32.f kj6 (strOfNums y173)).bind fun t174 => ((impl_Crc32.f kj6 t159).bind fun t175 => (if t174 = t175 then (some false) else ((impl_Adler32.f kj6 (strOfNums y173)).bind fun t176 => ((impl_Adler32.f kj6 t159).bind fun t177 => (some (t176 != t177)))))))) = some r := H
                      have A38 := Aside0.mk A380
                      clear A380
                      obtain ⟨y173, hy173⟩ : ∃ y_ : List Int, y_ = (y168.set ((ji35) : Int).toNat (Go.bits .xor .u8 (rd y168 (ji35)) ((t172) % 256))) := ⟨_, rfl⟩
                      replace H : ((impl_Crc32.f kj6 (strOfNums y173)).bind fun t174 => ((impl_Crc32.f kj6 t159).bind fun t175 => (if t174 = t175 then (some false) else ((impl_Adler32.f kj6 (strOfNums y173)).bind fun t176 => ((impl_Adler32.f kj6 t159).bind fun t177 => (some (t176 != t177))))))) = some r := by first | (rw [hy173]; with_reducible exact H) | (have H2_ := (Option.bind_some _ _).symm.trans H; rw [hy173]; with_reducible exact H2_) | (have H2_ := (Option.bind_some _ _).symm.trans H; with_reducible exact H2_) | with_reducible exact H | (rw [hy173]; exact H) | exact H
                      have Ny173 := Aside0.mk hy173
                      clear hy173
                      replace H := Option.bind_eq_some_iff.mp H
                      obtain ⟨t174, A400, H⟩ := H
                      replace H : ((impl_Crc32.f kj6 t159).bind fun t175 => (if t174 = t175 then (some false) else ((impl_Adler32.f kj6 (strOfNums y173)).bind fun t176 => ((impl_Adler32.f kj6 t159).bind fun t177 => (some (t176 != t177)))))) = some r := H
                      have A40 := Aside0.mk A400
                      clear A400
                      replace H := Option.bind_eq_some_iff.mp H
                      obtain ⟨t175, A410, H⟩ := H
                      replace H : (if t174 = t175 then (some false) else ((impl_Adler32.f kj6 (strOfNums y173)).bind fun t176 => ((impl_Adler32.f kj6 t159).bind fun t177 => (some (t176 != t177))))) = some r := H
                      have A41 := Aside0.mk A410
                      clear A410
                      by_cases c42 : t174 = t175
                      · rw [if_pos c42] at H
                        have c42b0 : (t174 == t175) = true := beq_iff_eq.mpr c42
                        have c42b1 : (t174 != t175) = false := bne_eq_false_iff_eq.mpr c42
                        clear c42
                        obtain rfl := Option.some.inj H
                        try go_wp2_with (first | ((with_reducible refine gate_dst (N := 52) rfl ?_); (try (refine gate_guard (by rfl) ?_; dsimp only)); refine Go.Proofs.Ytfladcffgblfdaa.Th.convZ_event ?hg (N := 52) ?hd (s := t159) (e := 5) ?hr (of_decide_eq_true c32b1) ?_; (case hd => rfl); (case hg => rfl); (case hr => first | (have kbCV := fun W => print_bytes (P := Try.prog) 9 22 5 Try.underlying9 Try.underlying22 Try.underlying5 t159 W; go_simp; done) | (have kbCV := fun W => print_bytes (P := Try.prog) 9 22 5 Try.underlying9 Try.underlying22 Try.underlying5 t159 W; go_simp; rfl)); intro v169 w43 ho44 hb; rw [← Ny168.out] at ho44; have n0_ := Aside0.mk (Go.Proofs.Ytfladcffgblfdaa.Th.RZ.lower ho44 (below_size (by repeat (first | (with_reducible first | exact HB.out | apply below_alloc | apply pw_below_drewN | apply below_drew1) | exact HB.out)))); have n1_ := Aside0.mk (below_step (by repeat (first | (with_reducible first | exact HB.out | apply below_alloc | apply pw_below_drewN | apply below_drew1) | exact HB.out)) hb); clear HB; have HO170 := n0_; have HB := n1_; clear n0_ n1_; clear hb ho44; obtain ⟨Ao45, co45, eo45⟩ := Go.Proofs.Ytfladcffgblfdaa.Th.RZ.slice HO170.out; subst eo45))
                        have n0_ := Aside0.mk (Go.Proofs.Ytfladcffgblfdaa.Th.RZ.drew HO170.out)
                        have n1_ := Aside0.mk (below_drew1 HB.out)
                        clear HO170
                        clear HB
                        have HO170 := n0_
                        have HB := n1_
                        clear n0_ n1_
                        have p171 : 0 ≤ ((ji35) : Int) := of_decide_eq_true (by first | (with_reducible assumption) | assumption)
                        have q171 : (ji35) < (y168.length : Int) := of_decide_eq_true (by first | (with_reducible assumption) | assumption)
                        obtain ⟨ad171, e171, hx171_0⟩ := Kd.at_int (Go.Proofs.Ytfladcffgblfdaa.Th.RZ.C HO170.out) (ji35) p171 q171
                        cases e171
                        replace p171 := eq_true p171
                        replace q171 := eq_true q171
                        refine start_ (n := 14) (S := fun w' => w'.cell? (ad171.add ((ji35)).toNat) = some (.int .u8 (rd y168 (ji35)))) (ds := [13]) #[false, false, false, false, false, false, false, false, false, false, false, false, false, false] (by kernel_rfl) rfl rfl (hx171_0) (fun hHeld => ?_); refine with_tabW laws_FnCrcBit.tab8 laws_FnCrcBit.bits8 (fun HT_ HW_ => ?_)
                        generalize w43.drew = w46 at HO170 HB hx171_0 hHeld ⊢
                        refine pure_ (i := 0) (N := some 58) (v := ?_) (a' := ?_) #[true, false, false, false, false, false, false, false, false, false, false, false, false, false] rfl rfl (any_of HT_.out (by kernel_rfl)) (fun _ _ _ h => h) (Or.inl ⟨by rfl, ?_⟩) ?_ ?_
                        rotate_left
                        · intro w'
                          go_simp
                          with_reducible rfl
                        rotate_left
                        · simp only [Act.put, List.setIfInBounds_toArray, List.set_cons_zero, List.set_cons_succ, i64_w, i32_w]
                          rfl
                        refine pure_ (i := 1) (N := some 59) (v := ?_) (a' := ?_) #[true, true, false, false, false, false, false, false, false, false, false, false, false, false] rfl rfl (any_of HT_.out (by kernel_rfl)) (fun _ _ _ h => h) (Or.inl ⟨by rfl, ?_⟩) ?_ ?_
                        rotate_left
                        · intro w'
                          go_simp
                          with_reducible rfl
                        rotate_left
                        · simp only [Act.put, List.setIfInBounds_toArray, List.set_cons_zero, List.set_cons_succ, i64_w, i32_w]
                          rfl
                        refine pure_ (i := 2) (N := some 60) (v := ?_) (a' := ?_) #[true, true, true, false, false, false, false, false, false, false, false, false, false, false] rfl rfl (any_of HT_.out (by kernel_rfl)) (fun _ _ _ h => h) (Or.inl ⟨by rfl, ?_⟩) ?_ ?_
                        rotate_left
                        · intro w'
                          go_simp
                          with_reducible rfl
                        rotate_left
                        · simp only [Act.put, List.setIfInBounds_toArray, List.set_cons_zero, List.set_cons_succ, i64_w, i32_w]
                          rfl
                        refine pure_ (i := 3) (N := some 61) (v := ?_) (a' := ?_) #[true, true, true, true, false, false, false, false, false, false, false, false, false, false] rfl rfl (any_of HT_.out (by kernel_rfl)) (fun _ _ _ h => h) (Or.inl ⟨by rfl, ?_⟩) ?_ ?_
                        rotate_left
                        · intro w'
                          go_simp
                          with_reducible rfl
                        rotate_left
                        · simp only [Act.put, List.setIfInBounds_toArray, List.set_cons_zero, List.set_cons_succ, i64_w, i32_w]
                          rfl
                        refine pure_ (i := 4) (N := some 62) (v := ?_) (a' := ?_) #[true, true, true, true, true, false, false, false, false, false, false, false, false, false] rfl rfl (any_of HT_.out (by kernel_rfl)) (fun _ _ _ h => h) (Or.inl ⟨by rfl, ?_⟩) ?_ ?_
                        rotate_left
                        · intro w'
                          go_simp
                          with_reducible rfl
                        rotate_left
                        · simp only [Act.put, List.setIfInBounds_toArray, List.set_cons_zero, List.set_cons_succ, i64_w, i32_w]
                          rfl
                        refine pure_ (i := 6) (N := some 64) (v := ?_) (a' := ?_) #[true, true, true, true, true, false, true, false, false, false, false, false, false, false] rfl rfl (any_of HT_.out (by kernel_rfl)) (fun _ _ _ h => h) (Or.inl ⟨by rfl, ?_⟩) ?_ ?_
                        rotate_left
                        · intro w'
                          go_simp
                          with_reducible rfl
                        rotate_left
                        · simp only [Act.put, List.setIfInBounds_toArray, List.set_cons_zero, List.set_cons_succ, i64_w, i32_w]
                          rfl
                        refine pure_ (i := 7) (N := some 65) (v := ?_) (a' := ?_) #[true, true, true, true, true, false, true, true, false, false, false, false, false, false] rfl rfl (any_of HT_.out (by kernel_rfl)) (fun _ _ _ h => h) (Or.inl ⟨by rfl, ?_⟩) ?_ ?_
                        rotate_left
                        · intro w'
                          go_simp
                          with_reducible rfl
                        rotate_left
                        · simp only [Act.put, List.setIfInBounds_toArray, List.set_cons_zero, List.set_cons_succ, i64_w, i32_w]
                          rfl
                        refine pure_ (i := 8) (N := some 66) (v := ?_) (a' := ?_) #[true, true, true, true, true, false, true, true, true, false, false, false, false, false] rfl rfl (any_of HT_.out (by kernel_rfl)) (fun _ _ _ h => h) (Or.inl ⟨by rfl, ?_⟩) ?_ ?_
                        rotate_left
                        · intro w'
                          go_simp
                          with_reducible rfl
                        rotate_left
                        · simp only [Act.put, List.setIfInBounds_toArray, List.set_cons_zero, List.set_cons_succ, i64_w, i32_w]
                          rfl
                        refine take_ (i := 5) (N := some 63) (v := ?_) (a' := ?_) #[true, true, true, true, true, true, true, true, true, false, false, false, false, false] rfl rfl (take_ofW HT_.out HW_.out (by kernel_rfl)) (fun _ _ _ h => h) (Or.inl ⟨by rfl, ?_⟩) hHeld ?_ ?_
                        rotate_left
                        · intro w' s0
                          go_simp
                          with_reducible rfl
                        rotate_left
                        · simp only [Act.put, List.setIfInBounds_toArray, List.set_cons_zero, List.set_cons_succ, i64_w, i32_w]
                          rfl
                        refine one_ (i := 9) (N := some 67) #[true, true, true, true, true, true, true, true, true, true, false, false, false, false] rfl rfl (one_of HT_.out (by kernel_rfl)) (by decide) (fun K hK => ?_)
                        refine goes_ Try.func24 (by kernel_rfl) rfl #[.int .i64 ((l0.length : Int) % 8)] (by rfl) rfl rfl (by (try simp only [List.map_toArray, List.map_cons, List.map_nil]); first | done | rfl | (simp only [List.length_drop, List.length_take]; rfl)) ?_
                        with_reducible refine (laws_wiPow.calls kj6 ((l0.length : Int) % 8) t172 _ A38.out).mono ?_
                        rintro e w' ⟨rfl, ⟨nd, rfl⟩⟩
                        refine ⟨_, rfl, ?_⟩
                        have p39 : 0 ≤ ((ji35) : Int) := of_decide_eq_true (by first | (with_reducible assumption) | assumption)
                        have q39 : ((ji35) : Int) < ((y168.length : Int) : Int) := of_decide_eq_true (by first | (with_reducible assumption) | assumption)
                        obtain ⟨go39, co39, eo39, gb39, gl39, cl39, HG39⟩ := Go.Proofs.Ytfladcffgblfdaa.Th.RZ.form HO170.out
                        (first | cases eo39 | (injection eo39 with ea_ en_ ec_; (first | subst ea_ | (injection ea_ with ea_; subst ea_)); subst ec_; clear en_))
                        have GB39 := Aside0.mk gb39
                        have GG39 := Aside0.mk HG39
                        clear gb39 gl39 HG39
                        (first | simp only [add_plain] at hx171_0 | skip)
                        obtain ⟨hx39_0, hf39_0⟩ := Go.Proofs.Ytfladcffgblfdaa.Th.RZ.celln HO170.out ((ji35) : Int) p39 q39
                        replace p39 := eq_true p39
                        replace q39 := eq_true q39
                        have HP47 := Go.Proofs.Ytfladcffgblfdaa.Th.RZ.putn HO170.out ((ji35) : Int) (Go.bits .xor .u8 (rd y168 (ji35)) ((t172) % 256))
                        rw [← Ny173.out] at HP47
                        have HQ47 := Aside0.mk HP47
                        clear HP47
                        refine hK.out _ _ (hHeld) (fun hHeld => ?_)
                        clear hK K
                        refine norm_ (a' := ?_) ?_ ?_
                        rotate_left
                        · show Act.put _ (some 67) _ = _
                          simp only [Act.put, List.setIfInBounds_toArray, List.set_cons_zero, List.set_cons_succ, i64_w, i32_w]
                          rfl
                        refine pure_ (i := 10) (N := some 68) (v := ?_) (a' := ?_) #[true, true, true, true, true, true, true, true, true, true, true, false, false, false] rfl rfl (any_of HT_.out (by kernel_rfl)) (fun _ _ _ h => h) (Or.inl ⟨by rfl, ?_⟩) ?_ ?_
                        rotate_left
                        · intro w'
                          go_simp
                          with_reducible rfl
                        rotate_left
                        · simp only [Act.put, List.setIfInBounds_toArray, List.set_cons_zero, List.set_cons_succ, i64_w, i32_w]
                          rfl
                        refine pure_ (i := 11) (N := some 69) (v := ?_) (a' := ?_) #[true, true, true, true, true, true, true, true, true, true, true, true, false, false] rfl rfl (any_of HT_.out (by kernel_rfl)) (fun _ _ _ h => h) (Or.inl ⟨by rfl, ?_⟩) ?_ ?_
                        rotate_left
                        · intro w'
                          go_simp
                          with_reducible rfl
                        rotate_left
                        · simp only [Act.put, List.setIfInBounds_toArray, List.set_cons_zero, List.set_cons_succ, i64_w, i32_w]
                          rfl
                        refine pure_ (i := 12) (N := some 70) (v := ?_) (a' := ?_) #[true, true, true, true, true, true, true, true, true, true, true, true, true, false] rfl rfl (any_of HT_.out (by kernel_rfl)) (fun _ _ _ h => h) (Or.inl ⟨by rfl, ?_⟩) ?_ ?_
                        rotate_left
                        · intro w'
                          go_simp
                          with_reducible rfl
                        rotate_left
                        · simp only [Act.put, List.setIfInBounds_toArray, List.set_cons_zero, List.set_cons_succ, i64_w, i32_w]
                          rfl
                        refine last_ (i := 13) (N := none) #[true, true, true, true, true, true, true, true, true, true, true, true, true, true] rfl rfl (one_of HT_.out (by kernel_rfl)) (by decide) (fun K hK => ?_)
                        refine skip_ (w1 := ?_) (by rfl) rfl ?_ ?_
                        rotate_left
                        · go_simp
                          rfl
                        refine hK.out _ _ ?_
                        clear hK K
                        refine done_ (done_of HT_.out (by kernel_rfl)) ?_
                        refine Go.Proofs.Ytfladcffgblfdaa.Th.world_gen ?_
                        intro wz_ hwz_
                        have HZ_ := Aside0.mk (show Go.Proofs.Ytfladcffgblfdaa.Th.RZ 5 wz_ _ _ _ from by rw [hwz_]; exact HQ47.out)
                        clear HO170
                        have HO170 := HZ_
                        clear HQ47
                        have HQ47 := HZ_
                        clear HZ_
                        have n1_ := Aside0.mk (show Below w.heap.size w wz_ from by rw [hwz_]; refine below_set ?_ GB39.out; repeat (first | (with_reducible first | exact HB.out | apply below_alloc | apply pw_below_drewN | apply below_drew1) | exact HB.out))
                        clear HB
                        have HB := n1_
                        clear n1_
                        clear hwz_
                        have hcv48 := Go.Proofs.Ytfladcffgblfdaa.Th.RZ.own_string (P := Try.prog) Try.underlying22 Try.underlying5 Try.underlying9 HO170.out
                        try go_wp2_with (first | ((with_reducible refine gate_callee (f := 17) rfl ?_); refine goesL_ (some 73) rfl rfl Try.func17 (by kernel_rfl) rfl #[.string (strOfNums y173)] rfl (by (try simp only [List.map_toArray, List.map_cons, List.map_nil]); first | done | rfl | (simp only [List.length_drop, List.length_take]; rfl)) ?_; (with_reducible refine (impl_Crc32.calls kj6 (strOfNums y173) t174 _ A40.out).mono ?_); rintro e w49 ⟨rfl, hb⟩; refine ⟨_, rfl, ?_⟩; have n0_ := Aside0.mk (Go.Proofs.Ytfladcffgblfdaa.Th.RZ.below (by repeat (first | exact HQ47.out | apply Go.Proofs.Ytfladcffgblfdaa.Th.RZ.drewN | apply Go.Proofs.Ytfladcffgblfdaa.Th.RZ.drew)) hb); have n1_ := Aside0.mk (below_step (by repeat (first | (with_reducible first | exact HB.out | apply below_alloc | apply pw_below_drewN | apply below_drew1 | refine below_set ?_ GB39.out) | exact HB.out)) hb); clear HO170; clear HB; have HO170 := n0_; have HB := n1_; clear n0_ n1_; (try clear hb); (try clear hb2); (try clear hk); (try clear hi)) | ((with_reducible refine gate_callee (f := 17) rfl ?_); refine goesL_ (some 75) rfl rfl Try.func17 (by kernel_rfl) rfl #[.string t159] rfl (by (try simp only [List.map_toArray, List.map_cons, List.map_nil]); first | done | rfl | (simp only [List.length_drop, List.length_take]; rfl)) ?_; (with_reducible refine (impl_Crc32.calls kj6 t159 t175 _ A41.out).mono ?_); rintro e w50 ⟨rfl, hb⟩; refine ⟨_, rfl, ?_⟩; have n0_ := Aside0.mk (Go.Proofs.Ytfladcffgblfdaa.Th.RZ.below (by repeat (first | exact HO170.out | apply Go.Proofs.Ytfladcffgblfdaa.Th.RZ.drewN | apply Go.Proofs.Ytfladcffgblfdaa.Th.RZ.drew)) hb); have n1_ := Aside0.mk (below_step (by repeat (first | (with_reducible first | exact HB.out | apply below_alloc | apply pw_below_drewN | apply below_drew1) | exact HB.out)) hb); clear HO170; clear HB; have HO170 := n0_; have HB := n1_; clear n0_ n1_; (try clear hb); (try clear hb2); (try clear hk); (try clear hi)))
                        go_ret
                        exact ⟨by first | rfl | (simp [errW_none, errW_some] <;> rfl) | (simp only [← hji35]; first | rfl | (simp [errW_none, errW_some] <;> rfl)) | (simp [*, errW_none, errW_some] <;> rfl), by repeat (first | (with_reducible first | exact HB.out | apply below_alloc | apply pw_below_drewN | apply below_drew1) | exact HB.out)⟩
                      · rw [if_neg c42] at H
                        have c42b0 : (t174 == t175) = false := beq_eq_false_iff_ne.mpr c42
                        have c42b1 : (t174 != t175) = true := bne_iff_ne.mpr c42
                        replace H := Option.bind_eq_some_iff.mp H
                        obtain ⟨t176, A510, H⟩ := H
                        replace H : ((impl_Adler32.f kj6 t159).bind fun t177 => (some (t176 != t177))) = some r := H
                        have A51 := Aside0.mk A510
                        clear A510
                        replace H := Option.bind_eq_some_iff.mp H
                        obtain ⟨t177, A520, H⟩ := H
                        replace H : (some (t176 != t177)) = some r := H
                        have A52 := Aside0.mk A520
                        clear A520
                        obtain rfl := Option.some.inj H
                        try go_wp2_with (first | ((with_reducible refine gate_dst (N := 52) rfl ?_); (try (refine gate_guard (by rfl) ?_; dsimp only)); refine Go.Proofs.Ytfladcffgblfdaa.Th.convZ_event ?hg (N := 52) ?hd (s := t159) (e := 5) ?hr (of_decide_eq_true c32b1) ?_; (case hd => rfl); (case hg => rfl); (case hr => first | (have kbCV := fun W => print_bytes (P := Try.prog) 9 22 5 Try.underlying9 Try.underlying22 Try.underlying5 t159 W; go_simp; done) | (have kbCV := fun W => print_bytes (P := Try.prog) 9 22 5 Try.underlying9 Try.underlying22 Try.underlying5 t159 W; go_simp; rfl)); intro v169 w53 ho54 hb; rw [← Ny168.out] at ho54; have n0_ := Aside0.mk (Go.Proofs.Ytfladcffgblfdaa.Th.RZ.lower ho54 (below_size (by repeat (first | (with_reducible first | exact HB.out | apply below_alloc | apply pw_below_drewN | apply below_drew1) | exact HB.out)))); have n1_ := Aside0.mk (below_step (by repeat (first | (with_reducible first | exact HB.out | apply below_alloc | apply pw_below_drewN | apply below_drew1) | exact HB.out)) hb); clear HB; have HO170 := n0_; have HB := n1_; clear n0_ n1_; clear hb ho54; obtain ⟨Ao55, co55, eo55⟩ := Go.Proofs.Ytfladcffgblfdaa.Th.RZ.slice HO170.out; subst eo55))
                        have n0_ := Aside0.mk (Go.Proofs.Ytfladcffgblfdaa.Th.RZ.drew HO170.out)
                        have n1_ := Aside0.mk (below_drew1 HB.out)
                        clear HO170
                        clear HB
                        have HO170 := n0_
                        have HB := n1_
                        clear n0_ n1_
                        have p171 : 0 ≤ ((ji35) : Int) := of_decide_eq_true (by first | (with_reducible assumption) | assumption)
                        have q171 : (ji35) < (y168.length : Int) := of_decide_eq_true (by first | (with_reducible assumption) | assumption)
                        obtain ⟨ad171, e171, hx171_0⟩ := Kd.at_int (Go.Proofs.Ytfladcffgblfdaa.Th.RZ.C HO170.out) (ji35) p171 q171
                        cases e171
                        replace p171 := eq_true p171
                        replace q171 := eq_true q171
                        refine start_ (n := 14) (S := fun w' => w'.cell? (ad171.add ((ji35)).toNat) = some (.int .u8 (rd y168 (ji35)))) (ds := [13]) #[false, false, false, false, false, false, false, false, false, false, false, false, false, false] (by kernel_rfl) rfl rfl (hx171_0) (fun hHeld => ?_); refine with_tabW laws_FnCrcBit.tab8 laws_FnCrcBit.bits8 (fun HT_ HW_ => ?_)
                        generalize w53.drew = w56 at HO170 HB hx171_0 hHeld ⊢
                        refine pure_ (i := 0) (N := some 58) (v := ?_) (a' := ?_) #[true, false, false, false, false, false, false, false, false, false, false, false, false, false] rfl rfl (any_of HT_.out (by kernel_rfl)) (fun _ _ _ h => h) (Or.inl ⟨by rfl, ?_⟩) ?_ ?_
                        rotate_left
                        · intro w'
                          go_simp
                          with_reducible rfl
                        rotate_left
                        · simp only [Act.put, List.setIfInBounds_toArray, List.set_cons_zero, List.set_cons_succ, i64_w, i32_w]
                          rfl
                        refine pure_ (i := 1) (N := some 59) (v := ?_) (a' := ?_) #[true, true, false, false, false, false, false, false, false, false, false, false, false, false] rfl rfl (any_of HT_.out (by kernel_rfl)) (fun _ _ _ h => h) (Or.inl ⟨by rfl, ?_⟩) ?_ ?_
                        rotate_left
                        · intro w'
                          go_simp
                          with_reducible rfl
                        rotate_left
                        · simp only [Act.put, List.setIfInBounds_toArray, List.set_cons_zero, List.set_cons_succ, i64_w, i32_w]
                          rfl
                        refine pure_ (i := 2) (N := some 60) (v := ?_) (a' := ?_) #[true, true, true, false, false, false, false, false, false, false, false, false, false, false] rfl rfl (any_of HT_.out (by kernel_rfl)) (fun _ _ _ h => h) (Or.inl ⟨by rfl, ?_⟩) ?_ ?_
                        rotate_left
                        · intro w'
                          go_simp
                          with_reducible rfl
                        rotate_left
                        · simp only [Act.put, List.setIfInBounds_toArray, List.set_cons_zero, List.set_cons_succ, i64_w, i32_w]
                          rfl
                        refine pure_ (i := 3) (N := some 61) (v := ?_) (a' := ?_) #[true, true, true, true, false, false, false, false, false, false, false, false, false, false] rfl rfl (any_of HT_.out (by kernel_rfl)) (fun _ _ _ h => h) (Or.inl ⟨by rfl, ?_⟩) ?_ ?_
                        rotate_left
                        · intro w'
                          go_simp
                          with_reducible rfl
                        rotate_left
                        · simp only [Act.put, List.setIfInBounds_toArray, List.set_cons_zero, List.set_cons_succ, i64_w, i32_w]
                          rfl
                        refine pure_ (i := 4) (N := some 62) (v := ?_) (a' := ?_) #[true, true, true, true, true, false, false, false, false, false, false, false, false, false] rfl rfl (any_of HT_.out (by kernel_rfl)) (fun _ _ _ h => h) (Or.inl ⟨by rfl, ?_⟩) ?_ ?_
                        rotate_left
                        · intro w'
                          go_simp
                          with_reducible rfl
                        rotate_left
                        · simp only [Act.put, List.setIfInBounds_toArray, List.set_cons_zero, List.set_cons_succ, i64_w, i32_w]
                          rfl
                        refine pure_ (i := 6) (N := some 64) (v := ?_) (a' := ?_) #[true, true, true, true, true, false, true, false, false, false, false, false, false, false] rfl rfl (any_of HT_.out (by kernel_rfl)) (fun _ _ _ h => h) (Or.inl ⟨by rfl, ?_⟩) ?_ ?_
                        rotate_left
                        · intro w'
                          go_simp
                          with_reducible rfl
                        rotate_left
                        · simp only [Act.put, List.setIfInBounds_toArray, List.set_cons_zero, List.set_cons_succ, i64_w, i32_w]
                          rfl
                        refine pure_ (i := 7) (N := some 65) (v := ?_) (a' := ?_) #[true, true, true, true, true, false, true, true, false, false, false, false, false, false] rfl rfl (any_of HT_.out (by kernel_rfl)) (fun _ _ _ h => h) (Or.inl ⟨by rfl, ?_⟩) ?_ ?_
                        rotate_left
                        · intro w'
                          go_simp
                          with_reducible rfl
                        rotate_left
                        · simp only [Act.put, List.setIfInBounds_toArray, List.set_cons_zero, List.set_cons_succ, i64_w, i32_w]
                          rfl
                        refine pure_ (i := 8) (N := some 66) (v := ?_) (a' := ?_) #[true, true, true, true, true, false, true, true, true, false, false, false, false, false] rfl rfl (any_of HT_.out (by kernel_rfl)) (fun _ _ _ h => h) (Or.inl ⟨by rfl, ?_⟩) ?_ ?_
                        rotate_left
                        · intro w'
                          go_simp
                          with_reducible rfl
                        rotate_left
                        · simp only [Act.put, List.setIfInBounds_toArray, List.set_cons_zero, List.set_cons_succ, i64_w, i32_w]
                          rfl
                        refine take_ (i := 5) (N := some 63) (v := ?_) (a' := ?_) #[true, true, true, true, true, true, true, true, true, false, false, false, false, false] rfl rfl (take_ofW HT_.out HW_.out (by kernel_rfl)) (fun _ _ _ h => h) (Or.inl ⟨by rfl, ?_⟩) hHeld ?_ ?_
                        rotate_left
                        · intro w' s0
                          go_simp
                          with_reducible rfl
                        rotate_left
                        · simp only [Act.put, List.setIfInBounds_toArray, List.set_cons_zero, List.set_cons_succ, i64_w, i32_w]
                          rfl
                        refine one_ (i := 9) (N := some 67) #[true, true, true, true, true, true, true, true, true, true, false, false, false, false] rfl rfl (one_of HT_.out (by kernel_rfl)) (by decide) (fun K hK => ?_)
                        refine goes_ Try.func24 (by kernel_rfl) rfl #[.int .i64 ((l0.length : Int) % 8)] (by rfl) rfl rfl (by (try simp only [List.map_toArray, List.map_cons, List.map_nil]); first | done | rfl | (simp only [List.length_drop, List.length_take]; rfl)) ?_
                        with_reducible refine (laws_wiPow.calls kj6 ((l0.length : Int) % 8) t172 _ A38.out).mono ?_
                        rintro e w' ⟨rfl, ⟨nd, rfl⟩⟩
                        refine ⟨_, rfl, ?_⟩
                        have p39 : 0 ≤ ((ji35) : Int) := of_decide_eq_true (by first | (with_reducible assumption) | assumption)
                        have q39 : ((ji35) : Int) < ((y168.length : Int) : Int) := of_decide_eq_true (by first | (with_reducible assumption) | assumption)
                        obtain ⟨go39, co39, eo39, gb39, gl39, cl39, HG39⟩ := Go.Proofs.Ytfladcffgblfdaa.Th.RZ.form HO170.out
                        (first | cases eo39 | (injection eo39 with ea_ en_ ec_; (first | subst ea_ | (injection ea_ with ea_; subst ea_)); subst ec_; clear en_))
                        have GB39 := Aside0.mk gb39
                        have GG39 := Aside0.mk HG39
                        clear gb39 gl39 HG39
                        (first | simp only [add_plain] at hx171_0 | skip)
                        obtain ⟨hx39_0, hf39_0⟩ := Go.Proofs.Ytfladcffgblfdaa.Th.RZ.celln HO170.out ((ji35) : Int) p39 q39
                        replace p39 := eq_true p39
                        replace q39 := eq_true q39
                        have HP57 := Go.Proofs.Ytfladcffgblfdaa.Th.RZ.putn HO170.out ((ji35) : Int) (Go.bits .xor .u8 (rd y168 (ji35)) ((t172) % 256))
                        rw [← Ny173.out] at HP57
                        have HQ57 := Aside0.mk HP57
                        clear HP57
                        refine hK.out _ _ (hHeld) (fun hHeld => ?_)
                        clear hK K
                        refine norm_ (a' := ?_) ?_ ?_
                        rotate_left
                        · show Act.put _ (some 67) _ = _
                          simp only [Act.put, List.setIfInBounds_toArray, List.set_cons_zero, List.set_cons_succ, i64_w, i32_w]
                          rfl
                        refine pure_ (i := 10) (N := some 68) (v := ?_) (a' := ?_) #[true, true, true, true, true, true, true, true, true, true, true, false, false, false] rfl rfl (any_of HT_.out (by kernel_rfl)) (fun _ _ _ h => h) (Or.inl ⟨by rfl, ?_⟩) ?_ ?_
                        rotate_left
                        · intro w'
                          go_simp
                          with_reducible rfl
                        rotate_left
                        · simp only [Act.put, List.setIfInBounds_toArray, List.set_cons_zero, List.set_cons_succ, i64_w, i32_w]
                          rfl
                        refine pure_ (i := 11) (N := some 69) (v := ?_) (a' := ?_) #[true, true, true, true, true, true, true, true, true, true, true, true, false, false] rfl rfl (any_of HT_.out (by kernel_rfl)) (fun _ _ _ h => h) (Or.inl ⟨by rfl, ?_⟩) ?_ ?_
                        rotate_left
                        · intro w'
                          go_simp
                          with_reducible rfl
                        rotate_left
                        · simp only [Act.put, List.setIfInBounds_toArray, List.set_cons_zero, List.set_cons_succ, i64_w, i32_w]
                          rfl
                        refine pure_ (i := 12) (N := some 70) (v := ?_) (a' := ?_) #[true, true, true, true, true, true, true, true, true, true, true, true, true, false] rfl rfl (any_of HT_.out (by kernel_rfl)) (fun _ _ _ h => h) (Or.inl ⟨by rfl, ?_⟩) ?_ ?_
                        rotate_left
                        · intro w'
                          go_simp
                          with_reducible rfl
                        rotate_left
                        · simp only [Act.put, List.setIfInBounds_toArray, List.set_cons_zero, List.set_cons_succ, i64_w, i32_w]
                          rfl
                        refine last_ (i := 13) (N := none) #[true, true, true, true, true, true, true, true, true, true, true, true, true, true] rfl rfl (one_of HT_.out (by kernel_rfl)) (by decide) (fun K hK => ?_)
                        refine skip_ (w1 := ?_) (by rfl) rfl ?_ ?_
                        rotate_left
                        · go_simp
                          rfl
                        refine hK.out _ _ ?_
                        clear hK K
                        refine done_ (done_of HT_.out (by kernel_rfl)) ?_
                        refine Go.Proofs.Ytfladcffgblfdaa.Th.world_gen ?_
                        intro wz_ hwz_
                        have HZ_ := Aside0.mk (show Go.Proofs.Ytfladcffgblfdaa.Th.RZ 5 wz_ _ _ _ from by rw [hwz_]; exact HQ57.out)
                        clear HO170
                        have HO170 := HZ_
                        clear HQ57
                        have HQ57 := HZ_
                        clear HZ_
                        have n1_ := Aside0.mk (show Below w.heap.size w wz_ from by rw [hwz_]; refine below_set ?_ GB39.out; repeat (first | (with_reducible first | exact HB.out | apply below_alloc | apply pw_below_drewN | apply below_drew1) | exact HB.out))
                        clear HB
                        have HB := n1_
                        clear n1_
                        clear hwz_
                        have hcv58 := Go.Proofs.Ytfladcffgblfdaa.Th.RZ.own_string (P := Try.prog) Try.underlying22 Try.underlying5 Try.underlying9 HO170.out
                        try go_wp2_with (first | ((with_reducible refine gate_callee (f := 17) rfl ?_); refine goesL_ (some 73) rfl rfl Try.func17 (by kernel_rfl) rfl #[.string (strOfNums y173)] rfl (by (try simp only [List.map_toArray, List.map_cons, List.map_nil]); first | done | rfl | (simp only [List.length_drop, List.length_take]; rfl)) ?_; (with_reducible refine (impl_Crc32.calls kj6 (strOfNums y173) t174 _ A40.out).mono ?_); rintro e w59 ⟨rfl, hb⟩; refine ⟨_, rfl, ?_⟩; have n0_ := Aside0.mk (Go.Proofs.Ytfladcffgblfdaa.Th.RZ.below (by repeat (first | exact HQ57.out | apply Go.Proofs.Ytfladcffgblfdaa.Th.RZ.drewN | apply Go.Proofs.Ytfladcffgblfdaa.Th.RZ.drew)) hb); have n1_ := Aside0.mk (below_step (by repeat (first | (with_reducible first | exact HB.out | apply below_alloc | apply pw_below_drewN | apply below_drew1 | refine below_set ?_ GB39.out) | exact HB.out)) hb); clear HO170; clear HB; have HO170 := n0_; have HB := n1_; clear n0_ n1_; (try clear hb); (try clear hb2); (try clear hk); (try clear hi)) | ((with_reducible refine gate_callee (f := 17) rfl ?_); refine goesL_ (some 75) rfl rfl Try.func17 (by kernel_rfl) rfl #[.string t159] rfl (by (try simp only [List.map_toArray, List.map_cons, List.map_nil]); first | done | rfl | (simp only [List.length_drop, List.length_take]; rfl)) ?_; (with_reducible refine (impl_Crc32.calls kj6 t159 t175 _ A41.out).mono ?_); rintro e w60 ⟨rfl, hb⟩; refine ⟨_, rfl, ?_⟩; have n0_ := Aside0.mk (Go.Proofs.Ytfladcffgblfdaa.Th.RZ.below (by repeat (first | exact HO170.out | apply Go.Proofs.Ytfladcffgblfdaa.Th.RZ.drewN | apply Go.Proofs.Ytfladcffgblfdaa.Th.RZ.drew)) hb); have n1_ := Aside0.mk (below_step (by repeat (first | (with_reducible first | exact HB.out | apply below_alloc | apply pw_below_drewN | apply below_drew1) | exact HB.out)) hb); clear HO170; clear HB; have HO170 := n0_; have HB := n1_; clear n0_ n1_; (try clear hb); (try clear hb2); (try clear hk); (try clear hi); have hcv61 := Go.Proofs.Ytfladcffgblfdaa.Th.RZ.own_string (P := Try.prog) Try.underlying22 Try.underlying5 Try.underlying9 HO170.out) | (go_at_call 25; (with_reducible refine (impl_Adler32.calls kj6 (strOfNums y173) t176 _ A51.out).mono ?_); rintro e w62 ⟨rfl, hb⟩; have n0_ := Aside0.mk (Go.Proofs.Ytfladcffgblfdaa.Th.RZ.below (by repeat (first | exact HO170.out | apply Go.Proofs.Ytfladcffgblfdaa.Th.RZ.drewN | apply Go.Proofs.Ytfladcffgblfdaa.Th.RZ.drew)) hb); have n1_ := Aside0.mk (below_step (by repeat (first | (with_reducible first | exact HB.out | apply below_alloc | apply pw_below_drewN | apply below_drew1) | exact HB.out)) hb); clear HO170; clear HB; have HO170 := n0_; have HB := n1_; clear n0_ n1_; (try clear hb); (try clear hb2); (try clear hk); (try clear hi)) | (go_at_call 25; (with_reducible refine (impl_Adler32.calls kj6 t159 t177 _ A52.out).mono ?_); rintro e w63 ⟨rfl, hb⟩; have n0_ := Aside0.mk (Go.Proofs.Ytfladcffgblfdaa.Th.RZ.below (by repeat (first | exact HO170.out | apply Go.Proofs.Ytfladcffgblfdaa.Th.RZ.drewN | apply Go.Proofs.Ytfladcffgblfdaa.Th.RZ.drew)) hb); have n1_ := Aside0.mk (below_step (by repeat (first | (with_reducible first | exact HB.out | apply below_alloc | apply pw_below_drewN | apply below_drew1) | exact HB.out)) hb); clear HO170; clear HB; have HO170 := n0_; have HB := n1_; clear n0_ n1_; (try clear hb); (try clear hb2); (try clear hk); (try clear hi)))
                        go_ret
                        exact ⟨by first | rfl | (simp [errW_none, errW_some] <;> rfl) | (simp only [← hji35]; first | rfl | (simp [errW_none, errW_some] <;> rfl)) | (simp [*, errW_none, errW_some] <;> rfl), by repeat (first | (with_reducible first | exact HB.out | apply below_alloc | apply pw_below_drewN | apply below_drew1) | exact HB.out)⟩
                    · rw [if_neg c37] at H
                      exact absurd H (by simp)
                  · rw [if_neg c36] at H
                    exact absurd H (by simp)
              · rw [if_neg c32] at H
                exact absurd H (by simp)

/-- THE ONE PURE STATEMENT of laws_FnCrcBit: yours. -/
def laws_FnCrcBit.Pure : Prop := ∀ (l0 : List Int) (l1 : List Int), l0.length ≤ maxLen → l0.length * 1 ≤ 140737488351232 → (∀ x ∈ l0, (Lit.int .u8 x).wf = true) → l1.length ≤ maxLen → l1.length * 1 ≤ 140737488351232 → (∀ x ∈ l1, (Lit.int .u8 x).wf = true) → ∃ k, laws_FnCrcBit.f k l0 l1 = some true
theorem laws_FnCrcBit.walk (P : laws_FnCrcBit.Pure) (a0 : Option Addr) (len0 cap0 : Nat) (z0 : List Int) (a1 : Option Addr) (len1 cap1 : Nat) (z1 : List Int) (w : World) (w0 : (a0 = none ∧ len0 = 0 ∧ cap0 = 0 ∧ z0 = []) ∨ ∃ x, a0 = some x ∧ len0 ≤ cap0 ∧ cap0 ≤ maxLen ∧ z0.length = cap0 ∧ (∀ i, i < z0.length → w.cell? (x.add i) = some (.int .u8 (z0.getD i 0))) ∧ ∀ n ∈ z0, (Lit.int .u8 n).wf = true) (y0 : len0 * 1 ≤ 140737488351232) (w1 : (a1 = none ∧ len1 = 0 ∧ cap1 = 0 ∧ z1 = []) ∨ ∃ x, a1 = some x ∧ len1 ≤ cap1 ∧ cap1 ≤ maxLen ∧ z1.length = cap1 ∧ (∀ i, i < z1.length → w.cell? (x.add i) = some (.int .u8 (z1.getD i 0))) ∧ ∀ n ∈ z1, (Lit.int .u8 n).wf = true) (y1 : len1 * 1 ≤ 140737488351232) :
    Calls Try.prog 5 #[.slice a0 len0 cap0, .slice a1 len1 cap1] w fun e w' => e = .returned (.bool true) ∧ Below w.heap.size w w' := by
  obtain ⟨l0, rfl, hr0, hm0, hw0, hc0⟩ := ReadsInt.ofRowC w0
  obtain ⟨l1, rfl, hr1, hm1, hw1, hc1⟩ := ReadsInt.ofRowC w1
  obtain ⟨k, h⟩ := P l0 l1 hm0 y0 hw0 hm1 y1 hw1
  refine (laws_FnCrcBit.calls k _ _ l0 _ _ l1 true w (Kd.C_of_reads (d := (0 : Int)) (h1 := fun _ => rfl) hr0) hc0 (Kd.C_of_reads (d := (0 : Int)) (h1 := fun _ => rfl) hr1) hc1 h).mono ?_
  rintro e w' ⟨rfl, hd⟩
  exact ⟨rfl, hd⟩

end Go.Proofs.Ytfladcffgblfdaa.PFnCrcBit
