/- What the functions that the law comes to compute, as plain functions, and that the machine's calls come to just that: written by a program for this claim, and turned where Lean did not take it. No condition. -/
import Derived.Test.YtfladcffgblfdaaThConv
import Derived.Test.YtfladcffgblfdaaHFnCrcBitx0
import Derived.Test.YtfladcffgblfdaaHFnCrcBitx1
import Derived.Test.YtfladcffgblfdaaHFnCrcBitx2
namespace Go.Proofs.Ytfladcffgblfdaa.PFnCrcBit
open Go.RowKit Go.Proofs.YtfladcffgblfdaaW.PrintWords Go.Proofs.YtfladcffgblfdaaW.PrintLast Go.Proofs.YtfladcffgblfdaaW.PrintMore
attribute [local go_sem] max2_int min2_int max_two min_two max_three min_three max_four min_four   -- for this text's walks alone
set_option linter.unusedVariables false
set_option linter.unusedSimpArgs false

/-! ### impl_AdlerMore: function 76 -/
mutual
def impl_AdlerMore.j0 : Nat → ByteArray → Int → Int → Bool → Option (Int)
  | 0, _, _, _, _ => none
  | k + 1, x1, x5, x6, x28 => if x28 = true then (some 0) else (if x1.size ≤ 9223372036854775807 then (impl_AdlerMore.l0 k x5 x6 (bytesOf x1) ((bytesOf x1).length : Int) 0) else (none))
def impl_AdlerMore.l0 : Nat → Int → Int → List Int → Int → Int → Option (Int)
  | 0, _, _, _, _, _ => none
  | k + 1, x5, x6, x30, x31, x32 => if x32 < x31 then (if 0 ≤ x32 then (if x32 < (x30.length : Int) then (impl_AdlerMore.l0 k (Int.tmod (wrap64 (x5 + (wrap64 (rd x30 x32)))) 65521) (Int.tmod (wrap64 (x6 + (Int.tmod (wrap64 (x5 + (wrap64 (rd x30 x32)))) 65521))) 65521) x30 x31 (wrap64 (x32 + 1))) else (none)) else (none)) else (some (wrap64 ((wrap64 (65536 * x6)) + x5)))
end
def impl_AdlerMore.f (k : Nat) (a0 : Int) (a1 : ByteArray) : Option (Int) := (impl_in.f a0 0 4294967295).bind fun t154 => (if t154 = true then (if (Int.tmod a0 65536) ≥ 65521 then (impl_AdlerMore.j0 k a1 (Int.tmod a0 65536) (wrap64 (Int.tdiv a0 65536)) true) else (if (wrap64 (Int.tdiv a0 65536)) ≥ 65521 then (impl_AdlerMore.j0 k a1 (Int.tmod a0 65536) (wrap64 (Int.tdiv a0 65536)) true) else (impl_AdlerMore.j0 k a1 (Int.tmod a0 65536) (wrap64 (Int.tdiv a0 65536)) (decide ((a1.size : Int) > 9000))))) else (impl_AdlerMore.j0 k a1 (Int.tmod a0 65536) (wrap64 (Int.tdiv a0 65536)) true))
theorem impl_AdlerMore.mono_l : ∀ k, (∀ y0 y1 y2 y3, LeO (impl_AdlerMore.j0 k y0 y1 y2 y3) (impl_AdlerMore.j0 (k + 1) y0 y1 y2 y3)) ∧ (∀ y0 y1 y2 y3 y4, LeO (impl_AdlerMore.l0 k y0 y1 y2 y3 y4) (impl_AdlerMore.l0 (k + 1) y0 y1 y2 y3 y4))
  | 0 => ⟨fun _ _ _ _ r h => by simp [impl_AdlerMore.j0] at h, fun _ _ _ _ _ r h => by simp [impl_AdlerMore.l0] at h⟩
  | k + 1 => by
    obtain ⟨ih0, ih1⟩ := impl_AdlerMore.mono_l k
    refine ⟨?_, ?_⟩
    · intro y0 y1 y2 y3
      unfold impl_AdlerMore.j0
      repeat' first
      | (with_reducible exact ih0 _ _ _ _)
      | (with_reducible exact ih1 _ _ _ _ _)
      | (with_reducible exact LeO.refl _)
      | (with_reducible exact LeO.none _)
      | (with_reducible refine LeO.ite ?_ ?_)
      | (with_reducible refine LeO.bind ?_ (fun _ => ?_))
      | exact ih0 _ _ _ _
      | exact ih1 _ _ _ _ _
      | exact LeO.none _
      | refine LeO.ite ?_ ?_
      | refine LeO.bind ?_ (fun _ => ?_)
    · intro y0 y1 y2 y3 y4
      unfold impl_AdlerMore.l0
      repeat' first
      | (with_reducible exact ih0 _ _ _ _)
      | (with_reducible exact ih1 _ _ _ _ _)
      | (with_reducible exact LeO.refl _)
      | (with_reducible exact LeO.none _)
      | (with_reducible refine LeO.ite ?_ ?_)
      | (with_reducible refine LeO.bind ?_ (fun _ => ?_))
      | exact ih0 _ _ _ _
      | exact ih1 _ _ _ _ _
      | exact LeO.none _
      | refine LeO.ite ?_ ?_
      | refine LeO.bind ?_ (fun _ => ?_)
theorem impl_AdlerMore.mono : ∀ a0 a1 k, LeO (impl_AdlerMore.f k a0 a1) (impl_AdlerMore.f (k + 1) a0 a1) := by
  intro a0 a1 k
  obtain ⟨ih0, ih1⟩ := impl_AdlerMore.mono_l k
  unfold impl_AdlerMore.f
  repeat' first
      | (with_reducible exact ih0 _ _ _ _)
      | (with_reducible exact ih1 _ _ _ _ _)
      | (with_reducible exact LeO.refl _)
      | (with_reducible exact LeO.none _)
      | (with_reducible refine LeO.ite ?_ ?_)
      | (with_reducible refine LeO.bind ?_ (fun _ => ?_))
      | exact ih0 _ _ _ _
      | exact ih1 _ _ _ _ _
      | exact LeO.none _
      | refine LeO.ite ?_ ?_
      | refine LeO.bind ?_ (fun _ => ?_)
set_option maxHeartbeats 8000000 in
set_option maxRecDepth 100000 in
theorem impl_AdlerMore.calls (k : Nat) (a0 : Int) (a1 : ByteArray) (r : Int) (w : World) (h : impl_AdlerMore.f k a0 a1 = some r) :
    Calls Try.prog 76 #[.int .i64 a0, .string a1] w fun e w' => e = .returned (.int .i64 r) ∧ Below w.heap.size w w' := by
  have HB := Aside0.mk (Below.refl w.heap.size w)
  have H : ((impl_in.f a0 0 4294967295).bind fun t154 => (if t154 = true then (if (Int.tmod a0 65536) ≥ 65521 then (impl_AdlerMore.j0 k a1 (Int.tmod a0 65536) (wrap64 (Int.tdiv a0 65536)) true) else (if (wrap64 (Int.tdiv a0 65536)) ≥ 65521 then (impl_AdlerMore.j0 k a1 (Int.tmod a0 65536) (wrap64 (Int.tdiv a0 65536)) true) else (impl_AdlerMore.j0 k a1 (Int.tmod a0 65536) (wrap64 (Int.tdiv a0 65536)) (decide ((a1.size : Int) > 9000))))) else (impl_AdlerMore.j0 k a1 (Int.tmod a0 65536) (wrap64 (Int.tdiv a0 65536)) true))) = some r := h
  clear h
  have HC3 := Aside0.mk H
  clear H
  go_enter Try.func76, Try.ntmps76
  go_upto_region 2 with (fail)
  go_cut [28] (fun v28 wc => ∃ (kq : Nat) (x28_2 : Bool), v28 = .bool x28_2 ∧ Aside0 (impl_AdlerMore.j0 kq a1 (Int.tmod a0 65536) (wrap64 (Int.tdiv a0 65536)) x28_2 = some r) ∧ Aside0 (kq ≤ k) ∧ Aside0 (Below w.heap.size w wc))
  case first =>
    have H := HC3.out
    clear HC3
    replace H := Option.bind_eq_some_iff.mp H
    obtain ⟨t154, A40, H⟩ := H
    replace H : (if t154 = true then (if (Int.tmod a0 65536) ≥ 65521 then (impl_AdlerMore.j0 k a1 (Int.tmod a0 65536) (wrap64 (Int.tdiv a0 65536)) true) else (if (wrap64 (Int.tdiv a0 65536)) ≥ 65521 then (impl_AdlerMore.j0 k a1 (Int.tmod a0 65536) (wrap64 (Int.tdiv a0 65536)) true) else (impl_AdlerMore.j0 k a1 (Int.tmod a0 65536) (wrap64 (Int.tdiv a0 65536)) (decide ((a1.size : Int) > 9000))))) else (impl_AdlerMore.j0 k a1 (Int.tmod a0 65536) (wrap64 (Int.tdiv a0 65536)) true)) = some r := H
    have A4 := Aside0.mk A40
    clear A40
    by_cases c5 : t154 = true
    · subst c5
      have H1 : (if (Int.tmod a0 65536) ≥ 65521 then (impl_AdlerMore.j0 k a1 (Int.tmod a0 65536) (wrap64 (Int.tdiv a0 65536)) true) else (if (wrap64 (Int.tdiv a0 65536)) ≥ 65521 then (impl_AdlerMore.j0 k a1 (Int.tmod a0 65536) (wrap64 (Int.tdiv a0 65536)) true) else (impl_AdlerMore.j0 k a1 (Int.tmod a0 65536) (wrap64 (Int.tdiv a0 65536)) (decide ((a1.size : Int) > 9000))))) = some r := by rw [if_pos rfl] at H; exact H
      clear H
      have H := H1
      clear H1
      by_cases c6 : (Int.tmod a0 65536) ≥ 65521
      · rw [if_pos c6] at H
        have c6b0 : decide (65521 ≤ (Int.tmod a0 65536)) = true := decide_eq_true c6
        clear c6
        (first | rw [c6b0] | (simp only [i64_w, i32_w]; rw [c6b0]) | skip)
        have H' := Aside0.mk H
        clear H
        go_wp2_with (first | ((with_reducible refine gate_callee (f := 70) rfl ?_); refine goesL_ (some 14) rfl rfl Try.func70 (by kernel_rfl) rfl #[.int .i64 a0, .int .i64 0, .int .i64 4294967295] rfl (by (try simp only [List.map_toArray, List.map_cons, List.map_nil]); first | done | rfl | (simp only [List.length_drop, List.length_take]; rfl)) ?_; (with_reducible refine (impl_in.calls a0 0 4294967295 true _ A4.out).mono ?_); rintro e w' ⟨rfl, ⟨nd, rfl⟩⟩; refine ⟨_, rfl, ?_⟩))
        go_meet
        case rel => exact ⟨_, (true), (by first | rfl | (simp; done) | (simp [*]; done)), H', ⟨by first | omega | exact Nat.le_refl _⟩, ⟨by repeat (first | (with_reducible first | exact HB.out | apply below_alloc | apply pw_below_drewN | apply below_drew1) | exact HB.out)⟩⟩
      · rw [if_neg c6] at H
        have c6b0 : decide (65521 ≤ (Int.tmod a0 65536)) = false := decide_eq_false c6
        clear c6
        (first | rw [c6b0] | (simp only [i64_w, i32_w]; rw [c6b0]) | skip)
        by_cases c7 : (wrap64 (Int.tdiv a0 65536)) ≥ 65521
        · rw [if_pos c7] at H
          have c7b0 : decide (65521 ≤ (wrap64 (Int.tdiv a0 65536))) = true := decide_eq_true c7
          clear c7
          have H' := Aside0.mk H
          clear H
          go_wp2_with (first | ((with_reducible refine gate_callee (f := 70) rfl ?_); refine goesL_ (some 14) rfl rfl Try.func70 (by kernel_rfl) rfl #[.int .i64 a0, .int .i64 0, .int .i64 4294967295] rfl (by (try simp only [List.map_toArray, List.map_cons, List.map_nil]); first | done | rfl | (simp only [List.length_drop, List.length_take]; rfl)) ?_; (with_reducible refine (impl_in.calls a0 0 4294967295 true _ A4.out).mono ?_); rintro e w' ⟨rfl, ⟨nd, rfl⟩⟩; refine ⟨_, rfl, ?_⟩))
          go_meet
          case rel => exact ⟨_, (true), (by first | rfl | (simp; done) | (simp [*]; done)), H', ⟨by first | omega | exact Nat.le_refl _⟩, ⟨by repeat (first | (with_reducible first | exact HB.out | apply below_alloc | apply pw_below_drewN | apply below_drew1) | exact HB.out)⟩⟩
        · rw [if_neg c7] at H
          have c7b0 : decide (65521 ≤ (wrap64 (Int.tdiv a0 65536))) = false := decide_eq_false c7
          clear c7
          have H' := Aside0.mk H
          clear H
          go_wp2_with (first | ((with_reducible refine gate_callee (f := 70) rfl ?_); refine goesL_ (some 14) rfl rfl Try.func70 (by kernel_rfl) rfl #[.int .i64 a0, .int .i64 0, .int .i64 4294967295] rfl (by (try simp only [List.map_toArray, List.map_cons, List.map_nil]); first | done | rfl | (simp only [List.length_drop, List.length_take]; rfl)) ?_; (with_reducible refine (impl_in.calls a0 0 4294967295 true _ A4.out).mono ?_); rintro e w' ⟨rfl, ⟨nd, rfl⟩⟩; refine ⟨_, rfl, ?_⟩))
          go_meet
          case rel => exact ⟨_, (decide ((a1.size : Int) > 9000)), (by first | rfl | (simp; done) | (simp [*]; done)), H', ⟨by first | omega | exact Nat.le_refl _⟩, ⟨by repeat (first | (with_reducible first | exact HB.out | apply below_alloc | apply pw_below_drewN | apply below_drew1) | exact HB.out)⟩⟩
    · replace c5 := Bool.eq_false_iff.mpr c5
      subst c5
      have H1 : (impl_AdlerMore.j0 k a1 (Int.tmod a0 65536) (wrap64 (Int.tdiv a0 65536)) true) = some r := by rw [if_neg (show ¬ (false = true) by decide)] at H; exact H
      clear H
      have H := H1
      clear H1
      have H' := Aside0.mk H
      clear H
      go_wp2_with (first | ((with_reducible refine gate_callee (f := 70) rfl ?_); refine goesL_ (some 14) rfl rfl Try.func70 (by kernel_rfl) rfl #[.int .i64 a0, .int .i64 0, .int .i64 4294967295] rfl (by (try simp only [List.map_toArray, List.map_cons, List.map_nil]); first | done | rfl | (simp only [List.length_drop, List.length_take]; rfl)) ?_; (with_reducible refine (impl_in.calls a0 0 4294967295 false _ A4.out).mono ?_); rintro e w' ⟨rfl, ⟨nd, rfl⟩⟩; refine ⟨_, rfl, ?_⟩))
      go_meet
      case rel => exact ⟨_, (true), (by first | rfl | (simp; done) | (simp [*]; done)), H', ⟨by first | omega | exact Nat.le_refl _⟩, ⟨by repeat (first | (with_reducible first | exact HB.out | apply below_alloc | apply pw_below_drewN | apply below_drew1) | exact HB.out)⟩⟩
  case rest =>
    clear HC3
    try clear p2
    try clear c5
    try clear c6
    try clear c6b0
    try clear p6
    try clear c7
    try clear c7b0
    obtain ⟨kq, x28_2, rfl, HA, HJ2, HB⟩ := hcut
    cases kq with
    | zero => exact absurd HA.out (by simp [impl_AdlerMore.j0])
    | succ kj2 =>
      have H := HA.out
      clear HA
      simp only [impl_AdlerMore.j0] at H
      by_cases c8 : x28_2 = true
      · subst c8
        have H1 : (some 0) = some r := by rw [if_pos rfl] at H; exact H
        clear H
        have H := H1
        clear H1
        obtain rfl := Option.some.inj H
        go_wp2
        go_ret
        exact ⟨by first | rfl | (simp [errW_none, errW_some] <;> rfl) | (simp [*, errW_none, errW_some] <;> rfl), by repeat (first | (with_reducible first | exact HB.out | apply below_alloc | apply pw_below_drewN | apply below_drew1) | exact HB.out)⟩
      · replace c8 := Bool.eq_false_iff.mpr c8
        subst c8
        have H1 : (if a1.size ≤ 9223372036854775807 then (impl_AdlerMore.l0 kj2 (Int.tmod a0 65536) (wrap64 (Int.tdiv a0 65536)) (bytesOf a1) ((bytesOf a1).length : Int) 0) else (none)) = some r := by rw [if_neg (show ¬ (false = true) by decide)] at H; exact H
        clear H
        have H := H1
        clear H1
        by_cases c9 : a1.size ≤ 9223372036854775807
        · rw [if_pos c9] at H
          have c9b0 := eq_true c9
          have c9b1 : decide (a1.size ≤ 9223372036854775807) = true := decide_eq_true c9
          try have c9b2 : (9223372036854775807 < a1.size) = False := eq_false (Nat.not_lt.2 c9)
          clear c9
          have H' := Aside0.mk H
          clear H
          go_wp2_with (first | ((with_reducible refine gate_dst (N := 30) rfl ?_); refine Go.Proofs.Ytfladcffgblfdaa.Th.conv_event ?hg (N := 30) ?hd (s := a1) (e := 5) ?hr (of_decide_eq_true c9b1) ?_; (case hd => rfl); (case hg => rfl); (case hr => first | (have kbCV := fun W => print_bytes (P := Try.prog) 9 22 5 Try.underlying9 Try.underlying22 Try.underlying5 a1 W; go_simp; done) | (have kbCV := fun W => print_bytes (P := Try.prog) 9 22 5 Try.underlying9 Try.underlying22 Try.underlying5 a1 W; go_simp; rfl)); intro ACV cCV wv hcv0 hccv0 hbv0; have HRCV := Aside0.mk hcv0; have HCCV := Aside0.mk hccv0; have HBV := Aside0.mk (below_step (by repeat (first | (with_reducible first | exact HB.out | apply below_alloc | apply pw_below_drewN | apply below_drew1) | exact HB.out)) hbv0); clear HB; have HB := Aside0.mk (Below.refl wv.heap.size wv); clear hcv0 hccv0 hbv0))
          go_loopg [5, 6, 32] kj2 (fun kq v5 v6 v32 w' => ∃ (x5_2 : Int) (x6_2 : Int) (x32_2 : Int), v5 = .int .i64 x5_2 ∧ v6 = .int .i64 x6_2 ∧ v32 = .int .i64 x32_2 ∧ Aside0 (impl_AdlerMore.l0 kq x5_2 x6_2 (bytesOf a1) ((bytesOf a1).length : Int) x32_2 = some r) ∧ Aside0 (kq ≤ kj2) ∧ Aside0 (Below wv.heap.size wv w'))
          case atStart => exact ⟨((Int.tmod a0 65536)), ((wrap64 (Int.tdiv a0 65536))), (0), (by first | rfl | (simp; done) | (simp [*]; done)), (by first | rfl | (simp; done) | (simp [*]; done)), (by first | rfl | (simp; done) | (simp [*]; done)), H', ⟨Nat.le_refl _⟩, ⟨by repeat (first | (with_reducible first | exact HB.out | apply below_alloc | apply pw_below_drewN | apply below_drew1) | exact HB.out)⟩⟩
          case round =>
            clear H'
            try clear c1
            try clear p2
            try clear c5
            try clear c6
            try clear c6b0
            try clear p6
            try clear c7
            try clear c7b0
            try clear c8
            try clear c9
            try clear c9b0
            try clear c9b1
            try clear c9b2
            try clear c10
            try clear c10b0
            try clear p2
            try clear p6
            obtain ⟨x5_2, x6_2, x32_2, rfl, rfl, rfl, HA, HK2, HB⟩ := hrel
            cases gk with
            | zero => exact absurd HA.out (by simp [impl_AdlerMore.l0])
            | succ k2 =>
              have H := HA.out
              clear HA
              simp only [impl_AdlerMore.l0] at H
              by_cases c11 : x32_2 < ((bytesOf a1).length : Int)
              · rw [if_pos c11] at H
                have c11b0 : decide (x32_2 < ((bytesOf a1).length : Int)) = true := decide_eq_true c11
                clear c11
                by_cases c12 : 0 ≤ x32_2
                · rw [if_pos c12] at H
                  have c12b0 : decide (0 ≤ x32_2) = true := decide_eq_true c12
                  clear c12
                  by_cases c13 : x32_2 < ((bytesOf a1).length : Int)
                  · rw [if_pos c13] at H
                    have c13b0 : decide (x32_2 < ((bytesOf a1).length : Int)) = true := decide_eq_true c13
                    clear c13
                    have H' := Aside0.mk H
                    clear H
                    have p155 : 0 ≤ (x32_2 : Int) := of_decide_eq_true (by first | (with_reducible assumption) | assumption)
                    have q155 : x32_2 < ((bytesOf a1).length : Int) := of_decide_eq_true (by first | (with_reducible assumption) | assumption)
                    obtain ⟨ad155, e155, hx155_0⟩ := Kd.at_int HRCV.out x32_2 p155 q155
                    cases e155
                    replace hx155_0 := (HB.out.cell (World.block_lt_of_cell? wv _ hx155_0)).trans hx155_0
                    replace p155 := eq_true p155
                    replace q155 := eq_true q155
                    go_wp2
                    go_roundg k2
                    case measure => have := HJ2.out; have := HK2.out; omega
                    case rel => exact ⟨(Int.tmod (wrap64 (x5_2 + (wrap64 (rd (bytesOf a1) x32_2)))) 65521), (Int.tmod (wrap64 (x6_2 + (Int.tmod (wrap64 (x5_2 + (wrap64 (rd (bytesOf a1) x32_2)))) 65521))) 65521), (wrap64 (x32_2 + 1)), (by first | rfl | (simp; done) | (simp [*]; done)), (by first | rfl | (simp; done) | (simp [*]; done)), (by first | rfl | (simp; done) | (simp [*]; done)), H', ⟨by have := HJ2.out; have := HK2.out; omega⟩, ⟨by repeat (first | (with_reducible first | exact HB.out | apply below_alloc | apply pw_below_drewN | apply below_drew1) | exact HB.out)⟩⟩
                  · rw [if_neg c13] at H
                    exact absurd H (by simp)
                · rw [if_neg c12] at H
                  exact absurd H (by simp)
              · rw [if_neg c11] at H
                have c11b0 : decide (x32_2 < ((bytesOf a1).length : Int)) = false := decide_eq_false c11
                clear c11
                obtain rfl := Option.some.inj H
                go_wp2
                go_ret
                exact ⟨by first | rfl | (simp [errW_none, errW_some] <;> rfl) | (simp [*, errW_none, errW_some] <;> rfl), below_step HBV.out (by repeat (first | (with_reducible first | exact HB.out | apply below_alloc | apply pw_below_drewN | apply below_drew1) | exact HB.out))⟩
        · rw [if_neg c9] at H
          exact absurd H (by simp)

/-! ### impl_Adler32: function 25 -/
def impl_Adler32.f (k : Nat) (a0 : ByteArray) : Option (Int) := (impl_AdlerMore.f k 1 a0).bind fun t156 => (some t156)
theorem impl_Adler32.mono : ∀ a0 k, LeO (impl_Adler32.f k a0) (impl_Adler32.f (k + 1) a0) := by
  intro a0 k
  unfold impl_Adler32.f
  repeat' first
      | (with_reducible exact impl_AdlerMore.mono _ _ _)
      | (with_reducible exact LeO.refl _)
      | (with_reducible exact LeO.none _)
      | (with_reducible refine LeO.ite ?_ ?_)
      | (with_reducible refine LeO.bind ?_ (fun _ => ?_))
      | exact impl_AdlerMore.mono _ _ _
      | exact LeO.none _
      | refine LeO.ite ?_ ?_
      | refine LeO.bind ?_ (fun _ => ?_)
set_option maxHeartbeats 8000000 in
set_option maxRecDepth 100000 in
theorem impl_Adler32.calls (k : Nat) (a0 : ByteArray) (r : Int) (w : World) (h : impl_Adler32.f k a0 = some r) :
    Calls Try.prog 25 #[.string a0] w fun e w' => e = .returned (.int .i64 r) ∧ Below w.heap.size w w' := by
  have HB := Aside0.mk (Below.refl w.heap.size w)
  have H : ((impl_AdlerMore.f k 1 a0).bind fun t156 => (some t156)) = some r := h
  clear h
  replace H := Option.bind_eq_some_iff.mp H
  obtain ⟨t156, A20, H⟩ := H
  replace H : (some t156) = some r := H
  have A2 := Aside0.mk A20
  clear A20
  obtain rfl := Option.some.inj H
  go_enter Try.func25, Try.ntmps25
  go_wp2_with (first | ((with_reducible refine gate_callee (f := 76) rfl ?_); refine goesL_ (some 4) rfl rfl Try.func76 (by kernel_rfl) rfl #[.int .i64 1, .string a0] rfl (by (try simp only [List.map_toArray, List.map_cons, List.map_nil]); first | done | rfl | (simp only [List.length_drop, List.length_take]; rfl)) ?_; (with_reducible refine (impl_AdlerMore.calls k 1 a0 t156 _ A2.out).mono ?_); rintro e w3 ⟨rfl, hb⟩; refine ⟨_, rfl, ?_⟩; have n0_ := Aside0.mk (below_step (by repeat (first | (with_reducible first | exact HB.out | apply below_alloc | apply pw_below_drewN | apply below_drew1) | exact HB.out)) hb); clear HB; have HB := n0_; clear n0_; (try clear hb); (try clear hb2); (try clear hk); (try clear hi)))
  go_ret
  exact ⟨by first | rfl | (simp [errW_none, errW_some] <;> rfl) | (simp [*, errW_none, errW_some] <;> rfl), by repeat (first | (with_reducible first | exact HB.out | apply below_alloc | apply pw_below_drewN | apply below_drew1) | exact HB.out)⟩

/-! ### spec_AdlerMore: function 77 -/
mutual
def spec_AdlerMore.j0 : Nat → ByteArray → Int → Int → Bool → Option (Int)
  | 0, _, _, _, _ => none
  | k + 1, x1, x5, x6, x27 => if x27 = true then (some 0) else (spec_AdlerMore.l0 k x1 x5 x6 0)
def spec_AdlerMore.l0 : Nat → ByteArray → Int → Int → Int → Option (Int)
  | 0, _, _, _, _ => none
  | k + 1, x1, x5, x6, x7 => if x7 < (x1.size : Int) then (if 0 ≤ x7 then (spec_AdlerMore.l0 k x1 (Int.tmod (wrap64 (x5 + (wrap64 (bt x1 x7)))) 65521) (Int.tmod (wrap64 (x6 + (Int.tmod (wrap64 (x5 + (wrap64 (bt x1 x7)))) 65521))) 65521) (wrap64 (x7 + 1))) else (none)) else (some (wrap64 ((wrap64 (x6 * 65536)) + x5)))
end
def spec_AdlerMore.f (k : Nat) (a0 : Int) (a1 : ByteArray) : Option (Int) := (spec_l1In.f a0 0 4294967295).bind fun t157 => (if t157 = true then (if (Int.tmod a0 65536) > 65520 then (spec_AdlerMore.j0 k a1 (Int.tmod a0 65536) (wrap64 (Int.tdiv a0 65536)) true) else (if (wrap64 (Int.tdiv a0 65536)) > 65520 then (spec_AdlerMore.j0 k a1 (Int.tmod a0 65536) (wrap64 (Int.tdiv a0 65536)) true) else (spec_AdlerMore.j0 k a1 (Int.tmod a0 65536) (wrap64 (Int.tdiv a0 65536)) (decide ((a1.size : Int) > 9000))))) else (spec_AdlerMore.j0 k a1 (Int.tmod a0 65536) (wrap64 (Int.tdiv a0 65536)) true))
theorem spec_AdlerMore.mono_l : ∀ k, (∀ y0 y1 y2 y3, LeO (spec_AdlerMore.j0 k y0 y1 y2 y3) (spec_AdlerMore.j0 (k + 1) y0 y1 y2 y3)) ∧ (∀ y0 y1 y2 y3, LeO (spec_AdlerMore.l0 k y0 y1 y2 y3) (spec_AdlerMore.l0 (k + 1) y0 y1 y2 y3))
  | 0 => ⟨fun _ _ _ _ r h => by simp [spec_AdlerMore.j0] at h, fun _ _ _ _ r h => by simp [spec_AdlerMore.l0] at h⟩
  | k + 1 => by
    obtain ⟨ih0, ih1⟩ := spec_AdlerMore.mono_l k
    refine ⟨?_, ?_⟩
    · intro y0 y1 y2 y3
      unfold spec_AdlerMore.j0
      repeat' first
      | (with_reducible exact ih0 _ _ _ _)
      | (with_reducible exact ih1 _ _ _ _)
      | (with_reducible exact LeO.refl _)
      | (with_reducible exact LeO.none _)
      | (with_reducible refine LeO.ite ?_ ?_)
      | (with_reducible refine LeO.bind ?_ (fun _ => ?_))
      | exact ih0 _ _ _ _
      | exact ih1 _ _ _ _
      | exact LeO.none _
      | refine LeO.ite ?_ ?_
      | refine LeO.bind ?_ (fun _ => ?_)
    · intro y0 y1 y2 y3
      unfold spec_AdlerMore.l0
      repeat' first
      | (with_reducible exact ih0 _ _ _ _)
      | (with_reducible exact ih1 _ _ _ _)
      | (with_reducible exact LeO.refl _)
      | (with_reducible exact LeO.none _)
      | (with_reducible refine LeO.ite ?_ ?_)
      | (with_reducible refine LeO.bind ?_ (fun _ => ?_))
      | exact ih0 _ _ _ _
      | exact ih1 _ _ _ _
      | exact LeO.none _
      | refine LeO.ite ?_ ?_
      | refine LeO.bind ?_ (fun _ => ?_)
theorem spec_AdlerMore.mono : ∀ a0 a1 k, LeO (spec_AdlerMore.f k a0 a1) (spec_AdlerMore.f (k + 1) a0 a1) := by
  intro a0 a1 k
  obtain ⟨ih0, ih1⟩ := spec_AdlerMore.mono_l k
  unfold spec_AdlerMore.f
  repeat' first
      | (with_reducible exact ih0 _ _ _ _)
      | (with_reducible exact ih1 _ _ _ _)
      | (with_reducible exact LeO.refl _)
      | (with_reducible exact LeO.none _)
      | (with_reducible refine LeO.ite ?_ ?_)
      | (with_reducible refine LeO.bind ?_ (fun _ => ?_))
      | exact ih0 _ _ _ _
      | exact ih1 _ _ _ _
      | exact LeO.none _
      | refine LeO.ite ?_ ?_
      | refine LeO.bind ?_ (fun _ => ?_)
set_option maxHeartbeats 8000000 in
set_option maxRecDepth 100000 in
theorem spec_AdlerMore.calls (k : Nat) (a0 : Int) (a1 : ByteArray) (r : Int) (w : World) (h : spec_AdlerMore.f k a0 a1 = some r) :
    Calls Try.prog 77 #[.int .i64 a0, .string a1] w fun e w' => e = .returned (.int .i64 r) ∧ Drawn0 w w' := by
  have H : ((spec_l1In.f a0 0 4294967295).bind fun t157 => (if t157 = true then (if (Int.tmod a0 65536) > 65520 then (spec_AdlerMore.j0 k a1 (Int.tmod a0 65536) (wrap64 (Int.tdiv a0 65536)) true) else (if (wrap64 (Int.tdiv a0 65536)) > 65520 then (spec_AdlerMore.j0 k a1 (Int.tmod a0 65536) (wrap64 (Int.tdiv a0 65536)) true) else (spec_AdlerMore.j0 k a1 (Int.tmod a0 65536) (wrap64 (Int.tdiv a0 65536)) (decide ((a1.size : Int) > 9000))))) else (spec_AdlerMore.j0 k a1 (Int.tmod a0 65536) (wrap64 (Int.tdiv a0 65536)) true))) = some r := h
  clear h
  have HC3 := Aside0.mk H
  clear H
  go_enter Try.func77, Try.ntmps77
  go_upto_region 3 with (fail)
  go_cut [27] (fun v27 wc => ∃ (kq : Nat) (x27_2 : Bool), v27 = .bool x27_2 ∧ Aside0 (spec_AdlerMore.j0 kq a1 (Int.tmod a0 65536) (wrap64 (Int.tdiv a0 65536)) x27_2 = some r) ∧ Aside0 (kq ≤ k) ∧ Drawn0 w wc)
  case first =>
    have H := HC3.out
    clear HC3
    replace H := Option.bind_eq_some_iff.mp H
    obtain ⟨t157, A40, H⟩ := H
    replace H : (if t157 = true then (if (Int.tmod a0 65536) > 65520 then (spec_AdlerMore.j0 k a1 (Int.tmod a0 65536) (wrap64 (Int.tdiv a0 65536)) true) else (if (wrap64 (Int.tdiv a0 65536)) > 65520 then (spec_AdlerMore.j0 k a1 (Int.tmod a0 65536) (wrap64 (Int.tdiv a0 65536)) true) else (spec_AdlerMore.j0 k a1 (Int.tmod a0 65536) (wrap64 (Int.tdiv a0 65536)) (decide ((a1.size : Int) > 9000))))) else (spec_AdlerMore.j0 k a1 (Int.tmod a0 65536) (wrap64 (Int.tdiv a0 65536)) true)) = some r := H
    have A4 := Aside0.mk A40
    clear A40
    by_cases c5 : t157 = true
    · subst c5
      have H1 : (if (Int.tmod a0 65536) > 65520 then (spec_AdlerMore.j0 k a1 (Int.tmod a0 65536) (wrap64 (Int.tdiv a0 65536)) true) else (if (wrap64 (Int.tdiv a0 65536)) > 65520 then (spec_AdlerMore.j0 k a1 (Int.tmod a0 65536) (wrap64 (Int.tdiv a0 65536)) true) else (spec_AdlerMore.j0 k a1 (Int.tmod a0 65536) (wrap64 (Int.tdiv a0 65536)) (decide ((a1.size : Int) > 9000))))) = some r := by rw [if_pos rfl] at H; exact H
      clear H
      have H := H1
      clear H1
      by_cases c6 : (Int.tmod a0 65536) > 65520
      · rw [if_pos c6] at H
        have c6b0 : decide (65520 < (Int.tmod a0 65536)) = true := decide_eq_true c6
        clear c6
        (first | rw [c6b0] | (simp only [i64_w, i32_w]; rw [c6b0]) | skip)
        have H' := Aside0.mk H
        clear H
        go_wp2_with (first | ((with_reducible refine gate_callee (f := 71) rfl ?_); refine goesL_ (some 13) rfl rfl Try.func71 (by kernel_rfl) rfl #[.int .i64 a0, .int .i64 0, .int .i64 4294967295] rfl (by (try simp only [List.map_toArray, List.map_cons, List.map_nil]); first | done | rfl | (simp only [List.length_drop, List.length_take]; rfl)) ?_; (with_reducible refine (spec_l1In.calls a0 0 4294967295 true _ A4.out).mono ?_); rintro e w' ⟨rfl, ⟨nd, rfl⟩⟩; refine ⟨_, rfl, ?_⟩))
        go_meet
        case rel => exact ⟨_, (true), (by first | rfl | (simp; done) | (simp [*]; done)), H', ⟨by first | omega | exact Nat.le_refl _⟩, by repeat (first | exact Drawn0.refl _ | apply Drawn0.step)⟩
      · rw [if_neg c6] at H
        have c6b0 : decide (65520 < (Int.tmod a0 65536)) = false := decide_eq_false c6
        clear c6
        (first | rw [c6b0] | (simp only [i64_w, i32_w]; rw [c6b0]) | skip)
        by_cases c7 : (wrap64 (Int.tdiv a0 65536)) > 65520
        · rw [if_pos c7] at H
          have c7b0 : decide (65520 < (wrap64 (Int.tdiv a0 65536))) = true := decide_eq_true c7
          clear c7
          have H' := Aside0.mk H
          clear H
          go_wp2_with (first | ((with_reducible refine gate_callee (f := 71) rfl ?_); refine goesL_ (some 13) rfl rfl Try.func71 (by kernel_rfl) rfl #[.int .i64 a0, .int .i64 0, .int .i64 4294967295] rfl (by (try simp only [List.map_toArray, List.map_cons, List.map_nil]); first | done | rfl | (simp only [List.length_drop, List.length_take]; rfl)) ?_; (with_reducible refine (spec_l1In.calls a0 0 4294967295 true _ A4.out).mono ?_); rintro e w' ⟨rfl, ⟨nd, rfl⟩⟩; refine ⟨_, rfl, ?_⟩))
          go_meet
          case rel => exact ⟨_, (true), (by first | rfl | (simp; done) | (simp [*]; done)), H', ⟨by first | omega | exact Nat.le_refl _⟩, by repeat (first | exact Drawn0.refl _ | apply Drawn0.step)⟩
        · rw [if_neg c7] at H
          have c7b0 : decide (65520 < (wrap64 (Int.tdiv a0 65536))) = false := decide_eq_false c7
          clear c7
          have H' := Aside0.mk H
          clear H
          go_wp2_with (first | ((with_reducible refine gate_callee (f := 71) rfl ?_); refine goesL_ (some 13) rfl rfl Try.func71 (by kernel_rfl) rfl #[.int .i64 a0, .int .i64 0, .int .i64 4294967295] rfl (by (try simp only [List.map_toArray, List.map_cons, List.map_nil]); first | done | rfl | (simp only [List.length_drop, List.length_take]; rfl)) ?_; (with_reducible refine (spec_l1In.calls a0 0 4294967295 true _ A4.out).mono ?_); rintro e w' ⟨rfl, ⟨nd, rfl⟩⟩; refine ⟨_, rfl, ?_⟩))
          go_meet
          case rel => exact ⟨_, (decide ((a1.size : Int) > 9000)), (by first | rfl | (simp; done) | (simp [*]; done)), H', ⟨by first | omega | exact Nat.le_refl _⟩, by repeat (first | exact Drawn0.refl _ | apply Drawn0.step)⟩
    · replace c5 := Bool.eq_false_iff.mpr c5
      subst c5
      have H1 : (spec_AdlerMore.j0 k a1 (Int.tmod a0 65536) (wrap64 (Int.tdiv a0 65536)) true) = some r := by rw [if_neg (show ¬ (false = true) by decide)] at H; exact H
      clear H
      have H := H1
      clear H1
      have H' := Aside0.mk H
      clear H
      go_wp2_with (first | ((with_reducible refine gate_callee (f := 71) rfl ?_); refine goesL_ (some 13) rfl rfl Try.func71 (by kernel_rfl) rfl #[.int .i64 a0, .int .i64 0, .int .i64 4294967295] rfl (by (try simp only [List.map_toArray, List.map_cons, List.map_nil]); first | done | rfl | (simp only [List.length_drop, List.length_take]; rfl)) ?_; (with_reducible refine (spec_l1In.calls a0 0 4294967295 false _ A4.out).mono ?_); rintro e w' ⟨rfl, ⟨nd, rfl⟩⟩; refine ⟨_, rfl, ?_⟩))
      go_meet
      case rel => exact ⟨_, (true), (by first | rfl | (simp; done) | (simp [*]; done)), H', ⟨by first | omega | exact Nat.le_refl _⟩, by repeat (first | exact Drawn0.refl _ | apply Drawn0.step)⟩
  case rest =>
    clear HC3
    try clear p2
    try clear c5
    try clear c6
    try clear c6b0
    try clear p6
    try clear c7
    try clear c7b0
    obtain ⟨kq, x27_2, rfl, HA, HJ2, ⟨mc2, rfl⟩⟩ := hcut
    cases kq with
    | zero => exact absurd HA.out (by simp [spec_AdlerMore.j0])
    | succ kj2 =>
      have H := HA.out
      clear HA
      simp only [spec_AdlerMore.j0] at H
      by_cases c8 : x27_2 = true
      · subst c8
        have H1 : (some 0) = some r := by rw [if_pos rfl] at H; exact H
        clear H
        have H := H1
        clear H1
        obtain rfl := Option.some.inj H
        go_wp2
        go_ret
        exact ⟨by first | rfl | (simp; done) | (simp [*]; done), by repeat (first | exact Drawn0.refl _ | apply Drawn0.step)⟩
      · replace c8 := Bool.eq_false_iff.mpr c8
        subst c8
        have H1 : (spec_AdlerMore.l0 kj2 a1 (Int.tmod a0 65536) (wrap64 (Int.tdiv a0 65536)) 0) = some r := by rw [if_neg (show ¬ (false = true) by decide)] at H; exact H
        clear H
        have H := H1
        clear H1
        have H' := Aside0.mk H
        clear H
        go_wp2
        go_loopg [5, 6, 7] kj2 (fun kq v5 v6 v7 w' => ∃ (x5_2 : Int) (x6_2 : Int) (x7_2 : Int), v5 = .int .i64 x5_2 ∧ v6 = .int .i64 x6_2 ∧ v7 = .int .i64 x7_2 ∧ Aside0 (spec_AdlerMore.l0 kq a1 x5_2 x6_2 x7_2 = some r) ∧ Aside0 (kq ≤ kj2) ∧ Drawn0 w w')
        case atStart => exact ⟨((Int.tmod a0 65536)), ((wrap64 (Int.tdiv a0 65536))), (0), (by first | rfl | (simp; done) | (simp [*]; done)), (by first | rfl | (simp; done) | (simp [*]; done)), (by first | rfl | (simp; done) | (simp [*]; done)), H', ⟨Nat.le_refl _⟩, by repeat (first | exact Drawn0.refl _ | apply Drawn0.step)⟩
        case round =>
          clear H'
          try clear c2
          try clear p2
          try clear c5
          try clear c6
          try clear c6b0
          try clear p6
          try clear c7
          try clear c7b0
          try clear c8
          try clear p2
          try clear p6
          obtain ⟨x5_2, x6_2, x7_2, rfl, rfl, rfl, HA, HK2, ⟨m2, rfl⟩⟩ := hrel
          cases gk with
          | zero => exact absurd HA.out (by simp [spec_AdlerMore.l0])
          | succ k2 =>
            have H := HA.out
            clear HA
            simp only [spec_AdlerMore.l0] at H
            by_cases c9 : x7_2 < (a1.size : Int)
            · rw [if_pos c9] at H
              have c9b0 : decide (x7_2 < (a1.size : Int)) = true := decide_eq_true c9
              clear c9
              by_cases c10 : 0 ≤ x7_2
              · rw [if_pos c10] at H
                have c10b0 : decide (0 ≤ x7_2) = true := decide_eq_true c10
                clear c10
                have H' := Aside0.mk H
                clear H
                have p11 : 0 ≤ (x7_2 : Int) := of_decide_eq_true (by first | (with_reducible assumption) | assumption)
                have q11 : x7_2 < (a1.size : Int) := of_decide_eq_true (by first | (with_reducible assumption) | assumption)
                have hx11 := bt_at a1 x7_2
                replace p11 := eq_true p11
                replace q11 := eq_true q11
                go_wp2
                go_roundg k2
                case measure => have := HJ2.out; have := HK2.out; omega
                case rel => exact ⟨(Int.tmod (wrap64 (x5_2 + (wrap64 (bt a1 x7_2)))) 65521), (Int.tmod (wrap64 (x6_2 + (Int.tmod (wrap64 (x5_2 + (wrap64 (bt a1 x7_2)))) 65521))) 65521), (wrap64 (x7_2 + 1)), (by first | rfl | (simp; done) | (simp [*]; done)), (by first | rfl | (simp; done) | (simp [*]; done)), (by first | rfl | (simp; done) | (simp [*]; done)), H', ⟨by have := HJ2.out; have := HK2.out; omega⟩, by repeat (first | exact Drawn0.refl _ | apply Drawn0.step)⟩
              · rw [if_neg c10] at H
                exact absurd H (by simp)
            · rw [if_neg c9] at H
              have c9b0 : decide (x7_2 < (a1.size : Int)) = false := decide_eq_false c9
              clear c9
              obtain rfl := Option.some.inj H
              go_wp2
              go_ret
              exact ⟨by first | rfl | (simp; done) | (simp [*]; done), by repeat (first | exact Drawn0.refl _ | apply Drawn0.step)⟩

/-! ### spec_Adler32: function 26 -/
def spec_Adler32.f (k : Nat) (a0 : ByteArray) : Option (Int) := (spec_AdlerMore.f k 1 a0).bind fun t158 => (some t158)
theorem spec_Adler32.mono : ∀ a0 k, LeO (spec_Adler32.f k a0) (spec_Adler32.f (k + 1) a0) := by
  intro a0 k
  unfold spec_Adler32.f
  repeat' first
      | (with_reducible exact spec_AdlerMore.mono _ _ _)
      | (with_reducible exact LeO.refl _)
      | (with_reducible exact LeO.none _)
      | (with_reducible refine LeO.ite ?_ ?_)
      | (with_reducible refine LeO.bind ?_ (fun _ => ?_))
      | exact spec_AdlerMore.mono _ _ _
      | exact LeO.none _
      | refine LeO.ite ?_ ?_
      | refine LeO.bind ?_ (fun _ => ?_)
set_option maxHeartbeats 8000000 in
set_option maxRecDepth 100000 in
theorem spec_Adler32.calls (k : Nat) (a0 : ByteArray) (r : Int) (w : World) (h : spec_Adler32.f k a0 = some r) :
    Calls Try.prog 26 #[.string a0] w fun e w' => e = .returned (.int .i64 r) ∧ Drawn0 w w' := by
  have H : ((spec_AdlerMore.f k 1 a0).bind fun t158 => (some t158)) = some r := h
  clear h
  replace H := Option.bind_eq_some_iff.mp H
  obtain ⟨t158, A20, H⟩ := H
  replace H : (some t158) = some r := H
  have A2 := Aside0.mk A20
  clear A20
  obtain rfl := Option.some.inj H
  go_enter Try.func26, Try.ntmps26
  go_wp2_with (first | ((with_reducible refine gate_callee (f := 77) rfl ?_); refine goesL_ (some 4) rfl rfl Try.func77 (by kernel_rfl) rfl #[.int .i64 1, .string a0] rfl (by (try simp only [List.map_toArray, List.map_cons, List.map_nil]); first | done | rfl | (simp only [List.length_drop, List.length_take]; rfl)) ?_; (with_reducible refine (spec_AdlerMore.calls k 1 a0 t158 _ A2.out).mono ?_); rintro e w' ⟨rfl, ⟨nd, rfl⟩⟩; refine ⟨_, rfl, ?_⟩))
  go_ret
  exact ⟨by first | rfl | (simp; done) | (simp [*]; done), by repeat (first | exact Drawn0.refl _ | apply Drawn0.step)⟩

end Go.Proofs.Ytfladcffgblfdaa.PFnCrcBit
