/- What the functions that the law comes to compute, as plain functions, and that the machine's calls come to just that: written by a program for this claim, and turned where Lean did not take it. No condition. -/
import Derived.Test.YtpjkcdgamlllgaaThConv
import Derived.Test.YtpjkcdgamlllgaaHFnAdlerMorex0
import Derived.Test.YtpjkcdgamlllgaaHFnAdlerMorex1
import Derived.Test.YtpjkcdgamlllgaaHFnAdlerMorex2
namespace Go.Proofs.Ytpjkcdgamlllgaa.PFnAdlerMore
open Go.RowKit Go.Proofs.YtpjkcdgamlllgaaW.PrintWords Go.Proofs.YtpjkcdgamlllgaaW.PrintLast Go.Proofs.YtpjkcdgamlllgaaW.PrintMore
attribute [local go_sem] max2_int min2_int max_two min_two max_three min_three max_four min_four   -- for this text's walks alone
set_option linter.unusedVariables false
set_option linter.unusedSimpArgs false

/-! ### impl_AdlerMore: function 55 -/
mutual
def impl_AdlerMore.j0 : Nat → ByteArray → Int → Int → Bool → Option (Int)
  | 0, _, _, _, _ => none
  | k + 1, x1, x5, x6, x28 => if x28 = true then (some 0) else (if x1.size ≤ 9223372036854775807 then (impl_AdlerMore.l0 k x5 x6 (bytesOf x1) ((bytesOf x1).length : Int) 0) else (none))
def impl_AdlerMore.l0 : Nat → Int → Int → List Int → Int → Int → Option (Int)
  | 0, _, _, _, _, _ => none
  | k + 1, x5, x6, x30, x31, x32 => if x32 < x31 then (if 0 ≤ x32 then (if x32 < (x30.length : Int) then (impl_AdlerMore.l0 k (Int.tmod (wrap64 (x5 + (wrap64 (rd x30 x32)))) 65521) (Int.tmod (wrap64 (x6 + (Int.tmod (wrap64 (x5 + (wrap64 (rd x30 x32)))) 65521))) 65521) x30 x31 (wrap64 (x32 + 1))) else (none)) else (none)) else (some (wrap64 ((wrap64 (65536 * x6)) + x5)))
end
def impl_AdlerMore.f (k : Nat) (a0 : Int) (a1 : ByteArray) : Option (Int) := (impl_in.f a0 0 4294967295).bind fun t157 => (if t157 = true then (if (Int.tmod a0 65536) ≥ 65521 then (impl_AdlerMore.j0 k a1 (Int.tmod a0 65536) (wrap64 (Int.tdiv a0 65536)) true) else (if (wrap64 (Int.tdiv a0 65536)) ≥ 65521 then (impl_AdlerMore.j0 k a1 (Int.tmod a0 65536) (wrap64 (Int.tdiv a0 65536)) true) else (impl_AdlerMore.j0 k a1 (Int.tmod a0 65536) (wrap64 (Int.tdiv a0 65536)) (decide ((a1.size : Int) > 9000))))) else (impl_AdlerMore.j0 k a1 (Int.tmod a0 65536) (wrap64 (Int.tdiv a0 65536)) true))
theorem impl_AdlerMore.mono_l : ∀ k, (∀ y0 y1 y2 y3, LeO (impl_AdlerMore.j0 k y0 y1 y2 y3) (impl_AdlerMore.j0 (k + 1) y0 y1 y2 y3)) ∧ (∀ y0 y1 y2 y3 y4, LeO (impl_AdlerMore.l0 k y0 y1 y2 y3 y4) (impl_AdlerMore.l0 (k + 1) y0 y1 y2 y3 y4))
  | 0 => ⟨fun _ _ _ _ r h => by simp [impl_AdlerMore.j0] at h, fun _ _ _ _ _ r h => by simp [impl_AdlerMore.l0] at h⟩
  | k + 1 => by
    obtain ⟨ih0, ih1⟩ := impl_AdlerMore.mono_l k
    refine ⟨?_, ?_⟩
    · intro y0 y1 y2 y3
      unfold impl_AdlerMore.j0
      repeat' first
      | (with_reducible exact ih0 _ _ _ _)
      | (with_reducible exact ih1 _ _ _ _ _)
      | (with_reducible exact LeO.refl _)
      | (with_reducible exact LeO.none _)
      | (with_reducible refine LeO.ite ?_ ?_)
      | (with_reducible refine LeO.bind ?_ (fun _ => ?_))
      | exact ih0 _ _ _ _
      | exact ih1 _ _ _ _ _
      | exact LeO.none _
      | refine LeO.ite ?_ ?_
      | refine LeO.bind ?_ (fun _ => ?_)
    · intro y0 y1 y2 y3 y4
      unfold impl_AdlerMore.l0
      repeat' first
      | (with_reducible exact ih0 _ _ _ _)
      | (with_reducible exact ih1 _ _ _ _ _)
      | (with_reducible exact LeO.refl _)
      | (with_reducible exact LeO.none _)
      | (with_reducible refine LeO.ite ?_ ?_)
      | (with_reducible refine LeO.bind ?_ (fun _ => ?_))
      | exact ih0 _ _ _ _
      | exact ih1 _ _ _ _ _
      | exact LeO.none _
      | refine LeO.ite ?_ ?_
      | refine LeO.bind ?_ (fun _ => ?_)
theorem impl_AdlerMore.mono : ∀ a0 a1 k, LeO (impl_AdlerMore.f k a0 a1) (impl_AdlerMore.f (k + 1) a0 a1) := by
  intro a0 a1 k
  obtain ⟨ih0, ih1⟩ := impl_AdlerMore.mono_l k
  unfold impl_AdlerMore.f
  repeat' first
      | (with_reducible exact ih0 _ _ _ _)
      | (with_reducible exact ih1 _ _ _ _ _)
      | (with_reducible exact LeO.refl _)
      | (with_reducible exact LeO.none _)
      | (with_reducible refine LeO.ite ?_ ?_)
      | (with_reducible refine LeO.bind ?_ (fun _ => ?_))
      | exact ih0 _ _ _ _
      | exact ih1 _ _ _ _ _
      | exact LeO.none _
      | refine LeO.ite ?_ ?_
      | refine LeO.bind ?_ (fun _ => ?_)
set_option maxHeartbeats 8000000 in
set_option maxRecDepth 100000 in
theorem impl_AdlerMore.calls (k : Nat) (a0 : Int) (a1 : ByteArray) (r : Int) (w : World) (h : impl_AdlerMore.f k a0 a1 = some r) :
    Calls Try.prog 55 #[.int .i64 a0, .string a1] w fun e w' => e = .returned (.int .i64 r) ∧ Below w.heap.size w w' := by
  have HB := Aside0.mk (Below.refl w.heap.size w)
  have H : ((impl_in.f a0 0 4294967295).bind fun t157 => (if t157 = true then (if (Int.tmod a0 65536) ≥ 65521 then (impl_AdlerMore.j0 k a1 (Int.tmod a0 65536) (wrap64 (Int.tdiv a0 65536)) true) else (if (wrap64 (Int.tdiv a0 65536)) ≥ 65521 then (impl_AdlerMore.j0 k a1 (Int.tmod a0 65536) (wrap64 (Int.tdiv a0 65536)) true) else (impl_AdlerMore.j0 k a1 (Int.tmod a0 65536) (wrap64 (Int.tdiv a0 65536)) (decide ((a1.size : Int) > 9000))))) else (impl_AdlerMore.j0 k a1 (Int.tmod a0 65536) (wrap64 (Int.tdiv a0 65536)) true))) = some r := h
  clear h
  have HC3 := Aside0.mk H
  clear H
  go_enter Try.func55, Try.ntmps55
  go_upto_region 2 with (fail)
  go_cut [28] (fun v28 wc => ∃ (kq : Nat) (x28_2 : Bool), v28 = .bool x28_2 ∧ Aside0 (impl_AdlerMore.j0 kq a1 (Int.tmod a0 65536) (wrap64 (Int.tdiv a0 65536)) x28_2 = some r) ∧ Aside0 (kq ≤ k) ∧ Aside0 (Below w.heap.size w wc))
  case first =>
    have H := HC3.out
    clear HC3
    replace H := Option.bind_eq_some_iff.mp H
    obtain ⟨t157, A40, H⟩ := H
    replace H : (if t157 = true then (if (Int.tmod a0 65536) ≥ 65521 then (impl_AdlerMore.j0 k a1 (Int.tmod a0 65536) (wrap64 (Int.tdiv a0 65536)) true) else (if (wrap64 (Int.tdiv a0 65536)) ≥ 65521 then (impl_AdlerMore.j0 k a1 (Int.tmod a0 65536) (wrap64 (Int.tdiv a0 65536)) true) else (impl_AdlerMore.j0 k a1 (Int.tmod a0 65536) (wrap64 (Int.tdiv a0 65536)) (decide ((a1.size : Int) > 9000))))) else (impl_AdlerMore.j0 k a1 (Int.tmod a0 65536) (wrap64 (Int.tdiv a0 65536)) true)) = some r := H
    have A4 := Aside0.mk A40
    clear A40
    by_cases c5 : t157 = true
    · subst c5
      have H1 : (if (Int.tmod a0 65536) ≥ 65521 then (impl_AdlerMore.j0 k a1 (Int.tmod a0 65536) (wrap64 (Int.tdiv a0 65536)) true) else (if (wrap64 (Int.tdiv a0 65536)) ≥ 65521 then (impl_AdlerMore.j0 k a1 (Int.tmod a0 65536) (wrap64 (Int.tdiv a0 65536)) true) else (impl_AdlerMore.j0 k a1 (Int.tmod a0 65536) (wrap64 (Int.tdiv a0 65536)) (decide ((a1.size : Int) > 9000))))) = some r := by rw [if_pos rfl] at H; exact H
      clear H
      have H := H1
      clear H1
      by_cases c6 : (Int.tmod a0 65536) ≥ 65521
      · rw [if_pos c6] at H
        have c6b0 : decide (65521 ≤ (Int.tmod a0 65536)) = true := decide_eq_true c6
        clear c6
        (first | rw [c6b0] | (simp only [i64_w, i32_w]; rw [c6b0]) | skip)
        have H' := Aside0.mk H
        clear H
        go_wp2_with (first | ((with_reducible refine gate_callee (f := 59) rfl ?_); refine goesL_ (some 14) rfl rfl Try.func59 (by kernel_rfl) rfl #[.int .i64 a0, .int .i64 0, .int .i64 4294967295] rfl (by (try simp only [List.map_toArray, List.map_cons, List.map_nil]); first | done | rfl | (simp only [List.length_drop, List.length_take]; rfl)) ?_; (with_reducible refine (impl_in.calls a0 0 4294967295 true _ A4.out).mono ?_); rintro e w' ⟨rfl, ⟨nd, rfl⟩⟩; refine ⟨_, rfl, ?_⟩))
        go_meet
        case rel => exact ⟨_, (true), (by first | rfl | (simp; done) | (simp [*]; done)), H', ⟨by first | omega | exact Nat.le_refl _⟩, ⟨by repeat (first | (with_reducible first | exact HB.out | apply below_alloc | apply pw_below_drewN | apply below_drew1) | exact HB.out)⟩⟩
      · rw [if_neg c6] at H
        have c6b0 : decide (65521 ≤ (Int.tmod a0 65536)) = false := decide_eq_false c6
        clear c6
        (first | rw [c6b0] | (simp only [i64_w, i32_w]; rw [c6b0]) | skip)
        by_cases c7 : (wrap64 (Int.tdiv a0 65536)) ≥ 65521
        · rw [if_pos c7] at H
          have c7b0 : decide (65521 ≤ (wrap64 (Int.tdiv a0 65536))) = true := decide_eq_true c7
          clear c7
          have H' := Aside0.mk H
          clear H
          go_wp2_with (first | ((with_reducible refine gate_callee (f := 59) rfl ?_); refine goesL_ (some 14) rfl rfl Try.func59 (by kernel_rfl) rfl #[.int .i64 a0, .int .i64 0, .int .i64 4294967295] rfl (by (try simp only [List.map_toArray, List.map_cons, List.map_nil]); first | done | rfl | (simp only [List.length_drop, List.length_take]; rfl)) ?_; (with_reducible refine (impl_in.calls a0 0 4294967295 true _ A4.out).mono ?_); rintro e w' ⟨rfl, ⟨nd, rfl⟩⟩; refine ⟨_, rfl, ?_⟩))
          go_meet
          case rel => exact ⟨_, (true), (by first | rfl | (simp; done) | (simp [*]; done)), H', ⟨by first | omega | exact Nat.le_refl _⟩, ⟨by repeat (first | (with_reducible first | exact HB.out | apply below_alloc | apply pw_below_drewN | apply below_drew1) | exact HB.out)⟩⟩
        · rw [if_neg c7] at H
          have c7b0 : decide (65521 ≤ (wrap64 (Int.tdiv a0 65536))) = false := decide_eq_false c7
          clear c7
          have H' := Aside0.mk H
          clear H
          go_wp2_with (first | ((with_reducible refine gate_callee (f := 59) rfl ?_); refine goesL_ (some 14) rfl rfl Try.func59 (by kernel_rfl) rfl #[.int .i64 a0, .int .i64 0, .int .i64 4294967295] rfl (by (try simp only [List.map_toArray, List.map_cons, List.map_nil]); first | done | rfl | (simp only [List.length_drop, List.length_take]; rfl)) ?_; (with_reducible refine (impl_in.calls a0 0 4294967295 true _ A4.out).mono ?_); rintro e w' ⟨rfl, ⟨nd, rfl⟩⟩; refine ⟨_, rfl, ?_⟩))
          go_meet
          case rel => exact ⟨_, (decide ((a1.size : Int) > 9000)), (by first | rfl | (simp; done) | (simp [*]; done)), H', ⟨by first | omega | exact Nat.le_refl _⟩, ⟨by repeat (first | (with_reducible first | exact HB.out | apply below_alloc | apply pw_below_drewN | apply below_drew1) | exact HB.out)⟩⟩
    · replace c5 := Bool.eq_false_iff.mpr c5
      subst c5
      have H1 : (impl_AdlerMore.j0 k a1 (Int.tmod a0 65536) (wrap64 (Int.tdiv a0 65536)) true) = some r := by rw [if_neg (show ¬ (false = true) by decide)] at H; exact H
      clear H
      have H := H1
      clear H1
      have H' := Aside0.mk H
      clear H
      go_wp2_with (first | ((with_reducible refine gate_callee (f := 59) rfl ?_); refine goesL_ (some 14) rfl rfl Try.func59 (by kernel_rfl) rfl #[.int .i64 a0, .int .i64 0, .int .i64 4294967295] rfl (by (try simp only [List.map_toArray, List.map_cons, List.map_nil]); first | done | rfl | (simp only [List.length_drop, List.length_take]; rfl)) ?_; (with_reducible refine (impl_in.calls a0 0 4294967295 false _ A4.out).mono ?_); rintro e w' ⟨rfl, ⟨nd, rfl⟩⟩; refine ⟨_, rfl, ?_⟩))
      go_meet
      case rel => exact ⟨_, (true), (by first | rfl | (simp; done) | (simp [*]; done)), H', ⟨by first | omega | exact Nat.le_refl _⟩, ⟨by repeat (first | (with_reducible first | exact HB.out | apply below_alloc | apply pw_below_drewN | apply below_drew1) | exact HB.out)⟩⟩
  case rest =>
    clear HC3
    try clear p2
    try clear c5
    try clear c6
    try clear c6b0
    try clear p6
    try clear c7
    try clear c7b0
    obtain ⟨kq, x28_2, rfl, HA, HJ2, HB⟩ := hcut
    cases kq with
    | zero => exact absurd HA.out (by simp [impl_AdlerMore.j0])
    | succ kj2 =>
      have H := HA.out
      clear HA
      simp only [impl_AdlerMore.j0] at H
      by_cases c8 : x28_2 = true
      · subst c8
        have H1 : (some 0) = some r := by rw [if_pos rfl] at H; exact H
        clear H
        have H := H1
        clear H1
        obtain rfl := Option.some.inj H
        go_wp2
        go_ret
        exact ⟨by first | rfl | (simp [errW_none, errW_some] <;> rfl) | (simp [*, errW_none, errW_some] <;> rfl), by repeat (first | (with_reducible first | exact HB.out | apply below_alloc | apply pw_below_drewN | apply below_drew1) | exact HB.out)⟩
      · replace c8 := Bool.eq_false_iff.mpr c8
        subst c8
        have H1 : (if a1.size ≤ 9223372036854775807 then (impl_AdlerMore.l0 kj2 (Int.tmod a0 65536) (wrap64 (Int.tdiv a0 65536)) (bytesOf a1) ((bytesOf a1).length : Int) 0) else (none)) = some r := by rw [if_neg (show ¬ (false = true) by decide)] at H; exact H
        clear H
        have H := H1
        clear H1
        by_cases c9 : a1.size ≤ 9223372036854775807
        · rw [if_pos c9] at H
          have c9b0 := eq_true c9
          have c9b1 : decide (a1.size ≤ 9223372036854775807) = true := decide_eq_true c9
          try have c9b2 : (9223372036854775807 < a1.size) = False := eq_false (Nat.not_lt.2 c9)
          clear c9
          have H' := Aside0.mk H
          clear H
          go_wp2_with (first | ((with_reducible refine gate_dst (N := 30) rfl ?_); refine Go.Proofs.Ytpjkcdgamlllgaa.Th.conv_event ?hg (N := 30) ?hd (s := a1) (e := 5) ?hr (of_decide_eq_true c9b1) ?_; (case hd => rfl); (case hg => rfl); (case hr => first | (have kbCV := fun W => print_bytes (P := Try.prog) 9 55 5 Try.underlying9 Try.underlying55 Try.underlying5 a1 W; go_simp; done) | (have kbCV := fun W => print_bytes (P := Try.prog) 9 55 5 Try.underlying9 Try.underlying55 Try.underlying5 a1 W; go_simp; rfl)); intro ACV cCV wv hcv0 hccv0 hbv0; have HRCV := Aside0.mk hcv0; have HCCV := Aside0.mk hccv0; have HBV := Aside0.mk (below_step (by repeat (first | (with_reducible first | exact HB.out | apply below_alloc | apply pw_below_drewN | apply below_drew1) | exact HB.out)) hbv0); clear HB; have HB := Aside0.mk (Below.refl wv.heap.size wv); clear hcv0 hccv0 hbv0))
          go_loopg [5, 6, 32] kj2 (fun kq v5 v6 v32 w' => ∃ (x5_2 : Int) (x6_2 : Int) (x32_2 : Int), v5 = .int .i64 x5_2 ∧ v6 = .int .i64 x6_2 ∧ v32 = .int .i64 x32_2 ∧ Aside0 (impl_AdlerMore.l0 kq x5_2 x6_2 (bytesOf a1) ((bytesOf a1).length : Int) x32_2 = some r) ∧ Aside0 (kq ≤ kj2) ∧ Aside0 (Below wv.heap.size wv w'))
          case atStart => exact ⟨((Int.tmod a0 65536)), ((wrap64 (Int.tdiv a0 65536))), (0), (by first | rfl | (simp; done) | (simp [*]; done)), (by first | rfl | (simp; done) | (simp [*]; done)), (by first | rfl | (simp; done) | (simp [*]; done)), H', ⟨Nat.le_refl _⟩, ⟨by repeat (first | (with_reducible first | exact HB.out | apply below_alloc | apply pw_below_drewN | apply below_drew1) | exact HB.out)⟩⟩
          case round =>
            clear H'
            try clear c1
            try clear p2
            try clear c5
            try clear c6
            try clear c6b0
            try clear p6
            try clear c7
            try clear c7b0
            try clear c8
            try clear c9
            try clear c9b0
            try clear c9b1
            try clear c9b2
            try clear c10
            try clear c10b0
            try clear p2
            try clear p6
            obtain ⟨x5_2, x6_2, x32_2, rfl, rfl, rfl, HA, HK2, HB⟩ := hrel
            cases gk with
            | zero => exact absurd HA.out (by simp [impl_AdlerMore.l0])
            | succ k2 =>
              have H := HA.out
              clear HA
              simp only [impl_AdlerMore.l0] at H
              by_cases c11 : x32_2 < ((bytesOf a1).length : Int)
              · rw [if_pos c11] at H
                have c11b0 : decide (x32_2 < ((bytesOf a1).length : Int)) = true := decide_eq_true c11
                clear c11
                by_cases c12 : 0 ≤ x32_2
                · rw [if_pos c12] at H
                  have c12b0 : decide (0 ≤ x32_2) = true := decide_eq_true c12
                  clear c12
                  by_cases c13 : x32_2 < ((bytesOf a1).length : Int)
                  · rw [if_pos c13] at H
                    have c13b0 : decide (x32_2 < ((bytesOf a1).length : Int)) = true := decide_eq_true c13
                    clear c13
                    have H' := Aside0.mk H
                    clear H
                    have p158 : 0 ≤ (x32_2 : Int) := of_decide_eq_true (by first | (with_reducible assumption) | assumption)
                    have q158 : x32_2 < ((bytesOf a1).length : Int) := of_decide_eq_true (by first | (with_reducible assumption) | assumption)
                    obtain ⟨ad158, e158, hx158_0⟩ := Kd.at_int HRCV.out x32_2 p158 q158
                    cases e158
                    replace hx158_0 := (HB.out.cell (World.block_lt_of_cell? wv _ hx158_0)).trans hx158_0
                    replace p158 := eq_true p158
                    replace q158 := eq_true q158
                    go_wp2
                    go_roundg k2
                    case measure => have := HJ2.out; have := HK2.out; omega
                    case rel => exact ⟨(Int.tmod (wrap64 (x5_2 + (wrap64 (rd (bytesOf a1) x32_2)))) 65521), (Int.tmod (wrap64 (x6_2 + (Int.tmod (wrap64 (x5_2 + (wrap64 (rd (bytesOf a1) x32_2)))) 65521))) 65521), (wrap64 (x32_2 + 1)), (by first | rfl | (simp; done) | (simp [*]; done)), (by first | rfl | (simp; done) | (simp [*]; done)), (by first | rfl | (simp; done) | (simp [*]; done)), H', ⟨by have := HJ2.out; have := HK2.out; omega⟩, ⟨by repeat (first | (with_reducible first | exact HB.out | apply below_alloc | apply pw_below_drewN | apply below_drew1) | exact HB.out)⟩⟩
                  · rw [if_neg c13] at H
                    exact absurd H (by simp)
                · rw [if_neg c12] at H
                  exact absurd H (by simp)
              · rw [if_neg c11] at H
                have c11b0 : decide (x32_2 < ((bytesOf a1).length : Int)) = false := decide_eq_false c11
                clear c11
                obtain rfl := Option.some.inj H
                go_wp2
                go_ret
                exact ⟨by first | rfl | (simp [errW_none, errW_some] <;> rfl) | (simp [*, errW_none, errW_some] <;> rfl), below_step HBV.out (by repeat (first | (with_reducible first | exact HB.out | apply below_alloc | apply pw_below_drewN | apply below_drew1) | exact HB.out))⟩
        · rw [if_neg c9] at H
          exact absurd H (by simp)

/-! ### impl_Adler32: function 53 -/
def impl_Adler32.f (k : Nat) (a0 : ByteArray) : Option (Int) := (impl_AdlerMore.f k 1 a0).bind fun t159 => (some t159)
theorem impl_Adler32.mono : ∀ a0 k, LeO (impl_Adler32.f k a0) (impl_Adler32.f (k + 1) a0) := by
  intro a0 k
  unfold impl_Adler32.f
  repeat' first
      | (with_reducible exact impl_AdlerMore.mono _ _ _)
      | (with_reducible exact LeO.refl _)
      | (with_reducible exact LeO.none _)
      | (with_reducible refine LeO.ite ?_ ?_)
      | (with_reducible refine LeO.bind ?_ (fun _ => ?_))
      | exact impl_AdlerMore.mono _ _ _
      | exact LeO.none _
      | refine LeO.ite ?_ ?_
      | refine LeO.bind ?_ (fun _ => ?_)
set_option maxHeartbeats 8000000 in
set_option maxRecDepth 100000 in
theorem impl_Adler32.calls (k : Nat) (a0 : ByteArray) (r : Int) (w : World) (h : impl_Adler32.f k a0 = some r) :
    Calls Try.prog 53 #[.string a0] w fun e w' => e = .returned (.int .i64 r) ∧ Below w.heap.size w w' := by
  have HB := Aside0.mk (Below.refl w.heap.size w)
  have H : ((impl_AdlerMore.f k 1 a0).bind fun t159 => (some t159)) = some r := h
  clear h
  replace H := Option.bind_eq_some_iff.mp H
  obtain ⟨t159, A20, H⟩ := H
  replace H : (some t159) = some r := H
  have A2 := Aside0.mk A20
  clear A20
  obtain rfl := Option.some.inj H
  go_enter Try.func53, Try.ntmps53
  go_wp2_with (first | ((with_reducible refine gate_callee (f := 55) rfl ?_); refine goesL_ (some 4) rfl rfl Try.func55 (by kernel_rfl) rfl #[.int .i64 1, .string a0] rfl (by (try simp only [List.map_toArray, List.map_cons, List.map_nil]); first | done | rfl | (simp only [List.length_drop, List.length_take]; rfl)) ?_; (with_reducible refine (impl_AdlerMore.calls k 1 a0 t159 _ A2.out).mono ?_); rintro e w3 ⟨rfl, hb⟩; refine ⟨_, rfl, ?_⟩; have n0_ := Aside0.mk (below_step (by repeat (first | (with_reducible first | exact HB.out | apply below_alloc | apply pw_below_drewN | apply below_drew1) | exact HB.out)) hb); clear HB; have HB := n0_; clear n0_; (try clear hb); (try clear hb2); (try clear hk); (try clear hi)))
  go_ret
  exact ⟨by first | rfl | (simp [errW_none, errW_some] <;> rfl) | (simp [*, errW_none, errW_some] <;> rfl), by repeat (first | (with_reducible first | exact HB.out | apply below_alloc | apply pw_below_drewN | apply below_drew1) | exact HB.out)⟩

/-! ### spec_Adler32: function 54 -/
def spec_Adler32.f (k : Nat) (a0 : ByteArray) : Option (Int) := (spec_AdlerMore.f k 1 a0).bind fun t160 => (some t160)
theorem spec_Adler32.mono : ∀ a0 k, LeO (spec_Adler32.f k a0) (spec_Adler32.f (k + 1) a0) := by
  intro a0 k
  unfold spec_Adler32.f
  repeat' first
      | (with_reducible exact spec_AdlerMore.mono _ _ _)
      | (with_reducible exact LeO.refl _)
      | (with_reducible exact LeO.none _)
      | (with_reducible refine LeO.ite ?_ ?_)
      | (with_reducible refine LeO.bind ?_ (fun _ => ?_))
      | exact spec_AdlerMore.mono _ _ _
      | exact LeO.none _
      | refine LeO.ite ?_ ?_
      | refine LeO.bind ?_ (fun _ => ?_)
set_option maxHeartbeats 8000000 in
set_option maxRecDepth 100000 in
theorem spec_Adler32.calls (k : Nat) (a0 : ByteArray) (r : Int) (w : World) (h : spec_Adler32.f k a0 = some r) :
    Calls Try.prog 54 #[.string a0] w fun e w' => e = .returned (.int .i64 r) ∧ Drawn0 w w' := by
  have H : ((spec_AdlerMore.f k 1 a0).bind fun t160 => (some t160)) = some r := h
  clear h
  replace H := Option.bind_eq_some_iff.mp H
  obtain ⟨t160, A20, H⟩ := H
  replace H : (some t160) = some r := H
  have A2 := Aside0.mk A20
  clear A20
  obtain rfl := Option.some.inj H
  go_enter Try.func54, Try.ntmps54
  go_wp2_with (first | ((with_reducible refine gate_callee (f := 56) rfl ?_); refine goesL_ (some 4) rfl rfl Try.func56 (by kernel_rfl) rfl #[.int .i64 1, .string a0] rfl (by (try simp only [List.map_toArray, List.map_cons, List.map_nil]); first | done | rfl | (simp only [List.length_drop, List.length_take]; rfl)) ?_; (with_reducible refine (spec_AdlerMore.calls k 1 a0 t160 _ A2.out).mono ?_); rintro e w' ⟨rfl, ⟨nd, rfl⟩⟩; refine ⟨_, rfl, ?_⟩))
  go_ret
  exact ⟨by first | rfl | (simp; done) | (simp [*]; done), by repeat (first | exact Drawn0.refl _ | apply Drawn0.step)⟩

/-! ### laws_FnAdlerMore: function 14 -/
mutual
def laws_FnAdlerMore.j0 : Nat → List Int → List Int → Bool → Option (Bool)
  | 0, _, _, _ => none
  | k + 1, x0, x1, x15 => if x15 = true then (some true) else ((spec_DrawAdler32.f k x0).bind fun t161 => ((spec_DrawAdlerMore.f k x1).bind fun bt162 => ((impl_Adler32.f k t161).bind fun t164 => ((spec_Adler32.f k t161).bind fun t165 => (if t164 = t165 then ((impl_AdlerMore.f k bt162.1 bt162.2).bind fun t166 => ((spec_AdlerMore.f k bt162.1 bt162.2).bind fun t167 => (laws_FnAdlerMore.j1 k t161 bt162.2 (t166 != t167)))) else (laws_FnAdlerMore.j1 k t161 bt162.2 true))))))
def laws_FnAdlerMore.j1 : Nat → ByteArray → ByteArray → Bool → Option (Bool)
  | 0, _, _, _ => none
  | k + 1, x5, x7, x36 => if x36 = true then (some false) else (if (wrap64 ((x5.size : Int) + (x7.size : Int))) > 9000 then ((impl_Adler32.f k (⟨#[]⟩ : ByteArray)).bind fun t168 => (some (t168 == 1))) else (if x5.size + x7.size ≤ 9223372036854775807 then ((impl_Adler32.f k (x5 ++ x7)).bind fun t169 => ((impl_Adler32.f k x5).bind fun t170 => ((impl_AdlerMore.f k t170 x7).bind fun t171 => (if t169 = t171 then ((impl_Adler32.f k (⟨#[87, 105, 107, 105, 112, 101, 100, 105, 97]⟩ : ByteArray)).bind fun t172 => (if t172 = 300286872 then ((impl_Adler32.f k (⟨#[]⟩ : ByteArray)).bind fun t173 => (some (t173 == 1))) else (some false))) else (some false))))) else (none)))
end
def laws_FnAdlerMore.f (k : Nat) (l0 : List Int) (l1 : List Int) : Option (Bool) := if (l0.length : Int) > 1048576 then (laws_FnAdlerMore.j0 k l0 l1 true) else (laws_FnAdlerMore.j0 k l0 l1 (decide ((l1.length : Int) > 1048576)))
theorem laws_FnAdlerMore.mono_l : ∀ k, (∀ y0 y1 y2, LeO (laws_FnAdlerMore.j0 k y0 y1 y2) (laws_FnAdlerMore.j0 (k + 1) y0 y1 y2)) ∧ (∀ y0 y1 y2, LeO (laws_FnAdlerMore.j1 k y0 y1 y2) (laws_FnAdlerMore.j1 (k + 1) y0 y1 y2))
  | 0 => ⟨fun _ _ _ r h => by simp [laws_FnAdlerMore.j0] at h, fun _ _ _ r h => by simp [laws_FnAdlerMore.j1] at h⟩
  | k + 1 => by
    obtain ⟨ih0, ih1⟩ := laws_FnAdlerMore.mono_l k
    refine ⟨?_, ?_⟩
    · intro y0 y1 y2
      unfold laws_FnAdlerMore.j0
      repeat' first
      | (with_reducible exact ih0 _ _ _)
      | (with_reducible exact ih1 _ _ _)
      | (with_reducible exact impl_Adler32.mono _ _)
      | (with_reducible exact impl_AdlerMore.mono _ _ _)
      | (with_reducible exact spec_Adler32.mono _ _)
      | (with_reducible exact spec_AdlerMore.mono _ _ _)
      | (with_reducible exact spec_DrawAdler32.mono _ _)
      | (with_reducible exact spec_DrawAdlerMore.mono _ _)
      | (with_reducible exact LeO.refl _)
      | (with_reducible exact LeO.none _)
      | (with_reducible refine LeO.ite ?_ ?_)
      | (with_reducible refine LeO.bind ?_ (fun _ => ?_))
      | exact ih0 _ _ _
      | exact ih1 _ _ _
      | exact impl_Adler32.mono _ _
      | exact impl_AdlerMore.mono _ _ _
      | exact spec_Adler32.mono _ _
      | exact spec_AdlerMore.mono _ _ _
      | exact spec_DrawAdler32.mono _ _
      | exact spec_DrawAdlerMore.mono _ _
      | exact LeO.none _
      | refine LeO.ite ?_ ?_
      | refine LeO.bind ?_ (fun _ => ?_)
    · intro y0 y1 y2
      unfold laws_FnAdlerMore.j1
      repeat' first
      | (with_reducible exact ih0 _ _ _)
      | (with_reducible exact ih1 _ _ _)
      | (with_reducible exact impl_Adler32.mono _ _)
      | (with_reducible exact impl_AdlerMore.mono _ _ _)
      | (with_reducible exact spec_Adler32.mono _ _)
      | (with_reducible exact spec_AdlerMore.mono _ _ _)
      | (with_reducible exact spec_DrawAdler32.mono _ _)
      | (with_reducible exact spec_DrawAdlerMore.mono _ _)
      | (with_reducible exact LeO.refl _)
      | (with_reducible exact LeO.none _)
      | (with_reducible refine LeO.ite ?_ ?_)
      | (with_reducible refine LeO.bind ?_ (fun _ => ?_))
      | exact ih0 _ _ _
      | exact ih1 _ _ _
      | exact impl_Adler32.mono _ _
      | exact impl_AdlerMore.mono _ _ _
      | exact spec_Adler32.mono _ _
      | exact spec_AdlerMore.mono _ _ _
      | exact spec_DrawAdler32.mono _ _
      | exact spec_DrawAdlerMore.mono _ _
      | exact LeO.none _
      | refine LeO.ite ?_ ?_
      | refine LeO.bind ?_ (fun _ => ?_)
theorem laws_FnAdlerMore.mono : ∀ a0 a1 k, LeO (laws_FnAdlerMore.f k a0 a1) (laws_FnAdlerMore.f (k + 1) a0 a1) := by
  intro a0 a1 k
  obtain ⟨ih0, ih1⟩ := laws_FnAdlerMore.mono_l k
  unfold laws_FnAdlerMore.f
  repeat' first
      | (with_reducible exact ih0 _ _ _)
      | (with_reducible exact ih1 _ _ _)
      | (with_reducible exact impl_Adler32.mono _ _)
      | (with_reducible exact impl_AdlerMore.mono _ _ _)
      | (with_reducible exact spec_Adler32.mono _ _)
      | (with_reducible exact spec_AdlerMore.mono _ _ _)
      | (with_reducible exact spec_DrawAdler32.mono _ _)
      | (with_reducible exact spec_DrawAdlerMore.mono _ _)
      | (with_reducible exact LeO.refl _)
      | (with_reducible exact LeO.none _)
      | (with_reducible refine LeO.ite ?_ ?_)
      | (with_reducible refine LeO.bind ?_ (fun _ => ?_))
      | exact ih0 _ _ _
      | exact ih1 _ _ _
      | exact impl_Adler32.mono _ _
      | exact impl_AdlerMore.mono _ _ _
      | exact spec_Adler32.mono _ _
      | exact spec_AdlerMore.mono _ _ _
      | exact spec_DrawAdler32.mono _ _
      | exact spec_DrawAdlerMore.mono _ _
      | exact LeO.none _
      | refine LeO.ite ?_ ?_
      | refine LeO.bind ?_ (fun _ => ?_)
set_option maxHeartbeats 8000000 in
set_option maxRecDepth 100000 in
theorem laws_FnAdlerMore.calls (k : Nat) (A0 : Option Addr) (c0 : Nat) (l0 : List Int) (A1 : Option Addr) (c1 : Nat) (l1 : List Int) (r : Bool) (w : World) (hr0 : Kd.C (Kd.int .u8) w A0 l0.length l0) (hc0 : l0.length ≤ c0) (hr1 : Kd.C (Kd.int .u8) w A1 l1.length l1) (hc1 : l1.length ≤ c1) (h : laws_FnAdlerMore.f k l0 l1 = some r) :
    Calls Try.prog 14 #[.slice A0 l0.length c0, .slice A1 l1.length c1] w fun e w' => e = .returned (.bool r) ∧ Below w.heap.size w w' := by
  have HR0 := Aside0.mk hr0
  have HC0 := Aside0.mk hc0
  clear hr0 hc0
  have HR1 := Aside0.mk hr1
  have HC1 := Aside0.mk hc1
  clear hr1 hc1
  have HB := Aside0.mk (Below.refl w.heap.size w)
  have H : (if (l0.length : Int) > 1048576 then (laws_FnAdlerMore.j0 k l0 l1 true) else (laws_FnAdlerMore.j0 k l0 l1 (decide ((l1.length : Int) > 1048576)))) = some r := h
  clear h
  have HC3 := Aside0.mk H
  clear H
  go_enter Try.func14, Try.ntmps14
  go_upto_region 1 with (fail)
  go_cut [15] (fun v15 wc => ∃ (kq : Nat) (x15_2 : Bool), v15 = .bool x15_2 ∧ Aside0 (laws_FnAdlerMore.j0 kq l0 l1 x15_2 = some r) ∧ Aside0 (kq ≤ k) ∧ Aside0 (Below w.heap.size w wc))
  case first =>
    have H := HC3.out
    clear HC3
    by_cases c4 : (l0.length : Int) > 1048576
    · rw [if_pos c4] at H
      have c4b0 : decide (1048576 < (l0.length : Int)) = true := decide_eq_true c4
      have c4b1 : decide (1048576 < l0.length) = true := decide_eq_true (by omega)
      clear c4
      (first | rw [c4b0] | (simp only [i64_w, i32_w]; rw [c4b0]) | skip)
      have H' := Aside0.mk H
      clear H
      go_wp2
      go_meet
      case rel => exact ⟨_, (true), (by first | rfl | (simp; done) | (simp [*]; done)), H', ⟨by first | omega | exact Nat.le_refl _⟩, ⟨by repeat (first | (with_reducible first | exact HB.out | apply below_alloc | apply pw_below_drewN | apply below_drew1) | exact HB.out)⟩⟩
    · rw [if_neg c4] at H
      have c4b0 : decide (1048576 < (l0.length : Int)) = false := decide_eq_false c4
      have c4b1 : decide (1048576 < l0.length) = false := decide_eq_false (by omega)
      clear c4
      (first | rw [c4b0] | (simp only [i64_w, i32_w]; rw [c4b0]) | skip)
      have H' := Aside0.mk H
      clear H
      go_wp2
      go_meet
      case rel => exact ⟨_, (decide ((l1.length : Int) > 1048576)), (by first | rfl | (simp; done) | (simp [*]; done)), H', ⟨by first | omega | exact Nat.le_refl _⟩, ⟨by repeat (first | (with_reducible first | exact HB.out | apply below_alloc | apply pw_below_drewN | apply below_drew1) | exact HB.out)⟩⟩
  case rest =>
    clear HC3
    try clear c1
    try clear p2
    try clear c4
    try clear c4b0
    try clear c4b1
    obtain ⟨kq, x15_2, rfl, HA, HJ2, HB⟩ := hcut
    cases kq with
    | zero => exact absurd HA.out (by simp [laws_FnAdlerMore.j0])
    | succ kj2 =>
      have H := HA.out
      clear HA
      simp only [laws_FnAdlerMore.j0] at H
      by_cases c5 : x15_2 = true
      · subst c5
        have H1 : (some true) = some r := by rw [if_pos rfl] at H; exact H
        clear H
        have H := H1
        clear H1
        obtain rfl := Option.some.inj H
        go_wp2
        go_ret
        exact ⟨by first | rfl | (simp [errW_none, errW_some] <;> rfl) | (simp [*, errW_none, errW_some] <;> rfl), by repeat (first | (with_reducible first | exact HB.out | apply below_alloc | apply pw_below_drewN | apply below_drew1) | exact HB.out)⟩
      · replace c5 := Bool.eq_false_iff.mpr c5
        subst c5
        have H1 : ((spec_DrawAdler32.f kj2 l0).bind fun t161 => ((spec_DrawAdlerMore.f kj2 l1).bind fun bt162 => ((impl_Adler32.f kj2 t161).bind fun t164 => ((spec_Adler32.f kj2 t161).bind fun t165 => (if t164 = t165 then ((impl_AdlerMore.f kj2 bt162.1 bt162.2).bind fun t166 => ((spec_AdlerMore.f kj2 bt162.1 bt162.2).bind fun t167 => (laws_FnAdlerMore.j1 kj2 t161 bt162.2 (t166 != t167)))) else (laws_FnAdlerMore.j1 kj2 t161 bt162.2 true)))))) = some r := by rw [if_neg (show ¬ (false = true) by decide)] at H; exact H
        clear H
        have H := H1
        clear H1
        replace H := Option.bind_eq_some_iff.mp H
        obtain ⟨t161, A60, H⟩ := H
        replace H : ((spec_DrawAdlerMore.f kj2 l1).bind fun bt162 => ((impl_Adler32.f kj2 t161).bind fun t164 => ((spec_Adler32.f kj2 t161).bind fun t165 => (if t164 = t165 then ((impl_AdlerMore.f kj2 bt162.1 bt162.2).bind fun t166 => ((spec_AdlerMore.f kj2 bt162.1 bt162.2).bind fun t167 => (laws_FnAdlerMore.j1 kj2 t161 bt162.2 (t166 != t167)))) else (laws_FnAdlerMore.j1 kj2 t161 bt162.2 true))))) = some r := H
        have A6 := Aside0.mk A60
        clear A60
        replace H := Option.bind_eq_some_iff.mp H
        obtain ⟨⟨t162, t163⟩, A70, H⟩ := H
        replace H : ((impl_Adler32.f kj2 t161).bind fun t164 => ((spec_Adler32.f kj2 t161).bind fun t165 => (if t164 = t165 then ((impl_AdlerMore.f kj2 t162 t163).bind fun t166 => ((spec_AdlerMore.f kj2 t162 t163).bind fun t167 => (laws_FnAdlerMore.j1 kj2 t161 t163 (t166 != t167)))) else (laws_FnAdlerMore.j1 kj2 t161 t163 true)))) = some r := H
        have A7 := Aside0.mk A70
        clear A70
        have HC8 := Aside0.mk H
        clear H
        go_upto_region 5 with (first | ((with_reducible refine gate_callee (f := 51) rfl ?_); refine goesL_ (some 17) rfl rfl Try.func51 (by kernel_rfl) rfl #[.slice A0 l0.length c0] rfl (by (try simp only [List.map_toArray, List.map_cons, List.map_nil]); first | done | rfl | (simp only [List.length_drop, List.length_take]; rfl)) ?_; (with_reducible refine (spec_DrawAdler32.calls kj2 _ _ l0 t161 _ ?side1 ?side2 A6.out).mono ?_); (case side1 => repeat (first | exact (Kd.C_below HR0.out HB.out) | (with_reducible refine Kd.C_alloc ?_ _) | (with_reducible refine Kd.C_drewN ?_ _) | (with_reducible refine Kd.C_drew ?_))); (case side2 => exact HC0.out); rintro e w9 ⟨rfl, hb⟩; refine ⟨_, rfl, ?_⟩; have n0_ := Aside0.mk (below_step (by repeat (first | (with_reducible first | exact HB.out | apply below_alloc | apply pw_below_drewN | apply below_drew1) | exact HB.out)) hb); clear HB; have HB := n0_; clear n0_; (try clear hb); (try clear hb2); (try clear hk); (try clear hi)) | ((with_reducible refine gate_callee (f := 52) rfl ?_); refine goesL_ (some 20) rfl rfl Try.func52 (by kernel_rfl) rfl #[.slice A1 l1.length c1] rfl (by (try simp only [List.map_toArray, List.map_cons, List.map_nil]); first | done | rfl | (simp only [List.length_drop, List.length_take]; rfl)) ?_; (with_reducible refine (spec_DrawAdlerMore.calls kj2 _ _ l1 t162 t163 _ ?side1 ?side2 A7.out).mono ?_); (case side1 => repeat (first | exact (Kd.C_below HR1.out HB.out) | (with_reducible refine Kd.C_alloc ?_ _) | (with_reducible refine Kd.C_drewN ?_ _) | (with_reducible refine Kd.C_drew ?_))); (case side2 => exact HC1.out); rintro e w10 ⟨rfl, hb⟩; refine ⟨_, rfl, ?_⟩; have n0_ := Aside0.mk (below_step (by repeat (first | (with_reducible first | exact HB.out | apply below_alloc | apply pw_below_drewN | apply below_drew1) | exact HB.out)) hb); clear HB; have HB := n0_; clear n0_; (try clear hb); (try clear hb2); (try clear hk); (try clear hi)))
        (try simp only [Act.put, List.setIfInBounds_toArray, List.set_cons_zero, List.set_cons_succ])
        go_cut [36] (fun v36 wc => ∃ (kq : Nat) (x36_7 : Bool), v36 = .bool x36_7 ∧ Aside0 (laws_FnAdlerMore.j1 kq t161 t163 x36_7 = some r) ∧ Aside0 (kq ≤ kj2) ∧ Aside0 (Below w.heap.size w wc))
        case first =>
          have H := HC8.out
          clear HC8
          replace H := Option.bind_eq_some_iff.mp H
          obtain ⟨t164, A110, H⟩ := H
          replace H : ((spec_Adler32.f kj2 t161).bind fun t165 => (if t164 = t165 then ((impl_AdlerMore.f kj2 t162 t163).bind fun t166 => ((spec_AdlerMore.f kj2 t162 t163).bind fun t167 => (laws_FnAdlerMore.j1 kj2 t161 t163 (t166 != t167)))) else (laws_FnAdlerMore.j1 kj2 t161 t163 true))) = some r := H
          have A11 := Aside0.mk A110
          clear A110
          replace H := Option.bind_eq_some_iff.mp H
          obtain ⟨t165, A120, H⟩ := H
          replace H : (if t164 = t165 then ((impl_AdlerMore.f kj2 t162 t163).bind fun t166 => ((spec_AdlerMore.f kj2 t162 t163).bind fun t167 => (laws_FnAdlerMore.j1 kj2 t161 t163 (t166 != t167)))) else (laws_FnAdlerMore.j1 kj2 t161 t163 true)) = some r := H
          have A12 := Aside0.mk A120
          clear A120
          by_cases c13 : t164 = t165
          · rw [if_pos c13] at H
            have c13b0 : (t164 == t165) = true := beq_iff_eq.mpr c13
            have c13b1 : (t164 != t165) = false := bne_eq_false_iff_eq.mpr c13
            clear c13
            (first | rw [c13b0] | (simp only [i64_w, i32_w]; rw [c13b0]) | skip)
            replace H := Option.bind_eq_some_iff.mp H
            obtain ⟨t166, A140, H⟩ := H
            replace H : ((spec_AdlerMore.f kj2 t162 t163).bind fun t167 => (laws_FnAdlerMore.j1 kj2 t161 t163 (t166 != t167))) = some r := H
            have A14 := Aside0.mk A140
            clear A140
            replace H := Option.bind_eq_some_iff.mp H
            obtain ⟨t167, A150, H⟩ := H
            replace H : (laws_FnAdlerMore.j1 kj2 t161 t163 (t166 != t167)) = some r := H
            have A15 := Aside0.mk A150
            clear A150
            have H' := Aside0.mk H
            clear H
            go_wp2_with (first | ((with_reducible refine gate_callee (f := 53) rfl ?_); refine goesL_ (some 24) rfl rfl Try.func53 (by kernel_rfl) rfl #[.string t161] rfl (by (try simp only [List.map_toArray, List.map_cons, List.map_nil]); first | done | rfl | (simp only [List.length_drop, List.length_take]; rfl)) ?_; (with_reducible refine (impl_Adler32.calls kj2 t161 t164 _ A11.out).mono ?_); rintro e w16 ⟨rfl, hb⟩; refine ⟨_, rfl, ?_⟩; have n0_ := Aside0.mk (below_step (by repeat (first | (with_reducible first | exact HB.out | apply below_alloc | apply pw_below_drewN | apply below_drew1) | exact HB.out)) hb); clear HB; have HB := n0_; clear n0_; (try clear hb); (try clear hb2); (try clear hk); (try clear hi)) | ((with_reducible refine gate_callee (f := 54) rfl ?_); refine goesL_ (some 26) rfl rfl Try.func54 (by kernel_rfl) rfl #[.string t161] rfl (by (try simp only [List.map_toArray, List.map_cons, List.map_nil]); first | done | rfl | (simp only [List.length_drop, List.length_take]; rfl)) ?_; (with_reducible refine (spec_Adler32.calls kj2 t161 t165 _ A12.out).mono ?_); rintro e w' ⟨rfl, ⟨nd, rfl⟩⟩; refine ⟨_, rfl, ?_⟩) | (go_at_call 55; (with_reducible refine (impl_AdlerMore.calls kj2 t162 t163 t166 _ A14.out).mono ?_); rintro e w17 ⟨rfl, hb⟩; have n0_ := Aside0.mk (below_step (by repeat (first | (with_reducible first | exact HB.out | apply below_alloc | apply pw_below_drewN | apply below_drew1) | exact HB.out)) hb); clear HB; have HB := n0_; clear n0_; (try clear hb); (try clear hb2); (try clear hk); (try clear hi)) | (go_at_call 56; (with_reducible refine (spec_AdlerMore.calls kj2 t162 t163 t167 _ A15.out).mono ?_); rintro e w' ⟨rfl, ⟨nd, rfl⟩⟩))
            go_meet
            case rel => exact ⟨_, ((t166 != t167)), (by first | rfl | (simp; done) | (simp [*]; done)), H', ⟨by have := HJ2.out; first | omega | exact Nat.le_refl _⟩, ⟨by repeat (first | (with_reducible first | exact HB.out | apply below_alloc | apply pw_below_drewN | apply below_drew1) | exact HB.out)⟩⟩
          · rw [if_neg c13] at H
            have c13b0 : (t164 == t165) = false := beq_eq_false_iff_ne.mpr c13
            have c13b1 : (t164 != t165) = true := bne_iff_ne.mpr c13
            (first | rw [c13b0] | (simp only [i64_w, i32_w]; rw [c13b0]) | skip)
            have H' := Aside0.mk H
            clear H
            go_wp2_with (first | ((with_reducible refine gate_callee (f := 53) rfl ?_); refine goesL_ (some 24) rfl rfl Try.func53 (by kernel_rfl) rfl #[.string t161] rfl (by (try simp only [List.map_toArray, List.map_cons, List.map_nil]); first | done | rfl | (simp only [List.length_drop, List.length_take]; rfl)) ?_; (with_reducible refine (impl_Adler32.calls kj2 t161 t164 _ A11.out).mono ?_); rintro e w18 ⟨rfl, hb⟩; refine ⟨_, rfl, ?_⟩; have n0_ := Aside0.mk (below_step (by repeat (first | (with_reducible first | exact HB.out | apply below_alloc | apply pw_below_drewN | apply below_drew1) | exact HB.out)) hb); clear HB; have HB := n0_; clear n0_; (try clear hb); (try clear hb2); (try clear hk); (try clear hi)) | ((with_reducible refine gate_callee (f := 54) rfl ?_); refine goesL_ (some 26) rfl rfl Try.func54 (by kernel_rfl) rfl #[.string t161] rfl (by (try simp only [List.map_toArray, List.map_cons, List.map_nil]); first | done | rfl | (simp only [List.length_drop, List.length_take]; rfl)) ?_; (with_reducible refine (spec_Adler32.calls kj2 t161 t165 _ A12.out).mono ?_); rintro e w' ⟨rfl, ⟨nd, rfl⟩⟩; refine ⟨_, rfl, ?_⟩))
            go_meet
            case rel => exact ⟨_, (true), (by first | rfl | (simp; done) | (simp [*]; done)), H', ⟨by have := HJ2.out; first | omega | exact Nat.le_refl _⟩, ⟨by repeat (first | (with_reducible first | exact HB.out | apply below_alloc | apply pw_below_drewN | apply below_drew1) | exact HB.out)⟩⟩
        case rest =>
          clear HC8
          try clear c1
          try clear p2
          try clear c4
          try clear c4b0
          try clear c4b1
          try clear c5
          try clear c13
          try clear c13b0
          try clear c13b1
          try clear c14
          try clear p2
          obtain ⟨kq, x36_7, rfl, HA, HJ7, HB⟩ := hcut
          cases kq with
          | zero => exact absurd HA.out (by simp [laws_FnAdlerMore.j1])
          | succ kj7 =>
            have H := HA.out
            clear HA
            simp only [laws_FnAdlerMore.j1] at H
            by_cases c19 : x36_7 = true
            · subst c19
              have H1 : (some false) = some r := by rw [if_pos rfl] at H; exact H
              clear H
              have H := H1
              clear H1
              obtain rfl := Option.some.inj H
              go_wp2
              go_ret
              exact ⟨by first | rfl | (simp [errW_none, errW_some] <;> rfl) | (simp [*, errW_none, errW_some] <;> rfl), by repeat (first | (with_reducible first | exact HB.out | apply below_alloc | apply pw_below_drewN | apply below_drew1) | exact HB.out)⟩
            · replace c19 := Bool.eq_false_iff.mpr c19
              subst c19
              have H1 : (if (wrap64 ((t161.size : Int) + (t163.size : Int))) > 9000 then ((impl_Adler32.f kj7 (⟨#[]⟩ : ByteArray)).bind fun t168 => (some (t168 == 1))) else (if t161.size + t163.size ≤ 9223372036854775807 then ((impl_Adler32.f kj7 (t161 ++ t163)).bind fun t169 => ((impl_Adler32.f kj7 t161).bind fun t170 => ((impl_AdlerMore.f kj7 t170 t163).bind fun t171 => (if t169 = t171 then ((impl_Adler32.f kj7 (⟨#[87, 105, 107, 105, 112, 101, 100, 105, 97]⟩ : ByteArray)).bind fun t172 => (if t172 = 300286872 then ((impl_Adler32.f kj7 (⟨#[]⟩ : ByteArray)).bind fun t173 => (some (t173 == 1))) else (some false))) else (some false))))) else (none))) = some r := by rw [if_neg (show ¬ (false = true) by decide)] at H; exact H
              clear H
              have H := H1
              clear H1
              by_cases c20 : (wrap64 ((t161.size : Int) + (t163.size : Int))) > 9000
              · rw [if_pos c20] at H
                have c20b0 : decide (9000 < (wrap64 ((t161.size : Int) + (t163.size : Int)))) = true := decide_eq_true c20
                clear c20
                replace H := Option.bind_eq_some_iff.mp H
                obtain ⟨t168, A210, H⟩ := H
                replace H : (some (t168 == 1)) = some r := H
                have A21 := Aside0.mk A210
                clear A210
                obtain rfl := Option.some.inj H
                go_wp2_with (first | ((with_reducible refine gate_callee (f := 53) rfl ?_); refine goesL_ (some 43) rfl rfl Try.func53 (by kernel_rfl) rfl #[.string (⟨#[]⟩ : ByteArray)] rfl (by (try simp only [List.map_toArray, List.map_cons, List.map_nil]); first | done | rfl | (simp only [List.length_drop, List.length_take]; rfl)) ?_; (with_reducible refine (impl_Adler32.calls kj7 (⟨#[]⟩ : ByteArray) t168 _ A21.out).mono ?_); rintro e w22 ⟨rfl, hb⟩; refine ⟨_, rfl, ?_⟩; have n0_ := Aside0.mk (below_step (by repeat (first | (with_reducible first | exact HB.out | apply below_alloc | apply pw_below_drewN | apply below_drew1) | exact HB.out)) hb); clear HB; have HB := n0_; clear n0_; (try clear hb); (try clear hb2); (try clear hk); (try clear hi)))
                go_ret
                exact ⟨by first | rfl | (simp [errW_none, errW_some] <;> rfl) | (simp [*, errW_none, errW_some] <;> rfl), by repeat (first | (with_reducible first | exact HB.out | apply below_alloc | apply pw_below_drewN | apply below_drew1) | exact HB.out)⟩
              · rw [if_neg c20] at H
                have c20b0 : decide (9000 < (wrap64 ((t161.size : Int) + (t163.size : Int)))) = false := decide_eq_false c20
                clear c20
                by_cases c23 : t161.size + t163.size ≤ 9223372036854775807
                · rw [if_pos c23] at H
                  have c23b0 := eq_true c23
                  have c23b1 : decide (t161.size + t163.size ≤ 9223372036854775807) = true := decide_eq_true c23
                  try have c23b2 : (9223372036854775807 < t161.size + t163.size) = False := eq_false (Nat.not_lt.2 c23)
                  try rw [show wrap64 ((t161.size : Int) + (t163.size : Int)) = (t161.size : Int) + (t163.size : Int) by (unfold wrap64; omega)] at c20b0
                  replace H := Option.bind_eq_some_iff.mp H
                  obtain ⟨t169, A240, H⟩ := H
                  replace H : ((impl_Adler32.f kj7 t161).bind fun t170 => ((impl_AdlerMore.f kj7 t170 t163).bind fun t171 => (if t169 = t171 then ((impl_Adler32.f kj7 (⟨#[87, 105, 107, 105, 112, 101, 100, 105, 97]⟩ : ByteArray)).bind fun t172 => (if t172 = 300286872 then ((impl_Adler32.f kj7 (⟨#[]⟩ : ByteArray)).bind fun t173 => (some (t173 == 1))) else (some false))) else (some false)))) = some r := H
                  have A24 := Aside0.mk A240
                  clear A240
                  replace H := Option.bind_eq_some_iff.mp H
                  obtain ⟨t170, A250, H⟩ := H
                  replace H : ((impl_AdlerMore.f kj7 t170 t163).bind fun t171 => (if t169 = t171 then ((impl_Adler32.f kj7 (⟨#[87, 105, 107, 105, 112, 101, 100, 105, 97]⟩ : ByteArray)).bind fun t172 => (if t172 = 300286872 then ((impl_Adler32.f kj7 (⟨#[]⟩ : ByteArray)).bind fun t173 => (some (t173 == 1))) else (some false))) else (some false))) = some r := H
                  have A25 := Aside0.mk A250
                  clear A250
                  replace H := Option.bind_eq_some_iff.mp H
                  obtain ⟨t171, A260, H⟩ := H
                  replace H : (if t169 = t171 then ((impl_Adler32.f kj7 (⟨#[87, 105, 107, 105, 112, 101, 100, 105, 97]⟩ : ByteArray)).bind fun t172 => (if t172 = 300286872 then ((impl_Adler32.f kj7 (⟨#[]⟩ : ByteArray)).bind fun t173 => (some (t173 == 1))) else (some false))) else (some false)) = some r := H
                  have A26 := Aside0.mk A260
                  clear A260
                  by_cases c27 : t169 = t171
                  · rw [if_pos c27] at H
                    have c27b0 : (t169 == t171) = true := beq_iff_eq.mpr c27
                    have c27b1 : (t169 != t171) = false := bne_eq_false_iff_eq.mpr c27
                    clear c27
                    replace H := Option.bind_eq_some_iff.mp H
                    obtain ⟨t172, A280, H⟩ := H
                    replace H : (if t172 = 300286872 then ((impl_Adler32.f kj7 (⟨#[]⟩ : ByteArray)).bind fun t173 => (some (t173 == 1))) else (some false)) = some r := H
                    have A28 := Aside0.mk A280
                    clear A280
                    by_cases c29 : t172 = 300286872
                    · rw [if_pos c29] at H
                      have c29b0 : (t172 == 300286872) = true := beq_iff_eq.mpr c29
                      have c29b1 : (t172 != 300286872) = false := bne_eq_false_iff_eq.mpr c29
                      clear c29
                      replace H := Option.bind_eq_some_iff.mp H
                      obtain ⟨t173, A300, H⟩ := H
                      replace H : (some (t173 == 1)) = some r := H
                      have A30 := Aside0.mk A300
                      clear A300
                      obtain rfl := Option.some.inj H
                      go_wp2_with (first | ((with_reducible refine gate_callee (f := 53) rfl ?_); refine goesL_ (some 48) rfl rfl Try.func53 (by kernel_rfl) rfl #[.string (t161 ++ t163)] rfl (by (try simp only [List.map_toArray, List.map_cons, List.map_nil]); first | done | rfl | (simp only [List.length_drop, List.length_take]; rfl)) ?_; (with_reducible refine (impl_Adler32.calls kj7 (t161 ++ t163) t169 _ A24.out).mono ?_); rintro e w31 ⟨rfl, hb⟩; refine ⟨_, rfl, ?_⟩; have n0_ := Aside0.mk (below_step (by repeat (first | (with_reducible first | exact HB.out | apply below_alloc | apply pw_below_drewN | apply below_drew1) | exact HB.out)) hb); clear HB; have HB := n0_; clear n0_; (try clear hb); (try clear hb2); (try clear hk); (try clear hi)) | ((with_reducible refine gate_callee (f := 53) rfl ?_); refine goesL_ (some 50) rfl rfl Try.func53 (by kernel_rfl) rfl #[.string t161] rfl (by (try simp only [List.map_toArray, List.map_cons, List.map_nil]); first | done | rfl | (simp only [List.length_drop, List.length_take]; rfl)) ?_; (with_reducible refine (impl_Adler32.calls kj7 t161 t170 _ A25.out).mono ?_); rintro e w32 ⟨rfl, hb⟩; refine ⟨_, rfl, ?_⟩; have n0_ := Aside0.mk (below_step (by repeat (first | (with_reducible first | exact HB.out | apply below_alloc | apply pw_below_drewN | apply below_drew1) | exact HB.out)) hb); clear HB; have HB := n0_; clear n0_; (try clear hb); (try clear hb2); (try clear hk); (try clear hi)) | ((with_reducible refine gate_callee (f := 55) rfl ?_); refine goesL_ (some 52) rfl rfl Try.func55 (by kernel_rfl) rfl #[.int .i64 t170, .string t163] rfl (by (try simp only [List.map_toArray, List.map_cons, List.map_nil]); first | done | rfl | (simp only [List.length_drop, List.length_take]; rfl)) ?_; (with_reducible refine (impl_AdlerMore.calls kj7 t170 t163 t171 _ A26.out).mono ?_); rintro e w33 ⟨rfl, hb⟩; refine ⟨_, rfl, ?_⟩; have n0_ := Aside0.mk (below_step (by repeat (first | (with_reducible first | exact HB.out | apply below_alloc | apply pw_below_drewN | apply below_drew1) | exact HB.out)) hb); clear HB; have HB := n0_; clear n0_; (try clear hb); (try clear hb2); (try clear hk); (try clear hi)) | (go_at_call 53; (with_reducible refine (impl_Adler32.calls kj7 (⟨#[87, 105, 107, 105, 112, 101, 100, 105, 97]⟩ : ByteArray) t172 _ A28.out).mono ?_); rintro e w34 ⟨rfl, hb⟩; have n0_ := Aside0.mk (below_step (by repeat (first | (with_reducible first | exact HB.out | apply below_alloc | apply pw_below_drewN | apply below_drew1) | exact HB.out)) hb); clear HB; have HB := n0_; clear n0_; (try clear hb); (try clear hb2); (try clear hk); (try clear hi)) | (go_at_call 53; (with_reducible refine (impl_Adler32.calls kj7 (⟨#[]⟩ : ByteArray) t173 _ A30.out).mono ?_); rintro e w35 ⟨rfl, hb⟩; have n0_ := Aside0.mk (below_step (by repeat (first | (with_reducible first | exact HB.out | apply below_alloc | apply pw_below_drewN | apply below_drew1) | exact HB.out)) hb); clear HB; have HB := n0_; clear n0_; (try clear hb); (try clear hb2); (try clear hk); (try clear hi)))
                      go_ret
                      exact ⟨by first | rfl | (simp [errW_none, errW_some] <;> rfl) | (simp [*, errW_none, errW_some] <;> rfl), by repeat (first | (with_reducible first | exact HB.out | apply below_alloc | apply pw_below_drewN | apply below_drew1) | exact HB.out)⟩
                    · rw [if_neg c29] at H
                      have c29b0 : (t172 == 300286872) = false := beq_eq_false_iff_ne.mpr c29
                      have c29b1 : (t172 != 300286872) = true := bne_iff_ne.mpr c29
                      obtain rfl := Option.some.inj H
                      go_wp2_with (first | ((with_reducible refine gate_callee (f := 53) rfl ?_); refine goesL_ (some 48) rfl rfl Try.func53 (by kernel_rfl) rfl #[.string (t161 ++ t163)] rfl (by (try simp only [List.map_toArray, List.map_cons, List.map_nil]); first | done | rfl | (simp only [List.length_drop, List.length_take]; rfl)) ?_; (with_reducible refine (impl_Adler32.calls kj7 (t161 ++ t163) t169 _ A24.out).mono ?_); rintro e w36 ⟨rfl, hb⟩; refine ⟨_, rfl, ?_⟩; have n0_ := Aside0.mk (below_step (by repeat (first | (with_reducible first | exact HB.out | apply below_alloc | apply pw_below_drewN | apply below_drew1) | exact HB.out)) hb); clear HB; have HB := n0_; clear n0_; (try clear hb); (try clear hb2); (try clear hk); (try clear hi)) | ((with_reducible refine gate_callee (f := 53) rfl ?_); refine goesL_ (some 50) rfl rfl Try.func53 (by kernel_rfl) rfl #[.string t161] rfl (by (try simp only [List.map_toArray, List.map_cons, List.map_nil]); first | done | rfl | (simp only [List.length_drop, List.length_take]; rfl)) ?_; (with_reducible refine (impl_Adler32.calls kj7 t161 t170 _ A25.out).mono ?_); rintro e w37 ⟨rfl, hb⟩; refine ⟨_, rfl, ?_⟩; have n0_ := Aside0.mk (below_step (by repeat (first | (with_reducible first | exact HB.out | apply below_alloc | apply pw_below_drewN | apply below_drew1) | exact HB.out)) hb); clear HB; have HB := n0_; clear n0_; (try clear hb); (try clear hb2); (try clear hk); (try clear hi)) | ((with_reducible refine gate_callee (f := 55) rfl ?_); refine goesL_ (some 52) rfl rfl Try.func55 (by kernel_rfl) rfl #[.int .i64 t170, .string t163] rfl (by (try simp only [List.map_toArray, List.map_cons, List.map_nil]); first | done | rfl | (simp only [List.length_drop, List.length_take]; rfl)) ?_; (with_reducible refine (impl_AdlerMore.calls kj7 t170 t163 t171 _ A26.out).mono ?_); rintro e w38 ⟨rfl, hb⟩; refine ⟨_, rfl, ?_⟩; have n0_ := Aside0.mk (below_step (by repeat (first | (with_reducible first | exact HB.out | apply below_alloc | apply pw_below_drewN | apply below_drew1) | exact HB.out)) hb); clear HB; have HB := n0_; clear n0_; (try clear hb); (try clear hb2); (try clear hk); (try clear hi)) | (go_at_call 53; (with_reducible refine (impl_Adler32.calls kj7 (⟨#[87, 105, 107, 105, 112, 101, 100, 105, 97]⟩ : ByteArray) t172 _ A28.out).mono ?_); rintro e w39 ⟨rfl, hb⟩; have n0_ := Aside0.mk (below_step (by repeat (first | (with_reducible first | exact HB.out | apply below_alloc | apply pw_below_drewN | apply below_drew1) | exact HB.out)) hb); clear HB; have HB := n0_; clear n0_; (try clear hb); (try clear hb2); (try clear hk); (try clear hi)))
                      go_ret
                      exact ⟨by first | rfl | (simp [errW_none, errW_some] <;> rfl) | (simp [*, errW_none, errW_some] <;> rfl), by repeat (first | (with_reducible first | exact HB.out | apply below_alloc | apply pw_below_drewN | apply below_drew1) | exact HB.out)⟩
                  · rw [if_neg c27] at H
                    have c27b0 : (t169 == t171) = false := beq_eq_false_iff_ne.mpr c27
                    have c27b1 : (t169 != t171) = true := bne_iff_ne.mpr c27
                    obtain rfl := Option.some.inj H
                    go_wp2_with (first | ((with_reducible refine gate_callee (f := 53) rfl ?_); refine goesL_ (some 48) rfl rfl Try.func53 (by kernel_rfl) rfl #[.string (t161 ++ t163)] rfl (by (try simp only [List.map_toArray, List.map_cons, List.map_nil]); first | done | rfl | (simp only [List.length_drop, List.length_take]; rfl)) ?_; (with_reducible refine (impl_Adler32.calls kj7 (t161 ++ t163) t169 _ A24.out).mono ?_); rintro e w40 ⟨rfl, hb⟩; refine ⟨_, rfl, ?_⟩; have n0_ := Aside0.mk (below_step (by repeat (first | (with_reducible first | exact HB.out | apply below_alloc | apply pw_below_drewN | apply below_drew1) | exact HB.out)) hb); clear HB; have HB := n0_; clear n0_; (try clear hb); (try clear hb2); (try clear hk); (try clear hi)) | ((with_reducible refine gate_callee (f := 53) rfl ?_); refine goesL_ (some 50) rfl rfl Try.func53 (by kernel_rfl) rfl #[.string t161] rfl (by (try simp only [List.map_toArray, List.map_cons, List.map_nil]); first | done | rfl | (simp only [List.length_drop, List.length_take]; rfl)) ?_; (with_reducible refine (impl_Adler32.calls kj7 t161 t170 _ A25.out).mono ?_); rintro e w41 ⟨rfl, hb⟩; refine ⟨_, rfl, ?_⟩; have n0_ := Aside0.mk (below_step (by repeat (first | (with_reducible first | exact HB.out | apply below_alloc | apply pw_below_drewN | apply below_drew1) | exact HB.out)) hb); clear HB; have HB := n0_; clear n0_; (try clear hb); (try clear hb2); (try clear hk); (try clear hi)) | ((with_reducible refine gate_callee (f := 55) rfl ?_); refine goesL_ (some 52) rfl rfl Try.func55 (by kernel_rfl) rfl #[.int .i64 t170, .string t163] rfl (by (try simp only [List.map_toArray, List.map_cons, List.map_nil]); first | done | rfl | (simp only [List.length_drop, List.length_take]; rfl)) ?_; (with_reducible refine (impl_AdlerMore.calls kj7 t170 t163 t171 _ A26.out).mono ?_); rintro e w42 ⟨rfl, hb⟩; refine ⟨_, rfl, ?_⟩; have n0_ := Aside0.mk (below_step (by repeat (first | (with_reducible first | exact HB.out | apply below_alloc | apply pw_below_drewN | apply below_drew1) | exact HB.out)) hb); clear HB; have HB := n0_; clear n0_; (try clear hb); (try clear hb2); (try clear hk); (try clear hi)))
                    go_ret
                    exact ⟨by first | rfl | (simp [errW_none, errW_some] <;> rfl) | (simp [*, errW_none, errW_some] <;> rfl), by repeat (first | (with_reducible first | exact HB.out | apply below_alloc | apply pw_below_drewN | apply below_drew1) | exact HB.out)⟩
                · rw [if_neg c23] at H
                  exact absurd H (by simp)

/-- THE ONE PURE STATEMENT of laws_FnAdlerMore: yours. -/
def laws_FnAdlerMore.Pure : Prop := ∀ (l0 : List Int) (l1 : List Int), l0.length ≤ maxLen → l0.length * 1 ≤ 140737488351232 → (∀ x ∈ l0, (Lit.int .u8 x).wf = true) → l1.length ≤ maxLen → l1.length * 1 ≤ 140737488351232 → (∀ x ∈ l1, (Lit.int .u8 x).wf = true) → ∃ k, laws_FnAdlerMore.f k l0 l1 = some true
theorem laws_FnAdlerMore.walk (P : laws_FnAdlerMore.Pure) (a0 : Option Addr) (len0 cap0 : Nat) (z0 : List Int) (a1 : Option Addr) (len1 cap1 : Nat) (z1 : List Int) (w : World) (w0 : (a0 = none ∧ len0 = 0 ∧ cap0 = 0 ∧ z0 = []) ∨ ∃ x, a0 = some x ∧ len0 ≤ cap0 ∧ cap0 ≤ maxLen ∧ z0.length = cap0 ∧ (∀ i, i < z0.length → w.cell? (x.add i) = some (.int .u8 (z0.getD i 0))) ∧ ∀ n ∈ z0, (Lit.int .u8 n).wf = true) (y0 : len0 * 1 ≤ 140737488351232) (w1 : (a1 = none ∧ len1 = 0 ∧ cap1 = 0 ∧ z1 = []) ∨ ∃ x, a1 = some x ∧ len1 ≤ cap1 ∧ cap1 ≤ maxLen ∧ z1.length = cap1 ∧ (∀ i, i < z1.length → w.cell? (x.add i) = some (.int .u8 (z1.getD i 0))) ∧ ∀ n ∈ z1, (Lit.int .u8 n).wf = true) (y1 : len1 * 1 ≤ 140737488351232) :
    Calls Try.prog 14 #[.slice a0 len0 cap0, .slice a1 len1 cap1] w fun e w' => e = .returned (.bool true) ∧ Below w.heap.size w w' := by
  obtain ⟨l0, rfl, hr0, hm0, hw0, hc0⟩ := ReadsInt.ofRowC w0
  obtain ⟨l1, rfl, hr1, hm1, hw1, hc1⟩ := ReadsInt.ofRowC w1
  obtain ⟨k, h⟩ := P l0 l1 hm0 y0 hw0 hm1 y1 hw1
  refine (laws_FnAdlerMore.calls k _ _ l0 _ _ l1 true w (Kd.C_of_reads (d := (0 : Int)) (h1 := fun _ => rfl) hr0) hc0 (Kd.C_of_reads (d := (0 : Int)) (h1 := fun _ => rfl) hr1) hc1 h).mono ?_
  rintro e w' ⟨rfl, hd⟩
  exact ⟨rfl, hd⟩

end Go.Proofs.Ytpjkcdgamlllgaa.PFnAdlerMore
