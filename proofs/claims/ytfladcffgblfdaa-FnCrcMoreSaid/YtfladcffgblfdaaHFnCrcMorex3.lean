/- What the functions that the law comes to compute, as plain functions, and that the machine's calls come to just that: written by a program for this claim, and turned where Lean did not take it. No condition. -/
import Derived.Test.YtfladcffgblfdaaThConv
import Derived.Test.YtfladcffgblfdaaHFnCrcMorex0
import Derived.Test.YtfladcffgblfdaaHFnCrcMorex1
import Derived.Test.YtfladcffgblfdaaHFnCrcMorex2
namespace Go.Proofs.Ytfladcffgblfdaa.PFnCrcMore
open Go.RowKit Go.Proofs.YtfladcffgblfdaaW.PrintWords Go.Proofs.YtfladcffgblfdaaW.PrintLast Go.Proofs.YtfladcffgblfdaaW.PrintMore
attribute [local go_sem] max2_int min2_int max_two min_two max_three min_three max_four min_four   -- for this text's walks alone
set_option linter.unusedVariables false
set_option linter.unusedSimpArgs false

/-! ### impl_CrcMore: function 19 -/
mutual
def impl_CrcMore.j0 : Nat → Int → ByteArray → Bool → Option (Int)
  | 0, _, _, _ => none
  | k + 1, x0, x1, x15 => if x15 = true then (some 0) else (if x1.size ≤ 9223372036854775807 then (impl_CrcMore.l0 k (Go.bits .xor .i64 x0 4294967295) (bytesOf x1) ((bytesOf x1).length : Int) 0) else (none))
def impl_CrcMore.l0 : Nat → Int → List Int → Int → Int → Option (Int)
  | 0, _, _, _, _ => none
  | k + 1, x0, x19, x20, x21 => if x21 < x20 then (if 0 ≤ x21 then (if x21 < (x19.length : Int) then (impl_CrcMore.l1 k (Go.bits .xor .i64 x0 (wrap64 (rd x19 x21))) x19 x20 x21 0) else (none)) else (none)) else (some (Go.bits .xor .i64 x0 4294967295))
def impl_CrcMore.l1 : Nat → Int → List Int → Int → Int → Int → Option (Int)
  | 0, _, _, _, _, _ => none
  | k + 1, x0, x19, x20, x21, x29 => if x29 < 8 then (if (Go.bits .and .i64 x0 1) = 1 then (impl_CrcMore.l1 k (Go.bits .xor .i64 (x0 / 2) 3988292384) x19 x20 x21 (wrap64 (x29 + 1))) else (impl_CrcMore.l1 k (x0 / 2) x19 x20 x21 (wrap64 (x29 + 1)))) else (impl_CrcMore.l0 k x0 x19 x20 (wrap64 (x21 + 1)))
end
def impl_CrcMore.f (k : Nat) (a0 : Int) (a1 : ByteArray) : Option (Int) := (impl_in.f a0 0 4294967295).bind fun t162 => (if t162 = true then (impl_CrcMore.j0 k a0 a1 (decide ((a1.size : Int) > 9000))) else (impl_CrcMore.j0 k a0 a1 true))
theorem impl_CrcMore.mono_l : ∀ k, (∀ y0 y1 y2, LeO (impl_CrcMore.j0 k y0 y1 y2) (impl_CrcMore.j0 (k + 1) y0 y1 y2)) ∧ (∀ y0 y1 y2 y3, LeO (impl_CrcMore.l0 k y0 y1 y2 y3) (impl_CrcMore.l0 (k + 1) y0 y1 y2 y3)) ∧ (∀ y0 y1 y2 y3 y4, LeO (impl_CrcMore.l1 k y0 y1 y2 y3 y4) (impl_CrcMore.l1 (k + 1) y0 y1 y2 y3 y4))
  | 0 => ⟨fun _ _ _ r h => by simp [impl_CrcMore.j0] at h, fun _ _ _ _ r h => by simp [impl_CrcMore.l0] at h, fun _ _ _ _ _ r h => by simp [impl_CrcMore.l1] at h⟩
  | k + 1 => by
    obtain ⟨ih0, ih1, ih2⟩ := impl_CrcMore.mono_l k
    refine ⟨?_, ?_, ?_⟩
    · intro y0 y1 y2
      unfold impl_CrcMore.j0
      repeat' first
      | (with_reducible exact ih0 _ _ _)
      | (with_reducible exact ih1 _ _ _ _)
      | (with_reducible exact ih2 _ _ _ _ _)
      | (with_reducible exact LeO.refl _)
      | (with_reducible exact LeO.none _)
      | (with_reducible refine LeO.ite ?_ ?_)
      | (with_reducible refine LeO.bind ?_ (fun _ => ?_))
      | exact ih0 _ _ _
      | exact ih1 _ _ _ _
      | exact ih2 _ _ _ _ _
      | exact LeO.none _
      | refine LeO.ite ?_ ?_
      | refine LeO.bind ?_ (fun _ => ?_)
    · intro y0 y1 y2 y3
      unfold impl_CrcMore.l0
      repeat' first
      | (with_reducible exact ih0 _ _ _)
      | (with_reducible exact ih1 _ _ _ _)
      | (with_reducible exact ih2 _ _ _ _ _)
      | (with_reducible exact LeO.refl _)
      | (with_reducible exact LeO.none _)
      | (with_reducible refine LeO.ite ?_ ?_)
      | (with_reducible refine LeO.bind ?_ (fun _ => ?_))
      | exact ih0 _ _ _
      | exact ih1 _ _ _ _
      | exact ih2 _ _ _ _ _
      | exact LeO.none _
      | refine LeO.ite ?_ ?_
      | refine LeO.bind ?_ (fun _ => ?_)
    · intro y0 y1 y2 y3 y4
      unfold impl_CrcMore.l1
      repeat' first
      | (with_reducible exact ih0 _ _ _)
      | (with_reducible exact ih1 _ _ _ _)
      | (with_reducible exact ih2 _ _ _ _ _)
      | (with_reducible exact LeO.refl _)
      | (with_reducible exact LeO.none _)
      | (with_reducible refine LeO.ite ?_ ?_)
      | (with_reducible refine LeO.bind ?_ (fun _ => ?_))
      | exact ih0 _ _ _
      | exact ih1 _ _ _ _
      | exact ih2 _ _ _ _ _
      | exact LeO.none _
      | refine LeO.ite ?_ ?_
      | refine LeO.bind ?_ (fun _ => ?_)
theorem impl_CrcMore.mono : ∀ a0 a1 k, LeO (impl_CrcMore.f k a0 a1) (impl_CrcMore.f (k + 1) a0 a1) := by
  intro a0 a1 k
  obtain ⟨ih0, ih1, ih2⟩ := impl_CrcMore.mono_l k
  unfold impl_CrcMore.f
  repeat' first
      | (with_reducible exact ih0 _ _ _)
      | (with_reducible exact ih1 _ _ _ _)
      | (with_reducible exact ih2 _ _ _ _ _)
      | (with_reducible exact LeO.refl _)
      | (with_reducible exact LeO.none _)
      | (with_reducible refine LeO.ite ?_ ?_)
      | (with_reducible refine LeO.bind ?_ (fun _ => ?_))
      | exact ih0 _ _ _
      | exact ih1 _ _ _ _
      | exact ih2 _ _ _ _ _
      | exact LeO.none _
      | refine LeO.ite ?_ ?_
      | refine LeO.bind ?_ (fun _ => ?_)
set_option maxHeartbeats 8000000 in
set_option maxRecDepth 100000 in
theorem impl_CrcMore.calls (k : Nat) (a0 : Int) (a1 : ByteArray) (r : Int) (w : World) (h : impl_CrcMore.f k a0 a1 = some r) :
    Calls Try.prog 19 #[.int .i64 a0, .string a1] w fun e w' => e = .returned (.int .i64 r) ∧ Below w.heap.size w w' := by
  have HB := Aside0.mk (Below.refl w.heap.size w)
  have H : ((impl_in.f a0 0 4294967295).bind fun t162 => (if t162 = true then (impl_CrcMore.j0 k a0 a1 (decide ((a1.size : Int) > 9000))) else (impl_CrcMore.j0 k a0 a1 true))) = some r := h
  clear h
  have HC3 := Aside0.mk H
  clear H
  go_enter Try.func19, Try.ntmps19
  go_upto_region 1 with (fail)
  go_cut [15] (fun v15 wc => ∃ (kq : Nat) (x15_2 : Bool), v15 = .bool x15_2 ∧ Aside0 (impl_CrcMore.j0 kq a0 a1 x15_2 = some r) ∧ Aside0 (kq ≤ k) ∧ Aside0 (Below w.heap.size w wc))
  case first =>
    have H := HC3.out
    clear HC3
    replace H := Option.bind_eq_some_iff.mp H
    obtain ⟨t162, A40, H⟩ := H
    replace H : (if t162 = true then (impl_CrcMore.j0 k a0 a1 (decide ((a1.size : Int) > 9000))) else (impl_CrcMore.j0 k a0 a1 true)) = some r := H
    have A4 := Aside0.mk A40
    clear A40
    by_cases c5 : t162 = true
    · subst c5
      have H1 : (impl_CrcMore.j0 k a0 a1 (decide ((a1.size : Int) > 9000))) = some r := by rw [if_pos rfl] at H; exact H
      clear H
      have H := H1
      clear H1
      have H' := Aside0.mk H
      clear H
      go_wp2_with (first | ((with_reducible refine gate_callee (f := 70) rfl ?_); refine goesL_ (some 9) rfl rfl Try.func70 (by kernel_rfl) rfl #[.int .i64 a0, .int .i64 0, .int .i64 4294967295] rfl (by (try simp only [List.map_toArray, List.map_cons, List.map_nil]); first | done | rfl | (simp only [List.length_drop, List.length_take]; rfl)) ?_; (with_reducible refine (impl_in.calls a0 0 4294967295 true _ A4.out).mono ?_); rintro e w' ⟨rfl, ⟨nd, rfl⟩⟩; refine ⟨_, rfl, ?_⟩))
      go_meet
      case rel => exact ⟨_, (decide ((a1.size : Int) > 9000)), (by first | rfl | (simp; done) | (simp [*]; done)), H', ⟨by first | omega | exact Nat.le_refl _⟩, ⟨by repeat (first | (with_reducible first | exact HB.out | apply below_alloc | apply pw_below_drewN | apply below_drew1) | exact HB.out)⟩⟩
    · replace c5 := Bool.eq_false_iff.mpr c5
      subst c5
      have H1 : (impl_CrcMore.j0 k a0 a1 true) = some r := by rw [if_neg (show ¬ (false = true) by decide)] at H; exact H
      clear H
      have H := H1
      clear H1
      have H' := Aside0.mk H
      clear H
      go_wp2_with (first | ((with_reducible refine gate_callee (f := 70) rfl ?_); refine goesL_ (some 9) rfl rfl Try.func70 (by kernel_rfl) rfl #[.int .i64 a0, .int .i64 0, .int .i64 4294967295] rfl (by (try simp only [List.map_toArray, List.map_cons, List.map_nil]); first | done | rfl | (simp only [List.length_drop, List.length_take]; rfl)) ?_; (with_reducible refine (impl_in.calls a0 0 4294967295 false _ A4.out).mono ?_); rintro e w' ⟨rfl, ⟨nd, rfl⟩⟩; refine ⟨_, rfl, ?_⟩))
      go_meet
      case rel => exact ⟨_, (true), (by first | rfl | (simp; done) | (simp [*]; done)), H', ⟨by first | omega | exact Nat.le_refl _⟩, ⟨by repeat (first | (with_reducible first | exact HB.out | apply below_alloc | apply pw_below_drewN | apply below_drew1) | exact HB.out)⟩⟩
  case rest =>
    clear HC3
    try clear c1
    try clear p2
    try clear c5
    obtain ⟨kq, x15_2, rfl, HA, HJ2, HB⟩ := hcut
    cases kq with
    | zero => exact absurd HA.out (by simp [impl_CrcMore.j0])
    | succ kj2 =>
      have H := HA.out
      clear HA
      simp only [impl_CrcMore.j0] at H
      by_cases c6 : x15_2 = true
      · subst c6
        have H1 : (some 0) = some r := by rw [if_pos rfl] at H; exact H
        clear H
        have H := H1
        clear H1
        obtain rfl := Option.some.inj H
        go_wp2
        go_ret
        exact ⟨by first | rfl | (simp [errW_none, errW_some] <;> rfl) | (simp [*, errW_none, errW_some] <;> rfl), by repeat (first | (with_reducible first | exact HB.out | apply below_alloc | apply pw_below_drewN | apply below_drew1) | exact HB.out)⟩
      · replace c6 := Bool.eq_false_iff.mpr c6
        subst c6
        have H1 : (if a1.size ≤ 9223372036854775807 then (impl_CrcMore.l0 kj2 (Go.bits .xor .i64 a0 4294967295) (bytesOf a1) ((bytesOf a1).length : Int) 0) else (none)) = some r := by rw [if_neg (show ¬ (false = true) by decide)] at H; exact H
        clear H
        have H := H1
        clear H1
        by_cases c7 : a1.size ≤ 9223372036854775807
        · rw [if_pos c7] at H
          have c7b0 := eq_true c7
          have c7b1 : decide (a1.size ≤ 9223372036854775807) = true := decide_eq_true c7
          try have c7b2 : (9223372036854775807 < a1.size) = False := eq_false (Nat.not_lt.2 c7)
          clear c7
          have H' := Aside0.mk H
          clear H
          go_wp2_with (first | ((with_reducible refine gate_dst (N := 19) rfl ?_); refine Go.Proofs.Ytfladcffgblfdaa.Th.conv_event ?hg (N := 19) ?hd (s := a1) (e := 5) ?hr (of_decide_eq_true c7b1) ?_; (case hd => rfl); (case hg => rfl); (case hr => first | (have kbCV := fun W => print_bytes (P := Try.prog) 9 22 5 Try.underlying9 Try.underlying22 Try.underlying5 a1 W; go_simp; done) | (have kbCV := fun W => print_bytes (P := Try.prog) 9 22 5 Try.underlying9 Try.underlying22 Try.underlying5 a1 W; go_simp; rfl)); intro ACV cCV wv hcv0 hccv0 hbv0; have HRCV := Aside0.mk hcv0; have HCCV := Aside0.mk hccv0; have HBV := Aside0.mk (below_step (by repeat (first | (with_reducible first | exact HB.out | apply below_alloc | apply pw_below_drewN | apply below_drew1) | exact HB.out)) hbv0); clear HB; have HB := Aside0.mk (Below.refl wv.heap.size wv); clear hcv0 hccv0 hbv0))
          go_loopg [0, 21] kj2 (fun kq v0 v21 w' => ∃ (x0_2 : Int) (x21_2 : Int), v0 = .int .i64 x0_2 ∧ v21 = .int .i64 x21_2 ∧ Aside0 (impl_CrcMore.l0 kq x0_2 (bytesOf a1) ((bytesOf a1).length : Int) x21_2 = some r) ∧ Aside0 (kq ≤ kj2) ∧ Aside0 (Below wv.heap.size wv w'))
          case atStart => exact ⟨(Go.bits .xor .i64 a0 4294967295), (0), (by first | rfl | (simp; done) | (simp [*]; done)), (by first | rfl | (simp; done) | (simp [*]; done)), H', ⟨Nat.le_refl _⟩, ⟨by repeat (first | (with_reducible first | exact HB.out | apply below_alloc | apply pw_below_drewN | apply below_drew1) | exact HB.out)⟩⟩
          case round =>
            clear H'
            try clear c1
            try clear p2
            try clear c5
            try clear c6
            try clear c7
            try clear c7b0
            try clear c7b1
            try clear c7b2
            try clear c8
            try clear c8b0
            try clear p2
            obtain ⟨x0_2, x21_2, rfl, rfl, HA, HK2, HB⟩ := hrel
            cases gk with
            | zero => exact absurd HA.out (by simp [impl_CrcMore.l0])
            | succ k2 =>
              have H := HA.out
              clear HA
              simp only [impl_CrcMore.l0] at H
              by_cases c9 : x21_2 < ((bytesOf a1).length : Int)
              · rw [if_pos c9] at H
                have c9b0 : decide (x21_2 < ((bytesOf a1).length : Int)) = true := decide_eq_true c9
                clear c9
                by_cases c10 : 0 ≤ x21_2
                · rw [if_pos c10] at H
                  have c10b0 : decide (0 ≤ x21_2) = true := decide_eq_true c10
                  clear c10
                  by_cases c11 : x21_2 < ((bytesOf a1).length : Int)
                  · rw [if_pos c11] at H
                    have c11b0 : decide (x21_2 < ((bytesOf a1).length : Int)) = true := decide_eq_true c11
                    clear c11
                    have H' := Aside0.mk H
                    clear H
                    have p163 : 0 ≤ (x21_2 : Int) := of_decide_eq_true (by first | (with_reducible assumption) | assumption)
                    have q163 : x21_2 < ((bytesOf a1).length : Int) := of_decide_eq_true (by first | (with_reducible assumption) | assumption)
                    obtain ⟨ad163, e163, hx163_0⟩ := Kd.at_int HRCV.out x21_2 p163 q163
                    cases e163
                    replace hx163_0 := (HB.out.cell (World.block_lt_of_cell? wv _ hx163_0)).trans hx163_0
                    replace p163 := eq_true p163
                    replace q163 := eq_true q163
                    go_wp2
                    go_loopg [0, 29] k2 (fun kq v0 v29 w' => ∃ (x0_3 : Int) (x29_3 : Int), v0 = .int .i64 x0_3 ∧ v29 = .int .i64 x29_3 ∧ Aside0 (impl_CrcMore.l1 kq x0_3 (bytesOf a1) ((bytesOf a1).length : Int) x21_2 x29_3 = some r) ∧ Aside0 (kq ≤ k2) ∧ Aside0 (Below wv.heap.size wv w'))
                    case atStart => exact ⟨(Go.bits .xor .i64 x0_2 (wrap64 (rd (bytesOf a1) x21_2))), (0), (by first | rfl | (simp; done) | (simp [*]; done)), (by first | rfl | (simp; done) | (simp [*]; done)), H', ⟨Nat.le_refl _⟩, ⟨by repeat (first | (with_reducible first | exact HB.out | apply below_alloc | apply pw_below_drewN | apply below_drew1) | exact HB.out)⟩⟩
                    case round =>
                      clear H'
                      try clear c1
                      try clear p1
                      try clear q1
                      try clear hx1
                      try clear p2
                      try clear c5
                      try clear c6
                      try clear p6
                      try clear c7
                      try clear c7b0
                      try clear c7b1
                      try clear c7b2
                      try clear c8
                      try clear c8b0
                      try clear c9
                      try clear c9b0
                      try clear c10
                      try clear c10b0
                      try clear c11
                      try clear c11b0
                      try clear hx163_0
                      try clear p163
                      try clear p2
                      try clear q163
                      obtain ⟨x0_3, x29_3, rfl, rfl, HA, HK3, HB⟩ := hrel
                      cases gk with
                      | zero => exact absurd HA.out (by simp [impl_CrcMore.l1])
                      | succ k3 =>
                        have H := HA.out
                        clear HA
                        simp only [impl_CrcMore.l1] at H
                        by_cases c12 : x29_3 < 8
                        · rw [if_pos c12] at H
                          have c12b0 : decide (x29_3 < 8) = true := decide_eq_true c12
                          clear c12
                          by_cases c13 : (Go.bits .and .i64 x0_3 1) = 1
                          · rw [if_pos c13] at H
                            have c13b0 : ((Go.bits .and .i64 x0_3 1) == 1) = true := beq_iff_eq.mpr c13
                            have c13b1 : ((Go.bits .and .i64 x0_3 1) != 1) = false := bne_eq_false_iff_eq.mpr c13
                            clear c13
                            have H' := Aside0.mk H
                            clear H
                            go_wp2
                            go_roundg k3
                            case measure => have := HJ2.out; have := HK2.out; have := HK3.out; omega
                            case rel => exact ⟨(Go.bits .xor .i64 (x0_3 / 2) 3988292384), (wrap64 (x29_3 + 1)), (by first | rfl | (simp; done) | (simp [*]; done)), (by first | rfl | (simp; done) | (simp [*]; done)), H', ⟨by have := HJ2.out; have := HK2.out; have := HK3.out; omega⟩, ⟨by repeat (first | (with_reducible first | exact HB.out | apply below_alloc | apply pw_below_drewN | apply below_drew1) | exact HB.out)⟩⟩
                          · rw [if_neg c13] at H
                            have c13b0 : ((Go.bits .and .i64 x0_3 1) == 1) = false := beq_eq_false_iff_ne.mpr c13
                            have c13b1 : ((Go.bits .and .i64 x0_3 1) != 1) = true := bne_iff_ne.mpr c13
                            have H' := Aside0.mk H
                            clear H
                            go_wp2
                            go_roundg k3
                            case measure => have := HJ2.out; have := HK2.out; have := HK3.out; omega
                            case rel => exact ⟨(x0_3 / 2), (wrap64 (x29_3 + 1)), (by first | rfl | (simp; done) | (simp [*]; done)), (by first | rfl | (simp; done) | (simp [*]; done)), H', ⟨by have := HJ2.out; have := HK2.out; have := HK3.out; omega⟩, ⟨by repeat (first | (with_reducible first | exact HB.out | apply below_alloc | apply pw_below_drewN | apply below_drew1) | exact HB.out)⟩⟩
                        · rw [if_neg c12] at H
                          have c12b0 : decide (x29_3 < 8) = false := decide_eq_false c12
                          clear c12
                          have H' := Aside0.mk H
                          clear H
                          go_wp2
                          go_roundg k3
                          case measure => have := HJ2.out; have := HK2.out; have := HK3.out; omega
                          case rel => exact ⟨(x0_3), (wrap64 (x21_2 + 1)), (by first | rfl | (simp; done) | (simp [*]; done)), (by first | rfl | (simp; done) | (simp [*]; done)), H', ⟨by have := HJ2.out; have := HK2.out; have := HK3.out; omega⟩, ⟨by repeat (first | (with_reducible first | exact HB.out | apply below_alloc | apply pw_below_drewN | apply below_drew1) | exact HB.out)⟩⟩
                  · rw [if_neg c11] at H
                    exact absurd H (by simp)
                · rw [if_neg c10] at H
                  exact absurd H (by simp)
              · rw [if_neg c9] at H
                have c9b0 : decide (x21_2 < ((bytesOf a1).length : Int)) = false := decide_eq_false c9
                clear c9
                obtain rfl := Option.some.inj H
                go_wp2
                go_ret
                exact ⟨by first | rfl | (simp [errW_none, errW_some] <;> rfl) | (simp [*, errW_none, errW_some] <;> rfl), below_step HBV.out (by repeat (first | (with_reducible first | exact HB.out | apply below_alloc | apply pw_below_drewN | apply below_drew1) | exact HB.out))⟩
        · rw [if_neg c7] at H
          exact absurd H (by simp)

/-! ### impl_Crc32: function 17 -/
def impl_Crc32.f (k : Nat) (a0 : ByteArray) : Option (Int) := (impl_CrcMore.f k 0 a0).bind fun t164 => (some t164)
theorem impl_Crc32.mono : ∀ a0 k, LeO (impl_Crc32.f k a0) (impl_Crc32.f (k + 1) a0) := by
  intro a0 k
  unfold impl_Crc32.f
  repeat' first
      | (with_reducible exact impl_CrcMore.mono _ _ _)
      | (with_reducible exact LeO.refl _)
      | (with_reducible exact LeO.none _)
      | (with_reducible refine LeO.ite ?_ ?_)
      | (with_reducible refine LeO.bind ?_ (fun _ => ?_))
      | exact impl_CrcMore.mono _ _ _
      | exact LeO.none _
      | refine LeO.ite ?_ ?_
      | refine LeO.bind ?_ (fun _ => ?_)
set_option maxHeartbeats 8000000 in
set_option maxRecDepth 100000 in
theorem impl_Crc32.calls (k : Nat) (a0 : ByteArray) (r : Int) (w : World) (h : impl_Crc32.f k a0 = some r) :
    Calls Try.prog 17 #[.string a0] w fun e w' => e = .returned (.int .i64 r) ∧ Below w.heap.size w w' := by
  have HB := Aside0.mk (Below.refl w.heap.size w)
  have H : ((impl_CrcMore.f k 0 a0).bind fun t164 => (some t164)) = some r := h
  clear h
  replace H := Option.bind_eq_some_iff.mp H
  obtain ⟨t164, A20, H⟩ := H
  replace H : (some t164) = some r := H
  have A2 := Aside0.mk A20
  clear A20
  obtain rfl := Option.some.inj H
  go_enter Try.func17, Try.ntmps17
  go_wp2_with (first | ((with_reducible refine gate_callee (f := 19) rfl ?_); refine goesL_ (some 4) rfl rfl Try.func19 (by kernel_rfl) rfl #[.int .i64 0, .string a0] rfl (by (try simp only [List.map_toArray, List.map_cons, List.map_nil]); first | done | rfl | (simp only [List.length_drop, List.length_take]; rfl)) ?_; (with_reducible refine (impl_CrcMore.calls k 0 a0 t164 _ A2.out).mono ?_); rintro e w3 ⟨rfl, hb⟩; refine ⟨_, rfl, ?_⟩; have n0_ := Aside0.mk (below_step (by repeat (first | (with_reducible first | exact HB.out | apply below_alloc | apply pw_below_drewN | apply below_drew1) | exact HB.out)) hb); clear HB; have HB := n0_; clear n0_; (try clear hb); (try clear hb2); (try clear hk); (try clear hi)))
  go_ret
  exact ⟨by first | rfl | (simp [errW_none, errW_some] <;> rfl) | (simp [*, errW_none, errW_some] <;> rfl), by repeat (first | (with_reducible first | exact HB.out | apply below_alloc | apply pw_below_drewN | apply below_drew1) | exact HB.out)⟩

/-! ### spec_Crc32: function 18 -/
def spec_Crc32.f (k : Nat) (a0 : ByteArray) : Option (Int) := (spec_CrcMore.f k 0 a0).bind fun t165 => (some t165)
theorem spec_Crc32.mono : ∀ a0 k, LeO (spec_Crc32.f k a0) (spec_Crc32.f (k + 1) a0) := by
  intro a0 k
  unfold spec_Crc32.f
  repeat' first
      | (with_reducible exact spec_CrcMore.mono _ _ _)
      | (with_reducible exact LeO.refl _)
      | (with_reducible exact LeO.none _)
      | (with_reducible refine LeO.ite ?_ ?_)
      | (with_reducible refine LeO.bind ?_ (fun _ => ?_))
      | exact spec_CrcMore.mono _ _ _
      | exact LeO.none _
      | refine LeO.ite ?_ ?_
      | refine LeO.bind ?_ (fun _ => ?_)
set_option maxHeartbeats 8000000 in
set_option maxRecDepth 100000 in
theorem spec_Crc32.calls (k : Nat) (a0 : ByteArray) (r : Int) (w : World) (h : spec_Crc32.f k a0 = some r) :
    Calls Try.prog 18 #[.string a0] w fun e w' => e = .returned (.int .i64 r) ∧ Drawn0 w w' := by
  have H : ((spec_CrcMore.f k 0 a0).bind fun t165 => (some t165)) = some r := h
  clear h
  replace H := Option.bind_eq_some_iff.mp H
  obtain ⟨t165, A20, H⟩ := H
  replace H : (some t165) = some r := H
  have A2 := Aside0.mk A20
  clear A20
  obtain rfl := Option.some.inj H
  go_enter Try.func18, Try.ntmps18
  go_wp2_with (first | ((with_reducible refine gate_callee (f := 20) rfl ?_); refine goesL_ (some 4) rfl rfl Try.func20 (by kernel_rfl) rfl #[.int .i64 0, .string a0] rfl (by (try simp only [List.map_toArray, List.map_cons, List.map_nil]); first | done | rfl | (simp only [List.length_drop, List.length_take]; rfl)) ?_; (with_reducible refine (spec_CrcMore.calls k 0 a0 t165 _ A2.out).mono ?_); rintro e w' ⟨rfl, ⟨nd, rfl⟩⟩; refine ⟨_, rfl, ?_⟩))
  go_ret
  exact ⟨by first | rfl | (simp; done) | (simp [*]; done), by repeat (first | exact Drawn0.refl _ | apply Drawn0.step)⟩

/-! ### laws_FnCrcMore: function 3 -/
mutual
def laws_FnCrcMore.j0 : Nat → List Int → List Int → Bool → Option (Bool)
  | 0, _, _, _ => none
  | k + 1, x0, x1, x15 => if x15 = true then (some true) else ((spec_DrawCrc32.f k x0).bind fun t166 => ((spec_DrawCrcMore.f k x1).bind fun bt167 => ((impl_Crc32.f k t166).bind fun t169 => ((spec_Crc32.f k t166).bind fun t170 => (if t169 = t170 then ((impl_CrcMore.f k bt167.1 bt167.2).bind fun t171 => ((spec_CrcMore.f k bt167.1 bt167.2).bind fun t172 => (laws_FnCrcMore.j1 k t166 bt167.2 (t171 != t172)))) else (laws_FnCrcMore.j1 k t166 bt167.2 true))))))
def laws_FnCrcMore.j1 : Nat → ByteArray → ByteArray → Bool → Option (Bool)
  | 0, _, _, _ => none
  | k + 1, x5, x7, x36 => if x36 = true then (some false) else (if (wrap64 ((x5.size : Int) + (x7.size : Int))) > 9000 then ((impl_Crc32.f k (⟨#[]⟩ : ByteArray)).bind fun t173 => (some (t173 == 0))) else (if x5.size + x7.size ≤ 9223372036854775807 then ((impl_Crc32.f k (x5 ++ x7)).bind fun t174 => ((impl_Crc32.f k x5).bind fun t175 => ((impl_CrcMore.f k t175 x7).bind fun t176 => (if t174 = t176 then ((impl_Crc32.f k (⟨#[49, 50, 51, 52, 53, 54, 55, 56, 57]⟩ : ByteArray)).bind fun t177 => (if t177 = 3421780262 then ((impl_Crc32.f k (⟨#[]⟩ : ByteArray)).bind fun t178 => (some (t178 == 0))) else (some false))) else (some false))))) else (none)))
end
def laws_FnCrcMore.f (k : Nat) (l0 : List Int) (l1 : List Int) : Option (Bool) := if (l0.length : Int) > 1048576 then (laws_FnCrcMore.j0 k l0 l1 true) else (laws_FnCrcMore.j0 k l0 l1 (decide ((l1.length : Int) > 1048576)))
theorem laws_FnCrcMore.mono_l : ∀ k, (∀ y0 y1 y2, LeO (laws_FnCrcMore.j0 k y0 y1 y2) (laws_FnCrcMore.j0 (k + 1) y0 y1 y2)) ∧ (∀ y0 y1 y2, LeO (laws_FnCrcMore.j1 k y0 y1 y2) (laws_FnCrcMore.j1 (k + 1) y0 y1 y2))
  | 0 => ⟨fun _ _ _ r h => by simp [laws_FnCrcMore.j0] at h, fun _ _ _ r h => by simp [laws_FnCrcMore.j1] at h⟩
  | k + 1 => by
    obtain ⟨ih0, ih1⟩ := laws_FnCrcMore.mono_l k
    refine ⟨?_, ?_⟩
    · intro y0 y1 y2
      unfold laws_FnCrcMore.j0
      repeat' first
      | (with_reducible exact ih0 _ _ _)
      | (with_reducible exact ih1 _ _ _)
      | (with_reducible exact impl_Crc32.mono _ _)
      | (with_reducible exact impl_CrcMore.mono _ _ _)
      | (with_reducible exact spec_Crc32.mono _ _)
      | (with_reducible exact spec_CrcMore.mono _ _ _)
      | (with_reducible exact spec_DrawCrc32.mono _ _)
      | (with_reducible exact spec_DrawCrcMore.mono _ _)
      | (with_reducible exact LeO.refl _)
      | (with_reducible exact LeO.none _)
      | (with_reducible refine LeO.ite ?_ ?_)
      | (with_reducible refine LeO.bind ?_ (fun _ => ?_))
      | exact ih0 _ _ _
      | exact ih1 _ _ _
      | exact impl_Crc32.mono _ _
      | exact impl_CrcMore.mono _ _ _
      | exact spec_Crc32.mono _ _
      | exact spec_CrcMore.mono _ _ _
      | exact spec_DrawCrc32.mono _ _
      | exact spec_DrawCrcMore.mono _ _
      | exact LeO.none _
      | refine LeO.ite ?_ ?_
      | refine LeO.bind ?_ (fun _ => ?_)
    · intro y0 y1 y2
      unfold laws_FnCrcMore.j1
      repeat' first
      | (with_reducible exact ih0 _ _ _)
      | (with_reducible exact ih1 _ _ _)
      | (with_reducible exact impl_Crc32.mono _ _)
      | (with_reducible exact impl_CrcMore.mono _ _ _)
      | (with_reducible exact spec_Crc32.mono _ _)
      | (with_reducible exact spec_CrcMore.mono _ _ _)
      | (with_reducible exact spec_DrawCrc32.mono _ _)
      | (with_reducible exact spec_DrawCrcMore.mono _ _)
      | (with_reducible exact LeO.refl _)
      | (with_reducible exact LeO.none _)
      | (with_reducible refine LeO.ite ?_ ?_)
      | (with_reducible refine LeO.bind ?_ (fun _ => ?_))
      | exact ih0 _ _ _
      | exact ih1 _ _ _
      | exact impl_Crc32.mono _ _
      | exact impl_CrcMore.mono _ _ _
      | exact spec_Crc32.mono _ _
      | exact spec_CrcMore.mono _ _ _
      | exact spec_DrawCrc32.mono _ _
      | exact spec_DrawCrcMore.mono _ _
      | exact LeO.none _
      | refine LeO.ite ?_ ?_
      | refine LeO.bind ?_ (fun _ => ?_)
theorem laws_FnCrcMore.mono : ∀ a0 a1 k, LeO (laws_FnCrcMore.f k a0 a1) (laws_FnCrcMore.f (k + 1) a0 a1) := by
  intro a0 a1 k
  obtain ⟨ih0, ih1⟩ := laws_FnCrcMore.mono_l k
  unfold laws_FnCrcMore.f
  repeat' first
      | (with_reducible exact ih0 _ _ _)
      | (with_reducible exact ih1 _ _ _)
      | (with_reducible exact impl_Crc32.mono _ _)
      | (with_reducible exact impl_CrcMore.mono _ _ _)
      | (with_reducible exact spec_Crc32.mono _ _)
      | (with_reducible exact spec_CrcMore.mono _ _ _)
      | (with_reducible exact spec_DrawCrc32.mono _ _)
      | (with_reducible exact spec_DrawCrcMore.mono _ _)
      | (with_reducible exact LeO.refl _)
      | (with_reducible exact LeO.none _)
      | (with_reducible refine LeO.ite ?_ ?_)
      | (with_reducible refine LeO.bind ?_ (fun _ => ?_))
      | exact ih0 _ _ _
      | exact ih1 _ _ _
      | exact impl_Crc32.mono _ _
      | exact impl_CrcMore.mono _ _ _
      | exact spec_Crc32.mono _ _
      | exact spec_CrcMore.mono _ _ _
      | exact spec_DrawCrc32.mono _ _
      | exact spec_DrawCrcMore.mono _ _
      | exact LeO.none _
      | refine LeO.ite ?_ ?_
      | refine LeO.bind ?_ (fun _ => ?_)
set_option maxHeartbeats 8000000 in
set_option maxRecDepth 100000 in
theorem laws_FnCrcMore.calls (k : Nat) (A0 : Option Addr) (c0 : Nat) (l0 : List Int) (A1 : Option Addr) (c1 : Nat) (l1 : List Int) (r : Bool) (w : World) (hr0 : Kd.C (Kd.int .u8) w A0 l0.length l0) (hc0 : l0.length ≤ c0) (hr1 : Kd.C (Kd.int .u8) w A1 l1.length l1) (hc1 : l1.length ≤ c1) (h : laws_FnCrcMore.f k l0 l1 = some r) :
    Calls Try.prog 3 #[.slice A0 l0.length c0, .slice A1 l1.length c1] w fun e w' => e = .returned (.bool r) ∧ Below w.heap.size w w' := by
  have HR0 := Aside0.mk hr0
  have HC0 := Aside0.mk hc0
  clear hr0 hc0
  have HR1 := Aside0.mk hr1
  have HC1 := Aside0.mk hc1
  clear hr1 hc1
  have HB := Aside0.mk (Below.refl w.heap.size w)
  have H : (if (l0.length : Int) > 1048576 then (laws_FnCrcMore.j0 k l0 l1 true) else (laws_FnCrcMore.j0 k l0 l1 (decide ((l1.length : Int) > 1048576)))) = some r := h
  clear h
  have HC3 := Aside0.mk H
  clear H
  go_enter Try.func3, Try.ntmps3
  go_upto_region 1 with (fail)
  go_cut [15] (fun v15 wc => ∃ (kq : Nat) (x15_2 : Bool), v15 = .bool x15_2 ∧ Aside0 (laws_FnCrcMore.j0 kq l0 l1 x15_2 = some r) ∧ Aside0 (kq ≤ k) ∧ Aside0 (Below w.heap.size w wc))
  case first =>
    have H := HC3.out
    clear HC3
    by_cases c4 : (l0.length : Int) > 1048576
    · rw [if_pos c4] at H
      have c4b0 : decide (1048576 < (l0.length : Int)) = true := decide_eq_true c4
      have c4b1 : decide (1048576 < l0.length) = true := decide_eq_true (by omega)
      clear c4
      (first | rw [c4b0] | (simp only [i64_w, i32_w]; rw [c4b0]) | skip)
      have H' := Aside0.mk H
      clear H
      go_wp2
      go_meet
      case rel => exact ⟨_, (true), (by first | rfl | (simp; done) | (simp [*]; done)), H', ⟨by first | omega | exact Nat.le_refl _⟩, ⟨by repeat (first | (with_reducible first | exact HB.out | apply below_alloc | apply pw_below_drewN | apply below_drew1) | exact HB.out)⟩⟩
    · rw [if_neg c4] at H
      have c4b0 : decide (1048576 < (l0.length : Int)) = false := decide_eq_false c4
      have c4b1 : decide (1048576 < l0.length) = false := decide_eq_false (by omega)
      clear c4
      (first | rw [c4b0] | (simp only [i64_w, i32_w]; rw [c4b0]) | skip)
      have H' := Aside0.mk H
      clear H
      go_wp2
      go_meet
      case rel => exact ⟨_, (decide ((l1.length : Int) > 1048576)), (by first | rfl | (simp; done) | (simp [*]; done)), H', ⟨by first | omega | exact Nat.le_refl _⟩, ⟨by repeat (first | (with_reducible first | exact HB.out | apply below_alloc | apply pw_below_drewN | apply below_drew1) | exact HB.out)⟩⟩
  case rest =>
    clear HC3
    try clear c1
    try clear p2
    try clear c3
    try clear c4
    try clear c4b0
    try clear c4b1
    obtain ⟨kq, x15_2, rfl, HA, HJ2, HB⟩ := hcut
    cases kq with
    | zero => exact absurd HA.out (by simp [laws_FnCrcMore.j0])
    | succ kj2 =>
      have H := HA.out
      clear HA
      simp only [laws_FnCrcMore.j0] at H
      by_cases c5 : x15_2 = true
      · subst c5
        have H1 : (some true) = some r := by rw [if_pos rfl] at H; exact H
        clear H
        have H := H1
        clear H1
        obtain rfl := Option.some.inj H
        go_wp2
        go_ret
        exact ⟨by first | rfl | (simp [errW_none, errW_some] <;> rfl) | (simp [*, errW_none, errW_some] <;> rfl), by repeat (first | (with_reducible first | exact HB.out | apply below_alloc | apply pw_below_drewN | apply below_drew1) | exact HB.out)⟩
      · replace c5 := Bool.eq_false_iff.mpr c5
        subst c5
        have H1 : ((spec_DrawCrc32.f kj2 l0).bind fun t166 => ((spec_DrawCrcMore.f kj2 l1).bind fun bt167 => ((impl_Crc32.f kj2 t166).bind fun t169 => ((spec_Crc32.f kj2 t166).bind fun t170 => (if t169 = t170 then ((impl_CrcMore.f kj2 bt167.1 bt167.2).bind fun t171 => ((spec_CrcMore.f kj2 bt167.1 bt167.2).bind fun t172 => (laws_FnCrcMore.j1 kj2 t166 bt167.2 (t171 != t172)))) else (laws_FnCrcMore.j1 kj2 t166 bt167.2 true)))))) = some r := by rw [if_neg (show ¬ (false = true) by decide)] at H; exact H
        clear H
        have H := H1
        clear H1
        replace H := Option.bind_eq_some_iff.mp H
        obtain ⟨t166, A60, H⟩ := H
        replace H : ((spec_DrawCrcMore.f kj2 l1).bind fun bt167 => ((impl_Crc32.f kj2 t166).bind fun t169 => ((spec_Crc32.f kj2 t166).bind fun t170 => (if t169 = t170 then ((impl_CrcMore.f kj2 bt167.1 bt167.2).bind fun t171 => ((spec_CrcMore.f kj2 bt167.1 bt167.2).bind fun t172 => (laws_FnCrcMore.j1 kj2 t166 bt167.2 (t171 != t172)))) else (laws_FnCrcMore.j1 kj2 t166 bt167.2 true))))) = some r := H
        have A6 := Aside0.mk A60
        clear A60
        replace H := Option.bind_eq_some_iff.mp H
        obtain ⟨⟨t167, t168⟩, A70, H⟩ := H
        replace H : ((impl_Crc32.f kj2 t166).bind fun t169 => ((spec_Crc32.f kj2 t166).bind fun t170 => (if t169 = t170 then ((impl_CrcMore.f kj2 t167 t168).bind fun t171 => ((spec_CrcMore.f kj2 t167 t168).bind fun t172 => (laws_FnCrcMore.j1 kj2 t166 t168 (t171 != t172)))) else (laws_FnCrcMore.j1 kj2 t166 t168 true)))) = some r := H
        have A7 := Aside0.mk A70
        clear A70
        have HC8 := Aside0.mk H
        clear H
        go_upto_region 5 with (first | ((with_reducible refine gate_callee (f := 15) rfl ?_); refine goesL_ (some 17) rfl rfl Try.func15 (by kernel_rfl) rfl #[.slice A0 l0.length c0] rfl (by (try simp only [List.map_toArray, List.map_cons, List.map_nil]); first | done | rfl | (simp only [List.length_drop, List.length_take]; rfl)) ?_; (with_reducible refine (spec_DrawCrc32.calls kj2 _ _ l0 t166 _ ?side1 ?side2 A6.out).mono ?_); (case side1 => repeat (first | exact (Kd.C_below HR0.out HB.out) | (with_reducible refine Kd.C_alloc ?_ _) | (with_reducible refine Kd.C_drewN ?_ _) | (with_reducible refine Kd.C_drew ?_))); (case side2 => exact HC0.out); rintro e w9 ⟨rfl, hb⟩; refine ⟨_, rfl, ?_⟩; have n0_ := Aside0.mk (below_step (by repeat (first | (with_reducible first | exact HB.out | apply below_alloc | apply pw_below_drewN | apply below_drew1) | exact HB.out)) hb); clear HB; have HB := n0_; clear n0_; (try clear hb); (try clear hb2); (try clear hk); (try clear hi)) | ((with_reducible refine gate_callee (f := 16) rfl ?_); refine goesL_ (some 20) rfl rfl Try.func16 (by kernel_rfl) rfl #[.slice A1 l1.length c1] rfl (by (try simp only [List.map_toArray, List.map_cons, List.map_nil]); first | done | rfl | (simp only [List.length_drop, List.length_take]; rfl)) ?_; (with_reducible refine (spec_DrawCrcMore.calls kj2 _ _ l1 t167 t168 _ ?side1 ?side2 A7.out).mono ?_); (case side1 => repeat (first | exact (Kd.C_below HR1.out HB.out) | (with_reducible refine Kd.C_alloc ?_ _) | (with_reducible refine Kd.C_drewN ?_ _) | (with_reducible refine Kd.C_drew ?_))); (case side2 => exact HC1.out); rintro e w10 ⟨rfl, hb⟩; refine ⟨_, rfl, ?_⟩; have n0_ := Aside0.mk (below_step (by repeat (first | (with_reducible first | exact HB.out | apply below_alloc | apply pw_below_drewN | apply below_drew1) | exact HB.out)) hb); clear HB; have HB := n0_; clear n0_; (try clear hb); (try clear hb2); (try clear hk); (try clear hi)))
        (try simp only [Act.put, List.setIfInBounds_toArray, List.set_cons_zero, List.set_cons_succ])
        go_cut [36] (fun v36 wc => ∃ (kq : Nat) (x36_7 : Bool), v36 = .bool x36_7 ∧ Aside0 (laws_FnCrcMore.j1 kq t166 t168 x36_7 = some r) ∧ Aside0 (kq ≤ kj2) ∧ Aside0 (Below w.heap.size w wc))
        case first =>
          have H := HC8.out
          clear HC8
          replace H := Option.bind_eq_some_iff.mp H
          obtain ⟨t169, A110, H⟩ := H
          replace H : ((spec_Crc32.f kj2 t166).bind fun t170 => (if t169 = t170 then ((impl_CrcMore.f kj2 t167 t168).bind fun t171 => ((spec_CrcMore.f kj2 t167 t168).bind fun t172 => (laws_FnCrcMore.j1 kj2 t166 t168 (t171 != t172)))) else (laws_FnCrcMore.j1 kj2 t166 t168 true))) = some r := H
          have A11 := Aside0.mk A110
          clear A110
          replace H := Option.bind_eq_some_iff.mp H
          obtain ⟨t170, A120, H⟩ := H
          replace H : (if t169 = t170 then ((impl_CrcMore.f kj2 t167 t168).bind fun t171 => ((spec_CrcMore.f kj2 t167 t168).bind fun t172 => (laws_FnCrcMore.j1 kj2 t166 t168 (t171 != t172)))) else (laws_FnCrcMore.j1 kj2 t166 t168 true)) = some r := H
          have A12 := Aside0.mk A120
          clear A120
          by_cases c13 : t169 = t170
          · rw [if_pos c13] at H
            have c13b0 : (t169 == t170) = true := beq_iff_eq.mpr c13
            have c13b1 : (t169 != t170) = false := bne_eq_false_iff_eq.mpr c13
            clear c13
            (first | rw [c13b0] | (simp only [i64_w, i32_w]; rw [c13b0]) | skip)
            replace H := Option.bind_eq_some_iff.mp H
            obtain ⟨t171, A140, H⟩ := H
            replace H : ((spec_CrcMore.f kj2 t167 t168).bind fun t172 => (laws_FnCrcMore.j1 kj2 t166 t168 (t171 != t172))) = some r := H
            have A14 := Aside0.mk A140
            clear A140
            replace H := Option.bind_eq_some_iff.mp H
            obtain ⟨t172, A150, H⟩ := H
            replace H : (laws_FnCrcMore.j1 kj2 t166 t168 (t171 != t172)) = some r := H
            have A15 := Aside0.mk A150
            clear A150
            have H' := Aside0.mk H
            clear H
            go_wp2_with (first | ((with_reducible refine gate_callee (f := 17) rfl ?_); refine goesL_ (some 24) rfl rfl Try.func17 (by kernel_rfl) rfl #[.string t166] rfl (by (try simp only [List.map_toArray, List.map_cons, List.map_nil]); first | done | rfl | (simp only [List.length_drop, List.length_take]; rfl)) ?_; (with_reducible refine (impl_Crc32.calls kj2 t166 t169 _ A11.out).mono ?_); rintro e w16 ⟨rfl, hb⟩; refine ⟨_, rfl, ?_⟩; have n0_ := Aside0.mk (below_step (by repeat (first | (with_reducible first | exact HB.out | apply below_alloc | apply pw_below_drewN | apply below_drew1) | exact HB.out)) hb); clear HB; have HB := n0_; clear n0_; (try clear hb); (try clear hb2); (try clear hk); (try clear hi)) | ((with_reducible refine gate_callee (f := 18) rfl ?_); refine goesL_ (some 26) rfl rfl Try.func18 (by kernel_rfl) rfl #[.string t166] rfl (by (try simp only [List.map_toArray, List.map_cons, List.map_nil]); first | done | rfl | (simp only [List.length_drop, List.length_take]; rfl)) ?_; (with_reducible refine (spec_Crc32.calls kj2 t166 t170 _ A12.out).mono ?_); rintro e w' ⟨rfl, ⟨nd, rfl⟩⟩; refine ⟨_, rfl, ?_⟩) | (go_at_call 19; (with_reducible refine (impl_CrcMore.calls kj2 t167 t168 t171 _ A14.out).mono ?_); rintro e w17 ⟨rfl, hb⟩; have n0_ := Aside0.mk (below_step (by repeat (first | (with_reducible first | exact HB.out | apply below_alloc | apply pw_below_drewN | apply below_drew1) | exact HB.out)) hb); clear HB; have HB := n0_; clear n0_; (try clear hb); (try clear hb2); (try clear hk); (try clear hi)) | (go_at_call 20; (with_reducible refine (spec_CrcMore.calls kj2 t167 t168 t172 _ A15.out).mono ?_); rintro e w' ⟨rfl, ⟨nd, rfl⟩⟩))
            go_meet
            case rel => exact ⟨_, ((t171 != t172)), (by first | rfl | (simp; done) | (simp [*]; done)), H', ⟨by have := HJ2.out; first | omega | exact Nat.le_refl _⟩, ⟨by repeat (first | (with_reducible first | exact HB.out | apply below_alloc | apply pw_below_drewN | apply below_drew1) | exact HB.out)⟩⟩
          · rw [if_neg c13] at H
            have c13b0 : (t169 == t170) = false := beq_eq_false_iff_ne.mpr c13
            have c13b1 : (t169 != t170) = true := bne_iff_ne.mpr c13
            (first | rw [c13b0] | (simp only [i64_w, i32_w]; rw [c13b0]) | skip)
            have H' := Aside0.mk H
            clear H
            go_wp2_with (first | ((with_reducible refine gate_callee (f := 17) rfl ?_); refine goesL_ (some 24) rfl rfl Try.func17 (by kernel_rfl) rfl #[.string t166] rfl (by (try simp only [List.map_toArray, List.map_cons, List.map_nil]); first | done | rfl | (simp only [List.length_drop, List.length_take]; rfl)) ?_; (with_reducible refine (impl_Crc32.calls kj2 t166 t169 _ A11.out).mono ?_); rintro e w18 ⟨rfl, hb⟩; refine ⟨_, rfl, ?_⟩; have n0_ := Aside0.mk (below_step (by repeat (first | (with_reducible first | exact HB.out | apply below_alloc | apply pw_below_drewN | apply below_drew1) | exact HB.out)) hb); clear HB; have HB := n0_; clear n0_; (try clear hb); (try clear hb2); (try clear hk); (try clear hi)) | ((with_reducible refine gate_callee (f := 18) rfl ?_); refine goesL_ (some 26) rfl rfl Try.func18 (by kernel_rfl) rfl #[.string t166] rfl (by (try simp only [List.map_toArray, List.map_cons, List.map_nil]); first | done | rfl | (simp only [List.length_drop, List.length_take]; rfl)) ?_; (with_reducible refine (spec_Crc32.calls kj2 t166 t170 _ A12.out).mono ?_); rintro e w' ⟨rfl, ⟨nd, rfl⟩⟩; refine ⟨_, rfl, ?_⟩))
            go_meet
            case rel => exact ⟨_, (true), (by first | rfl | (simp; done) | (simp [*]; done)), H', ⟨by have := HJ2.out; first | omega | exact Nat.le_refl _⟩, ⟨by repeat (first | (with_reducible first | exact HB.out | apply below_alloc | apply pw_below_drewN | apply below_drew1) | exact HB.out)⟩⟩
        case rest =>
          clear HC8
          try clear c1
          try clear p2
          try clear c3
          try clear c4
          try clear c4b0
          try clear c4b1
          try clear c5
          try clear c13
          try clear c13b0
          try clear c13b1
          try clear c15
          try clear c16
          try clear c17
          try clear c18
          try clear p2
          obtain ⟨kq, x36_7, rfl, HA, HJ7, HB⟩ := hcut
          cases kq with
          | zero => exact absurd HA.out (by simp [laws_FnCrcMore.j1])
          | succ kj7 =>
            have H := HA.out
            clear HA
            simp only [laws_FnCrcMore.j1] at H
            by_cases c19 : x36_7 = true
            · subst c19
              have H1 : (some false) = some r := by rw [if_pos rfl] at H; exact H
              clear H
              have H := H1
              clear H1
              obtain rfl := Option.some.inj H
              go_wp2
              go_ret
              exact ⟨by first | rfl | (simp [errW_none, errW_some] <;> rfl) | (simp [*, errW_none, errW_some] <;> rfl), by repeat (first | (with_reducible first | exact HB.out | apply below_alloc | apply pw_below_drewN | apply below_drew1) | exact HB.out)⟩
            · replace c19 := Bool.eq_false_iff.mpr c19
              subst c19
              have H1 : (if (wrap64 ((t166.size : Int) + (t168.size : Int))) > 9000 then ((impl_Crc32.f kj7 (⟨#[]⟩ : ByteArray)).bind fun t173 => (some (t173 == 0))) else (if t166.size + t168.size ≤ 9223372036854775807 then ((impl_Crc32.f kj7 (t166 ++ t168)).bind fun t174 => ((impl_Crc32.f kj7 t166).bind fun t175 => ((impl_CrcMore.f kj7 t175 t168).bind fun t176 => (if t174 = t176 then ((impl_Crc32.f kj7 (⟨#[49, 50, 51, 52, 53, 54, 55, 56, 57]⟩ : ByteArray)).bind fun t177 => (if t177 = 3421780262 then ((impl_Crc32.f kj7 (⟨#[]⟩ : ByteArray)).bind fun t178 => (some (t178 == 0))) else (some false))) else (some false))))) else (none))) = some r := by rw [if_neg (show ¬ (false = true) by decide)] at H; exact H
              clear H
              have H := H1
              clear H1
              by_cases c20 : (wrap64 ((t166.size : Int) + (t168.size : Int))) > 9000
              · rw [if_pos c20] at H
                have c20b0 : decide (9000 < (wrap64 ((t166.size : Int) + (t168.size : Int)))) = true := decide_eq_true c20
                clear c20
                replace H := Option.bind_eq_some_iff.mp H
                obtain ⟨t173, A210, H⟩ := H
                replace H : (some (t173 == 0)) = some r := H
                have A21 := Aside0.mk A210
                clear A210
                obtain rfl := Option.some.inj H
                go_wp2_with (first | ((with_reducible refine gate_callee (f := 17) rfl ?_); refine goesL_ (some 43) rfl rfl Try.func17 (by kernel_rfl) rfl #[.string (⟨#[]⟩ : ByteArray)] rfl (by (try simp only [List.map_toArray, List.map_cons, List.map_nil]); first | done | rfl | (simp only [List.length_drop, List.length_take]; rfl)) ?_; (with_reducible refine (impl_Crc32.calls kj7 (⟨#[]⟩ : ByteArray) t173 _ A21.out).mono ?_); rintro e w22 ⟨rfl, hb⟩; refine ⟨_, rfl, ?_⟩; have n0_ := Aside0.mk (below_step (by repeat (first | (with_reducible first | exact HB.out | apply below_alloc | apply pw_below_drewN | apply below_drew1) | exact HB.out)) hb); clear HB; have HB := n0_; clear n0_; (try clear hb); (try clear hb2); (try clear hk); (try clear hi)))
                go_ret
                exact ⟨by first | rfl | (simp [errW_none, errW_some] <;> rfl) | (simp [*, errW_none, errW_some] <;> rfl), by repeat (first | (with_reducible first | exact HB.out | apply below_alloc | apply pw_below_drewN | apply below_drew1) | exact HB.out)⟩
              · rw [if_neg c20] at H
                have c20b0 : decide (9000 < (wrap64 ((t166.size : Int) + (t168.size : Int)))) = false := decide_eq_false c20
                clear c20
                by_cases c23 : t166.size + t168.size ≤ 9223372036854775807
                · rw [if_pos c23] at H
                  have c23b0 := eq_true c23
                  have c23b1 : decide (t166.size + t168.size ≤ 9223372036854775807) = true := decide_eq_true c23
                  try have c23b2 : (9223372036854775807 < t166.size + t168.size) = False := eq_false (Nat.not_lt.2 c23)
                  try rw [show wrap64 ((t166.size : Int) + (t168.size : Int)) = (t166.size : Int) + (t168.size : Int) by (unfold wrap64; omega)] at c20b0
                  replace H := Option.bind_eq_some_iff.mp H
                  obtain ⟨t174, A240, H⟩ := H
                  replace H : ((impl_Crc32.f kj7 t166).bind fun t175 => ((impl_CrcMore.f kj7 t175 t168).bind fun t176 => (if t174 = t176 then ((impl_Crc32.f kj7 (⟨#[49, 50, 51, 52, 53, 54, 55, 56, 57]⟩ : ByteArray)).bind fun t177 => (if t177 = 3421780262 then ((impl_Crc32.f kj7 (⟨#[]⟩ : ByteArray)).bind fun t178 => (some (t178 == 0))) else (some false))) else (some false)))) = some r := H
                  have A24 := Aside0.mk A240
                  clear A240
                  replace H := Option.bind_eq_some_iff.mp H
                  obtain ⟨t175, A250, H⟩ := H
                  replace H : ((impl_CrcMore.f kj7 t175 t168).bind fun t176 => (if t174 = t176 then ((impl_Crc32.f kj7 (⟨#[49, 50, 51, 52, 53, 54, 55, 56, 57]⟩ : ByteArray)).bind fun t177 => (if t177 = 3421780262 then ((impl_Crc32.f kj7 (⟨#[]⟩ : ByteArray)).bind fun t178 => (some (t178 == 0))) else (some false))) else (some false))) = some r := H
                  have A25 := Aside0.mk A250
                  clear A250
                  replace H := Option.bind_eq_some_iff.mp H
                  obtain ⟨t176, A260, H⟩ := H
                  replace H : (if t174 = t176 then ((impl_Crc32.f kj7 (⟨#[49, 50, 51, 52, 53, 54, 55, 56, 57]⟩ : ByteArray)).bind fun t177 => (if t177 = 3421780262 then ((impl_Crc32.f kj7 (⟨#[]⟩ : ByteArray)).bind fun t178 => (some (t178 == 0))) else (some false))) else (some false)) = some r := H
                  have A26 := Aside0.mk A260
                  clear A260
                  by_cases c27 : t174 = t176
                  · rw [if_pos c27] at H
                    have c27b0 : (t174 == t176) = true := beq_iff_eq.mpr c27
                    have c27b1 : (t174 != t176) = false := bne_eq_false_iff_eq.mpr c27
                    clear c27
                    replace H := Option.bind_eq_some_iff.mp H
                    obtain ⟨t177, A280, H⟩ := H
                    replace H : (if t177 = 3421780262 then ((impl_Crc32.f kj7 (⟨#[]⟩ : ByteArray)).bind fun t178 => (some (t178 == 0))) else (some false)) = some r := H
                    have A28 := Aside0.mk A280
                    clear A280
                    by_cases c29 : t177 = 3421780262
                    · rw [if_pos c29] at H
                      have c29b0 : (t177 == 3421780262) = true := beq_iff_eq.mpr c29
                      have c29b1 : (t177 != 3421780262) = false := bne_eq_false_iff_eq.mpr c29
                      clear c29
                      replace H := Option.bind_eq_some_iff.mp H
                      obtain ⟨t178, A300, H⟩ := H
                      replace H : (some (t178 == 0)) = some r := H
                      have A30 := Aside0.mk A300
                      clear A300
                      obtain rfl := Option.some.inj H
                      go_wp2_with (first | ((with_reducible refine gate_callee (f := 17) rfl ?_); refine goesL_ (some 48) rfl rfl Try.func17 (by kernel_rfl) rfl #[.string (t166 ++ t168)] rfl (by (try simp only [List.map_toArray, List.map_cons, List.map_nil]); first | done | rfl | (simp only [List.length_drop, List.length_take]; rfl)) ?_; (with_reducible refine (impl_Crc32.calls kj7 (t166 ++ t168) t174 _ A24.out).mono ?_); rintro e w31 ⟨rfl, hb⟩; refine ⟨_, rfl, ?_⟩; have n0_ := Aside0.mk (below_step (by repeat (first | (with_reducible first | exact HB.out | apply below_alloc | apply pw_below_drewN | apply below_drew1) | exact HB.out)) hb); clear HB; have HB := n0_; clear n0_; (try clear hb); (try clear hb2); (try clear hk); (try clear hi)) | ((with_reducible refine gate_callee (f := 17) rfl ?_); refine goesL_ (some 50) rfl rfl Try.func17 (by kernel_rfl) rfl #[.string t166] rfl (by (try simp only [List.map_toArray, List.map_cons, List.map_nil]); first | done | rfl | (simp only [List.length_drop, List.length_take]; rfl)) ?_; (with_reducible refine (impl_Crc32.calls kj7 t166 t175 _ A25.out).mono ?_); rintro e w32 ⟨rfl, hb⟩; refine ⟨_, rfl, ?_⟩; have n0_ := Aside0.mk (below_step (by repeat (first | (with_reducible first | exact HB.out | apply below_alloc | apply pw_below_drewN | apply below_drew1) | exact HB.out)) hb); clear HB; have HB := n0_; clear n0_; (try clear hb); (try clear hb2); (try clear hk); (try clear hi)) | ((with_reducible refine gate_callee (f := 19) rfl ?_); refine goesL_ (some 52) rfl rfl Try.func19 (by kernel_rfl) rfl #[.int .i64 t175, .string t168] rfl (by (try simp only [List.map_toArray, List.map_cons, List.map_nil]); first | done | rfl | (simp only [List.length_drop, List.length_take]; rfl)) ?_; (with_reducible refine (impl_CrcMore.calls kj7 t175 t168 t176 _ A26.out).mono ?_); rintro e w33 ⟨rfl, hb⟩; refine ⟨_, rfl, ?_⟩; have n0_ := Aside0.mk (below_step (by repeat (first | (with_reducible first | exact HB.out | apply below_alloc | apply pw_below_drewN | apply below_drew1) | exact HB.out)) hb); clear HB; have HB := n0_; clear n0_; (try clear hb); (try clear hb2); (try clear hk); (try clear hi)) | (go_at_call 17; (with_reducible refine (impl_Crc32.calls kj7 (⟨#[49, 50, 51, 52, 53, 54, 55, 56, 57]⟩ : ByteArray) t177 _ A28.out).mono ?_); rintro e w34 ⟨rfl, hb⟩; have n0_ := Aside0.mk (below_step (by repeat (first | (with_reducible first | exact HB.out | apply below_alloc | apply pw_below_drewN | apply below_drew1) | exact HB.out)) hb); clear HB; have HB := n0_; clear n0_; (try clear hb); (try clear hb2); (try clear hk); (try clear hi)) | (go_at_call 17; (with_reducible refine (impl_Crc32.calls kj7 (⟨#[]⟩ : ByteArray) t178 _ A30.out).mono ?_); rintro e w35 ⟨rfl, hb⟩; have n0_ := Aside0.mk (below_step (by repeat (first | (with_reducible first | exact HB.out | apply below_alloc | apply pw_below_drewN | apply below_drew1) | exact HB.out)) hb); clear HB; have HB := n0_; clear n0_; (try clear hb); (try clear hb2); (try clear hk); (try clear hi)))
                      go_ret
                      exact ⟨by first | rfl | (simp [errW_none, errW_some] <;> rfl) | (simp [*, errW_none, errW_some] <;> rfl), by repeat (first | (with_reducible first | exact HB.out | apply below_alloc | apply pw_below_drewN | apply below_drew1) | exact HB.out)⟩
                    · rw [if_neg c29] at H
                      have c29b0 : (t177 == 3421780262) = false := beq_eq_false_iff_ne.mpr c29
                      have c29b1 : (t177 != 3421780262) = true := bne_iff_ne.mpr c29
                      obtain rfl := Option.some.inj H
                      go_wp2_with (first | ((with_reducible refine gate_callee (f := 17) rfl ?_); refine goesL_ (some 48) rfl rfl Try.func17 (by kernel_rfl) rfl #[.string (t166 ++ t168)] rfl (by (try simp only [List.map_toArray, List.map_cons, List.map_nil]); first | done | rfl | (simp only [List.length_drop, List.length_take]; rfl)) ?_; (with_reducible refine (impl_Crc32.calls kj7 (t166 ++ t168) t174 _ A24.out).mono ?_); rintro e w36 ⟨rfl, hb⟩; refine ⟨_, rfl, ?_⟩; have n0_ := Aside0.mk (below_step (by repeat (first | (with_reducible first | exact HB.out | apply below_alloc | apply pw_below_drewN | apply below_drew1) | exact HB.out)) hb); clear HB; have HB := n0_; clear n0_; (try clear hb); (try clear hb2); (try clear hk); (try clear hi)) | ((with_reducible refine gate_callee (f := 17) rfl ?_); refine goesL_ (some 50) rfl rfl Try.func17 (by kernel_rfl) rfl #[.string t166] rfl (by (try simp only [List.map_toArray, List.map_cons, List.map_nil]); first | done | rfl | (simp only [List.length_drop, List.length_take]; rfl)) ?_; (with_reducible refine (impl_Crc32.calls kj7 t166 t175 _ A25.out).mono ?_); rintro e w37 ⟨rfl, hb⟩; refine ⟨_, rfl, ?_⟩; have n0_ := Aside0.mk (below_step (by repeat (first | (with_reducible first | exact HB.out | apply below_alloc | apply pw_below_drewN | apply below_drew1) | exact HB.out)) hb); clear HB; have HB := n0_; clear n0_; (try clear hb); (try clear hb2); (try clear hk); (try clear hi)) | ((with_reducible refine gate_callee (f := 19) rfl ?_); refine goesL_ (some 52) rfl rfl Try.func19 (by kernel_rfl) rfl #[.int .i64 t175, .string t168] rfl (by (try simp only [List.map_toArray, List.map_cons, List.map_nil]); first | done | rfl | (simp only [List.length_drop, List.length_take]; rfl)) ?_; (with_reducible refine (impl_CrcMore.calls kj7 t175 t168 t176 _ A26.out).mono ?_); rintro e w38 ⟨rfl, hb⟩; refine ⟨_, rfl, ?_⟩; have n0_ := Aside0.mk (below_step (by repeat (first | (with_reducible first | exact HB.out | apply below_alloc | apply pw_below_drewN | apply below_drew1) | exact HB.out)) hb); clear HB; have HB := n0_; clear n0_; (try clear hb); (try clear hb2); (try clear hk); (try clear hi)) | (go_at_call 17; (with_reducible refine (impl_Crc32.calls kj7 (⟨#[49, 50, 51, 52, 53, 54, 55, 56, 57]⟩ : ByteArray) t177 _ A28.out).mono ?_); rintro e w39 ⟨rfl, hb⟩; have n0_ := Aside0.mk (below_step (by repeat (first | (with_reducible first | exact HB.out | apply below_alloc | apply pw_below_drewN | apply below_drew1) | exact HB.out)) hb); clear HB; have HB := n0_; clear n0_; (try clear hb); (try clear hb2); (try clear hk); (try clear hi)))
                      go_ret
                      exact ⟨by first | rfl | (simp [errW_none, errW_some] <;> rfl) | (simp [*, errW_none, errW_some] <;> rfl), by repeat (first | (with_reducible first | exact HB.out | apply below_alloc | apply pw_below_drewN | apply below_drew1) | exact HB.out)⟩
                  · rw [if_neg c27] at H
                    have c27b0 : (t174 == t176) = false := beq_eq_false_iff_ne.mpr c27
                    have c27b1 : (t174 != t176) = true := bne_iff_ne.mpr c27
                    obtain rfl := Option.some.inj H
                    go_wp2_with (first | ((with_reducible refine gate_callee (f := 17) rfl ?_); refine goesL_ (some 48) rfl rfl Try.func17 (by kernel_rfl) rfl #[.string (t166 ++ t168)] rfl (by (try simp only [List.map_toArray, List.map_cons, List.map_nil]); first | done | rfl | (simp only [List.length_drop, List.length_take]; rfl)) ?_; (with_reducible refine (impl_Crc32.calls kj7 (t166 ++ t168) t174 _ A24.out).mono ?_); rintro e w40 ⟨rfl, hb⟩; refine ⟨_, rfl, ?_⟩; have n0_ := Aside0.mk (below_step (by repeat (first | (with_reducible first | exact HB.out | apply below_alloc | apply pw_below_drewN | apply below_drew1) | exact HB.out)) hb); clear HB; have HB := n0_; clear n0_; (try clear hb); (try clear hb2); (try clear hk); (try clear hi)) | ((with_reducible refine gate_callee (f := 17) rfl ?_); refine goesL_ (some 50) rfl rfl Try.func17 (by kernel_rfl) rfl #[.string t166] rfl (by (try simp only [List.map_toArray, List.map_cons, List.map_nil]); first | done | rfl | (simp only [List.length_drop, List.length_take]; rfl)) ?_; (with_reducible refine (impl_Crc32.calls kj7 t166 t175 _ A25.out).mono ?_); rintro e w41 ⟨rfl, hb⟩; refine ⟨_, rfl, ?_⟩; have n0_ := Aside0.mk (below_step (by repeat (first | (with_reducible first | exact HB.out | apply below_alloc | apply pw_below_drewN | apply below_drew1) | exact HB.out)) hb); clear HB; have HB := n0_; clear n0_; (try clear hb); (try clear hb2); (try clear hk); (try clear hi)) | ((with_reducible refine gate_callee (f := 19) rfl ?_); refine goesL_ (some 52) rfl rfl Try.func19 (by kernel_rfl) rfl #[.int .i64 t175, .string t168] rfl (by (try simp only [List.map_toArray, List.map_cons, List.map_nil]); first | done | rfl | (simp only [List.length_drop, List.length_take]; rfl)) ?_; (with_reducible refine (impl_CrcMore.calls kj7 t175 t168 t176 _ A26.out).mono ?_); rintro e w42 ⟨rfl, hb⟩; refine ⟨_, rfl, ?_⟩; have n0_ := Aside0.mk (below_step (by repeat (first | (with_reducible first | exact HB.out | apply below_alloc | apply pw_below_drewN | apply below_drew1) | exact HB.out)) hb); clear HB; have HB := n0_; clear n0_; (try clear hb); (try clear hb2); (try clear hk); (try clear hi)))
                    go_ret
                    exact ⟨by first | rfl | (simp [errW_none, errW_some] <;> rfl) | (simp [*, errW_none, errW_some] <;> rfl), by repeat (first | (with_reducible first | exact HB.out | apply below_alloc | apply pw_below_drewN | apply below_drew1) | exact HB.out)⟩
                · rw [if_neg c23] at H
                  exact absurd H (by simp)

/-- THE ONE PURE STATEMENT of laws_FnCrcMore: yours. -/
def laws_FnCrcMore.Pure : Prop := ∀ (l0 : List Int) (l1 : List Int), l0.length ≤ maxLen → l0.length * 1 ≤ 140737488351232 → (∀ x ∈ l0, (Lit.int .u8 x).wf = true) → l1.length ≤ maxLen → l1.length * 1 ≤ 140737488351232 → (∀ x ∈ l1, (Lit.int .u8 x).wf = true) → ∃ k, laws_FnCrcMore.f k l0 l1 = some true
theorem laws_FnCrcMore.walk (P : laws_FnCrcMore.Pure) (a0 : Option Addr) (len0 cap0 : Nat) (z0 : List Int) (a1 : Option Addr) (len1 cap1 : Nat) (z1 : List Int) (w : World) (w0 : (a0 = none ∧ len0 = 0 ∧ cap0 = 0 ∧ z0 = []) ∨ ∃ x, a0 = some x ∧ len0 ≤ cap0 ∧ cap0 ≤ maxLen ∧ z0.length = cap0 ∧ (∀ i, i < z0.length → w.cell? (x.add i) = some (.int .u8 (z0.getD i 0))) ∧ ∀ n ∈ z0, (Lit.int .u8 n).wf = true) (y0 : len0 * 1 ≤ 140737488351232) (w1 : (a1 = none ∧ len1 = 0 ∧ cap1 = 0 ∧ z1 = []) ∨ ∃ x, a1 = some x ∧ len1 ≤ cap1 ∧ cap1 ≤ maxLen ∧ z1.length = cap1 ∧ (∀ i, i < z1.length → w.cell? (x.add i) = some (.int .u8 (z1.getD i 0))) ∧ ∀ n ∈ z1, (Lit.int .u8 n).wf = true) (y1 : len1 * 1 ≤ 140737488351232) :
    Calls Try.prog 3 #[.slice a0 len0 cap0, .slice a1 len1 cap1] w fun e w' => e = .returned (.bool true) ∧ Below w.heap.size w w' := by
  obtain ⟨l0, rfl, hr0, hm0, hw0, hc0⟩ := ReadsInt.ofRowC w0
  obtain ⟨l1, rfl, hr1, hm1, hw1, hc1⟩ := ReadsInt.ofRowC w1
  obtain ⟨k, h⟩ := P l0 l1 hm0 y0 hw0 hm1 y1 hw1
  refine (laws_FnCrcMore.calls k _ _ l0 _ _ l1 true w (Kd.C_of_reads (d := (0 : Int)) (h1 := fun _ => rfl) hr0) hc0 (Kd.C_of_reads (d := (0 : Int)) (h1 := fun _ => rfl) hr1) hc1 h).mono ?_
  rintro e w' ⟨rfl, hd⟩
  exact ⟨rfl, hd⟩

end Go.Proofs.Ytfladcffgblfdaa.PFnCrcMore
