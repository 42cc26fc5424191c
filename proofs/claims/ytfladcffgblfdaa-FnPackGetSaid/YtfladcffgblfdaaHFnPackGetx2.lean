/- What the functions that the law comes to compute, as plain functions, and that the machine's calls come to just that: written by a program for this claim, and turned where Lean did not take it. No condition. -/
import Derived.Test.YtfladcffgblfdaaHFnPackGetx0
import Derived.Test.YtfladcffgblfdaaHFnPackGetx1
namespace Go.Proofs.Ytfladcffgblfdaa.PFnPackGet
open Go.RowKit Go.Proofs.YtfladcffgblfdaaW.PrintWords Go.Proofs.YtfladcffgblfdaaW.PrintLast Go.Proofs.YtfladcffgblfdaaW.PrintMore
attribute [local go_sem] max2_int min2_int max_two min_two max_three min_three max_four min_four   -- for this text's walks alone
set_option linter.unusedVariables false
set_option linter.unusedSimpArgs false

/-! ### spec_l14Text: function 67 -/
mutual
def spec_l14Text.l0 : Nat → ByteArray → Int → List Int → Int → Option (ByteArray × Int)
  | 0, _, _, _, _ => none
  | k + 1, x3, x4, x1000, x1001 => if x4 > 0 then ((spec_l1Rd_pick.f k x1000 x1001 5).bind fun bt118 => (if bt118.1 = 0 then ((spec_l1Rd_of.f k x1000 bt118.2 (([(⟨#[97]⟩ : ByteArray), (⟨#[98]⟩ : ByteArray), (⟨#[0]⟩ : ByteArray), (⟨#[255]⟩ : ByteArray)] : List ByteArray))).bind fun bt123 => ((spec_l1Rd_pick.f k x1000 bt123.2 40).bind fun bt125 => ((spec_l1Many.f k bt123.1 bt125.1).bind fun t127 => (if x3.size + t127.size ≤ 9223372036854775807 then (spec_l14Text.l0 k (x3 ++ t127) (wrap64 (x4 - 1)) x1000 bt125.2) else (none))))) else (if bt118.1 = 1 then (if x3.size + 25 ≤ 9223372036854775807 then (spec_l14Text.l0 k (x3 ++ (⟨#[97, 32, 116, 101, 120, 116, 32, 116, 104, 97, 116, 32, 99, 111, 109, 101, 115, 32, 97, 103, 97, 105, 110, 44, 32]⟩ : ByteArray)) (wrap64 (x4 - 1)) x1000 bt118.2) else (none)) else (if bt118.1 = 2 then ((spec_l1Rd_pick.f k x1000 bt118.2 12).bind fun bt128 => (spec_l14Text.l1 k x3 x4 bt128.1 x1000 bt128.2)) else ((spec_l1Rd_of.f k x1000 bt118.2 (([(⟨#[120]⟩ : ByteArray), (⟨#[97, 98, 99]⟩ : ByteArray), (⟨#[97, 98, 99, 97, 98, 99, 97, 98, 99, 100]⟩ : ByteArray), (⟨#[32]⟩ : ByteArray)] : List ByteArray))).bind fun bt138 => (if x3.size + bt138.1.size ≤ 9223372036854775807 then (spec_l14Text.l0 k (x3 ++ bt138.1) (wrap64 (x4 - 1)) x1000 bt138.2) else (none))))))) else (some (x3, x1001))
def spec_l14Text.l1 : Nat → ByteArray → Int → Int → List Int → Int → Option (ByteArray × Int)
  | 0, _, _, _, _, _ => none
  | k + 1, x3, x4, x5, x1000, x1001 => if x5 > 0 then ((spec_l1Rd_pick.f k x1000 x1001 256).bind fun bt130 => ((some (([(bt130.1) % 256] : List Int) : List Int)).bind fun y132 => (if x3.size + (strOfNums y132).size ≤ 9223372036854775807 then (spec_l14Text.l1 k (x3 ++ (strOfNums y132)) x4 (wrap64 (x5 - 1)) x1000 bt130.2) else (none)))) else (spec_l14Text.l0 k x3 (wrap64 (x4 - 1)) x1000 x1001)
end
def spec_l14Text.f (k : Nat) (s0_0 : List Int) (s0_1 : Int) : Option (ByteArray × Int) := (spec_l1Rd_pick.f k s0_0 s0_1 150).bind fun bt111 => (if bt111.1 = 0 then ((spec_l1Rd_pick.f k s0_0 bt111.2 2).bind fun bt113 => ((spec_l1Many.f k (⟨#[116]⟩ : ByteArray) (wrap64 (9000 + bt113.1))).bind fun t115 => (some (t115, bt113.2)))) else ((spec_l1Rd_pick.f k s0_0 bt111.2 7).bind fun bt116 => (spec_l14Text.l0 k (⟨#[]⟩ : ByteArray) bt116.1 s0_0 bt116.2)))
theorem spec_l14Text.mono_l : ∀ k, (∀ y0 y1 y2 y3, LeO (spec_l14Text.l0 k y0 y1 y2 y3) (spec_l14Text.l0 (k + 1) y0 y1 y2 y3)) ∧ (∀ y0 y1 y2 y3 y4, LeO (spec_l14Text.l1 k y0 y1 y2 y3 y4) (spec_l14Text.l1 (k + 1) y0 y1 y2 y3 y4))
  | 0 => ⟨fun _ _ _ _ r h => by simp [spec_l14Text.l0] at h, fun _ _ _ _ _ r h => by simp [spec_l14Text.l1] at h⟩
  | k + 1 => by
    obtain ⟨ih0, ih1⟩ := spec_l14Text.mono_l k
    refine ⟨?_, ?_⟩
    · intro y0 y1 y2 y3
      unfold spec_l14Text.l0
      repeat' first
      | (with_reducible exact ih0 _ _ _ _)
      | (with_reducible exact ih1 _ _ _ _ _)
      | (with_reducible exact spec_l1Many.mono _ _ _)
      | (with_reducible exact spec_l1Rd_of.mono _ _ _ _)
      | (with_reducible exact spec_l1Rd_pick.mono _ _ _ _)
      | (with_reducible exact LeO.refl _)
      | (with_reducible exact LeO.none _)
      | (with_reducible refine LeO.ite ?_ ?_)
      | (with_reducible refine LeO.bind ?_ (fun _ => ?_))
      | exact ih0 _ _ _ _
      | exact ih1 _ _ _ _ _
      | exact spec_l1Many.mono _ _ _
      | exact spec_l1Rd_of.mono _ _ _ _
      | exact spec_l1Rd_pick.mono _ _ _ _
      | exact LeO.none _
      | refine LeO.ite ?_ ?_
      | refine LeO.bind ?_ (fun _ => ?_)
    · intro y0 y1 y2 y3 y4
      unfold spec_l14Text.l1
      repeat' first
      | (with_reducible exact ih0 _ _ _ _)
      | (with_reducible exact ih1 _ _ _ _ _)
      | (with_reducible exact spec_l1Many.mono _ _ _)
      | (with_reducible exact spec_l1Rd_of.mono _ _ _ _)
      | (with_reducible exact spec_l1Rd_pick.mono _ _ _ _)
      | (with_reducible exact LeO.refl _)
      | (with_reducible exact LeO.none _)
      | (with_reducible refine LeO.ite ?_ ?_)
      | (with_reducible refine LeO.bind ?_ (fun _ => ?_))
      | exact ih0 _ _ _ _
      | exact ih1 _ _ _ _ _
      | exact spec_l1Many.mono _ _ _
      | exact spec_l1Rd_of.mono _ _ _ _
      | exact spec_l1Rd_pick.mono _ _ _ _
      | exact LeO.none _
      | refine LeO.ite ?_ ?_
      | refine LeO.bind ?_ (fun _ => ?_)
theorem spec_l14Text.mono : ∀ a0 a1 k, LeO (spec_l14Text.f k a0 a1) (spec_l14Text.f (k + 1) a0 a1) := by
  intro a0 a1 k
  obtain ⟨ih0, ih1⟩ := spec_l14Text.mono_l k
  unfold spec_l14Text.f
  repeat' first
      | (with_reducible exact ih0 _ _ _ _)
      | (with_reducible exact ih1 _ _ _ _ _)
      | (with_reducible exact spec_l1Many.mono _ _ _)
      | (with_reducible exact spec_l1Rd_of.mono _ _ _ _)
      | (with_reducible exact spec_l1Rd_pick.mono _ _ _ _)
      | (with_reducible exact LeO.refl _)
      | (with_reducible exact LeO.none _)
      | (with_reducible refine LeO.ite ?_ ?_)
      | (with_reducible refine LeO.bind ?_ (fun _ => ?_))
      | exact ih0 _ _ _ _
      | exact ih1 _ _ _ _ _
      | exact spec_l1Many.mono _ _ _
      | exact spec_l1Rd_of.mono _ _ _ _
      | exact spec_l1Rd_pick.mono _ _ _ _
      | exact LeO.none _
      | refine LeO.ite ?_ ?_
      | refine LeO.bind ?_ (fun _ => ?_)
set_option maxHeartbeats 8000000 in
set_option maxRecDepth 100000 in
theorem spec_l14Text.calls (k : Nat) (g : Nat) (s0_0 : List Int) (s0_1 : Int) (r1 : ByteArray) (r2 : Int) (w0 w : World) (hI : IsS93 w0 w g s0_0 s0_1) (hB : Below w0.heap.size w0 w) (h : spec_l14Text.f k s0_0 s0_1 = some (r1, r2)) :
    Calls Try.prog 67 #[.pointer (some ⟨g, 0, none⟩)] w fun e w' => e = .returned (.string r1) ∧ IsS93 w0 w' g s0_0 r2 ∧ Below w0.heap.size w0 w' ∧ KeepBut w w' g none := by
  have HI0 := Aside0.mk hI
  have HK := Aside0.mk (KeepBut.refl w g none)
  have HL := Aside0.mk hB.size
  clear hI
  have HW0 := Aside0.mk hB.size
  have HB := Aside0.mk hB
  clear hB
  have H : ((spec_l1Rd_pick.f k s0_0 s0_1 150).bind fun bt111 => (if bt111.1 = 0 then ((spec_l1Rd_pick.f k s0_0 bt111.2 2).bind fun bt113 => ((spec_l1Many.f k (⟨#[116]⟩ : ByteArray) (wrap64 (9000 + bt113.1))).bind fun t115 => (some (t115, bt113.2)))) else ((spec_l1Rd_pick.f k s0_0 bt111.2 7).bind fun bt116 => (spec_l14Text.l0 k (⟨#[]⟩ : ByteArray) bt116.1 s0_0 bt116.2)))) = some (r1, r2) := h
  clear h
  replace H := Option.bind_eq_some_iff.mp H
  obtain ⟨⟨t111, t112⟩, A20, H⟩ := H
  replace H : (if t111 = 0 then ((spec_l1Rd_pick.f k s0_0 t112 2).bind fun bt113 => ((spec_l1Many.f k (⟨#[116]⟩ : ByteArray) (wrap64 (9000 + bt113.1))).bind fun t115 => (some (t115, bt113.2)))) else ((spec_l1Rd_pick.f k s0_0 t112 7).bind fun bt116 => (spec_l14Text.l0 k (⟨#[]⟩ : ByteArray) bt116.1 s0_0 bt116.2))) = some (r1, r2) := H
  have A2 := Aside0.mk A20
  clear A20
  by_cases c3 : t111 = 0
  · rw [if_pos c3] at H
    have c3b0 : (t111 == 0) = true := beq_iff_eq.mpr c3
    have c3b1 : (t111 != 0) = false := bne_eq_false_iff_eq.mpr c3
    clear c3
    replace H := Option.bind_eq_some_iff.mp H
    obtain ⟨⟨t113, t114⟩, A40, H⟩ := H
    replace H : ((spec_l1Many.f k (⟨#[116]⟩ : ByteArray) (wrap64 (9000 + t113))).bind fun t115 => (some (t115, t114))) = some (r1, r2) := H
    have A4 := Aside0.mk A40
    clear A40
    replace H := Option.bind_eq_some_iff.mp H
    obtain ⟨t115, A50, H⟩ := H
    replace H : (some (t115, t114)) = some (r1, r2) := H
    have A5 := Aside0.mk A50
    clear A50
    simp only [Option.some.injEq, Prod.mk.injEq] at H
    obtain ⟨rfl, rfl⟩ := H
    go_enter Try.func67, Try.ntmps67
    go_wp2_with (first | ((with_reducible refine gate_callee (f := 69) rfl ?_); refine goesL_ (some 7) rfl rfl Try.func69 (by kernel_rfl) rfl #[.pointer (some ⟨g, 0, none⟩), .int .i64 150] rfl (by (try simp only [List.map_toArray, List.map_cons, List.map_nil]); first | done | rfl | (simp only [List.length_drop, List.length_take]; rfl)) ?_; (with_reducible refine (spec_l1Rd_pick.calls k g s0_0 s0_1 150 t111 t112 w0 _ ?side1 ?side2 A2.out).mono ?_); (case side1 => repeat (first | (with_reducible first | exact HI0.out | apply IsS93.alloc | apply IsS93.drewN | apply IsS93.drew | apply IsS93.set_1) | exact HI0.out)); (case side2 => repeat (first | (with_reducible first | exact HB.out | apply below_alloc | apply pw_below_drewN | apply below_drew1 | refine below_set ?_ (IsS93.ge HI0.out)) | exact HB.out)); rintro e w6 ⟨rfl, hi, hb, hk⟩; refine ⟨_, rfl, ?_⟩; have n0_ := Aside0.mk (KeepBut.trans (by repeat (first | (with_reducible first | exact HK.out | apply KeepBut.set_ | apply keep_drewN | apply keep_drew | apply keep_alloc) | exact HK.out)) hk (.inl rfl)); have n1_ := Aside0.mk (hb); have n2_ := Aside0.mk (hi); clear HK; clear HB; clear HI0; have HK := n0_; have HB := n1_; have HI0 := n2_; clear n0_ n1_ n2_; (try clear hb); (try clear hb2); (try clear hk); (try clear hi)) | ((with_reducible refine gate_callee (f := 69) rfl ?_); refine goesL_ (some 10) rfl rfl Try.func69 (by kernel_rfl) rfl #[.pointer (some ⟨g, 0, none⟩), .int .i64 2] rfl (by (try simp only [List.map_toArray, List.map_cons, List.map_nil]); first | done | rfl | (simp only [List.length_drop, List.length_take]; rfl)) ?_; (with_reducible refine (spec_l1Rd_pick.calls k g s0_0 t112 2 t113 t114 w0 _ ?side1 ?side2 A4.out).mono ?_); (case side1 => repeat (first | (with_reducible first | exact HI0.out | apply IsS93.alloc | apply IsS93.drewN | apply IsS93.drew | apply IsS93.set_1) | exact HI0.out)); (case side2 => repeat (first | (with_reducible first | exact HB.out | apply below_alloc | apply pw_below_drewN | apply below_drew1 | refine below_set ?_ (IsS93.ge HI0.out)) | exact HB.out)); rintro e w7 ⟨rfl, hi, hb, hk⟩; refine ⟨_, rfl, ?_⟩; have n0_ := Aside0.mk (KeepBut.trans (by repeat (first | (with_reducible first | exact HK.out | apply KeepBut.set_ | apply keep_drewN | apply keep_drew | apply keep_alloc) | exact HK.out)) hk (.inl rfl)); have n1_ := Aside0.mk (hb); have n2_ := Aside0.mk (hi); clear HK; clear HB; clear HI0; have HK := n0_; have HB := n1_; have HI0 := n2_; clear n0_ n1_ n2_; (try clear hb); (try clear hb2); (try clear hk); (try clear hi)) | ((with_reducible refine gate_callee (f := 81) rfl ?_); refine goesL_ (some 12) rfl rfl Try.func81 (by kernel_rfl) rfl #[.string (⟨#[116]⟩ : ByteArray), .int .i64 (wrap64 (9000 + t113))] rfl (by (try simp only [List.map_toArray, List.map_cons, List.map_nil]); first | done | rfl | (simp only [List.length_drop, List.length_take]; rfl)) ?_; (with_reducible refine (spec_l1Many.calls k (⟨#[116]⟩ : ByteArray) (wrap64 (9000 + t113)) t115 _ A5.out).mono ?_); rintro e w' ⟨rfl, ⟨nd, rfl⟩⟩; refine ⟨_, rfl, ?_⟩))
    go_ret
    exact ⟨by first | rfl | (simp [errW_none, errW_some] <;> rfl) | (simp [*, errW_none, errW_some] <;> rfl), by repeat (first | (with_reducible first | exact HI0.out | apply IsS93.alloc | apply IsS93.drewN | apply IsS93.drew | apply IsS93.set_1) | exact HI0.out), by repeat (first | (with_reducible first | exact HB.out | apply below_alloc | apply pw_below_drewN | apply below_drew1 | refine below_set ?_ (IsS93.ge HI0.out)) | exact HB.out), by repeat (first | (with_reducible first | exact HK.out | apply KeepBut.set_ | apply keep_drewN | apply keep_drew | apply keep_alloc) | exact HK.out)⟩
  · rw [if_neg c3] at H
    have c3b0 : (t111 == 0) = false := beq_eq_false_iff_ne.mpr c3
    have c3b1 : (t111 != 0) = true := bne_iff_ne.mpr c3
    replace H := Option.bind_eq_some_iff.mp H
    obtain ⟨⟨t116, t117⟩, A80, H⟩ := H
    replace H : (spec_l14Text.l0 k (⟨#[]⟩ : ByteArray) t116 s0_0 t117) = some (r1, r2) := H
    have A8 := Aside0.mk A80
    clear A80
    have H' := Aside0.mk H
    clear H
    go_enter Try.func67, Try.ntmps67
    go_wp2_with (first | ((with_reducible refine gate_callee (f := 69) rfl ?_); refine goesL_ (some 7) rfl rfl Try.func69 (by kernel_rfl) rfl #[.pointer (some ⟨g, 0, none⟩), .int .i64 150] rfl (by (try simp only [List.map_toArray, List.map_cons, List.map_nil]); first | done | rfl | (simp only [List.length_drop, List.length_take]; rfl)) ?_; (with_reducible refine (spec_l1Rd_pick.calls k g s0_0 s0_1 150 t111 t112 w0 _ ?side1 ?side2 A2.out).mono ?_); (case side1 => repeat (first | (with_reducible first | exact HI0.out | apply IsS93.alloc | apply IsS93.drewN | apply IsS93.drew | apply IsS93.set_1) | exact HI0.out)); (case side2 => repeat (first | (with_reducible first | exact HB.out | apply below_alloc | apply pw_below_drewN | apply below_drew1 | refine below_set ?_ (IsS93.ge HI0.out)) | exact HB.out)); rintro e w9 ⟨rfl, hi, hb, hk⟩; refine ⟨_, rfl, ?_⟩; have n0_ := Aside0.mk (KeepBut.trans (by repeat (first | (with_reducible first | exact HK.out | apply KeepBut.set_ | apply keep_drewN | apply keep_drew | apply keep_alloc) | exact HK.out)) hk (.inl rfl)); have n1_ := Aside0.mk (hb); have n2_ := Aside0.mk (hi); clear HK; clear HB; clear HI0; have HK := n0_; have HB := n1_; have HI0 := n2_; clear n0_ n1_ n2_; (try clear hb); (try clear hb2); (try clear hk); (try clear hi)) | ((with_reducible refine gate_callee (f := 69) rfl ?_); refine goesL_ (some 14) rfl rfl Try.func69 (by kernel_rfl) rfl #[.pointer (some ⟨g, 0, none⟩), .int .i64 7] rfl (by (try simp only [List.map_toArray, List.map_cons, List.map_nil]); first | done | rfl | (simp only [List.length_drop, List.length_take]; rfl)) ?_; (with_reducible refine (spec_l1Rd_pick.calls k g s0_0 t112 7 t116 t117 w0 _ ?side1 ?side2 A8.out).mono ?_); (case side1 => repeat (first | (with_reducible first | exact HI0.out | apply IsS93.alloc | apply IsS93.drewN | apply IsS93.drew | apply IsS93.set_1) | exact HI0.out)); (case side2 => repeat (first | (with_reducible first | exact HB.out | apply below_alloc | apply pw_below_drewN | apply below_drew1 | refine below_set ?_ (IsS93.ge HI0.out)) | exact HB.out)); rintro e w10 ⟨rfl, hi, hb, hk⟩; refine ⟨_, rfl, ?_⟩; have n0_ := Aside0.mk (KeepBut.trans (by repeat (first | (with_reducible first | exact HK.out | apply KeepBut.set_ | apply keep_drewN | apply keep_drew | apply keep_alloc) | exact HK.out)) hk (.inl rfl)); have n1_ := Aside0.mk (hb); have n2_ := Aside0.mk (hi); clear HK; clear HB; clear HI0; have HK := n0_; have HB := n1_; have HI0 := n2_; clear n0_ n1_ n2_; (try clear hb); (try clear hb2); (try clear hk); (try clear hi)))
    go_loopg [3, 4] k (fun kq v3 v4 w' => ∃ (x3_1 : ByteArray) (x4_1 : Int) (x1001_1 : Int), v3 = .string x3_1 ∧ v4 = .int .i64 x4_1 ∧ Aside0 (spec_l14Text.l0 kq x3_1 x4_1 s0_0 x1001_1 = some (r1, r2)) ∧ Aside0 (kq ≤ k) ∧ Aside0 (IsS93 w0 w' g s0_0 x1001_1) ∧ Aside0 (KeepBut w w' g none) ∧ Aside0 (Below w0.heap.size w0 w'))
    case atStart => exact ⟨((⟨#[]⟩ : ByteArray)), (t116), (t117), (by first | rfl | (simp; done) | (simp [*]; done)), (by first | rfl | (simp; done) | (simp [*]; done)), H', ⟨Nat.le_refl _⟩, ⟨by repeat (first | (with_reducible first | exact HI0.out | apply IsS93.alloc | apply IsS93.drewN | apply IsS93.drew | apply IsS93.set_1) | exact HI0.out)⟩, ⟨by repeat (first | (with_reducible first | exact HK.out | apply KeepBut.set_ | apply keep_drewN | apply keep_drew | apply keep_alloc) | exact HK.out)⟩, ⟨by repeat (first | (with_reducible first | exact HB.out | apply below_alloc | apply pw_below_drewN | apply below_drew1 | refine below_set ?_ (IsS93.ge HI0.out)) | exact HB.out)⟩⟩
    case round =>
      clear H'
      try clear p2
      try clear c3
      try clear c3b0
      try clear c3b1
      try clear c6
      try clear p6
      try clear c8
      obtain ⟨x3_1, x4_1, x1001_1, rfl, rfl, HA, HK1, HI0, HK, HB⟩ := hrel
      cases gk with
      | zero => exact absurd HA.out (by simp [spec_l14Text.l0])
      | succ k1 =>
        have H := HA.out
        clear HA
        simp only [spec_l14Text.l0] at H
        by_cases c11 : x4_1 > 0
        · rw [if_pos c11] at H
          have c11b0 : decide (0 < x4_1) = true := decide_eq_true c11
          clear c11
          replace H := Option.bind_eq_some_iff.mp H
          obtain ⟨⟨t118, t119⟩, A120, H⟩ := H
          replace H : (if t118 = 0 then ((spec_l1Rd_of.f k1 s0_0 t119 (([(⟨#[97]⟩ : ByteArray), (⟨#[98]⟩ : ByteArray), (⟨#[0]⟩ : ByteArray), (⟨#[255]⟩ : ByteArray)] : List ByteArray))).bind fun bt123 => ((spec_l1Rd_pick.f k1 s0_0 bt123.2 40).bind fun bt125 => ((spec_l1Many.f k1 bt123.1 bt125.1).bind fun t127 => (if x3_1.size + t127.size ≤ 9223372036854775807 then (spec_l14Text.l0 k1 (x3_1 ++ t127) (wrap64 (x4_1 - 1)) s0_0 bt125.2) else (none))))) else (if t118 = 1 then (if x3_1.size + 25 ≤ 9223372036854775807 then (spec_l14Text.l0 k1 (x3_1 ++ (⟨#[97, 32, 116, 101, 120, 116, 32, 116, 104, 97, 116, 32, 99, 111, 109, 101, 115, 32, 97, 103, 97, 105, 110, 44, 32]⟩ : ByteArray)) (wrap64 (x4_1 - 1)) s0_0 t119) else (none)) else (if t118 = 2 then ((spec_l1Rd_pick.f k1 s0_0 t119 12).bind fun bt128 => (spec_l14Text.l1 k1 x3_1 x4_1 bt128.1 s0_0 bt128.2)) else ((spec_l1Rd_of.f k1 s0_0 t119 (([(⟨#[120]⟩ : ByteArray), (⟨#[97, 98, 99]⟩ : ByteArray), (⟨#[97, 98, 99, 97, 98, 99, 97, 98, 99, 100]⟩ : ByteArray), (⟨#[32]⟩ : ByteArray)] : List ByteArray))).bind fun bt138 => (if x3_1.size + bt138.1.size ≤ 9223372036854775807 then (spec_l14Text.l0 k1 (x3_1 ++ bt138.1) (wrap64 (x4_1 - 1)) s0_0 bt138.2) else (none)))))) = some (r1, r2) := H
          have A12 := Aside0.mk A120
          clear A120
          by_cases c13 : t118 = 0
          · rw [if_pos c13] at H
            have c13b0 : (t118 == 0) = true := beq_iff_eq.mpr c13
            have c13b1 : (t118 != 0) = false := bne_eq_false_iff_eq.mpr c13
            clear c13
            obtain ⟨y120, hy120⟩ : ∃ y_ : List ByteArray, y_ = (([(⟨#[97]⟩ : ByteArray), (⟨#[98]⟩ : ByteArray), (⟨#[0]⟩ : ByteArray), (⟨#[255]⟩ : ByteArray)] : List ByteArray)) := ⟨_, rfl⟩
            replace H : ((spec_l1Rd_of.f k1 s0_0 t119 y120).bind fun bt123 => ((spec_l1Rd_pick.f k1 s0_0 bt123.2 40).bind fun bt125 => ((spec_l1Many.f k1 bt123.1 bt125.1).bind fun t127 => (if x3_1.size + t127.size ≤ 9223372036854775807 then (spec_l14Text.l0 k1 (x3_1 ++ t127) (wrap64 (x4_1 - 1)) s0_0 bt125.2) else (none))))) = some (r1, r2) := by first | (rw [hy120]; with_reducible exact H) | (have H2_ := (Option.bind_some _ _).symm.trans H; rw [hy120]; with_reducible exact H2_) | (have H2_ := (Option.bind_some _ _).symm.trans H; with_reducible exact H2_) | with_reducible exact H | (rw [hy120]; exact H) | exact H
            have Ny120 := Aside0.mk hy120
            clear hy120
            replace H := Option.bind_eq_some_iff.mp H
            obtain ⟨⟨t123, t124⟩, A140, H⟩ := H
            replace H : ((spec_l1Rd_pick.f k1 s0_0 t124 40).bind fun bt125 => ((spec_l1Many.f k1 t123 bt125.1).bind fun t127 => (if x3_1.size + t127.size ≤ 9223372036854775807 then (spec_l14Text.l0 k1 (x3_1 ++ t127) (wrap64 (x4_1 - 1)) s0_0 bt125.2) else (none)))) = some (r1, r2) := H
            have A14 := Aside0.mk A140
            clear A140
            replace H := Option.bind_eq_some_iff.mp H
            obtain ⟨⟨t125, t126⟩, A150, H⟩ := H
            replace H : ((spec_l1Many.f k1 t123 t125).bind fun t127 => (if x3_1.size + t127.size ≤ 9223372036854775807 then (spec_l14Text.l0 k1 (x3_1 ++ t127) (wrap64 (x4_1 - 1)) s0_0 t126) else (none))) = some (r1, r2) := H
            have A15 := Aside0.mk A150
            clear A150
            replace H := Option.bind_eq_some_iff.mp H
            obtain ⟨t127, A160, H⟩ := H
            replace H : (if x3_1.size + t127.size ≤ 9223372036854775807 then (spec_l14Text.l0 k1 (x3_1 ++ t127) (wrap64 (x4_1 - 1)) s0_0 t126) else (none)) = some (r1, r2) := H
            have A16 := Aside0.mk A160
            clear A160
            by_cases c17 : x3_1.size + t127.size ≤ 9223372036854775807
            · rw [if_pos c17] at H
              have c17b0 := eq_true c17
              have c17b1 : decide (x3_1.size + t127.size ≤ 9223372036854775807) = true := decide_eq_true c17
              try have c17b2 : (9223372036854775807 < x3_1.size + t127.size) = False := eq_false (Nat.not_lt.2 c17)
              have H' := Aside0.mk H
              clear H
              go_wp2_with (first | ((with_reducible refine gate_callee (f := 69) rfl ?_); refine goesL_ (some 20) rfl rfl Try.func69 (by kernel_rfl) rfl #[.pointer (some ⟨g, 0, none⟩), .int .i64 5] rfl (by (try simp only [List.map_toArray, List.map_cons, List.map_nil]); first | done | rfl | (simp only [List.length_drop, List.length_take]; rfl)) ?_; (with_reducible refine (spec_l1Rd_pick.calls k1 g s0_0 x1001_1 5 t118 t119 w0 _ ?side1 ?side2 A12.out).mono ?_); (case side1 => repeat (first | (with_reducible first | exact HI0.out | apply IsS93.alloc | apply IsS93.drewN | apply IsS93.drew | apply IsS93.set_1) | exact HI0.out)); (case side2 => repeat (first | (with_reducible first | exact HB.out | apply below_alloc | apply pw_below_drewN | apply below_drew1 | refine below_set ?_ (IsS93.ge HI0.out)) | exact HB.out)); rintro e w18 ⟨rfl, hi, hb, hk⟩; refine ⟨_, rfl, ?_⟩; have n0_ := Aside0.mk (KeepBut.trans (by repeat (first | (with_reducible first | exact HK.out | apply KeepBut.set_ | apply keep_drewN | apply keep_drew | apply keep_alloc) | exact HK.out)) hk (.inl rfl)); have n1_ := Aside0.mk (hb); have n2_ := Aside0.mk (hi); clear HK; clear HB; clear HI0; have HK := n0_; have HB := n1_; have HI0 := n2_; clear n0_ n1_ n2_; (try clear hb); (try clear hb2); (try clear hk); (try clear hi)) | ((with_reducible refine gate_dst (N := 30) rfl ?_); refine Kd.R_lit Kd.string _ 9 ?hg (N := 30) ?hd (xs := ([(⟨#[97]⟩ : ByteArray), (⟨#[98]⟩ : ByteArray), (⟨#[0]⟩ : ByteArray), (⟨#[255]⟩ : ByteArray)] : List ByteArray)) (inner := [.string (⟨#[97]⟩ : ByteArray), .string (⟨#[98]⟩ : ByteArray), .string (⟨#[0]⟩ : ByteArray), .string (⟨#[255]⟩ : ByteArray)]) (ok := fun _ => True) (okp := fun _ => True) ?hr ?hp (fun _ hk => hk) trivial (Below.refl _ _) (Nat.le_refl _) (by simp) ?_; (case hd => rfl); (case hg => rfl); (case hr => first | (go_simp; done) | (go_simp; rfl)); (case hp => exact (Reps.one (show Kd.M Kd.string _ _ _ (⟨#[97]⟩ : ByteArray) [.string (⟨#[97]⟩ : ByteArray)] from rfl) (Reps.one (show Kd.M Kd.string _ _ _ (⟨#[98]⟩ : ByteArray) [.string (⟨#[98]⟩ : ByteArray)] from rfl) (Reps.one (show Kd.M Kd.string _ _ _ (⟨#[0]⟩ : ByteArray) [.string (⟨#[0]⟩ : ByteArray)] from rfl) (Reps.one (show Kd.M Kd.string _ _ _ (⟨#[255]⟩ : ByteArray) [.string (⟨#[255]⟩ : ByteArray)] from rfl) (Reps.none _ _)))))); intro v121 w19 ho20 hb hg_ hnew_; clear hg_ hnew_; (first | rw [← Ny120.out] at ho20 | (simp only [Int.reduceToNat] at ho20; rw [← Ny120.out] at ho20)); have n0_ := Aside0.mk (Kd.R_lower ho20 (keep_size (w := w) (g := g) (row := none) (by repeat (first | (with_reducible first | exact HK.out | apply KeepBut.set_ | apply keep_drewN | apply keep_drew | apply keep_alloc) | exact HK.out)))); have n1_ := Aside0.mk (IsS93.below (by repeat (first | (with_reducible first | exact HI0.out | apply IsS93.alloc | apply IsS93.drewN | apply IsS93.drew | apply IsS93.set_1) | exact HI0.out)) hb); have n2_ := Aside0.mk (KeepBut.trans (by repeat (first | (with_reducible first | exact HK.out | apply KeepBut.set_ | apply keep_drewN | apply keep_drew | apply keep_alloc) | exact HK.out)) (KeepBut.of_below hb g none) (.inl rfl)); have n3_ := Aside0.mk (below_step (by repeat (first | (with_reducible first | exact HB.out | apply below_alloc | apply pw_below_drewN | apply below_drew1 | refine below_set ?_ (IsS93.ge HI0.out)) | exact HB.out)) hb); clear HI0; clear HK; clear HB; have HO122 := n0_; have HI0 := n1_; have HK := n2_; have HB := n3_; clear n0_ n1_ n2_ n3_; clear hb ho20; obtain ⟨Ao21, co21, eo21⟩ := Kd.R_slice HO122.out; subst eo21) | ((with_reducible refine gate_callee (f := 82) rfl ?_); refine goesL_ (some 31) rfl rfl Try.func82 (by kernel_rfl) rfl #[.pointer (some ⟨g, 0, none⟩), .slice Ao21 y120.length co21] rfl (by (try simp only [List.map_toArray, List.map_cons, List.map_nil]); first | done | rfl | (simp only [List.length_drop, List.length_take]; rfl)) ?_; (with_reducible refine (spec_l1Rd_of.calls k1 g s0_0 t119 _ _ y120 t123 t124 w0 _ ?side1 ?side2 ?side3 ?side4 ?side5 A14.out).mono ?_); (case side1 => repeat (first | (with_reducible first | exact HI0.out | apply IsS93.alloc | apply IsS93.drewN | apply IsS93.drew | apply IsS93.set_1) | exact HI0.out)); (case side2 => repeat (first | (with_reducible first | exact HB.out | apply below_alloc | apply pw_below_drewN | apply below_drew1 | refine below_set ?_ (IsS93.ge HI0.out)) | exact HB.out)); (case side3 => repeat (first | exact (Kd.R_reads' HO122.out).2.2 | (with_reducible refine Kd.C_alloc ?_ _) | (with_reducible refine Kd.C_drewN ?_ _) | (with_reducible refine Kd.C_drew ?_))); (case side4 => exact (Kd.R_reads' HO122.out).2.1); (case side5 => exact far_slice (IsS93.own_ne HI0.out HO122.out (by decide))); rintro e w22 ⟨rfl, hi, hb, hk⟩; refine ⟨_, rfl, ?_⟩; have n0_ := Aside0.mk (Kd.R_mono (Kd.R_keep (IsS93.apart (show IsS93 w0 _ g s0_0 t119 from by repeat (first | (with_reducible first | exact HI0.out | apply IsS93.alloc | apply IsS93.drewN | apply IsS93.drew | apply IsS93.set_1) | exact HI0.out)) (by (with_reducible repeat (first | apply Kd.R_alloc | apply Kd.R_drewN | apply Kd.R_drew)); exact HO122.out) (by decide)) hk (fun _ h => h.2)) (fun _ h => h.1)); have n1_ := Aside0.mk (KeepBut.trans (by repeat (first | (with_reducible first | exact HK.out | apply KeepBut.set_ | apply keep_drewN | apply keep_drew | apply keep_alloc) | exact HK.out)) hk (.inl rfl)); have n2_ := Aside0.mk (hb); have n3_ := Aside0.mk (hi); clear HO122; clear HK; clear HB; clear HI0; have HO122 := n0_; have HK := n1_; have HB := n2_; have HI0 := n3_; clear n0_ n1_ n2_ n3_; (try clear hb); (try clear hb2); (try clear hk); (try clear hi)) | ((with_reducible refine gate_callee (f := 69) rfl ?_); refine goesL_ (some 33) rfl rfl Try.func69 (by kernel_rfl) rfl #[.pointer (some ⟨g, 0, none⟩), .int .i64 40] rfl (by (try simp only [List.map_toArray, List.map_cons, List.map_nil]); first | done | rfl | (simp only [List.length_drop, List.length_take]; rfl)) ?_; (with_reducible refine (spec_l1Rd_pick.calls k1 g s0_0 t124 40 t125 t126 w0 _ ?side1 ?side2 A15.out).mono ?_); (case side1 => repeat (first | (with_reducible first | exact HI0.out | apply IsS93.alloc | apply IsS93.drewN | apply IsS93.drew | apply IsS93.set_1) | exact HI0.out)); (case side2 => repeat (first | (with_reducible first | exact HB.out | apply below_alloc | apply pw_below_drewN | apply below_drew1 | refine below_set ?_ (IsS93.ge HI0.out)) | exact HB.out)); rintro e w23 ⟨rfl, hi, hb, hk⟩; refine ⟨_, rfl, ?_⟩; have n0_ := Aside0.mk (Kd.R_mono (Kd.R_keep (IsS93.apart (show IsS93 w0 _ g s0_0 t124 from by repeat (first | (with_reducible first | exact HI0.out | apply IsS93.alloc | apply IsS93.drewN | apply IsS93.drew | apply IsS93.set_1) | exact HI0.out)) (by (with_reducible repeat (first | apply Kd.R_alloc | apply Kd.R_drewN | apply Kd.R_drew)); exact HO122.out) (by decide)) hk (fun _ h => h.2)) (fun _ h => h.1)); have n1_ := Aside0.mk (KeepBut.trans (by repeat (first | (with_reducible first | exact HK.out | apply KeepBut.set_ | apply keep_drewN | apply keep_drew | apply keep_alloc) | exact HK.out)) hk (.inl rfl)); have n2_ := Aside0.mk (hb); have n3_ := Aside0.mk (hi); clear HO122; clear HK; clear HB; clear HI0; have HO122 := n0_; have HK := n1_; have HB := n2_; have HI0 := n3_; clear n0_ n1_ n2_ n3_; (try clear hb); (try clear hb2); (try clear hk); (try clear hi)) | ((with_reducible refine gate_callee (f := 81) rfl ?_); refine goesL_ (some 34) rfl rfl Try.func81 (by kernel_rfl) rfl #[.string t123, .int .i64 t125] rfl (by (try simp only [List.map_toArray, List.map_cons, List.map_nil]); first | done | rfl | (simp only [List.length_drop, List.length_take]; rfl)) ?_; (with_reducible refine (spec_l1Many.calls k1 t123 t125 t127 _ A16.out).mono ?_); rintro e w' ⟨rfl, ⟨nd, rfl⟩⟩; refine ⟨_, rfl, ?_⟩))
              go_roundg k1
              case measure => have := HK1.out; omega
              case rel => exact ⟨(x3_1 ++ t127), (wrap64 (x4_1 - 1)), (t126), (by first | rfl | (simp; done) | (simp [*]; done)), (by first | rfl | (simp; done) | (simp [*]; done)), H', ⟨by have := HK1.out; omega⟩, ⟨by repeat (first | (with_reducible first | exact HI0.out | apply IsS93.alloc | apply IsS93.drewN | apply IsS93.drew | apply IsS93.set_1) | exact HI0.out)⟩, ⟨by repeat (first | (with_reducible first | exact HK.out | apply KeepBut.set_ | apply keep_drewN | apply keep_drew | apply keep_alloc) | exact HK.out)⟩, ⟨by repeat (first | (with_reducible first | exact HB.out | apply below_alloc | apply pw_below_drewN | apply below_drew1 | refine below_set ?_ (IsS93.ge HI0.out)) | exact HB.out)⟩⟩
            · rw [if_neg c17] at H
              exact absurd H (by simp)
          · rw [if_neg c13] at H
            have c13b0 : (t118 == 0) = false := beq_eq_false_iff_ne.mpr c13
            have c13b1 : (t118 != 0) = true := bne_iff_ne.mpr c13
            by_cases c24 : t118 = 1
            · rw [if_pos c24] at H
              have c24b0 : (t118 == 1) = true := beq_iff_eq.mpr c24
              have c24b1 : (t118 != 1) = false := bne_eq_false_iff_eq.mpr c24
              clear c24
              by_cases c25 : x3_1.size + 25 ≤ 9223372036854775807
              · rw [if_pos c25] at H
                have c25b0 := eq_true c25
                have c25b1 : decide (x3_1.size + 25 ≤ 9223372036854775807) = true := decide_eq_true c25
                try have c25b2 : (9223372036854775807 < x3_1.size + 25) = False := eq_false (Nat.not_lt.2 c25)
                have H' := Aside0.mk H
                clear H
                go_wp2_with (first | ((with_reducible refine gate_callee (f := 69) rfl ?_); refine goesL_ (some 20) rfl rfl Try.func69 (by kernel_rfl) rfl #[.pointer (some ⟨g, 0, none⟩), .int .i64 5] rfl (by (try simp only [List.map_toArray, List.map_cons, List.map_nil]); first | done | rfl | (simp only [List.length_drop, List.length_take]; rfl)) ?_; (with_reducible refine (spec_l1Rd_pick.calls k1 g s0_0 x1001_1 5 t118 t119 w0 _ ?side1 ?side2 A12.out).mono ?_); (case side1 => repeat (first | (with_reducible first | exact HI0.out | apply IsS93.alloc | apply IsS93.drewN | apply IsS93.drew | apply IsS93.set_1) | exact HI0.out)); (case side2 => repeat (first | (with_reducible first | exact HB.out | apply below_alloc | apply pw_below_drewN | apply below_drew1 | refine below_set ?_ (IsS93.ge HI0.out)) | exact HB.out)); rintro e w26 ⟨rfl, hi, hb, hk⟩; refine ⟨_, rfl, ?_⟩; have n0_ := Aside0.mk (KeepBut.trans (by repeat (first | (with_reducible first | exact HK.out | apply KeepBut.set_ | apply keep_drewN | apply keep_drew | apply keep_alloc) | exact HK.out)) hk (.inl rfl)); have n1_ := Aside0.mk (hb); have n2_ := Aside0.mk (hi); clear HK; clear HB; clear HI0; have HK := n0_; have HB := n1_; have HI0 := n2_; clear n0_ n1_ n2_; (try clear hb); (try clear hb2); (try clear hk); (try clear hi)))
                go_roundg k1
                case measure => have := HK1.out; omega
                case rel => exact ⟨(x3_1 ++ (⟨#[97, 32, 116, 101, 120, 116, 32, 116, 104, 97, 116, 32, 99, 111, 109, 101, 115, 32, 97, 103, 97, 105, 110, 44, 32]⟩ : ByteArray)), (wrap64 (x4_1 - 1)), (t119), (by first | rfl | (simp; done) | (simp [*]; done)), (by first | rfl | (simp; done) | (simp [*]; done)), H', ⟨by have := HK1.out; omega⟩, ⟨by repeat (first | (with_reducible first | exact HI0.out | apply IsS93.alloc | apply IsS93.drewN | apply IsS93.drew | apply IsS93.set_1) | exact HI0.out)⟩, ⟨by repeat (first | (with_reducible first | exact HK.out | apply KeepBut.set_ | apply keep_drewN | apply keep_drew | apply keep_alloc) | exact HK.out)⟩, ⟨by repeat (first | (with_reducible first | exact HB.out | apply below_alloc | apply pw_below_drewN | apply below_drew1 | refine below_set ?_ (IsS93.ge HI0.out)) | exact HB.out)⟩⟩
              · rw [if_neg c25] at H
                exact absurd H (by simp)
            · rw [if_neg c24] at H
              have c24b0 : (t118 == 1) = false := beq_eq_false_iff_ne.mpr c24
              have c24b1 : (t118 != 1) = true := bne_iff_ne.mpr c24
              by_cases c27 : t118 = 2
              · rw [if_pos c27] at H
                have c27b0 : (t118 == 2) = true := beq_iff_eq.mpr c27
                have c27b1 : (t118 != 2) = false := bne_eq_false_iff_eq.mpr c27
                clear c27
                replace H := Option.bind_eq_some_iff.mp H
                obtain ⟨⟨t128, t129⟩, A280, H⟩ := H
                replace H : (spec_l14Text.l1 k1 x3_1 x4_1 t128 s0_0 t129) = some (r1, r2) := H
                have A28 := Aside0.mk A280
                clear A280
                have H' := Aside0.mk H
                clear H
                go_wp2_with (first | ((with_reducible refine gate_callee (f := 69) rfl ?_); refine goesL_ (some 20) rfl rfl Try.func69 (by kernel_rfl) rfl #[.pointer (some ⟨g, 0, none⟩), .int .i64 5] rfl (by (try simp only [List.map_toArray, List.map_cons, List.map_nil]); first | done | rfl | (simp only [List.length_drop, List.length_take]; rfl)) ?_; (with_reducible refine (spec_l1Rd_pick.calls k1 g s0_0 x1001_1 5 t118 t119 w0 _ ?side1 ?side2 A12.out).mono ?_); (case side1 => repeat (first | (with_reducible first | exact HI0.out | apply IsS93.alloc | apply IsS93.drewN | apply IsS93.drew | apply IsS93.set_1) | exact HI0.out)); (case side2 => repeat (first | (with_reducible first | exact HB.out | apply below_alloc | apply pw_below_drewN | apply below_drew1 | refine below_set ?_ (IsS93.ge HI0.out)) | exact HB.out)); rintro e w29 ⟨rfl, hi, hb, hk⟩; refine ⟨_, rfl, ?_⟩; have n0_ := Aside0.mk (KeepBut.trans (by repeat (first | (with_reducible first | exact HK.out | apply KeepBut.set_ | apply keep_drewN | apply keep_drew | apply keep_alloc) | exact HK.out)) hk (.inl rfl)); have n1_ := Aside0.mk (hb); have n2_ := Aside0.mk (hi); clear HK; clear HB; clear HI0; have HK := n0_; have HB := n1_; have HI0 := n2_; clear n0_ n1_ n2_; (try clear hb); (try clear hb2); (try clear hk); (try clear hi)) | ((with_reducible refine gate_callee (f := 69) rfl ?_); refine goesL_ (some 43) rfl rfl Try.func69 (by kernel_rfl) rfl #[.pointer (some ⟨g, 0, none⟩), .int .i64 12] rfl (by (try simp only [List.map_toArray, List.map_cons, List.map_nil]); first | done | rfl | (simp only [List.length_drop, List.length_take]; rfl)) ?_; (with_reducible refine (spec_l1Rd_pick.calls k1 g s0_0 t119 12 t128 t129 w0 _ ?side1 ?side2 A28.out).mono ?_); (case side1 => repeat (first | (with_reducible first | exact HI0.out | apply IsS93.alloc | apply IsS93.drewN | apply IsS93.drew | apply IsS93.set_1) | exact HI0.out)); (case side2 => repeat (first | (with_reducible first | exact HB.out | apply below_alloc | apply pw_below_drewN | apply below_drew1 | refine below_set ?_ (IsS93.ge HI0.out)) | exact HB.out)); rintro e w30 ⟨rfl, hi, hb, hk⟩; refine ⟨_, rfl, ?_⟩; have n0_ := Aside0.mk (KeepBut.trans (by repeat (first | (with_reducible first | exact HK.out | apply KeepBut.set_ | apply keep_drewN | apply keep_drew | apply keep_alloc) | exact HK.out)) hk (.inl rfl)); have n1_ := Aside0.mk (hb); have n2_ := Aside0.mk (hi); clear HK; clear HB; clear HI0; have HK := n0_; have HB := n1_; have HI0 := n2_; clear n0_ n1_ n2_; (try clear hb); (try clear hb2); (try clear hk); (try clear hi)))
                go_loopg [3, 5] k1 (fun kq v3 v5 w' => ∃ (x3_2 : ByteArray) (x5_2 : Int) (x1001_2 : Int), v3 = .string x3_2 ∧ v5 = .int .i64 x5_2 ∧ Aside0 (spec_l14Text.l1 kq x3_2 x4_1 x5_2 s0_0 x1001_2 = some (r1, r2)) ∧ Aside0 (kq ≤ k1) ∧ Aside0 (IsS93 w0 w' g s0_0 x1001_2) ∧ Aside0 (KeepBut w w' g none) ∧ Aside0 (Below w0.heap.size w0 w'))
                case atStart => exact ⟨(x3_1), (t128), (t129), (by first | rfl | (simp; done) | (simp [*]; done)), (by first | rfl | (simp; done) | (simp [*]; done)), H', ⟨Nat.le_refl _⟩, ⟨by repeat (first | (with_reducible first | exact HI0.out | apply IsS93.alloc | apply IsS93.drewN | apply IsS93.drew | apply IsS93.set_1) | exact HI0.out)⟩, ⟨by repeat (first | (with_reducible first | exact HK.out | apply KeepBut.set_ | apply keep_drewN | apply keep_drew | apply keep_alloc) | exact HK.out)⟩, ⟨by repeat (first | (with_reducible first | exact HB.out | apply below_alloc | apply pw_below_drewN | apply below_drew1 | refine below_set ?_ (IsS93.ge HI0.out)) | exact HB.out)⟩⟩
                case round =>
                  clear H'
                  try clear c1
                  try clear c2
                  try clear p2
                  try clear c3
                  try clear c3b0
                  try clear c3b1
                  try clear c6
                  try clear p6
                  try clear c8
                  try clear c11
                  try clear c11b0
                  try clear c13
                  try clear c13b0
                  try clear c13b1
                  try clear c17
                  try clear c17b0
                  try clear c17b1
                  try clear c17b2
                  try clear c24
                  try clear c24b0
                  try clear c24b1
                  try clear c25
                  try clear c25b0
                  try clear c25b1
                  try clear c25b2
                  try clear c27
                  try clear c27b0
                  try clear c27b1
                  try clear p2
                  try clear p6
                  obtain ⟨x3_2, x5_2, x1001_2, rfl, rfl, HA, HK2, HI0, HK, HB⟩ := hrel
                  cases gk with
                  | zero => exact absurd HA.out (by simp [spec_l14Text.l1])
                  | succ k2 =>
                    have H := HA.out
                    clear HA
                    simp only [spec_l14Text.l1] at H
                    by_cases c31 : x5_2 > 0
                    · rw [if_pos c31] at H
                      have c31b0 : decide (0 < x5_2) = true := decide_eq_true c31
                      clear c31
                      replace H := Option.bind_eq_some_iff.mp H
                      obtain ⟨⟨t130, t131⟩, A320, H⟩ := H
                      replace H : ((some (([(t130) % 256] : List Int) : List Int)).bind fun y132 => (if x3_2.size + (strOfNums y132).size ≤ 9223372036854775807 then (spec_l14Text.l1 k2 (x3_2 ++ (strOfNums y132)) x4_1 (wrap64 (x5_2 - 1)) s0_0 t131) else (none))) = some (r1, r2) := H
                      have A32 := Aside0.mk A320
                      clear A320
                      obtain ⟨y132, hy132⟩ : ∃ y_ : List Int, y_ = (([(t130) % 256] : List Int)) := ⟨_, rfl⟩
                      replace H : (if x3_2.size + (strOfNums y132).size ≤ 9223372036854775807 then (spec_l14Text.l1 k2 (x3_2 ++ (strOfNums y132)) x4_1 (wrap64 (x5_2 - 1)) s0_0 t131) else (none)) = some (r1, r2) := by first | (rw [hy132]; with_reducible exact H) | (have H2_ := (Option.bind_some _ _).symm.trans H; rw [hy132]; with_reducible exact H2_) | (have H2_ := (Option.bind_some _ _).symm.trans H; with_reducible exact H2_) | with_reducible exact H | (rw [hy132]; exact H) | exact H
                      have Ny132 := Aside0.mk hy132
                      clear hy132
                      by_cases c33 : x3_2.size + (strOfNums y132).size ≤ 9223372036854775807
                      · rw [if_pos c33] at H
                        have c33b0 := eq_true c33
                        have c33b1 : decide (x3_2.size + (strOfNums y132).size ≤ 9223372036854775807) = true := decide_eq_true c33
                        try have c33b2 : (9223372036854775807 < x3_2.size + (strOfNums y132).size) = False := eq_false (Nat.not_lt.2 c33)
                        have H' := Aside0.mk H
                        clear H
                        go_wp2_with (first | ((with_reducible refine gate_callee (f := 69) rfl ?_); refine goesL_ (some 50) rfl rfl Try.func69 (by kernel_rfl) rfl #[.pointer (some ⟨g, 0, none⟩), .int .i64 256] rfl (by (try simp only [List.map_toArray, List.map_cons, List.map_nil]); first | done | rfl | (simp only [List.length_drop, List.length_take]; rfl)) ?_; (with_reducible refine (spec_l1Rd_pick.calls k2 g s0_0 x1001_2 256 t130 t131 w0 _ ?side1 ?side2 A32.out).mono ?_); (case side1 => repeat (first | (with_reducible first | exact HI0.out | apply IsS93.alloc | apply IsS93.drewN | apply IsS93.drew | apply IsS93.set_1) | exact HI0.out)); (case side2 => repeat (first | (with_reducible first | exact HB.out | apply below_alloc | apply pw_below_drewN | apply below_drew1 | refine below_set ?_ (IsS93.ge HI0.out)) | exact HB.out)); rintro e w34 ⟨rfl, hi, hb, hk⟩; refine ⟨_, rfl, ?_⟩; have n0_ := Aside0.mk (KeepBut.trans (by repeat (first | (with_reducible first | exact HK.out | apply KeepBut.set_ | apply keep_drewN | apply keep_drew | apply keep_alloc) | exact HK.out)) hk (.inl rfl)); have n1_ := Aside0.mk (hb); have n2_ := Aside0.mk (hi); clear HK; clear HB; clear HI0; have HK := n0_; have HB := n1_; have HI0 := n2_; clear n0_ n1_ n2_; (try clear hb); (try clear hb2); (try clear hk); (try clear hi)) | ((with_reducible refine gate_dst (N := 52) rfl ?_); refine Kd.R_lit (Kd.int .u8) _ 5 ?hg (N := 52) ?hd (xs := ([(t130) % 256] : List Int)) (inner := [.int .u8 ((t130) % 256)]) (ok := fun _ => True) (okp := fun _ => True) ?hr ?hp (fun _ hk => hk) trivial (Below.refl _ _) (Nat.le_refl _) (by simp) ?_; (case hd => rfl); (case hg => rfl); (case hr => first | (go_simp; done) | (go_simp; rfl)); (case hp => exact (Reps.one (show Kd.M (Kd.int .u8) _ _ _ ((t130) % 256) [.int .u8 ((t130) % 256)] from rfl) (Reps.none _ _))); intro v133 w35 ho36 hb hg_ hnew_; clear hg_ hnew_; (first | rw [← Ny132.out] at ho36 | (simp only [Int.reduceToNat] at ho36; rw [← Ny132.out] at ho36)); have n0_ := Aside0.mk (Kd.R_lower ho36 (keep_size (w := w) (g := g) (row := none) (by repeat (first | (with_reducible first | exact HK.out | apply KeepBut.set_ | apply keep_drewN | apply keep_drew | apply keep_alloc) | exact HK.out)))); have n1_ := Aside0.mk (IsS93.below (by repeat (first | (with_reducible first | exact HI0.out | apply IsS93.alloc | apply IsS93.drewN | apply IsS93.drew | apply IsS93.set_1) | exact HI0.out)) hb); have n2_ := Aside0.mk (KeepBut.trans (by repeat (first | (with_reducible first | exact HK.out | apply KeepBut.set_ | apply keep_drewN | apply keep_drew | apply keep_alloc) | exact HK.out)) (KeepBut.of_below hb g none) (.inl rfl)); have n3_ := Aside0.mk (below_step (by repeat (first | (with_reducible first | exact HB.out | apply below_alloc | apply pw_below_drewN | apply below_drew1 | refine below_set ?_ (IsS93.ge HI0.out)) | exact HB.out)) hb); clear HI0; clear HK; clear HB; have HO134 := n0_; have HI0 := n1_; have HK := n2_; have HB := n3_; clear n0_ n1_ n2_ n3_; clear hb ho36; have hcv37 := own_string (P := Try.prog) Try.underlying22 Try.underlying5 Try.underlying9 (Kd.own_of_R HO134.out)))
                        go_roundg k2
                        case measure => have := HK1.out; have := HK2.out; omega
                        case rel => exact ⟨(x3_2 ++ (strOfNums y132)), (wrap64 (x5_2 - 1)), (t131), (by first | rfl | (simp; done) | (simp [*]; done)), (by first | rfl | (simp; done) | (simp [*]; done)), H', ⟨by have := HK1.out; have := HK2.out; omega⟩, ⟨by repeat (first | (with_reducible first | exact HI0.out | apply IsS93.alloc | apply IsS93.drewN | apply IsS93.drew | apply IsS93.set_1) | exact HI0.out)⟩, ⟨by repeat (first | (with_reducible first | exact HK.out | apply KeepBut.set_ | apply keep_drewN | apply keep_drew | apply keep_alloc) | exact HK.out)⟩, ⟨by repeat (first | (with_reducible first | exact HB.out | apply below_alloc | apply pw_below_drewN | apply below_drew1 | refine below_set ?_ (IsS93.ge HI0.out)) | exact HB.out)⟩⟩
                      · rw [if_neg c33] at H
                        exact absurd H (by simp)
                    · rw [if_neg c31] at H
                      have c31b0 : decide (0 < x5_2) = false := decide_eq_false c31
                      clear c31
                      have H' := Aside0.mk H
                      clear H
                      go_wp2
                      go_roundg k2
                      case measure => have := HK1.out; have := HK2.out; omega
                      case rel => exact ⟨(x3_2), (wrap64 (x4_1 - 1)), (x1001_2), (by first | rfl | (simp; done) | (simp [*]; done)), (by first | rfl | (simp; done) | (simp [*]; done)), H', ⟨by have := HK1.out; have := HK2.out; omega⟩, ⟨by repeat (first | (with_reducible first | exact HI0.out | apply IsS93.alloc | apply IsS93.drewN | apply IsS93.drew | apply IsS93.set_1) | exact HI0.out)⟩, ⟨by repeat (first | (with_reducible first | exact HK.out | apply KeepBut.set_ | apply keep_drewN | apply keep_drew | apply keep_alloc) | exact HK.out)⟩, ⟨by repeat (first | (with_reducible first | exact HB.out | apply below_alloc | apply pw_below_drewN | apply below_drew1 | refine below_set ?_ (IsS93.ge HI0.out)) | exact HB.out)⟩⟩
              · rw [if_neg c27] at H
                have c27b0 : (t118 == 2) = false := beq_eq_false_iff_ne.mpr c27
                have c27b1 : (t118 != 2) = true := bne_iff_ne.mpr c27
                obtain ⟨y135, hy135⟩ : ∃ y_ : List ByteArray, y_ = (([(⟨#[120]⟩ : ByteArray), (⟨#[97, 98, 99]⟩ : ByteArray), (⟨#[97, 98, 99, 97, 98, 99, 97, 98, 99, 100]⟩ : ByteArray), (⟨#[32]⟩ : ByteArray)] : List ByteArray)) := ⟨_, rfl⟩
                replace H : ((spec_l1Rd_of.f k1 s0_0 t119 y135).bind fun bt138 => (if x3_1.size + bt138.1.size ≤ 9223372036854775807 then (spec_l14Text.l0 k1 (x3_1 ++ bt138.1) (wrap64 (x4_1 - 1)) s0_0 bt138.2) else (none))) = some (r1, r2) := by first | (rw [hy135]; with_reducible exact H) | (have H2_ := (Option.bind_some _ _).symm.trans H; rw [hy135]; with_reducible exact H2_) | (have H2_ := (Option.bind_some _ _).symm.trans H; with_reducible exact H2_) | with_reducible exact H | (rw [hy135]; exact H) | exact H
                have Ny135 := Aside0.mk hy135
                clear hy135
                replace H := Option.bind_eq_some_iff.mp H
                obtain ⟨⟨t138, t139⟩, A380, H⟩ := H
                replace H : (if x3_1.size + t138.size ≤ 9223372036854775807 then (spec_l14Text.l0 k1 (x3_1 ++ t138) (wrap64 (x4_1 - 1)) s0_0 t139) else (none)) = some (r1, r2) := H
                have A38 := Aside0.mk A380
                clear A380
                by_cases c39 : x3_1.size + t138.size ≤ 9223372036854775807
                · rw [if_pos c39] at H
                  have c39b0 := eq_true c39
                  have c39b1 : decide (x3_1.size + t138.size ≤ 9223372036854775807) = true := decide_eq_true c39
                  try have c39b2 : (9223372036854775807 < x3_1.size + t138.size) = False := eq_false (Nat.not_lt.2 c39)
                  have H' := Aside0.mk H
                  clear H
                  go_wp2_with (first | ((with_reducible refine gate_callee (f := 69) rfl ?_); refine goesL_ (some 20) rfl rfl Try.func69 (by kernel_rfl) rfl #[.pointer (some ⟨g, 0, none⟩), .int .i64 5] rfl (by (try simp only [List.map_toArray, List.map_cons, List.map_nil]); first | done | rfl | (simp only [List.length_drop, List.length_take]; rfl)) ?_; (with_reducible refine (spec_l1Rd_pick.calls k1 g s0_0 x1001_1 5 t118 t119 w0 _ ?side1 ?side2 A12.out).mono ?_); (case side1 => repeat (first | (with_reducible first | exact HI0.out | apply IsS93.alloc | apply IsS93.drewN | apply IsS93.drew | apply IsS93.set_1) | exact HI0.out)); (case side2 => repeat (first | (with_reducible first | exact HB.out | apply below_alloc | apply pw_below_drewN | apply below_drew1 | refine below_set ?_ (IsS93.ge HI0.out)) | exact HB.out)); rintro e w40 ⟨rfl, hi, hb, hk⟩; refine ⟨_, rfl, ?_⟩; have n0_ := Aside0.mk (KeepBut.trans (by repeat (first | (with_reducible first | exact HK.out | apply KeepBut.set_ | apply keep_drewN | apply keep_drew | apply keep_alloc) | exact HK.out)) hk (.inl rfl)); have n1_ := Aside0.mk (hb); have n2_ := Aside0.mk (hi); clear HK; clear HB; clear HI0; have HK := n0_; have HB := n1_; have HI0 := n2_; clear n0_ n1_ n2_; (try clear hb); (try clear hb2); (try clear hk); (try clear hi)) | ((with_reducible refine gate_dst (N := 23) rfl ?_); refine Kd.R_lit Kd.string _ 9 ?hg (N := 23) ?hd (xs := ([(⟨#[120]⟩ : ByteArray), (⟨#[97, 98, 99]⟩ : ByteArray), (⟨#[97, 98, 99, 97, 98, 99, 97, 98, 99, 100]⟩ : ByteArray), (⟨#[32]⟩ : ByteArray)] : List ByteArray)) (inner := [.string (⟨#[120]⟩ : ByteArray), .string (⟨#[97, 98, 99]⟩ : ByteArray), .string (⟨#[97, 98, 99, 97, 98, 99, 97, 98, 99, 100]⟩ : ByteArray), .string (⟨#[32]⟩ : ByteArray)]) (ok := fun _ => True) (okp := fun _ => True) ?hr ?hp (fun _ hk => hk) trivial (Below.refl _ _) (Nat.le_refl _) (by simp) ?_; (case hd => rfl); (case hg => rfl); (case hr => first | (go_simp; done) | (go_simp; rfl)); (case hp => exact (Reps.one (show Kd.M Kd.string _ _ _ (⟨#[120]⟩ : ByteArray) [.string (⟨#[120]⟩ : ByteArray)] from rfl) (Reps.one (show Kd.M Kd.string _ _ _ (⟨#[97, 98, 99]⟩ : ByteArray) [.string (⟨#[97, 98, 99]⟩ : ByteArray)] from rfl) (Reps.one (show Kd.M Kd.string _ _ _ (⟨#[97, 98, 99, 97, 98, 99, 97, 98, 99, 100]⟩ : ByteArray) [.string (⟨#[97, 98, 99, 97, 98, 99, 97, 98, 99, 100]⟩ : ByteArray)] from rfl) (Reps.one (show Kd.M Kd.string _ _ _ (⟨#[32]⟩ : ByteArray) [.string (⟨#[32]⟩ : ByteArray)] from rfl) (Reps.none _ _)))))); intro v136 w41 ho42 hb hg_ hnew_; clear hg_ hnew_; (first | rw [← Ny135.out] at ho42 | (simp only [Int.reduceToNat] at ho42; rw [← Ny135.out] at ho42)); have n0_ := Aside0.mk (Kd.R_lower ho42 (keep_size (w := w) (g := g) (row := none) (by repeat (first | (with_reducible first | exact HK.out | apply KeepBut.set_ | apply keep_drewN | apply keep_drew | apply keep_alloc) | exact HK.out)))); have n1_ := Aside0.mk (IsS93.below (by repeat (first | (with_reducible first | exact HI0.out | apply IsS93.alloc | apply IsS93.drewN | apply IsS93.drew | apply IsS93.set_1) | exact HI0.out)) hb); have n2_ := Aside0.mk (KeepBut.trans (by repeat (first | (with_reducible first | exact HK.out | apply KeepBut.set_ | apply keep_drewN | apply keep_drew | apply keep_alloc) | exact HK.out)) (KeepBut.of_below hb g none) (.inl rfl)); have n3_ := Aside0.mk (below_step (by repeat (first | (with_reducible first | exact HB.out | apply below_alloc | apply pw_below_drewN | apply below_drew1 | refine below_set ?_ (IsS93.ge HI0.out)) | exact HB.out)) hb); clear HI0; clear HK; clear HB; have HO137 := n0_; have HI0 := n1_; have HK := n2_; have HB := n3_; clear n0_ n1_ n2_ n3_; clear hb ho42; obtain ⟨Ao43, co43, eo43⟩ := Kd.R_slice HO137.out; subst eo43) | ((with_reducible refine gate_callee (f := 82) rfl ?_); refine goesL_ (some 24) rfl rfl Try.func82 (by kernel_rfl) rfl #[.pointer (some ⟨g, 0, none⟩), .slice Ao43 y135.length co43] rfl (by (try simp only [List.map_toArray, List.map_cons, List.map_nil]); first | done | rfl | (simp only [List.length_drop, List.length_take]; rfl)) ?_; (with_reducible refine (spec_l1Rd_of.calls k1 g s0_0 t119 _ _ y135 t138 t139 w0 _ ?side1 ?side2 ?side3 ?side4 ?side5 A38.out).mono ?_); (case side1 => repeat (first | (with_reducible first | exact HI0.out | apply IsS93.alloc | apply IsS93.drewN | apply IsS93.drew | apply IsS93.set_1) | exact HI0.out)); (case side2 => repeat (first | (with_reducible first | exact HB.out | apply below_alloc | apply pw_below_drewN | apply below_drew1 | refine below_set ?_ (IsS93.ge HI0.out)) | exact HB.out)); (case side3 => repeat (first | exact (Kd.R_reads' HO137.out).2.2 | (with_reducible refine Kd.C_alloc ?_ _) | (with_reducible refine Kd.C_drewN ?_ _) | (with_reducible refine Kd.C_drew ?_))); (case side4 => exact (Kd.R_reads' HO137.out).2.1); (case side5 => exact far_slice (IsS93.own_ne HI0.out HO137.out (by decide))); rintro e w44 ⟨rfl, hi, hb, hk⟩; refine ⟨_, rfl, ?_⟩; have n0_ := Aside0.mk (Kd.R_mono (Kd.R_keep (IsS93.apart (show IsS93 w0 _ g s0_0 t119 from by repeat (first | (with_reducible first | exact HI0.out | apply IsS93.alloc | apply IsS93.drewN | apply IsS93.drew | apply IsS93.set_1) | exact HI0.out)) (by (with_reducible repeat (first | apply Kd.R_alloc | apply Kd.R_drewN | apply Kd.R_drew)); exact HO137.out) (by decide)) hk (fun _ h => h.2)) (fun _ h => h.1)); have n1_ := Aside0.mk (KeepBut.trans (by repeat (first | (with_reducible first | exact HK.out | apply KeepBut.set_ | apply keep_drewN | apply keep_drew | apply keep_alloc) | exact HK.out)) hk (.inl rfl)); have n2_ := Aside0.mk (hb); have n3_ := Aside0.mk (hi); clear HO137; clear HK; clear HB; clear HI0; have HO137 := n0_; have HK := n1_; have HB := n2_; have HI0 := n3_; clear n0_ n1_ n2_ n3_; (try clear hb); (try clear hb2); (try clear hk); (try clear hi)))
                  go_roundg k1
                  case measure => have := HK1.out; omega
                  case rel => exact ⟨(x3_1 ++ t138), (wrap64 (x4_1 - 1)), (t139), (by first | rfl | (simp; done) | (simp [*]; done)), (by first | rfl | (simp; done) | (simp [*]; done)), H', ⟨by have := HK1.out; omega⟩, ⟨by repeat (first | (with_reducible first | exact HI0.out | apply IsS93.alloc | apply IsS93.drewN | apply IsS93.drew | apply IsS93.set_1) | exact HI0.out)⟩, ⟨by repeat (first | (with_reducible first | exact HK.out | apply KeepBut.set_ | apply keep_drewN | apply keep_drew | apply keep_alloc) | exact HK.out)⟩, ⟨by repeat (first | (with_reducible first | exact HB.out | apply below_alloc | apply pw_below_drewN | apply below_drew1 | refine below_set ?_ (IsS93.ge HI0.out)) | exact HB.out)⟩⟩
                · rw [if_neg c39] at H
                  exact absurd H (by simp)
        · rw [if_neg c11] at H
          have c11b0 : decide (0 < x4_1) = false := decide_eq_false c11
          clear c11
          simp only [Option.some.injEq, Prod.mk.injEq] at H
          obtain ⟨rfl, rfl⟩ := H
          go_wp2
          go_ret
          exact ⟨by first | rfl | (simp [errW_none, errW_some] <;> rfl) | (simp [*, errW_none, errW_some] <;> rfl), by repeat (first | (with_reducible first | exact HI0.out | apply IsS93.alloc | apply IsS93.drewN | apply IsS93.drew | apply IsS93.set_1) | exact HI0.out), by repeat (first | (with_reducible first | exact HB.out | apply below_alloc | apply pw_below_drewN | apply below_drew1 | refine below_set ?_ (IsS93.ge HI0.out)) | exact HB.out), by repeat (first | (with_reducible first | exact HK.out | apply KeepBut.set_ | apply keep_drewN | apply keep_drew | apply keep_alloc) | exact HK.out)⟩

/-! ### spec_l1Open: function 68 -/
def spec_l1Open.f (l0 : List Int) : Option (List Int × Int) := if (l0.length : Int) > 2000 then (if 2000 ≤ (l0.length : Int) then (some (l0.take 2000, 0)) else (none)) else (some (l0, 0))
set_option maxHeartbeats 8000000 in
set_option maxRecDepth 100000 in
theorem spec_l1Open.calls (A0 : Option Addr) (c0 : Nat) (l0 : List Int) (r1 : List Int) (r2 : Int) (w0 w : World) (hB : Below w0.heap.size w0 w) (hr0 : Kd.C (Kd.int .u8) w0 A0 l0.length l0) (hc0 : l0.length ≤ c0) (h : spec_l1Open.f l0 = some (r1, r2)) :
    Calls Try.prog 68 #[.slice A0 l0.length c0] w fun e w' => ∃ g_ : Nat, e = .returned (.pointer (some ⟨g_, 0, none⟩)) ∧ IsS93 w0 w' g_ r1 r2 ∧ Below w0.heap.size w0 w' ∧ Below w.heap.size w w' := by
  have hu93 := Try.underlying93
  have HR0 := Aside0.mk hr0
  have HC0 := Aside0.mk hc0
  clear hr0 hc0
  have HBW := Aside0.mk (Below.refl w.heap.size w)
  have HW0 := Aside0.mk hB.size
  have HB := Aside0.mk hB
  clear hB
  have H : (if (l0.length : Int) > 2000 then (if 2000 ≤ (l0.length : Int) then (some (l0.take 2000, 0)) else (none)) else (some (l0, 0))) = some (r1, r2) := h
  clear h
  by_cases c2 : (l0.length : Int) > 2000
  · rw [if_pos c2] at H
    have c2b0 : decide (2000 < (l0.length : Int)) = true := decide_eq_true c2
    have c2b1 : decide (2000 < l0.length) = true := decide_eq_true (by omega)
    clear c2
    by_cases c3 : 2000 ≤ (l0.length : Int)
    · rw [if_pos c3] at H
      have c3b0 := eq_true c3
      have c3b1 : decide (2000 ≤ (l0.length : Int)) = true := decide_eq_true c3
      clear c3
      simp only [Option.some.injEq, Prod.mk.injEq] at H
      obtain ⟨rfl, rfl⟩ := H
      obtain ⟨i04, hi04, _, hsz4, _⟩ := info_parts info5
      obtain ⟨hcut4, hA4, hC4⟩ := print_take_of (P := Try.prog) (Value.int .u8) 0 22 5 .i64 Try.underlying22 hi04 hsz4 A0 c0 l0 2000 (by omega) (of_decide_eq_true (by first | (with_reducible assumption) | assumption)) HC0.out
      have HR140 := Aside0.mk (Kd.C_of_reads (h1 := fun _ => rfl) (hA4 _ (Kd.reads_of_C HR0.out)))
      have HC140 := Aside0.mk hC4
      clear hA4 hC4 hi04 hsz4
      go_enter Try.func68, Try.ntmps68
      go_wp2_with (first | ((with_reducible refine gate_dst (N := 10) rfl ?_); refine box_event ?hg (N := 10) ?hd (cs := #[.slice A0 (l0.take 2000).length c0, .int .i64 0]) (t := 93) ?hr ?_; (case hd => rfl); (case hg => rfl); (case hr => first | (go_simp; done) | (go_simp; rfl)); intro gb141 hg w5 hbox hb; have n0_ := Aside0.mk (below_step HBW.out hb); have n1_ := Aside0.mk (below_step (by repeat (first | (with_reducible first | exact HB.out | apply below_alloc | apply pw_below_drewN | apply below_drew1) | exact HB.out)) hb); have n2_ := Aside0.mk (hbox); have n3_ := Aside0.mk ((by rw [hg]; exact (below_size (by repeat (first | (with_reducible first | exact HBW.out | apply below_alloc | apply pw_below_drewN | apply below_drew1) | exact HBW.out))) : w.heap.size ≤ gb141)); have n4_ := Aside0.mk ((Nat.le_trans HW0.out (by rw [hg]; exact (below_size (by repeat (first | (with_reducible first | exact HBW.out | apply below_alloc | apply pw_below_drewN | apply below_drew1) | exact HBW.out))) : w.heap.size ≤ gb141) : w0.heap.size ≤ gb141)); clear HBW; clear HB; have HBW := n0_; have HB := n1_; have BK141 := n2_; have GW141 := n3_; have GE141 := n4_; clear n0_ n1_ n2_ n3_ n4_; clear hb hbox hg))
      go_ret
      exact ⟨_, rfl, (show IsS93 w0 _ gb141 (l0.take 2000) 0 from ⟨_, _, by (with_reducible repeat (first | refine blk_drewN ?_ _ | refine blk_drew ?_ | refine blk_alloc ?_ _)); exact BK141.out, GE141.out, HR140.out⟩), by repeat (first | (with_reducible first | exact HB.out | apply below_alloc | apply pw_below_drewN | apply below_drew1 | refine below_set ?_ GE141.out) | exact HB.out), by repeat (first | (with_reducible first | exact HBW.out | apply below_alloc | apply pw_below_drewN | apply below_drew1 | refine below_set ?_ GW141.out) | exact HBW.out)⟩
    · rw [if_neg c3] at H
      exact absurd H (by simp)
  · rw [if_neg c2] at H
    have c2b0 : decide (2000 < (l0.length : Int)) = false := decide_eq_false c2
    have c2b1 : decide (2000 < l0.length) = false := decide_eq_false (by omega)
    clear c2
    simp only [Option.some.injEq, Prod.mk.injEq] at H
    obtain ⟨rfl, rfl⟩ := H
    go_enter Try.func68, Try.ntmps68
    go_wp2_with (first | ((with_reducible refine gate_dst (N := 10) rfl ?_); refine box_event ?hg (N := 10) ?hd (cs := #[.slice A0 l0.length c0, .int .i64 0]) (t := 93) ?hr ?_; (case hd => rfl); (case hg => rfl); (case hr => first | (go_simp; done) | (go_simp; rfl)); intro gb142 hg w6 hbox hb; have n0_ := Aside0.mk (below_step HBW.out hb); have n1_ := Aside0.mk (below_step (by repeat (first | (with_reducible first | exact HB.out | apply below_alloc | apply pw_below_drewN | apply below_drew1) | exact HB.out)) hb); have n2_ := Aside0.mk (hbox); have n3_ := Aside0.mk ((by rw [hg]; exact (below_size (by repeat (first | (with_reducible first | exact HBW.out | apply below_alloc | apply pw_below_drewN | apply below_drew1) | exact HBW.out))) : w.heap.size ≤ gb142)); have n4_ := Aside0.mk ((Nat.le_trans HW0.out (by rw [hg]; exact (below_size (by repeat (first | (with_reducible first | exact HBW.out | apply below_alloc | apply pw_below_drewN | apply below_drew1) | exact HBW.out))) : w.heap.size ≤ gb142) : w0.heap.size ≤ gb142)); clear HBW; clear HB; have HBW := n0_; have HB := n1_; have BK142 := n2_; have GW142 := n3_; have GE142 := n4_; clear n0_ n1_ n2_ n3_ n4_; clear hb hbox hg))
    go_ret
    exact ⟨_, rfl, (show IsS93 w0 _ gb142 l0 0 from ⟨_, _, by (with_reducible repeat (first | refine blk_drewN ?_ _ | refine blk_drew ?_ | refine blk_alloc ?_ _)); exact BK142.out, GE142.out, HR0.out⟩), by repeat (first | (with_reducible first | exact HB.out | apply below_alloc | apply pw_below_drewN | apply below_drew1 | refine below_set ?_ GE142.out) | exact HB.out), by repeat (first | (with_reducible first | exact HBW.out | apply below_alloc | apply pw_below_drewN | apply below_drew1 | refine below_set ?_ GW142.out) | exact HBW.out)⟩

/-! ### spec_DrawPackPut: function 36 -/
def spec_DrawPackPut.f (k : Nat) (l0 : List Int) : Option (ByteArray) := (spec_l1Open.f l0).bind fun bt143 => ((spec_l1Rd_pick.f k bt143.1 bt143.2 8).bind fun bt146 => (if bt146.1 = 0 then ((spec_l1Rd_of.f k bt143.1 bt146.2 (([(⟨#[97]⟩ : ByteArray), (⟨#[97, 98]⟩ : ByteArray), (⟨#[97, 97, 98]⟩ : ByteArray), (⟨#[97, 98, 99, 100]⟩ : ByteArray)] : List ByteArray))).bind fun bt151 => ((spec_l1Rd_pick.f k bt143.1 bt151.2 90).bind fun bt153 => ((spec_l1Many.f k bt151.1 (wrap64 (100 + bt153.1))).bind fun t155 => (some t155)))) else ((spec_l14Text.f k bt143.1 bt146.2).bind fun bt156 => (some bt156.1))))
theorem spec_DrawPackPut.mono : ∀ a0 k, LeO (spec_DrawPackPut.f k a0) (spec_DrawPackPut.f (k + 1) a0) := by
  intro a0 k
  unfold spec_DrawPackPut.f
  repeat' first
      | (with_reducible exact spec_l14Text.mono _ _ _)
      | (with_reducible exact spec_l1Many.mono _ _ _)
      | (with_reducible exact spec_l1Rd_of.mono _ _ _ _)
      | (with_reducible exact spec_l1Rd_pick.mono _ _ _ _)
      | (with_reducible exact LeO.refl _)
      | (with_reducible exact LeO.none _)
      | (with_reducible refine LeO.ite ?_ ?_)
      | (with_reducible refine LeO.bind ?_ (fun _ => ?_))
      | exact spec_l14Text.mono _ _ _
      | exact spec_l1Many.mono _ _ _
      | exact spec_l1Rd_of.mono _ _ _ _
      | exact spec_l1Rd_pick.mono _ _ _ _
      | exact LeO.none _
      | refine LeO.ite ?_ ?_
      | refine LeO.bind ?_ (fun _ => ?_)
set_option maxHeartbeats 8000000 in
set_option maxRecDepth 100000 in
theorem spec_DrawPackPut.calls (k : Nat) (A0 : Option Addr) (c0 : Nat) (l0 : List Int) (r : ByteArray) (w : World) (hr0 : Kd.C (Kd.int .u8) w A0 l0.length l0) (hc0 : l0.length ≤ c0) (h : spec_DrawPackPut.f k l0 = some r) :
    Calls Try.prog 36 #[.slice A0 l0.length c0] w fun e w' => e = .returned (.string r) ∧ Below w.heap.size w w' := by
  have HR0 := Aside0.mk hr0
  have HC0 := Aside0.mk hc0
  clear hr0 hc0
  have HB := Aside0.mk (Below.refl w.heap.size w)
  have H : ((spec_l1Open.f l0).bind fun bt143 => ((spec_l1Rd_pick.f k bt143.1 bt143.2 8).bind fun bt146 => (if bt146.1 = 0 then ((spec_l1Rd_of.f k bt143.1 bt146.2 (([(⟨#[97]⟩ : ByteArray), (⟨#[97, 98]⟩ : ByteArray), (⟨#[97, 97, 98]⟩ : ByteArray), (⟨#[97, 98, 99, 100]⟩ : ByteArray)] : List ByteArray))).bind fun bt151 => ((spec_l1Rd_pick.f k bt143.1 bt151.2 90).bind fun bt153 => ((spec_l1Many.f k bt151.1 (wrap64 (100 + bt153.1))).bind fun t155 => (some t155)))) else ((spec_l14Text.f k bt143.1 bt146.2).bind fun bt156 => (some bt156.1))))) = some r := h
  clear h
  replace H := Option.bind_eq_some_iff.mp H
  obtain ⟨⟨t143, t144⟩, A20, H⟩ := H
  replace H : ((spec_l1Rd_pick.f k t143 t144 8).bind fun bt146 => (if bt146.1 = 0 then ((spec_l1Rd_of.f k t143 bt146.2 (([(⟨#[97]⟩ : ByteArray), (⟨#[97, 98]⟩ : ByteArray), (⟨#[97, 97, 98]⟩ : ByteArray), (⟨#[97, 98, 99, 100]⟩ : ByteArray)] : List ByteArray))).bind fun bt151 => ((spec_l1Rd_pick.f k t143 bt151.2 90).bind fun bt153 => ((spec_l1Many.f k bt151.1 (wrap64 (100 + bt153.1))).bind fun t155 => (some t155)))) else ((spec_l14Text.f k t143 bt146.2).bind fun bt156 => (some bt156.1)))) = some r := H
  have A2 := Aside0.mk A20
  clear A20
  replace H := Option.bind_eq_some_iff.mp H
  obtain ⟨⟨t146, t147⟩, A30, H⟩ := H
  replace H : (if t146 = 0 then ((spec_l1Rd_of.f k t143 t147 (([(⟨#[97]⟩ : ByteArray), (⟨#[97, 98]⟩ : ByteArray), (⟨#[97, 97, 98]⟩ : ByteArray), (⟨#[97, 98, 99, 100]⟩ : ByteArray)] : List ByteArray))).bind fun bt151 => ((spec_l1Rd_pick.f k t143 bt151.2 90).bind fun bt153 => ((spec_l1Many.f k bt151.1 (wrap64 (100 + bt153.1))).bind fun t155 => (some t155)))) else ((spec_l14Text.f k t143 t147).bind fun bt156 => (some bt156.1))) = some r := H
  have A3 := Aside0.mk A30
  clear A30
  by_cases c4 : t146 = 0
  · rw [if_pos c4] at H
    have c4b0 : (t146 == 0) = true := beq_iff_eq.mpr c4
    have c4b1 : (t146 != 0) = false := bne_eq_false_iff_eq.mpr c4
    clear c4
    obtain ⟨y148, hy148⟩ : ∃ y_ : List ByteArray, y_ = (([(⟨#[97]⟩ : ByteArray), (⟨#[97, 98]⟩ : ByteArray), (⟨#[97, 97, 98]⟩ : ByteArray), (⟨#[97, 98, 99, 100]⟩ : ByteArray)] : List ByteArray)) := ⟨_, rfl⟩
    replace H : ((spec_l1Rd_of.f k t143 t147 y148).bind fun bt151 => ((spec_l1Rd_pick.f k t143 bt151.2 90).bind fun bt153 => ((spec_l1Many.f k bt151.1 (wrap64 (100 + bt153.1))).bind fun t155 => (some t155)))) = some r := by first | (rw [hy148]; with_reducible exact H) | (have H2_ := (Option.bind_some _ _).symm.trans H; rw [hy148]; with_reducible exact H2_) | (have H2_ := (Option.bind_some _ _).symm.trans H; with_reducible exact H2_) | with_reducible exact H | (rw [hy148]; exact H) | exact H
    have Ny148 := Aside0.mk hy148
    clear hy148
    replace H := Option.bind_eq_some_iff.mp H
    obtain ⟨⟨t151, t152⟩, A50, H⟩ := H
    replace H : ((spec_l1Rd_pick.f k t143 t152 90).bind fun bt153 => ((spec_l1Many.f k t151 (wrap64 (100 + bt153.1))).bind fun t155 => (some t155))) = some r := H
    have A5 := Aside0.mk A50
    clear A50
    replace H := Option.bind_eq_some_iff.mp H
    obtain ⟨⟨t153, t154⟩, A60, H⟩ := H
    replace H : ((spec_l1Many.f k t151 (wrap64 (100 + t153))).bind fun t155 => (some t155)) = some r := H
    have A6 := Aside0.mk A60
    clear A60
    replace H := Option.bind_eq_some_iff.mp H
    obtain ⟨t155, A70, H⟩ := H
    replace H : (some t155) = some r := H
    have A7 := Aside0.mk A70
    clear A70
    obtain rfl := Option.some.inj H
    go_enter Try.func36, Try.ntmps36
    go_wp2_with (first | ((with_reducible refine gate_callee (f := 68) rfl ?_); refine goesL_ (some 5) rfl rfl Try.func68 (by kernel_rfl) rfl #[.slice A0 l0.length c0] rfl (by (try simp only [List.map_toArray, List.map_cons, List.map_nil]); first | done | rfl | (simp only [List.length_drop, List.length_take]; rfl)) ?_; (with_reducible refine (spec_l1Open.calls _ _ l0 t143 t144 w _ ?side1 ?side2 ?side3 A2.out).mono ?_); (case side1 => repeat (first | (with_reducible first | exact HB.out | apply below_alloc | apply pw_below_drewN | apply below_drew1) | exact HB.out)); (case side2 => exact HR0.out); (case side3 => exact HC0.out); rintro e w8 ⟨g145, rfl, hi, hb, hb2⟩; refine ⟨_, rfl, ?_⟩; have n0_ := Aside0.mk (hb); have n1_ := Aside0.mk (hi); clear HB; have HB := n0_; have HI145 := n1_; clear n0_ n1_; (try clear hb); (try clear hb2); (try clear hk); (try clear hi)) | ((with_reducible refine gate_callee (f := 69) rfl ?_); refine goesL_ (some 7) rfl rfl Try.func69 (by kernel_rfl) rfl #[.pointer (some ⟨g145, 0, none⟩), .int .i64 8] rfl (by (try simp only [List.map_toArray, List.map_cons, List.map_nil]); first | done | rfl | (simp only [List.length_drop, List.length_take]; rfl)) ?_; (with_reducible refine (spec_l1Rd_pick.calls k g145 t143 t144 8 t146 t147 w _ ?side1 ?side2 A3.out).mono ?_); (case side1 => repeat (first | (with_reducible first | exact HI145.out | apply IsS93.alloc | apply IsS93.drewN | apply IsS93.drew | apply IsS93.set_1) | exact HI145.out)); (case side2 => repeat (first | (with_reducible first | exact HB.out | apply below_alloc | apply pw_below_drewN | apply below_drew1 | refine below_set ?_ (IsS93.ge HI145.out)) | exact HB.out)); rintro e w9 ⟨rfl, hi, hb, hk⟩; refine ⟨_, rfl, ?_⟩; have n0_ := Aside0.mk (hb); have n1_ := Aside0.mk (hi); clear HB; clear HI145; have HB := n0_; have HI145 := n1_; clear n0_ n1_; (try clear hb); (try clear hb2); (try clear hk); (try clear hi)) | ((with_reducible refine gate_dst (N := 10) rfl ?_); refine Kd.R_lit Kd.string _ 9 ?hg (N := 10) ?hd (xs := ([(⟨#[97]⟩ : ByteArray), (⟨#[97, 98]⟩ : ByteArray), (⟨#[97, 97, 98]⟩ : ByteArray), (⟨#[97, 98, 99, 100]⟩ : ByteArray)] : List ByteArray)) (inner := [.string (⟨#[97]⟩ : ByteArray), .string (⟨#[97, 98]⟩ : ByteArray), .string (⟨#[97, 97, 98]⟩ : ByteArray), .string (⟨#[97, 98, 99, 100]⟩ : ByteArray)]) (ok := fun _ => True) (okp := fun _ => True) ?hr ?hp (fun _ hk => hk) trivial (Below.refl _ _) (Nat.le_refl _) (by simp) ?_; (case hd => rfl); (case hg => rfl); (case hr => first | (go_simp; done) | (go_simp; rfl)); (case hp => exact (Reps.one (show Kd.M Kd.string _ _ _ (⟨#[97]⟩ : ByteArray) [.string (⟨#[97]⟩ : ByteArray)] from rfl) (Reps.one (show Kd.M Kd.string _ _ _ (⟨#[97, 98]⟩ : ByteArray) [.string (⟨#[97, 98]⟩ : ByteArray)] from rfl) (Reps.one (show Kd.M Kd.string _ _ _ (⟨#[97, 97, 98]⟩ : ByteArray) [.string (⟨#[97, 97, 98]⟩ : ByteArray)] from rfl) (Reps.one (show Kd.M Kd.string _ _ _ (⟨#[97, 98, 99, 100]⟩ : ByteArray) [.string (⟨#[97, 98, 99, 100]⟩ : ByteArray)] from rfl) (Reps.none _ _)))))); intro v149 w10 ho11 hb hg_ hnew_; clear hg_ hnew_; (first | rw [← Ny148.out] at ho11 | (simp only [Int.reduceToNat] at ho11; rw [← Ny148.out] at ho11)); have n0_ := Aside0.mk (Kd.R_lower ho11 (below_size (by repeat (first | (with_reducible first | exact HB.out | apply below_alloc | apply pw_below_drewN | apply below_drew1 | refine below_set ?_ (IsS93.ge HI145.out)) | exact HB.out)))); have n1_ := Aside0.mk (IsS93.below (by repeat (first | (with_reducible first | exact HI145.out | apply IsS93.alloc | apply IsS93.drewN | apply IsS93.drew | apply IsS93.set_1) | exact HI145.out)) hb); have n2_ := Aside0.mk (below_step (by repeat (first | (with_reducible first | exact HB.out | apply below_alloc | apply pw_below_drewN | apply below_drew1 | refine below_set ?_ (IsS93.ge HI145.out)) | exact HB.out)) hb); clear HI145; clear HB; have HO150 := n0_; have HI145 := n1_; have HB := n2_; clear n0_ n1_ n2_; clear hb ho11; obtain ⟨Ao12, co12, eo12⟩ := Kd.R_slice HO150.out; subst eo12) | ((with_reducible refine gate_callee (f := 82) rfl ?_); refine goesL_ (some 11) rfl rfl Try.func82 (by kernel_rfl) rfl #[.pointer (some ⟨g145, 0, none⟩), .slice Ao12 y148.length co12] rfl (by (try simp only [List.map_toArray, List.map_cons, List.map_nil]); first | done | rfl | (simp only [List.length_drop, List.length_take]; rfl)) ?_; (with_reducible refine (spec_l1Rd_of.calls k g145 t143 t147 _ _ y148 t151 t152 w _ ?side1 ?side2 ?side3 ?side4 ?side5 A5.out).mono ?_); (case side1 => repeat (first | (with_reducible first | exact HI145.out | apply IsS93.alloc | apply IsS93.drewN | apply IsS93.drew | apply IsS93.set_1) | exact HI145.out)); (case side2 => repeat (first | (with_reducible first | exact HB.out | apply below_alloc | apply pw_below_drewN | apply below_drew1 | refine below_set ?_ (IsS93.ge HI145.out)) | exact HB.out)); (case side3 => repeat (first | exact (Kd.R_reads' HO150.out).2.2 | (with_reducible refine Kd.C_alloc ?_ _) | (with_reducible refine Kd.C_drewN ?_ _) | (with_reducible refine Kd.C_drew ?_))); (case side4 => exact (Kd.R_reads' HO150.out).2.1); (case side5 => exact far_slice (IsS93.own_ne HI145.out HO150.out (by decide))); rintro e w13 ⟨rfl, hi, hb, hk⟩; refine ⟨_, rfl, ?_⟩; have n0_ := Aside0.mk (Kd.R_mono (Kd.R_keep (IsS93.apart (show IsS93 w _ g145 t143 t147 from by repeat (first | (with_reducible first | exact HI145.out | apply IsS93.alloc | apply IsS93.drewN | apply IsS93.drew | apply IsS93.set_1) | exact HI145.out)) (by (with_reducible repeat (first | apply Kd.R_alloc | apply Kd.R_drewN | apply Kd.R_drew)); exact HO150.out) (by decide)) hk (fun _ h => h.2)) (fun _ h => h.1)); have n1_ := Aside0.mk (hb); have n2_ := Aside0.mk (hi); clear HO150; clear HB; clear HI145; have HO150 := n0_; have HB := n1_; have HI145 := n2_; clear n0_ n1_ n2_; (try clear hb); (try clear hb2); (try clear hk); (try clear hi)) | ((with_reducible refine gate_callee (f := 69) rfl ?_); refine goesL_ (some 13) rfl rfl Try.func69 (by kernel_rfl) rfl #[.pointer (some ⟨g145, 0, none⟩), .int .i64 90] rfl (by (try simp only [List.map_toArray, List.map_cons, List.map_nil]); first | done | rfl | (simp only [List.length_drop, List.length_take]; rfl)) ?_; (with_reducible refine (spec_l1Rd_pick.calls k g145 t143 t152 90 t153 t154 w _ ?side1 ?side2 A6.out).mono ?_); (case side1 => repeat (first | (with_reducible first | exact HI145.out | apply IsS93.alloc | apply IsS93.drewN | apply IsS93.drew | apply IsS93.set_1) | exact HI145.out)); (case side2 => repeat (first | (with_reducible first | exact HB.out | apply below_alloc | apply pw_below_drewN | apply below_drew1 | refine below_set ?_ (IsS93.ge HI145.out)) | exact HB.out)); rintro e w14 ⟨rfl, hi, hb, hk⟩; refine ⟨_, rfl, ?_⟩; have n0_ := Aside0.mk (Kd.R_mono (Kd.R_keep (IsS93.apart (show IsS93 w _ g145 t143 t152 from by repeat (first | (with_reducible first | exact HI145.out | apply IsS93.alloc | apply IsS93.drewN | apply IsS93.drew | apply IsS93.set_1) | exact HI145.out)) (by (with_reducible repeat (first | apply Kd.R_alloc | apply Kd.R_drewN | apply Kd.R_drew)); exact HO150.out) (by decide)) hk (fun _ h => h.2)) (fun _ h => h.1)); have n1_ := Aside0.mk (hb); have n2_ := Aside0.mk (hi); clear HO150; clear HB; clear HI145; have HO150 := n0_; have HB := n1_; have HI145 := n2_; clear n0_ n1_ n2_; (try clear hb); (try clear hb2); (try clear hk); (try clear hi)) | ((with_reducible refine gate_callee (f := 81) rfl ?_); refine goesL_ (some 15) rfl rfl Try.func81 (by kernel_rfl) rfl #[.string t151, .int .i64 (wrap64 (100 + t153))] rfl (by (try simp only [List.map_toArray, List.map_cons, List.map_nil]); first | done | rfl | (simp only [List.length_drop, List.length_take]; rfl)) ?_; (with_reducible refine (spec_l1Many.calls k t151 (wrap64 (100 + t153)) t155 _ A7.out).mono ?_); rintro e w' ⟨rfl, ⟨nd, rfl⟩⟩; refine ⟨_, rfl, ?_⟩))
    go_ret
    exact ⟨by first | rfl | (simp [errW_none, errW_some] <;> rfl) | (simp [*, errW_none, errW_some] <;> rfl), by repeat (first | (with_reducible first | exact HB.out | apply below_alloc | apply pw_below_drewN | apply below_drew1 | refine below_set ?_ (IsS93.ge HI145.out)) | exact HB.out)⟩
  · rw [if_neg c4] at H
    have c4b0 : (t146 == 0) = false := beq_eq_false_iff_ne.mpr c4
    have c4b1 : (t146 != 0) = true := bne_iff_ne.mpr c4
    replace H := Option.bind_eq_some_iff.mp H
    obtain ⟨⟨t156, t157⟩, A150, H⟩ := H
    replace H : (some t156) = some r := H
    have A15 := Aside0.mk A150
    clear A150
    obtain rfl := Option.some.inj H
    go_enter Try.func36, Try.ntmps36
    go_wp2_with (first | ((with_reducible refine gate_callee (f := 68) rfl ?_); refine goesL_ (some 5) rfl rfl Try.func68 (by kernel_rfl) rfl #[.slice A0 l0.length c0] rfl (by (try simp only [List.map_toArray, List.map_cons, List.map_nil]); first | done | rfl | (simp only [List.length_drop, List.length_take]; rfl)) ?_; (with_reducible refine (spec_l1Open.calls _ _ l0 t143 t144 w _ ?side1 ?side2 ?side3 A2.out).mono ?_); (case side1 => repeat (first | (with_reducible first | exact HB.out | apply below_alloc | apply pw_below_drewN | apply below_drew1) | exact HB.out)); (case side2 => exact HR0.out); (case side3 => exact HC0.out); rintro e w16 ⟨g145, rfl, hi, hb, hb2⟩; refine ⟨_, rfl, ?_⟩; have n0_ := Aside0.mk (hb); have n1_ := Aside0.mk (hi); clear HB; have HB := n0_; have HI145 := n1_; clear n0_ n1_; (try clear hb); (try clear hb2); (try clear hk); (try clear hi)) | ((with_reducible refine gate_callee (f := 69) rfl ?_); refine goesL_ (some 7) rfl rfl Try.func69 (by kernel_rfl) rfl #[.pointer (some ⟨g145, 0, none⟩), .int .i64 8] rfl (by (try simp only [List.map_toArray, List.map_cons, List.map_nil]); first | done | rfl | (simp only [List.length_drop, List.length_take]; rfl)) ?_; (with_reducible refine (spec_l1Rd_pick.calls k g145 t143 t144 8 t146 t147 w _ ?side1 ?side2 A3.out).mono ?_); (case side1 => repeat (first | (with_reducible first | exact HI145.out | apply IsS93.alloc | apply IsS93.drewN | apply IsS93.drew | apply IsS93.set_1) | exact HI145.out)); (case side2 => repeat (first | (with_reducible first | exact HB.out | apply below_alloc | apply pw_below_drewN | apply below_drew1 | refine below_set ?_ (IsS93.ge HI145.out)) | exact HB.out)); rintro e w17 ⟨rfl, hi, hb, hk⟩; refine ⟨_, rfl, ?_⟩; have n0_ := Aside0.mk (hb); have n1_ := Aside0.mk (hi); clear HB; clear HI145; have HB := n0_; have HI145 := n1_; clear n0_ n1_; (try clear hb); (try clear hb2); (try clear hk); (try clear hi)) | ((with_reducible refine gate_callee (f := 67) rfl ?_); refine goesL_ (some 17) rfl rfl Try.func67 (by kernel_rfl) rfl #[.pointer (some ⟨g145, 0, none⟩)] rfl (by (try simp only [List.map_toArray, List.map_cons, List.map_nil]); first | done | rfl | (simp only [List.length_drop, List.length_take]; rfl)) ?_; (with_reducible refine (spec_l14Text.calls k g145 t143 t147 t156 t157 w _ ?side1 ?side2 A15.out).mono ?_); (case side1 => repeat (first | (with_reducible first | exact HI145.out | apply IsS93.alloc | apply IsS93.drewN | apply IsS93.drew | apply IsS93.set_1) | exact HI145.out)); (case side2 => repeat (first | (with_reducible first | exact HB.out | apply below_alloc | apply pw_below_drewN | apply below_drew1 | refine below_set ?_ (IsS93.ge HI145.out)) | exact HB.out)); rintro e w18 ⟨rfl, hi, hb, hk⟩; refine ⟨_, rfl, ?_⟩; have n0_ := Aside0.mk (hb); have n1_ := Aside0.mk (hi); clear HB; clear HI145; have HB := n0_; have HI145 := n1_; clear n0_ n1_; (try clear hb); (try clear hb2); (try clear hk); (try clear hi)))
    go_ret
    exact ⟨by first | rfl | (simp [errW_none, errW_some] <;> rfl) | (simp [*, errW_none, errW_some] <;> rfl), by repeat (first | (with_reducible first | exact HB.out | apply below_alloc | apply pw_below_drewN | apply below_drew1 | refine below_set ?_ (IsS93.ge HI145.out)) | exact HB.out)⟩

/-! ### spec_l7Alike: function 84 -/
def spec_l7Alike.l0 : Nat → ByteArray → Int → Int → Int → Option (Int)
  | 0, _, _, _, _ => none
  | k + 1, x0, x1, x2, x7 => if x7 < x2 then (if (wrap64 (x1 + x7)) < (x0.size : Int) then (if 0 ≤ (wrap64 (x1 + x7)) then (if 0 ≤ x1 then (if x1 < (x0.size : Int) then (if (bt x0 (wrap64 (x1 + x7))) = (bt x0 x1) then (spec_l7Alike.l0 k x0 x1 x2 (wrap64 (x7 + 1))) else (some x7)) else (none)) else (none)) else (none)) else (some x7)) else (some x7)
def spec_l7Alike.f (k : Nat) (a0 : ByteArray) (a1 : Int) (a2 : Int) : Option (Int) := spec_l7Alike.l0 k a0 a1 a2 1
theorem spec_l7Alike.mono_l : ∀ k, (∀ y0 y1 y2 y3, LeO (spec_l7Alike.l0 k y0 y1 y2 y3) (spec_l7Alike.l0 (k + 1) y0 y1 y2 y3))
  | 0 => fun _ _ _ _ r h => by simp [spec_l7Alike.l0] at h
  | k + 1 => by
    have ih0 := spec_l7Alike.mono_l k
    · intro y0 y1 y2 y3
      unfold spec_l7Alike.l0
      repeat' first
      | (with_reducible exact ih0 _ _ _ _)
      | (with_reducible exact LeO.refl _)
      | (with_reducible exact LeO.none _)
      | (with_reducible refine LeO.ite ?_ ?_)
      | (with_reducible refine LeO.bind ?_ (fun _ => ?_))
      | exact ih0 _ _ _ _
      | exact LeO.none _
      | refine LeO.ite ?_ ?_
      | refine LeO.bind ?_ (fun _ => ?_)
theorem spec_l7Alike.mono : ∀ a0 a1 a2 k, LeO (spec_l7Alike.f k a0 a1 a2) (spec_l7Alike.f (k + 1) a0 a1 a2) := by
  intro a0 a1 a2 k
  have ih0 := spec_l7Alike.mono_l k
  unfold spec_l7Alike.f
  repeat' first
      | (with_reducible exact ih0 _ _ _ _)
      | (with_reducible exact LeO.refl _)
      | (with_reducible exact LeO.none _)
      | (with_reducible refine LeO.ite ?_ ?_)
      | (with_reducible refine LeO.bind ?_ (fun _ => ?_))
      | exact ih0 _ _ _ _
      | exact LeO.none _
      | refine LeO.ite ?_ ?_
      | refine LeO.bind ?_ (fun _ => ?_)
set_option maxHeartbeats 8000000 in
set_option maxRecDepth 100000 in
theorem spec_l7Alike.calls (k : Nat) (a0 : ByteArray) (a1 : Int) (a2 : Int) (r : Int) (w : World) (h : spec_l7Alike.f k a0 a1 a2 = some r) :
    Calls Try.prog 84 #[.string a0, .int .i64 a1, .int .i64 a2] w fun e w' => e = .returned (.int .i64 r) ∧ Drawn0 w w' := by
  have H : (spec_l7Alike.l0 k a0 a1 a2 1) = some r := h
  clear h
  have H' := Aside0.mk H
  clear H
  go_enter Try.func84, Try.ntmps84
  go_wp2
  repeat (go_quiet (fail); try go_wp2)
  go_loopg [7] k (fun kq v7 w' => ∃ (x7_1 : Int), v7 = .int .i64 x7_1 ∧ Aside0 (spec_l7Alike.l0 kq a0 a1 a2 x7_1 = some r) ∧ Aside0 (kq ≤ k) ∧ Drawn0 w w')
  case atStart => exact ⟨(1), (by first | rfl | (simp; done) | (simp [*]; done)), H', ⟨Nat.le_refl _⟩, by repeat (first | exact Drawn0.refl _ | apply Drawn0.step)⟩
  case round =>
    clear H'
    try clear p2
    obtain ⟨x7_1, rfl, HA, HK1, ⟨m1, rfl⟩⟩ := hrel
    cases gk with
    | zero => exact absurd HA.out (by simp [spec_l7Alike.l0])
    | succ k1 =>
      have H := HA.out
      clear HA
      simp only [spec_l7Alike.l0] at H
      by_cases c4 : x7_1 < a2
      · rw [if_pos c4] at H
        have c4b0 : decide (x7_1 < a2) = true := decide_eq_true c4
        clear c4
        by_cases c5 : (wrap64 (a1 + x7_1)) < (a0.size : Int)
        · rw [if_pos c5] at H
          have c5b0 : decide ((wrap64 (a1 + x7_1)) < (a0.size : Int)) = true := decide_eq_true c5
          clear c5
          obtain ⟨ji6, hji6⟩ : ∃ j_ : Int, (wrap64 (a1 + x7_1)) = j_ := ⟨_, rfl⟩
          replace H : (if 0 ≤ (ji6) then (if 0 ≤ a1 then (if a1 < (a0.size : Int) then (if (bt a0 (ji6)) = (bt a0 a1) then (spec_l7Alike.l0 k1 a0 a1 a2 (wrap64 (x7_1 + 1))) else (some x7_1)) else (none)) else (none)) else (none)) = some r := by first | (rw [hji6] at H; exact H) | (simp only [hji6] at H ⊢; exact H)
          (try rw [hji6] at c5b0)
          have hji6w : (IntKind.i64.wrap (a1 + x7_1)) = ji6 := (i64_w _).trans hji6
          by_cases c7 : 0 ≤ (ji6)
          · rw [if_pos c7] at H
            have c7b0 : decide (0 ≤ (ji6)) = true := decide_eq_true c7
            clear c7
            by_cases c9 : 0 ≤ a1
            · rw [if_pos c9] at H
              have c9b0 : decide (0 ≤ a1) = true := decide_eq_true c9
              clear c9
              by_cases c10 : a1 < (a0.size : Int)
              · rw [if_pos c10] at H
                have c10b0 : decide (a1 < (a0.size : Int)) = true := decide_eq_true c10
                clear c10
                by_cases c12 : (bt a0 (ji6)) = (bt a0 a1)
                · rw [if_pos c12] at H
                  have c12b0 : ((bt a0 (ji6)) == (bt a0 a1)) = true := beq_iff_eq.mpr c12
                  have c12b1 : ((bt a0 (ji6)) != (bt a0 a1)) = false := bne_eq_false_iff_eq.mpr c12
                  clear c12
                  have H' := Aside0.mk H
                  clear H
                  have p8 : 0 ≤ ((ji6) : Int) := of_decide_eq_true (by first | (with_reducible assumption) | assumption)
                  have q8 : (ji6) < (a0.size : Int) := of_decide_eq_true (by first | (with_reducible assumption) | assumption)
                  have hx8 := bt_at a0 (ji6)
                  replace p8 := eq_true p8
                  replace q8 := eq_true q8
                  have p11 : 0 ≤ (a1 : Int) := of_decide_eq_true (by first | (with_reducible assumption) | assumption)
                  have q11 : a1 < (a0.size : Int) := of_decide_eq_true (by first | (with_reducible assumption) | assumption)
                  have hx11 := bt_at a0 a1
                  replace p11 := eq_true p11
                  replace q11 := eq_true q11
                  go_wp2
                  repeat (go_quiet (fail); try go_wp2)
                  go_roundg k1
                  case measure => have := HK1.out; omega
                  case rel => exact ⟨(wrap64 (x7_1 + 1)), (by first | rfl | (simp; done) | (simp [*]; done)), H', ⟨by have := HK1.out; omega⟩, by repeat (first | exact Drawn0.refl _ | apply Drawn0.step)⟩
                · rw [if_neg c12] at H
                  have c12b0 : ((bt a0 (ji6)) == (bt a0 a1)) = false := beq_eq_false_iff_ne.mpr c12
                  have c12b1 : ((bt a0 (ji6)) != (bt a0 a1)) = true := bne_iff_ne.mpr c12
                  obtain rfl := Option.some.inj H
                  have p8 : 0 ≤ ((ji6) : Int) := of_decide_eq_true (by first | (with_reducible assumption) | assumption)
                  have q8 : (ji6) < (a0.size : Int) := of_decide_eq_true (by first | (with_reducible assumption) | assumption)
                  have hx8 := bt_at a0 (ji6)
                  replace p8 := eq_true p8
                  replace q8 := eq_true q8
                  have p11 : 0 ≤ (a1 : Int) := of_decide_eq_true (by first | (with_reducible assumption) | assumption)
                  have q11 : a1 < (a0.size : Int) := of_decide_eq_true (by first | (with_reducible assumption) | assumption)
                  have hx11 := bt_at a0 a1
                  replace p11 := eq_true p11
                  replace q11 := eq_true q11
                  go_wp2
                  repeat (go_quiet (fail); try go_wp2)
                  go_ret
                  exact ⟨by first | rfl | (simp; done) | (simp only [← hji6] <;> (first | rfl | simp)) | (simp [*]; done), by repeat (first | exact Drawn0.refl _ | apply Drawn0.step)⟩
              · rw [if_neg c10] at H
                exact absurd H (by simp)
            · rw [if_neg c9] at H
              exact absurd H (by simp)
          · rw [if_neg c7] at H
            exact absurd H (by simp)
        · rw [if_neg c5] at H
          have c5b0 : decide ((wrap64 (a1 + x7_1)) < (a0.size : Int)) = false := decide_eq_false c5
          clear c5
          obtain rfl := Option.some.inj H
          go_wp2
          repeat (go_quiet (fail); try go_wp2)
          go_ret
          exact ⟨by first | rfl | (simp; done) | (simp [*]; done), by repeat (first | exact Drawn0.refl _ | apply Drawn0.step)⟩
      · rw [if_neg c4] at H
        have c4b0 : decide (x7_1 < a2) = false := decide_eq_false c4
        clear c4
        obtain rfl := Option.some.inj H
        go_wp2
        repeat (go_quiet (fail); try go_wp2)
        go_ret
        exact ⟨by first | rfl | (simp; done) | (simp [*]; done), by repeat (first | exact Drawn0.refl _ | apply Drawn0.step)⟩

/-! ### spec_l7Fresh: function 85 -/
def spec_l7Fresh.l0 : Nat → ByteArray → Int → Int → Int → Option (Int)
  | 0, _, _, _, _ => none
  | k + 1, x0, x1, x2, x7 => if x7 < x2 then (if (wrap64 (x1 + x7)) < (x0.size : Int) then ((spec_l7Alike.f k x0 (wrap64 (x1 + x7)) 3).bind fun t158 => (if t158 < 3 then (spec_l7Fresh.l0 k x0 x1 x2 (wrap64 (x7 + 1))) else (some x7))) else (some x7)) else (some x7)
def spec_l7Fresh.f (k : Nat) (a0 : ByteArray) (a1 : Int) (a2 : Int) : Option (Int) := spec_l7Fresh.l0 k a0 a1 a2 1
theorem spec_l7Fresh.mono_l : ∀ k, (∀ y0 y1 y2 y3, LeO (spec_l7Fresh.l0 k y0 y1 y2 y3) (spec_l7Fresh.l0 (k + 1) y0 y1 y2 y3))
  | 0 => fun _ _ _ _ r h => by simp [spec_l7Fresh.l0] at h
  | k + 1 => by
    have ih0 := spec_l7Fresh.mono_l k
    · intro y0 y1 y2 y3
      unfold spec_l7Fresh.l0
      repeat' first
      | (with_reducible exact ih0 _ _ _ _)
      | (with_reducible exact spec_l7Alike.mono _ _ _ _)
      | (with_reducible exact LeO.refl _)
      | (with_reducible exact LeO.none _)
      | (with_reducible refine LeO.ite ?_ ?_)
      | (with_reducible refine LeO.bind ?_ (fun _ => ?_))
      | exact ih0 _ _ _ _
      | exact spec_l7Alike.mono _ _ _ _
      | exact LeO.none _
      | refine LeO.ite ?_ ?_
      | refine LeO.bind ?_ (fun _ => ?_)
theorem spec_l7Fresh.mono : ∀ a0 a1 a2 k, LeO (spec_l7Fresh.f k a0 a1 a2) (spec_l7Fresh.f (k + 1) a0 a1 a2) := by
  intro a0 a1 a2 k
  have ih0 := spec_l7Fresh.mono_l k
  unfold spec_l7Fresh.f
  repeat' first
      | (with_reducible exact ih0 _ _ _ _)
      | (with_reducible exact spec_l7Alike.mono _ _ _ _)
      | (with_reducible exact LeO.refl _)
      | (with_reducible exact LeO.none _)
      | (with_reducible refine LeO.ite ?_ ?_)
      | (with_reducible refine LeO.bind ?_ (fun _ => ?_))
      | exact ih0 _ _ _ _
      | exact spec_l7Alike.mono _ _ _ _
      | exact LeO.none _
      | refine LeO.ite ?_ ?_
      | refine LeO.bind ?_ (fun _ => ?_)
set_option maxHeartbeats 8000000 in
set_option maxRecDepth 100000 in
theorem spec_l7Fresh.calls (k : Nat) (a0 : ByteArray) (a1 : Int) (a2 : Int) (r : Int) (w : World) (h : spec_l7Fresh.f k a0 a1 a2 = some r) :
    Calls Try.prog 85 #[.string a0, .int .i64 a1, .int .i64 a2] w fun e w' => e = .returned (.int .i64 r) ∧ Drawn0 w w' := by
  have H : (spec_l7Fresh.l0 k a0 a1 a2 1) = some r := h
  clear h
  have H' := Aside0.mk H
  clear H
  go_enter Try.func85, Try.ntmps85
  go_wp2
  go_loopg [7] k (fun kq v7 w' => ∃ (x7_1 : Int), v7 = .int .i64 x7_1 ∧ Aside0 (spec_l7Fresh.l0 kq a0 a1 a2 x7_1 = some r) ∧ Aside0 (kq ≤ k) ∧ Drawn0 w w')
  case atStart => exact ⟨(1), (by first | rfl | (simp; done) | (simp [*]; done)), H', ⟨Nat.le_refl _⟩, by repeat (first | exact Drawn0.refl _ | apply Drawn0.step)⟩
  case round =>
    clear H'
    try clear p2
    obtain ⟨x7_1, rfl, HA, HK1, ⟨m1, rfl⟩⟩ := hrel
    cases gk with
    | zero => exact absurd HA.out (by simp [spec_l7Fresh.l0])
    | succ k1 =>
      have H := HA.out
      clear HA
      simp only [spec_l7Fresh.l0] at H
      by_cases c4 : x7_1 < a2
      · rw [if_pos c4] at H
        have c4b0 : decide (x7_1 < a2) = true := decide_eq_true c4
        clear c4
        by_cases c5 : (wrap64 (a1 + x7_1)) < (a0.size : Int)
        · rw [if_pos c5] at H
          have c5b0 : decide ((wrap64 (a1 + x7_1)) < (a0.size : Int)) = true := decide_eq_true c5
          clear c5
          replace H := Option.bind_eq_some_iff.mp H
          obtain ⟨t158, A60, H⟩ := H
          replace H : (if t158 < 3 then (spec_l7Fresh.l0 k1 a0 a1 a2 (wrap64 (x7_1 + 1))) else (some x7_1)) = some r := H
          have A6 := Aside0.mk A60
          clear A60
          by_cases c7 : t158 < 3
          · rw [if_pos c7] at H
            have c7b0 : decide (t158 < 3) = true := decide_eq_true c7
            clear c7
            have H' := Aside0.mk H
            clear H
            go_wp2_with (first | (go_at_call 84; (with_reducible refine (spec_l7Alike.calls k1 a0 (wrap64 (a1 + x7_1)) 3 t158 _ A6.out).mono ?_); rintro e w' ⟨rfl, ⟨nd, rfl⟩⟩))
            go_roundg k1
            case measure => have := HK1.out; omega
            case rel => exact ⟨(wrap64 (x7_1 + 1)), (by first | rfl | (simp; done) | (simp [*]; done)), H', ⟨by have := HK1.out; omega⟩, by repeat (first | exact Drawn0.refl _ | apply Drawn0.step)⟩
          · rw [if_neg c7] at H
            have c7b0 : decide (t158 < 3) = false := decide_eq_false c7
            clear c7
            obtain rfl := Option.some.inj H
            go_wp2_with (first | (go_at_call 84; (with_reducible refine (spec_l7Alike.calls k1 a0 (wrap64 (a1 + x7_1)) 3 t158 _ A6.out).mono ?_); rintro e w' ⟨rfl, ⟨nd, rfl⟩⟩))
            go_ret
            exact ⟨by first | rfl | (simp; done) | (simp [*]; done), by repeat (first | exact Drawn0.refl _ | apply Drawn0.step)⟩
        · rw [if_neg c5] at H
          have c5b0 : decide ((wrap64 (a1 + x7_1)) < (a0.size : Int)) = false := decide_eq_false c5
          clear c5
          obtain rfl := Option.some.inj H
          go_wp2
          go_ret
          exact ⟨by first | rfl | (simp; done) | (simp [*]; done), by repeat (first | exact Drawn0.refl _ | apply Drawn0.step)⟩
      · rw [if_neg c4] at H
        have c4b0 : decide (x7_1 < a2) = false := decide_eq_false c4
        clear c4
        obtain rfl := Option.some.inj H
        go_wp2
        go_ret
        exact ⟨by first | rfl | (simp; done) | (simp [*]; done), by repeat (first | exact Drawn0.refl _ | apply Drawn0.step)⟩

end Go.Proofs.Ytfladcffgblfdaa.PFnPackGet
