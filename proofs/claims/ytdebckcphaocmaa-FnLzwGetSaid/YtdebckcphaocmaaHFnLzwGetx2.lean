/- What the functions that the law comes to compute, as plain functions, and that the machine's calls come to just that: written by a program for this claim, and turned where Lean did not take it. No condition. -/
import Derived.Test.YtdebckcphaocmaaHFnLzwGetx0
import Derived.Test.YtdebckcphaocmaaHFnLzwGetx1
namespace Go.Proofs.Ytdebckcphaocmaa.PFnLzwGet
open Go.RowKit Go.Proofs.YtdebckcphaocmaaW.PrintWords Go.Proofs.YtdebckcphaocmaaW.PrintLast Go.Proofs.YtdebckcphaocmaaW.PrintMore
attribute [local go_sem] max2_int min2_int max_two min_two max_three min_three max_four min_four   -- for this text's walks alone
set_option linter.unusedVariables false
set_option linter.unusedSimpArgs false

/-! ### spec_l14Low: function 26 -/
def spec_l14Low.l0 : Nat → Int → ByteArray → ByteArray → Int → List Int → Int → Option (ByteArray × Int)
  | 0, _, _, _, _, _, _ => none
  | k + 1, x1, x5, x6, x7, x1000, x1001 => if x7 < (x5.size : Int) then (if 0 ≤ x7 then ((spec_l1Pow.f k x1).bind fun t141 => (if t141 = 0 then (none) else ((some (([(Int.tmod (wrap64 (bt x5 x7)) t141) % 256] : List Int) : List Int)).bind fun y142 => (if x6.size + (strOfNums y142).size ≤ 9223372036854775807 then (spec_l14Low.l0 k x1 x5 (x6 ++ (strOfNums y142)) (wrap64 (x7 + 1)) x1000 x1001) else (none))))) else (none)) else (some (x6, x1001))
def spec_l14Low.f (k : Nat) (s0_0 : List Int) (s0_1 : Int) (a1 : Int) : Option (ByteArray × Int) := (spec_l14Text.f k s0_0 s0_1).bind fun bt139 => (spec_l14Low.l0 k a1 bt139.1 (⟨#[]⟩ : ByteArray) 0 s0_0 bt139.2)
theorem spec_l14Low.mono_l : ∀ k, (∀ y0 y1 y2 y3 y4 y5, LeO (spec_l14Low.l0 k y0 y1 y2 y3 y4 y5) (spec_l14Low.l0 (k + 1) y0 y1 y2 y3 y4 y5))
  | 0 => fun _ _ _ _ _ _ r h => by simp [spec_l14Low.l0] at h
  | k + 1 => by
    have ih0 := spec_l14Low.mono_l k
    · intro y0 y1 y2 y3 y4 y5
      unfold spec_l14Low.l0
      repeat' first
      | (with_reducible exact ih0 _ _ _ _ _ _)
      | (with_reducible exact spec_l14Text.mono _ _ _)
      | (with_reducible exact spec_l1Pow.mono _ _)
      | (with_reducible exact LeO.refl _)
      | (with_reducible exact LeO.none _)
      | (with_reducible refine LeO.ite ?_ ?_)
      | (with_reducible refine LeO.bind ?_ (fun _ => ?_))
      | exact ih0 _ _ _ _ _ _
      | exact spec_l14Text.mono _ _ _
      | exact spec_l1Pow.mono _ _
      | exact LeO.none _
      | refine LeO.ite ?_ ?_
      | refine LeO.bind ?_ (fun _ => ?_)
theorem spec_l14Low.mono : ∀ a0 a1 a2 k, LeO (spec_l14Low.f k a0 a1 a2) (spec_l14Low.f (k + 1) a0 a1 a2) := by
  intro a0 a1 a2 k
  have ih0 := spec_l14Low.mono_l k
  unfold spec_l14Low.f
  repeat' first
      | (with_reducible exact ih0 _ _ _ _ _ _)
      | (with_reducible exact spec_l14Text.mono _ _ _)
      | (with_reducible exact spec_l1Pow.mono _ _)
      | (with_reducible exact LeO.refl _)
      | (with_reducible exact LeO.none _)
      | (with_reducible refine LeO.ite ?_ ?_)
      | (with_reducible refine LeO.bind ?_ (fun _ => ?_))
      | exact ih0 _ _ _ _ _ _
      | exact spec_l14Text.mono _ _ _
      | exact spec_l1Pow.mono _ _
      | exact LeO.none _
      | refine LeO.ite ?_ ?_
      | refine LeO.bind ?_ (fun _ => ?_)
def spec_l14Low.T6 : Bool × List (List Nat × List Nat) := (true, [([], []), ([], []), ([], []), ([1, 2], [1, 2]), ([3], [3]), ([], []), ([5], [5]), ([4, 6], [4, 6]), ([7], [7]), ([8], [8]), ([9], [9]), ([0, 10], [0, 10]), ([11, 6, 0, 1, 2, 3, 4, 5, 6, 7, 8, 9, 10, 11], [0, 11])])
def spec_l14Low.B6 : List Nat := [0, 0, 0, 6, 14, 0, 32, 126, 254, 510, 1022, 2047, 4095]
theorem spec_l14Low.tab6 : rtab .any (opsOf Try.f26 6) = spec_l14Low.T6 := by kernel_rfl
theorem spec_l14Low.bits6 : waitsOk spec_l14Low.T6.2 spec_l14Low.B6 = true := by kernel_rfl
set_option maxHeartbeats 8000000 in
set_option maxRecDepth 100000 in
theorem spec_l14Low.calls (k : Nat) (g : Nat) (s0_0 : List Int) (s0_1 : Int) (a1 : Int) (r1 : ByteArray) (r2 : Int) (w0 w : World) (hI : IsS58 w0 w g s0_0 s0_1) (hB : Below w0.heap.size w0 w) (h : spec_l14Low.f k s0_0 s0_1 a1 = some (r1, r2)) :
    Calls Try.prog 26 #[.pointer (some ⟨g, 0, none⟩), .int .i64 a1] w fun e w' => e = .returned (.string r1) ∧ IsS58 w0 w' g s0_0 r2 ∧ Below w0.heap.size w0 w' ∧ KeepBut w w' g none := by
  have HI0 := Aside0.mk hI
  have HK := Aside0.mk (KeepBut.refl w g none)
  have HL := Aside0.mk hB.size
  clear hI
  have HW0 := Aside0.mk hB.size
  have HB := Aside0.mk hB
  clear hB
  have H : ((spec_l14Text.f k s0_0 s0_1).bind fun bt139 => (spec_l14Low.l0 k a1 bt139.1 (⟨#[]⟩ : ByteArray) 0 s0_0 bt139.2)) = some (r1, r2) := h
  clear h
  replace H := Option.bind_eq_some_iff.mp H
  obtain ⟨⟨t139, t140⟩, A30, H⟩ := H
  replace H : (spec_l14Low.l0 k a1 t139 (⟨#[]⟩ : ByteArray) 0 s0_0 t140) = some (r1, r2) := H
  have A3 := Aside0.mk A30
  clear A30
  have H' := Aside0.mk H
  clear H
  go_enter Try.func26, Try.ntmps26
  go_wp2_with (first | ((with_reducible refine gate_callee (f := 20) rfl ?_); refine goesL_ (some 9) rfl rfl Try.func20 (by kernel_rfl) rfl #[.pointer (some ⟨g, 0, none⟩)] rfl (by (try simp only [List.map_toArray, List.map_cons, List.map_nil]); first | done | rfl | (simp only [List.length_drop, List.length_take]; rfl)) ?_; (with_reducible refine (spec_l14Text.calls k g s0_0 s0_1 t139 t140 w0 _ ?side1 ?side2 A3.out).mono ?_); (case side1 => repeat (first | (with_reducible first | exact HI0.out | apply IsS58.alloc | apply IsS58.drewN | apply IsS58.drew | apply IsS58.set_1) | exact HI0.out)); (case side2 => repeat (first | (with_reducible first | exact HB.out | apply below_alloc | apply pw_below_drewN | apply below_drew1 | refine below_set ?_ (IsS58.ge HI0.out)) | exact HB.out)); rintro e w4 ⟨rfl, hi, hb, hk⟩; refine ⟨_, rfl, ?_⟩; have n0_ := Aside0.mk (KeepBut.trans (by repeat (first | (with_reducible first | exact HK.out | apply KeepBut.set_ | apply keep_drewN | apply keep_drew | apply keep_alloc) | exact HK.out)) hk (.inl rfl)); have n1_ := Aside0.mk (hb); have n2_ := Aside0.mk (hi); clear HK; clear HB; clear HI0; have HK := n0_; have HB := n1_; have HI0 := n2_; clear n0_ n1_ n2_; (try clear hb); (try clear hb2); (try clear hk); (try clear hi)))
  go_loopg [6, 7] k (fun kq v6 v7 w' => ∃ (x6_1 : ByteArray) (x7_1 : Int), v6 = .string x6_1 ∧ v7 = .int .i64 x7_1 ∧ Aside0 (spec_l14Low.l0 kq a1 t139 x6_1 x7_1 s0_0 t140 = some (r1, r2)) ∧ Aside0 (kq ≤ k) ∧ Aside0 (IsS58 w0 w' g s0_0 t140) ∧ Aside0 (KeepBut w w' g none) ∧ Aside0 (Below w0.heap.size w0 w'))
  case atStart => exact ⟨((⟨#[]⟩ : ByteArray)), (0), (by first | rfl | (simp; done) | (simp [*]; done)), (by first | rfl | (simp; done) | (simp [*]; done)), H', ⟨Nat.le_refl _⟩, ⟨by repeat (first | (with_reducible first | exact HI0.out | apply IsS58.alloc | apply IsS58.drewN | apply IsS58.drew | apply IsS58.set_1) | exact HI0.out)⟩, ⟨by repeat (first | (with_reducible first | exact HK.out | apply KeepBut.set_ | apply keep_drewN | apply keep_drew | apply keep_alloc) | exact HK.out)⟩, ⟨by repeat (first | (with_reducible first | exact HB.out | apply below_alloc | apply pw_below_drewN | apply below_drew1 | refine below_set ?_ (IsS58.ge HI0.out)) | exact HB.out)⟩⟩
  case round =>
    clear H'
    try clear c2
    try clear p2
    obtain ⟨x6_1, x7_1, rfl, rfl, HA, HK1, HI0, HK, HB⟩ := hrel
    cases gk with
    | zero => exact absurd HA.out (by simp [spec_l14Low.l0])
    | succ k1 =>
      have H := HA.out
      clear HA
      simp only [spec_l14Low.l0] at H
      by_cases c5 : x7_1 < (t139.size : Int)
      · rw [if_pos c5] at H
        have c5b0 : decide (x7_1 < (t139.size : Int)) = true := decide_eq_true c5
        clear c5
        by_cases c6 : 0 ≤ x7_1
        · rw [if_pos c6] at H
          have c6b0 : decide (0 ≤ x7_1) = true := decide_eq_true c6
          clear c6
          replace H := Option.bind_eq_some_iff.mp H
          obtain ⟨t141, A80, H⟩ := H
          replace H : (if t141 = 0 then (none) else ((some (([(Int.tmod (wrap64 (bt t139 x7_1)) t141) % 256] : List Int) : List Int)).bind fun y142 => (if x6_1.size + (strOfNums y142).size ≤ 9223372036854775807 then (spec_l14Low.l0 k1 a1 t139 (x6_1 ++ (strOfNums y142)) (wrap64 (x7_1 + 1)) s0_0 t140) else (none)))) = some (r1, r2) := H
          have A8 := Aside0.mk A80
          clear A80
          by_cases c9 : t141 = 0
          · rw [if_pos c9] at H
            exact absurd H (by simp)
          · rw [if_neg c9] at H
            have c9b0 : (t141 == 0) = false := beq_eq_false_iff_ne.mpr c9
            have c9b1 : (t141 != 0) = true := bne_iff_ne.mpr c9
            obtain ⟨y142, hy142⟩ : ∃ y_ : List Int, y_ = (([(Int.tmod (wrap64 (bt t139 x7_1)) t141) % 256] : List Int)) := ⟨_, rfl⟩
            replace H : (if x6_1.size + (strOfNums y142).size ≤ 9223372036854775807 then (spec_l14Low.l0 k1 a1 t139 (x6_1 ++ (strOfNums y142)) (wrap64 (x7_1 + 1)) s0_0 t140) else (none)) = some (r1, r2) := by first | (rw [hy142]; with_reducible exact H) | (have H2_ := (Option.bind_some _ _).symm.trans H; rw [hy142]; with_reducible exact H2_) | (have H2_ := (Option.bind_some _ _).symm.trans H; with_reducible exact H2_) | with_reducible exact H | (rw [hy142]; exact H) | exact H
            have Ny142 := Aside0.mk hy142
            clear hy142
            by_cases c10 : x6_1.size + (strOfNums y142).size ≤ 9223372036854775807
            · rw [if_pos c10] at H
              have c10b0 := eq_true c10
              have c10b1 : decide (x6_1.size + (strOfNums y142).size ≤ 9223372036854775807) = true := decide_eq_true c10
              try have c10b2 : (9223372036854775807 < x6_1.size + (strOfNums y142).size) = False := eq_false (Nat.not_lt.2 c10)
              have H' := Aside0.mk H
              clear H
              try go_wp2
              have n0_ := Aside0.mk (IsS58.drew HI0.out)
              have n1_ := Aside0.mk (keep_drew HK.out)
              have n2_ := Aside0.mk (below_drew1 HB.out)
              clear HI0
              clear HK
              clear HB
              have HI0 := n0_
              have HK := n1_
              have HB := n2_
              clear n0_ n1_ n2_
              have p7 : 0 ≤ (x7_1 : Int) := of_decide_eq_true (by first | (with_reducible assumption) | assumption)
              have q7 : x7_1 < (t139.size : Int) := of_decide_eq_true (by first | (with_reducible assumption) | assumption)
              have hx7 := bt_at t139 x7_1
              replace p7 := eq_true p7
              replace q7 := eq_true q7
              refine start_ (n := 13) (S := fun w' => True) (ds := []) #[false, false, false, false, false, false, false, false, false, false, false, false, false] (by kernel_rfl) rfl rfl trivial (fun hHeld => ?_); refine with_tabW spec_l14Low.tab6 spec_l14Low.bits6 (fun HT_ HW_ => ?_)
              generalize wr.drew = w11 at HI0 HK HB hHeld ⊢
              refine pure_ (i := 0) (N := some 16) (v := ?_) (a' := ?_) #[true, false, false, false, false, false, false, false, false, false, false, false, false] rfl rfl (any_of HT_.out (by kernel_rfl)) (fun _ _ _ h => h) (Or.inl ⟨by rfl, ?_⟩) ?_ ?_
              rotate_left
              · intro w'
                go_simp
                with_reducible rfl
              rotate_left
              · simp only [Act.put, List.setIfInBounds_toArray, List.set_cons_zero, List.set_cons_succ, i64_w, i32_w]
                rfl
              refine pure_ (i := 1) (N := some 17) (v := ?_) (a' := ?_) #[true, true, false, false, false, false, false, false, false, false, false, false, false] rfl rfl (any_of HT_.out (by kernel_rfl)) (fun _ _ _ h => h) (Or.inl ⟨by rfl, ?_⟩) ?_ ?_
              rotate_left
              · intro w'
                go_simp
                with_reducible rfl
              rotate_left
              · simp only [Act.put, List.setIfInBounds_toArray, List.set_cons_zero, List.set_cons_succ, i64_w, i32_w]
                rfl
              refine pure_ (i := 2) (N := some 18) (v := ?_) (a' := ?_) #[true, true, true, false, false, false, false, false, false, false, false, false, false] rfl rfl (any_of HT_.out (by kernel_rfl)) (fun _ _ _ h => h) (Or.inl ⟨by rfl, ?_⟩) ?_ ?_
              rotate_left
              · intro w'
                go_simp
                with_reducible rfl
              rotate_left
              · simp only [Act.put, List.setIfInBounds_toArray, List.set_cons_zero, List.set_cons_succ, i64_w, i32_w]
                rfl
              refine pure_ (i := 5) (N := some 21) (v := ?_) (a' := ?_) #[true, true, true, false, false, true, false, false, false, false, false, false, false] rfl rfl (any_of HT_.out (by kernel_rfl)) (fun _ _ _ h => h) (Or.inl ⟨by rfl, ?_⟩) ?_ ?_
              rotate_left
              · intro w'
                go_simp
                with_reducible rfl
              rotate_left
              · simp only [Act.put, List.setIfInBounds_toArray, List.set_cons_zero, List.set_cons_succ, i64_w, i32_w]
                rfl
              refine take_ (i := 3) (N := some 19) (v := ?_) (a' := ?_) #[true, true, true, true, false, true, false, false, false, false, false, false, false] rfl rfl (take_ofW HT_.out HW_.out (by kernel_rfl)) (fun _ _ _ h => h) (Or.inl ⟨by rfl, ?_⟩) hHeld ?_ ?_
              rotate_left
              · intro w' _
                go_simp
                with_reducible rfl
              rotate_left
              · simp only [Act.put, List.setIfInBounds_toArray, List.set_cons_zero, List.set_cons_succ, i64_w, i32_w]
                rfl
              refine pure_ (i := 4) (N := some 20) (v := ?_) (a' := ?_) #[true, true, true, true, true, true, false, false, false, false, false, false, false] rfl rfl (any_of HT_.out (by kernel_rfl)) (fun _ _ _ h => h) (Or.inl ⟨by rfl, ?_⟩) ?_ ?_
              rotate_left
              · intro w'
                go_simp
                with_reducible rfl
              rotate_left
              · simp only [Act.put, List.setIfInBounds_toArray, List.set_cons_zero, List.set_cons_succ, i64_w, i32_w]
                rfl
              refine one_ (i := 6) (N := some 22) #[true, true, true, true, true, true, true, false, false, false, false, false, false] rfl rfl (one_of HT_.out (by kernel_rfl)) (by decide) (fun K hK => ?_)
              refine goes_ Try.func27 (by kernel_rfl) rfl #[.int .i64 a1] (by rfl) rfl rfl (by (try simp only [List.map_toArray, List.map_cons, List.map_nil]); first | done | rfl | (simp only [List.length_drop, List.length_take]; rfl)) ?_
              with_reducible refine (spec_l1Pow.calls k1 a1 t141 _ A8.out).mono ?_
              rintro e w' ⟨rfl, ⟨nd, rfl⟩⟩
              refine ⟨_, rfl, ?_⟩
              refine hK.out _ _ trivial (fun hHeld => ?_)
              clear hK K
              refine norm_ (a' := ?_) ?_ ?_
              rotate_left
              · show Act.put _ (some 22) _ = _
                simp only [Act.put, List.setIfInBounds_toArray, List.set_cons_zero, List.set_cons_succ, i64_w, i32_w]
                rfl
              refine pure_ (i := 7) (N := some 23) (v := ?_) (a' := ?_) #[true, true, true, true, true, true, true, true, false, false, false, false, false] rfl rfl (any_of HT_.out (by kernel_rfl)) (fun _ _ _ h => h) (Or.inl ⟨by rfl, ?_⟩) ?_ ?_
              rotate_left
              · intro w'
                go_simp
                with_reducible rfl
              rotate_left
              · simp only [Act.put, List.setIfInBounds_toArray, List.set_cons_zero, List.set_cons_succ, i64_w, i32_w]
                rfl
              refine pure_ (i := 8) (N := some 24) (v := ?_) (a' := ?_) #[true, true, true, true, true, true, true, true, true, false, false, false, false] rfl rfl (any_of HT_.out (by kernel_rfl)) (fun _ _ _ h => h) (Or.inl ⟨by rfl, ?_⟩) ?_ ?_
              rotate_left
              · intro w'
                go_simp
                with_reducible rfl
              rotate_left
              · simp only [Act.put, List.setIfInBounds_toArray, List.set_cons_zero, List.set_cons_succ, i64_w, i32_w]
                rfl
              refine one_ (i := 9) (N := some 25) #[true, true, true, true, true, true, true, true, true, true, false, false, false] rfl rfl (one_of HT_.out (by kernel_rfl)) (by decide) (fun K hK => ?_)
              refine Kd.R_lit_step (Kd.int .u8) _ 5 ?hg (N := 25) ?hd (xs := ([(Int.tmod (wrap64 (bt t139 x7_1)) t141) % 256] : List Int)) (inner := [.int .u8 ((Int.tmod (wrap64 (bt t139 x7_1)) t141) % 256)]) (ok := fun _ => True) (okp := fun _ => True) ?hr ?hp (fun _ hk => hk) trivial (Below.refl _ _) (Nat.le_refl _) (by simp) ?_; (case hd => rfl); (case hg => rfl); (case hr => first | (go_simp; done) | (go_simp; rfl)); (case hp => exact (Reps.one (show Kd.M (Kd.int .u8) _ _ _ ((Int.tmod (wrap64 (bt t139 x7_1)) t141) % 256) [.int .u8 ((Int.tmod (wrap64 (bt t139 x7_1)) t141) % 256)] from rfl) (Reps.none _ _)))
              intro v143 w12 ho13 hb hg_ hnew_
              clear hg_ hnew_
              (first | rw [← Ny142.out] at ho13 | (simp only [Int.reduceToNat] at ho13; rw [← Ny142.out] at ho13))
              have n0_ := Aside0.mk (Kd.R_lower ho13 (keep_size (w := w) (g := g) (row := none) (by repeat (first | (with_reducible first | exact HK.out | apply KeepBut.set_ | apply keep_drewN | apply keep_drew | apply keep_alloc) | exact HK.out))))
              have n1_ := Aside0.mk (IsS58.below (by repeat (first | (with_reducible first | exact HI0.out | apply IsS58.alloc | apply IsS58.drewN | apply IsS58.drew | apply IsS58.set_1) | exact HI0.out)) hb)
              have n2_ := Aside0.mk (KeepBut.trans (by repeat (first | (with_reducible first | exact HK.out | apply KeepBut.set_ | apply keep_drewN | apply keep_drew | apply keep_alloc) | exact HK.out)) (KeepBut.of_below hb g none) (.inl rfl))
              have n3_ := Aside0.mk (below_step (by repeat (first | (with_reducible first | exact HB.out | apply below_alloc | apply pw_below_drewN | apply below_drew1 | refine below_set ?_ (IsS58.ge HI0.out)) | exact HB.out)) hb)
              clear HI0
              clear HK
              clear HB
              have HO144 := n0_
              have HI0 := n1_
              have HK := n2_
              have HB := n3_
              clear n0_ n1_ n2_ n3_
              clear hb ho13
              refine hK.out _ _ trivial (fun hHeld => ?_)
              clear hK K
              refine norm_ (a' := ?_) ?_ ?_
              rotate_left
              · show Act.put _ (some 25) _ = _
                simp only [Act.put, List.setIfInBounds_toArray, List.set_cons_zero, List.set_cons_succ, i64_w, i32_w]
                rfl
              refine one_ (i := 10) (N := some 26) #[true, true, true, true, true, true, true, true, true, true, true, false, false] rfl rfl (one_of HT_.out (by kernel_rfl)) (by decide) (fun K hK => ?_)
              have hcv14 := own_string (P := Try.prog) Try.underlying22 Try.underlying5 Try.underlying9 (Kd.own_of_R HO144.out)
              refine value_ (w1 := ?_) (v := ?_) (by rfl) rfl ?_ ?_
              rotate_left 2
              · go_simp
                constructor
                · rfl
                · rfl
              clear hcv14
              refine hK.out _ _ trivial (fun hHeld => ?_)
              clear hK K
              refine norm_ (a' := ?_) ?_ ?_
              rotate_left
              · show Act.put _ (some 26) _ = _
                simp only [Act.put, List.setIfInBounds_toArray, List.set_cons_zero, List.set_cons_succ, i64_w, i32_w]
                rfl
              refine pure_ (i := 11) (N := some 27) (v := ?_) (a' := ?_) #[true, true, true, true, true, true, true, true, true, true, true, true, false] rfl rfl (any_of HT_.out (by kernel_rfl)) (fun _ _ _ h => h) (Or.inl ⟨by rfl, ?_⟩) ?_ ?_
              rotate_left
              · intro w'
                go_simp
                with_reducible rfl
              rotate_left
              · simp only [Act.put, List.setIfInBounds_toArray, List.set_cons_zero, List.set_cons_succ, i64_w, i32_w]
                rfl
              refine pure_ (i := 12) (N := some 6) (v := ?_) (a' := ?_) #[true, true, true, true, true, true, true, true, true, true, true, true, true] rfl rfl (any_of HT_.out (by kernel_rfl)) (fun _ _ _ h => h) (Or.inl ⟨by rfl, ?_⟩) ?_ ?_
              rotate_left
              · intro w'
                go_simp
                with_reducible rfl
              rotate_left
              · simp only [Act.put, List.setIfInBounds_toArray, List.set_cons_zero, List.set_cons_succ, i64_w, i32_w]
                rfl
              refine done_ (done_of HT_.out (by kernel_rfl)) ?_
              try go_wp2
              go_roundg k1
              case measure => have := HK1.out; omega
              case rel => exact ⟨(x6_1 ++ (strOfNums y142)), (wrap64 (x7_1 + 1)), (by first | rfl | (simp; done) | (simp [*]; done)), (by first | rfl | (simp; done) | (simp [*]; done)), H', ⟨by have := HK1.out; omega⟩, ⟨by repeat (first | (with_reducible first | exact HI0.out | apply IsS58.alloc | apply IsS58.drewN | apply IsS58.drew | apply IsS58.set_1) | exact HI0.out)⟩, ⟨by repeat (first | (with_reducible first | exact HK.out | apply KeepBut.set_ | apply keep_drewN | apply keep_drew | apply keep_alloc) | exact HK.out)⟩, ⟨by repeat (first | (with_reducible first | exact HB.out | apply below_alloc | apply pw_below_drewN | apply below_drew1 | refine below_set ?_ (IsS58.ge HI0.out)) | exact HB.out)⟩⟩
            · rw [if_neg c10] at H
              exact absurd H (by simp)
        · rw [if_neg c6] at H
          exact absurd H (by simp)
      · rw [if_neg c5] at H
        have c5b0 : decide (x7_1 < (t139.size : Int)) = false := decide_eq_false c5
        clear c5
        simp only [Option.some.injEq, Prod.mk.injEq] at H
        obtain ⟨rfl, rfl⟩ := H
        go_wp2
        go_ret
        exact ⟨by first | rfl | (simp [errW_none, errW_some] <;> rfl) | (simp [*, errW_none, errW_some] <;> rfl), by repeat (first | (with_reducible first | exact HI0.out | apply IsS58.alloc | apply IsS58.drewN | apply IsS58.drew | apply IsS58.set_1) | exact HI0.out), by repeat (first | (with_reducible first | exact HB.out | apply below_alloc | apply pw_below_drewN | apply below_drew1 | refine below_set ?_ (IsS58.ge HI0.out)) | exact HB.out), by repeat (first | (with_reducible first | exact HK.out | apply KeepBut.set_ | apply keep_drewN | apply keep_drew | apply keep_alloc) | exact HK.out)⟩

/-! ### spec_DrawLzwPut: function 15 -/
mutual
def spec_DrawLzwPut.j0 : Nat → Int → Bool → Bool → List Int → Int → Option (ByteArray × Int × Bool)
  | 0, _, _, _, _, _ => none
  | k + 1, x6, x7, x24, x148000, x148001 => if x24 = true then (spec_DrawLzwPut.j1 k 8 x7 x148000 x148001) else (spec_DrawLzwPut.j1 k x6 x7 x148000 x148001)
def spec_DrawLzwPut.j1 : Nat → Int → Bool → List Int → Int → Option (ByteArray × Int × Bool)
  | 0, _, _, _, _ => none
  | k + 1, x6, x7, x148000, x148001 => (spec_l14Low.f k x148000 x148001 x6).bind fun bt154 => ((spec_l1Rd_pick.f k x148000 bt154.2 60).bind fun bt156 => (if bt156.1 = 0 then ((spec_l1Rd_pick.f k x148000 bt156.2 800).bind fun bt161 => (spec_DrawLzwPut.l0 k x6 x7 (([] : List Int)) (wrap64 (4100 + bt161.1)) x148000 bt161.2)) else (spec_DrawLzwPut.j3 k x6 x7 bt154.1 x148000 bt156.2)))
def spec_DrawLzwPut.j3 : Nat → Int → Bool → ByteArray → List Int → Int → Option (ByteArray × Int × Bool)
  | 0, _, _, _, _, _ => none
  | k + 1, x6, x7, x8, x148000, x148001 => (spec_l1Rd_pick.f k x148000 x148001 20).bind fun bt169 => (if bt169.1 = 0 then ((some (([1, 9] : List Int) : List Int)).bind fun y171 => ((spec_l1Rd_pick.f k x148000 bt169.2 2).bind fun bt174 => (if 0 ≤ bt174.1 then (if bt174.1 < (y171.length : Int) then (some (x8, rd y171 bt174.1, x7)) else (none)) else (none)))) else (if bt169.1 = 1 then (if x8.size + 1 ≤ 9223372036854775807 then (some (x8 ++ (⟨#[255]⟩ : ByteArray), x6, x7)) else (none)) else (some (x8, x6, x7))))
def spec_DrawLzwPut.l0 : Nat → Int → Bool → List Int → Int → List Int → Int → Option (ByteArray × Int × Bool)
  | 0, _, _, _, _, _, _ => none
  | k + 1, x6, x7, x9, x10, x148000, x148001 => if x10 > 0 then ((spec_l1Pow.f k x6).bind fun t163 => ((spec_l1Rd_pick.f k x148000 x148001 t163).bind fun bt164 => (if x9.length < 140737488355328 then (spec_DrawLzwPut.l0 k x6 x7 (x9 ++ [(bt164.1) % 256]) (wrap64 (x10 - 1)) x148000 bt164.2) else (none)))) else (spec_DrawLzwPut.j3 k x6 x7 (strOfNums x9) x148000 x148001)
end
def spec_DrawLzwPut.f (k : Nat) (l0 : List Int) : Option (ByteArray × Int × Bool) := (spec_l1Open.f l0).bind fun bt145 => ((spec_l1Rd_pick.f k bt145.1 bt145.2 7).bind fun bt148 => ((spec_l1Rd_pick.f k bt145.1 bt148.2 4).bind fun bt150 => (if bt150.1 = 0 then ((spec_l1Rd_pick.f k bt145.1 bt150.2 8).bind fun bt152 => (spec_DrawLzwPut.j0 k (wrap64 (2 + bt148.1)) (bt150.1 == 0) (decide (bt152.1 > 0)) bt145.1 bt152.2)) else (spec_DrawLzwPut.j0 k (wrap64 (2 + bt148.1)) (bt150.1 == 0) false bt145.1 bt150.2))))
theorem spec_DrawLzwPut.mono_l : ∀ k, (∀ y0 y1 y2 y3 y4, LeO (spec_DrawLzwPut.j0 k y0 y1 y2 y3 y4) (spec_DrawLzwPut.j0 (k + 1) y0 y1 y2 y3 y4)) ∧ (∀ y0 y1 y2 y3, LeO (spec_DrawLzwPut.j1 k y0 y1 y2 y3) (spec_DrawLzwPut.j1 (k + 1) y0 y1 y2 y3)) ∧ (∀ y0 y1 y2 y3 y4, LeO (spec_DrawLzwPut.j3 k y0 y1 y2 y3 y4) (spec_DrawLzwPut.j3 (k + 1) y0 y1 y2 y3 y4)) ∧ (∀ y0 y1 y2 y3 y4 y5, LeO (spec_DrawLzwPut.l0 k y0 y1 y2 y3 y4 y5) (spec_DrawLzwPut.l0 (k + 1) y0 y1 y2 y3 y4 y5))
  | 0 => ⟨fun _ _ _ _ _ r h => by simp [spec_DrawLzwPut.j0] at h, fun _ _ _ _ r h => by simp [spec_DrawLzwPut.j1] at h, fun _ _ _ _ _ r h => by simp [spec_DrawLzwPut.j3] at h, fun _ _ _ _ _ _ r h => by simp [spec_DrawLzwPut.l0] at h⟩
  | k + 1 => by
    obtain ⟨ih0, ih1, ih2, ih3⟩ := spec_DrawLzwPut.mono_l k
    refine ⟨?_, ?_, ?_, ?_⟩
    · intro y0 y1 y2 y3 y4
      unfold spec_DrawLzwPut.j0
      repeat' first
      | (with_reducible exact ih0 _ _ _ _ _)
      | (with_reducible exact ih1 _ _ _ _)
      | (with_reducible exact ih2 _ _ _ _ _)
      | (with_reducible exact ih3 _ _ _ _ _ _)
      | (with_reducible exact spec_l14Low.mono _ _ _ _)
      | (with_reducible exact spec_l1Pow.mono _ _)
      | (with_reducible exact spec_l1Rd_pick.mono _ _ _ _)
      | (with_reducible exact LeO.refl _)
      | (with_reducible exact LeO.none _)
      | (with_reducible refine LeO.ite ?_ ?_)
      | (with_reducible refine LeO.bind ?_ (fun _ => ?_))
      | exact ih0 _ _ _ _ _
      | exact ih1 _ _ _ _
      | exact ih2 _ _ _ _ _
      | exact ih3 _ _ _ _ _ _
      | exact spec_l14Low.mono _ _ _ _
      | exact spec_l1Pow.mono _ _
      | exact spec_l1Rd_pick.mono _ _ _ _
      | exact LeO.none _
      | refine LeO.ite ?_ ?_
      | refine LeO.bind ?_ (fun _ => ?_)
    · intro y0 y1 y2 y3
      unfold spec_DrawLzwPut.j1
      repeat' first
      | (with_reducible exact ih0 _ _ _ _ _)
      | (with_reducible exact ih1 _ _ _ _)
      | (with_reducible exact ih2 _ _ _ _ _)
      | (with_reducible exact ih3 _ _ _ _ _ _)
      | (with_reducible exact spec_l14Low.mono _ _ _ _)
      | (with_reducible exact spec_l1Pow.mono _ _)
      | (with_reducible exact spec_l1Rd_pick.mono _ _ _ _)
      | (with_reducible exact LeO.refl _)
      | (with_reducible exact LeO.none _)
      | (with_reducible refine LeO.ite ?_ ?_)
      | (with_reducible refine LeO.bind ?_ (fun _ => ?_))
      | exact ih0 _ _ _ _ _
      | exact ih1 _ _ _ _
      | exact ih2 _ _ _ _ _
      | exact ih3 _ _ _ _ _ _
      | exact spec_l14Low.mono _ _ _ _
      | exact spec_l1Pow.mono _ _
      | exact spec_l1Rd_pick.mono _ _ _ _
      | exact LeO.none _
      | refine LeO.ite ?_ ?_
      | refine LeO.bind ?_ (fun _ => ?_)
    · intro y0 y1 y2 y3 y4
      unfold spec_DrawLzwPut.j3
      repeat' first
      | (with_reducible exact ih0 _ _ _ _ _)
      | (with_reducible exact ih1 _ _ _ _)
      | (with_reducible exact ih2 _ _ _ _ _)
      | (with_reducible exact ih3 _ _ _ _ _ _)
      | (with_reducible exact spec_l14Low.mono _ _ _ _)
      | (with_reducible exact spec_l1Pow.mono _ _)
      | (with_reducible exact spec_l1Rd_pick.mono _ _ _ _)
      | (with_reducible exact LeO.refl _)
      | (with_reducible exact LeO.none _)
      | (with_reducible refine LeO.ite ?_ ?_)
      | (with_reducible refine LeO.bind ?_ (fun _ => ?_))
      | exact ih0 _ _ _ _ _
      | exact ih1 _ _ _ _
      | exact ih2 _ _ _ _ _
      | exact ih3 _ _ _ _ _ _
      | exact spec_l14Low.mono _ _ _ _
      | exact spec_l1Pow.mono _ _
      | exact spec_l1Rd_pick.mono _ _ _ _
      | exact LeO.none _
      | refine LeO.ite ?_ ?_
      | refine LeO.bind ?_ (fun _ => ?_)
    · intro y0 y1 y2 y3 y4 y5
      unfold spec_DrawLzwPut.l0
      repeat' first
      | (with_reducible exact ih0 _ _ _ _ _)
      | (with_reducible exact ih1 _ _ _ _)
      | (with_reducible exact ih2 _ _ _ _ _)
      | (with_reducible exact ih3 _ _ _ _ _ _)
      | (with_reducible exact spec_l14Low.mono _ _ _ _)
      | (with_reducible exact spec_l1Pow.mono _ _)
      | (with_reducible exact spec_l1Rd_pick.mono _ _ _ _)
      | (with_reducible exact LeO.refl _)
      | (with_reducible exact LeO.none _)
      | (with_reducible refine LeO.ite ?_ ?_)
      | (with_reducible refine LeO.bind ?_ (fun _ => ?_))
      | exact ih0 _ _ _ _ _
      | exact ih1 _ _ _ _
      | exact ih2 _ _ _ _ _
      | exact ih3 _ _ _ _ _ _
      | exact spec_l14Low.mono _ _ _ _
      | exact spec_l1Pow.mono _ _
      | exact spec_l1Rd_pick.mono _ _ _ _
      | exact LeO.none _
      | refine LeO.ite ?_ ?_
      | refine LeO.bind ?_ (fun _ => ?_)
theorem spec_DrawLzwPut.mono : ∀ a0 k, LeO (spec_DrawLzwPut.f k a0) (spec_DrawLzwPut.f (k + 1) a0) := by
  intro a0 k
  obtain ⟨ih0, ih1, ih2, ih3⟩ := spec_DrawLzwPut.mono_l k
  unfold spec_DrawLzwPut.f
  repeat' first
      | (with_reducible exact ih0 _ _ _ _ _)
      | (with_reducible exact ih1 _ _ _ _)
      | (with_reducible exact ih2 _ _ _ _ _)
      | (with_reducible exact ih3 _ _ _ _ _ _)
      | (with_reducible exact spec_l14Low.mono _ _ _ _)
      | (with_reducible exact spec_l1Pow.mono _ _)
      | (with_reducible exact spec_l1Rd_pick.mono _ _ _ _)
      | (with_reducible exact LeO.refl _)
      | (with_reducible exact LeO.none _)
      | (with_reducible refine LeO.ite ?_ ?_)
      | (with_reducible refine LeO.bind ?_ (fun _ => ?_))
      | exact ih0 _ _ _ _ _
      | exact ih1 _ _ _ _
      | exact ih2 _ _ _ _ _
      | exact ih3 _ _ _ _ _ _
      | exact spec_l14Low.mono _ _ _ _
      | exact spec_l1Pow.mono _ _
      | exact spec_l1Rd_pick.mono _ _ _ _
      | exact LeO.none _
      | refine LeO.ite ?_ ?_
      | refine LeO.bind ?_ (fun _ => ?_)
set_option maxHeartbeats 8000000 in
set_option maxRecDepth 100000 in
theorem spec_DrawLzwPut.calls (k : Nat) (A0 : Option Addr) (c0 : Nat) (l0 : List Int) (r1 : ByteArray) (r2 : Int) (r3 : Bool) (w : World) (hr0 : Kd.C (Kd.int .u8) w A0 l0.length l0) (hc0 : l0.length ≤ c0) (h : spec_DrawLzwPut.f k l0 = some (r1, r2, r3)) :
    Calls Try.prog 15 #[.slice A0 l0.length c0] w fun e w' => e = .returned (.tuple #[.string r1, .int .i64 r2, .bool r3]) ∧ Below w.heap.size w w' := by
  have HR0 := Aside0.mk hr0
  have HC0 := Aside0.mk hc0
  clear hr0 hc0
  have HB := Aside0.mk (Below.refl w.heap.size w)
  have H : ((spec_l1Open.f l0).bind fun bt145 => ((spec_l1Rd_pick.f k bt145.1 bt145.2 7).bind fun bt148 => ((spec_l1Rd_pick.f k bt145.1 bt148.2 4).bind fun bt150 => (if bt150.1 = 0 then ((spec_l1Rd_pick.f k bt145.1 bt150.2 8).bind fun bt152 => (spec_DrawLzwPut.j0 k (wrap64 (2 + bt148.1)) (bt150.1 == 0) (decide (bt152.1 > 0)) bt145.1 bt152.2)) else (spec_DrawLzwPut.j0 k (wrap64 (2 + bt148.1)) (bt150.1 == 0) false bt145.1 bt150.2))))) = some (r1, r2, r3) := h
  clear h
  replace H := Option.bind_eq_some_iff.mp H
  obtain ⟨⟨t145, t146⟩, A20, H⟩ := H
  replace H : ((spec_l1Rd_pick.f k t145 t146 7).bind fun bt148 => ((spec_l1Rd_pick.f k t145 bt148.2 4).bind fun bt150 => (if bt150.1 = 0 then ((spec_l1Rd_pick.f k t145 bt150.2 8).bind fun bt152 => (spec_DrawLzwPut.j0 k (wrap64 (2 + bt148.1)) (bt150.1 == 0) (decide (bt152.1 > 0)) t145 bt152.2)) else (spec_DrawLzwPut.j0 k (wrap64 (2 + bt148.1)) (bt150.1 == 0) false t145 bt150.2)))) = some (r1, r2, r3) := H
  have A2 := Aside0.mk A20
  clear A20
  replace H := Option.bind_eq_some_iff.mp H
  obtain ⟨⟨t148, t149⟩, A30, H⟩ := H
  replace H : ((spec_l1Rd_pick.f k t145 t149 4).bind fun bt150 => (if bt150.1 = 0 then ((spec_l1Rd_pick.f k t145 bt150.2 8).bind fun bt152 => (spec_DrawLzwPut.j0 k (wrap64 (2 + t148)) (bt150.1 == 0) (decide (bt152.1 > 0)) t145 bt152.2)) else (spec_DrawLzwPut.j0 k (wrap64 (2 + t148)) (bt150.1 == 0) false t145 bt150.2))) = some (r1, r2, r3) := H
  have A3 := Aside0.mk A30
  clear A30
  replace H := Option.bind_eq_some_iff.mp H
  obtain ⟨⟨t150, t151⟩, A40, H⟩ := H
  replace H : (if t150 = 0 then ((spec_l1Rd_pick.f k t145 t151 8).bind fun bt152 => (spec_DrawLzwPut.j0 k (wrap64 (2 + t148)) (t150 == 0) (decide (bt152.1 > 0)) t145 bt152.2)) else (spec_DrawLzwPut.j0 k (wrap64 (2 + t148)) (t150 == 0) false t145 t151)) = some (r1, r2, r3) := H
  have A4 := Aside0.mk A40
  clear A40
  have HC5 := Aside0.mk H
  clear H
  go_enter Try.func15, Try.ntmps15
  go_upto_region 4 with (first | ((with_reducible refine gate_callee (f := 14) rfl ?_); refine goesL_ (some 12) rfl rfl Try.func14 (by kernel_rfl) rfl #[.slice A0 l0.length c0] rfl (by (try simp only [List.map_toArray, List.map_cons, List.map_nil]); first | done | rfl | (simp only [List.length_drop, List.length_take]; rfl)) ?_; (with_reducible refine (spec_l1Open.calls _ _ l0 t145 t146 w _ ?side1 ?side2 ?side3 A2.out).mono ?_); (case side1 => repeat (first | (with_reducible first | exact HB.out | apply below_alloc | apply pw_below_drewN | apply below_drew1) | exact HB.out)); (case side2 => exact HR0.out); (case side3 => exact HC0.out); rintro e w6 ⟨g147, rfl, hi, hb, hb2⟩; refine ⟨_, rfl, ?_⟩; have n0_ := Aside0.mk (hb); have n1_ := Aside0.mk (hi); clear HB; have HB := n0_; have HI147 := n1_; clear n0_ n1_; (try clear hb); (try clear hb2); (try clear hk); (try clear hi)) | ((with_reducible refine gate_callee (f := 17) rfl ?_); refine goesL_ (some 14) rfl rfl Try.func17 (by kernel_rfl) rfl #[.pointer (some ⟨g147, 0, none⟩), .int .i64 7] rfl (by (try simp only [List.map_toArray, List.map_cons, List.map_nil]); first | done | rfl | (simp only [List.length_drop, List.length_take]; rfl)) ?_; (with_reducible refine (spec_l1Rd_pick.calls k g147 t145 t146 7 t148 t149 w _ ?side1 ?side2 A3.out).mono ?_); (case side1 => repeat (first | (with_reducible first | exact HI147.out | apply IsS58.alloc | apply IsS58.drewN | apply IsS58.drew | apply IsS58.set_1) | exact HI147.out)); (case side2 => repeat (first | (with_reducible first | exact HB.out | apply below_alloc | apply pw_below_drewN | apply below_drew1 | refine below_set ?_ (IsS58.ge HI147.out)) | exact HB.out)); rintro e w7 ⟨rfl, hi, hb, hk⟩; refine ⟨_, rfl, ?_⟩; have n0_ := Aside0.mk (hb); have n1_ := Aside0.mk (hi); clear HB; clear HI147; have HB := n0_; have HI147 := n1_; clear n0_ n1_; (try clear hb); (try clear hb2); (try clear hk); (try clear hi)) | ((with_reducible refine gate_callee (f := 17) rfl ?_); refine goesL_ (some 17) rfl rfl Try.func17 (by kernel_rfl) rfl #[.pointer (some ⟨g147, 0, none⟩), .int .i64 4] rfl (by (try simp only [List.map_toArray, List.map_cons, List.map_nil]); first | done | rfl | (simp only [List.length_drop, List.length_take]; rfl)) ?_; (with_reducible refine (spec_l1Rd_pick.calls k g147 t145 t149 4 t150 t151 w _ ?side1 ?side2 A4.out).mono ?_); (case side1 => repeat (first | (with_reducible first | exact HI147.out | apply IsS58.alloc | apply IsS58.drewN | apply IsS58.drew | apply IsS58.set_1) | exact HI147.out)); (case side2 => repeat (first | (with_reducible first | exact HB.out | apply below_alloc | apply pw_below_drewN | apply below_drew1 | refine below_set ?_ (IsS58.ge HI147.out)) | exact HB.out)); rintro e w8 ⟨rfl, hi, hb, hk⟩; refine ⟨_, rfl, ?_⟩; have n0_ := Aside0.mk (hb); have n1_ := Aside0.mk (hi); clear HB; clear HI147; have HB := n0_; have HI147 := n1_; clear n0_ n1_; (try clear hb); (try clear hb2); (try clear hk); (try clear hi)))
  (try simp only [Act.put, List.setIfInBounds_toArray, List.set_cons_zero, List.set_cons_succ])
  obtain ⟨bq_, hbq_⟩ : ∃ b_ : Bool, (t150 == 0) = b_ := ⟨_, rfl⟩
  rw [hbq_]
  rw [hbq_] at HC5
  go_cut [24] (fun v24 wc => ∃ (kq : Nat) (x24_4 : Bool) (x148001_4 : Int), v24 = .bool x24_4 ∧ Aside0 (spec_DrawLzwPut.j0 kq (wrap64 (2 + t148)) bq_ x24_4 t145 x148001_4 = some (r1, r2, r3)) ∧ Aside0 (kq ≤ k) ∧ Aside0 (IsS58 w wc g147 t145 x148001_4) ∧ Aside0 (Below w.heap.size w wc))
  case first =>
    have H := HC5.out
    clear HC5
    by_cases c9 : t150 = 0
    · rw [if_pos c9] at H
      have c9b0 : (t150 == 0) = true := beq_iff_eq.mpr c9
      have hq_ : bq_ = true := hbq_.symm.trans c9b0
      subst hq_
      have c9b1 : (t150 != 0) = false := bne_eq_false_iff_eq.mpr c9
      clear c9
      (first | rw [c9b0] | (simp only [i64_w, i32_w]; rw [c9b0]) | skip)
      replace H := Option.bind_eq_some_iff.mp H
      obtain ⟨⟨t152, t153⟩, A100, H⟩ := H
      replace H : (spec_DrawLzwPut.j0 k (wrap64 (2 + t148)) true (decide (t152 > 0)) t145 t153) = some (r1, r2, r3) := H
      have A10 := Aside0.mk A100
      clear A100
      have H' := Aside0.mk H
      clear H
      go_wp2_with (first | (go_at_call 17; (with_reducible refine (spec_l1Rd_pick.calls k g147 t145 t151 8 t152 t153 w _ ?side1 ?side2 A10.out).mono ?_); (case side1 => repeat (first | (with_reducible first | exact HI147.out | apply IsS58.alloc | apply IsS58.drewN | apply IsS58.drew | apply IsS58.set_1) | exact HI147.out)); (case side2 => repeat (first | (with_reducible first | exact HB.out | apply below_alloc | apply pw_below_drewN | apply below_drew1 | refine below_set ?_ (IsS58.ge HI147.out)) | exact HB.out)); rintro e w11 ⟨rfl, hi, hb, hk⟩; have n0_ := Aside0.mk (hb); have n1_ := Aside0.mk (hi); clear HB; clear HI147; have HB := n0_; have HI147 := n1_; clear n0_ n1_; (try clear hb); (try clear hb2); (try clear hk); (try clear hi)))
      go_meet
      case rel => exact ⟨_, (decide (t152 > 0)), (t153), (by first | rfl | (simp; done) | (simp [*]; done)), H', ⟨by first | omega | exact Nat.le_refl _⟩, ⟨by repeat (first | (with_reducible first | exact HI147.out | apply IsS58.alloc | apply IsS58.drewN | apply IsS58.drew | apply IsS58.set_1) | exact HI147.out)⟩, ⟨by repeat (first | (with_reducible first | exact HB.out | apply below_alloc | apply pw_below_drewN | apply below_drew1 | refine below_set ?_ (IsS58.ge HI147.out)) | exact HB.out)⟩⟩
    · rw [if_neg c9] at H
      have c9b0 : (t150 == 0) = false := beq_eq_false_iff_ne.mpr c9
      have hq_ : bq_ = false := hbq_.symm.trans c9b0
      subst hq_
      have c9b1 : (t150 != 0) = true := bne_iff_ne.mpr c9
      (first | rw [c9b0] | (simp only [i64_w, i32_w]; rw [c9b0]) | skip)
      have H' := Aside0.mk H
      clear H
      go_wp2
      go_meet
      case rel => exact ⟨_, (false), (t151), (by first | rfl | (simp; done) | (simp [*]; done)), H', ⟨by first | omega | exact Nat.le_refl _⟩, ⟨by repeat (first | (with_reducible first | exact HI147.out | apply IsS58.alloc | apply IsS58.drewN | apply IsS58.drew | apply IsS58.set_1) | exact HI147.out)⟩, ⟨by repeat (first | (with_reducible first | exact HB.out | apply below_alloc | apply pw_below_drewN | apply below_drew1 | refine below_set ?_ (IsS58.ge HI147.out)) | exact HB.out)⟩⟩
  case rest =>
    clear HC5
    try clear c1
    try clear p2
    try clear p6
    try clear c9
    try clear c9b0
    try clear c9b1
    obtain ⟨kq, x24_4, x148001_4, rfl, HA, HJ4, HI147, HB⟩ := hcut
    cases kq with
    | zero => exact absurd HA.out (by simp [spec_DrawLzwPut.j0])
    | succ kj4 =>
      have H := HA.out
      clear HA
      simp only [spec_DrawLzwPut.j0] at H
      have HC12 := Aside0.mk H
      clear H
      go_upto_if 24 with (fail)
      go_cut [6] (fun v6 wc => ∃ (kq : Nat) (x6_11 : Int), v6 = .int .i64 x6_11 ∧ Aside0 (spec_DrawLzwPut.j1 kq x6_11 bq_ t145 x148001_4 = some (r1, r2, r3)) ∧ Aside0 (kq ≤ kj4) ∧ Aside0 (IsS58 w wc g147 t145 x148001_4) ∧ Aside0 (Below w.heap.size w wc))
      case first =>
        have H := HC12.out
        clear HC12
        by_cases c13 : x24_4 = true
        · subst c13
          have H1 : (spec_DrawLzwPut.j1 kj4 8 bq_ t145 x148001_4) = some (r1, r2, r3) := by first | (rw [if_pos rfl] at H; exact H) | rfl
          clear H
          have H := H1
          clear H1
          have H' := Aside0.mk H
          clear H
          go_wp2
          go_meet
          case rel => exact ⟨_, (8), (by first | rfl | (simp; done) | (simp [*]; done)), H', ⟨by have := HJ4.out; first | omega | exact Nat.le_refl _⟩, ⟨by repeat (first | (with_reducible first | exact HI147.out | apply IsS58.alloc | apply IsS58.drewN | apply IsS58.drew | apply IsS58.set_1) | exact HI147.out)⟩, ⟨by repeat (first | (with_reducible first | exact HB.out | apply below_alloc | apply pw_below_drewN | apply below_drew1 | refine below_set ?_ (IsS58.ge HI147.out)) | exact HB.out)⟩⟩
        · replace c13 := Bool.eq_false_iff.mpr c13
          subst c13
          have H1 : (spec_DrawLzwPut.j1 kj4 (wrap64 (2 + t148)) bq_ t145 x148001_4) = some (r1, r2, r3) := by first | (rw [if_neg (show ¬ (false = true) by decide)] at H; exact H) | rfl
          clear H
          have H := H1
          clear H1
          have H' := Aside0.mk H
          clear H
          go_wp2
          go_meet
          case rel => exact ⟨_, ((wrap64 (2 + t148))), (by first | rfl | (simp; done) | (simp [*]; done)), H', ⟨by have := HJ4.out; first | omega | exact Nat.le_refl _⟩, ⟨by repeat (first | (with_reducible first | exact HI147.out | apply IsS58.alloc | apply IsS58.drewN | apply IsS58.drew | apply IsS58.set_1) | exact HI147.out)⟩, ⟨by repeat (first | (with_reducible first | exact HB.out | apply below_alloc | apply pw_below_drewN | apply below_drew1 | refine below_set ?_ (IsS58.ge HI147.out)) | exact HB.out)⟩⟩
      case rest =>
        clear HC12
        try clear c1
        try clear p2
        try clear p6
        try clear c9
        try clear c9b0
        try clear c9b1
        try clear c13
        try clear p2
        try clear p6
        obtain ⟨kq, x6_11, rfl, HA, HJ11, HI147, HB⟩ := hcut
        cases kq with
        | zero => exact absurd HA.out (by simp [spec_DrawLzwPut.j1])
        | succ kj11 =>
          have H := HA.out
          clear HA
          simp only [spec_DrawLzwPut.j1] at H
          replace H := Option.bind_eq_some_iff.mp H
          obtain ⟨⟨t154, t155⟩, A140, H⟩ := H
          replace H : ((spec_l1Rd_pick.f kj11 t145 t155 60).bind fun bt156 => (if bt156.1 = 0 then ((spec_l1Rd_pick.f kj11 t145 bt156.2 800).bind fun bt161 => (spec_DrawLzwPut.l0 kj11 x6_11 bq_ (([] : List Int)) (wrap64 (4100 + bt161.1)) t145 bt161.2)) else (spec_DrawLzwPut.j3 kj11 x6_11 bq_ t154 t145 bt156.2))) = some (r1, r2, r3) := H
          have A14 := Aside0.mk A140
          clear A140
          replace H := Option.bind_eq_some_iff.mp H
          obtain ⟨⟨t156, t157⟩, A150, H⟩ := H
          replace H : (if t156 = 0 then ((spec_l1Rd_pick.f kj11 t145 t157 800).bind fun bt161 => (spec_DrawLzwPut.l0 kj11 x6_11 bq_ (([] : List Int)) (wrap64 (4100 + bt161.1)) t145 bt161.2)) else (spec_DrawLzwPut.j3 kj11 x6_11 bq_ t154 t145 t157)) = some (r1, r2, r3) := H
          have A15 := Aside0.mk A150
          clear A150
          have HC16 := Aside0.mk H
          clear H
          go_upto_if 30 with (first | ((with_reducible refine gate_callee (f := 26) rfl ?_); refine goesL_ (some 27) rfl rfl Try.func26 (by kernel_rfl) rfl #[.pointer (some ⟨g147, 0, none⟩), .int .i64 x6_11] rfl (by (try simp only [List.map_toArray, List.map_cons, List.map_nil]); first | done | rfl | (simp only [List.length_drop, List.length_take]; rfl)) ?_; (with_reducible refine (spec_l14Low.calls kj11 g147 t145 x148001_4 x6_11 t154 t155 w _ ?side1 ?side2 A14.out).mono ?_); (case side1 => repeat (first | (with_reducible first | exact HI147.out | apply IsS58.alloc | apply IsS58.drewN | apply IsS58.drew | apply IsS58.set_1) | exact HI147.out)); (case side2 => repeat (first | (with_reducible first | exact HB.out | apply below_alloc | apply pw_below_drewN | apply below_drew1 | refine below_set ?_ (IsS58.ge HI147.out)) | exact HB.out)); rintro e w17 ⟨rfl, hi, hb, hk⟩; refine ⟨_, rfl, ?_⟩; have n0_ := Aside0.mk (hb); have n1_ := Aside0.mk (hi); clear HB; clear HI147; have HB := n0_; have HI147 := n1_; clear n0_ n1_; (try clear hb); (try clear hb2); (try clear hk); (try clear hi)) | ((with_reducible refine gate_callee (f := 17) rfl ?_); refine goesL_ (some 29) rfl rfl Try.func17 (by kernel_rfl) rfl #[.pointer (some ⟨g147, 0, none⟩), .int .i64 60] rfl (by (try simp only [List.map_toArray, List.map_cons, List.map_nil]); first | done | rfl | (simp only [List.length_drop, List.length_take]; rfl)) ?_; (with_reducible refine (spec_l1Rd_pick.calls kj11 g147 t145 t155 60 t156 t157 w _ ?side1 ?side2 A15.out).mono ?_); (case side1 => repeat (first | (with_reducible first | exact HI147.out | apply IsS58.alloc | apply IsS58.drewN | apply IsS58.drew | apply IsS58.set_1) | exact HI147.out)); (case side2 => repeat (first | (with_reducible first | exact HB.out | apply below_alloc | apply pw_below_drewN | apply below_drew1 | refine below_set ?_ (IsS58.ge HI147.out)) | exact HB.out)); rintro e w18 ⟨rfl, hi, hb, hk⟩; refine ⟨_, rfl, ?_⟩; have n0_ := Aside0.mk (hb); have n1_ := Aside0.mk (hi); clear HB; clear HI147; have HB := n0_; have HI147 := n1_; clear n0_ n1_; (try clear hb); (try clear hb2); (try clear hk); (try clear hi)))
          (try simp only [Act.put, List.setIfInBounds_toArray, List.set_cons_zero, List.set_cons_succ])
          go_cut [8] (fun v8 wc => ∃ (kq : Nat) (x8_15 : ByteArray) (x148001_15 : Int), v8 = .string x8_15 ∧ Aside0 (spec_DrawLzwPut.j3 kq x6_11 bq_ x8_15 t145 x148001_15 = some (r1, r2, r3)) ∧ Aside0 (kq ≤ kj11) ∧ Aside0 (IsS58 w wc g147 t145 x148001_15) ∧ Aside0 (Below w.heap.size w wc))
          case first =>
            have H := HC16.out
            clear HC16
            by_cases c19 : t156 = 0
            · rw [if_pos c19] at H
              have c19b0 : (t156 == 0) = true := beq_iff_eq.mpr c19
              have c19b1 : (t156 != 0) = false := bne_eq_false_iff_eq.mpr c19
              clear c19
              (first | rw [c19b0] | (simp only [i64_w, i32_w]; rw [c19b0]) | skip)
              obtain ⟨y158, hy158⟩ : ∃ y_ : List Int, y_ = (([] : List Int)) := ⟨_, rfl⟩
              replace H : ((spec_l1Rd_pick.f kj11 t145 t157 800).bind fun bt161 => (spec_DrawLzwPut.l0 kj11 x6_11 bq_ y158 (wrap64 (4100 + bt161.1)) t145 bt161.2)) = some (r1, r2, r3) := by first | (rw [hy158]; with_reducible exact H) | (have H2_ := (Option.bind_some _ _).symm.trans H; rw [hy158]; with_reducible exact H2_) | (have H2_ := (Option.bind_some _ _).symm.trans H; with_reducible exact H2_) | with_reducible exact H | (rw [hy158]; exact H) | exact H
              have Ny158 := Aside0.mk hy158
              clear hy158
              replace H := Option.bind_eq_some_iff.mp H
              obtain ⟨⟨t161, t162⟩, A200, H⟩ := H
              replace H : (spec_DrawLzwPut.l0 kj11 x6_11 bq_ y158 (wrap64 (4100 + t161)) t145 t162) = some (r1, r2, r3) := H
              have A20 := Aside0.mk A200
              clear A200
              have H' := Aside0.mk H
              clear H
              go_wp2_with (first | ((with_reducible refine gate_dst (N := 31) rfl ?_); refine Kd.R_lit (Kd.int .u8) _ 5 ?hg (N := 31) ?hd (xs := ([] : List Int)) (inner := []) (ok := fun _ => True) (okp := fun _ => True) ?hr ?hp (fun _ hk => hk) trivial (Below.refl _ _) (Nat.le_refl _) (by simp) ?_; (case hd => rfl); (case hg => rfl); (case hr => first | (go_simp; done) | (go_simp; rfl)); (case hp => exact (Reps.none _ _)); intro v159 w21 ho22 hb hg_ hnew_; clear hg_ hnew_; (first | rw [← Ny158.out] at ho22 | (simp only [Int.reduceToNat] at ho22; rw [← Ny158.out] at ho22)); have n0_ := Aside0.mk (Kd.R_lower ho22 (below_size (by repeat (first | (with_reducible first | exact HB.out | apply below_alloc | apply pw_below_drewN | apply below_drew1 | refine below_set ?_ (IsS58.ge HI147.out)) | exact HB.out)))); have n1_ := Aside0.mk (IsS58.below (by repeat (first | (with_reducible first | exact HI147.out | apply IsS58.alloc | apply IsS58.drewN | apply IsS58.drew | apply IsS58.set_1) | exact HI147.out)) hb); have n2_ := Aside0.mk (below_step (by repeat (first | (with_reducible first | exact HB.out | apply below_alloc | apply pw_below_drewN | apply below_drew1 | refine below_set ?_ (IsS58.ge HI147.out)) | exact HB.out)) hb); clear HI147; clear HB; have HO160 := n0_; have HI147 := n1_; have HB := n2_; clear n0_ n1_ n2_; clear hb ho22) | ((with_reducible refine gate_callee (f := 17) rfl ?_); refine goesL_ (some 33) rfl rfl Try.func17 (by kernel_rfl) rfl #[.pointer (some ⟨g147, 0, none⟩), .int .i64 800] rfl (by (try simp only [List.map_toArray, List.map_cons, List.map_nil]); first | done | rfl | (simp only [List.length_drop, List.length_take]; rfl)) ?_; (with_reducible refine (spec_l1Rd_pick.calls kj11 g147 t145 t157 800 t161 t162 w _ ?side1 ?side2 A20.out).mono ?_); (case side1 => repeat (first | (with_reducible first | exact HI147.out | apply IsS58.alloc | apply IsS58.drewN | apply IsS58.drew | apply IsS58.set_1) | exact HI147.out)); (case side2 => repeat (first | (with_reducible first | exact HB.out | apply below_alloc | apply pw_below_drewN | apply below_drew1 | refine below_set ?_ (IsS58.ge HI147.out)) | exact HB.out)); rintro e w23 ⟨rfl, hi, hb, hk⟩; refine ⟨_, rfl, ?_⟩; have n0_ := Aside0.mk (Kd.R_mono (Kd.R_keep (IsS58.apart (show IsS58 w _ g147 t145 t157 from by repeat (first | (with_reducible first | exact HI147.out | apply IsS58.alloc | apply IsS58.drewN | apply IsS58.drew | apply IsS58.set_1) | exact HI147.out)) (by (with_reducible repeat (first | apply Kd.R_alloc | apply Kd.R_drewN | apply Kd.R_drew)); exact HO160.out) (by decide)) hk (fun _ h => h.2)) (fun _ h => h.1)); have n1_ := Aside0.mk (hb); have n2_ := Aside0.mk (hi); clear HO160; clear HB; clear HI147; have HO160 := n0_; have HB := n1_; have HI147 := n2_; clear n0_ n1_ n2_; (try clear hb); (try clear hb2); (try clear hk); (try clear hi)))
              go_loopg [9, 10] kj11 (fun kq v9 v10 w' => ∃ (x9_3 : List Int) (x10_3 : Int) (x148001_3 : Int), v10 = .int .i64 x10_3 ∧ Aside0 (spec_DrawLzwPut.l0 kq x6_11 bq_ x9_3 x10_3 t145 x148001_3 = some (r1, r2, r3)) ∧ Aside0 (kq ≤ kj11) ∧ Aside0 (Kd.R (Kd.int .u8) 5 w' w.heap.size (fun _ => True) v9 x9_3) ∧ Aside0 (IsS58 w w' g147 t145 x148001_3) ∧ Aside0 (Below w.heap.size w w'))
              case atStart => exact ⟨(y158), (wrap64 (4100 + t161)), (t162), (by first | rfl | (simp; done) | (simp [*]; done)), H', ⟨Nat.le_refl _⟩, ⟨by (with_reducible repeat (first | apply Kd.R_alloc | apply Kd.R_drewN | apply Kd.R_drew)); exact HO160.out⟩, ⟨by repeat (first | (with_reducible first | exact HI147.out | apply IsS58.alloc | apply IsS58.drewN | apply IsS58.drew | apply IsS58.set_1) | exact HI147.out)⟩, ⟨by repeat (first | (with_reducible first | exact HB.out | apply below_alloc | apply pw_below_drewN | apply below_drew1 | refine below_set ?_ (IsS58.ge HI147.out)) | exact HB.out)⟩⟩
              case round =>
                clear H'
                try clear c1
                try clear c2
                try clear p2
                try clear p6
                try clear c9
                try clear c9b0
                try clear c9b1
                try clear c13
                try clear c14
                try clear c15
                try clear c17
                try clear c19
                try clear c19b0
                try clear c19b1
                try clear p2
                try clear p6
                obtain ⟨x9_3, x10_3, x148001_3, rfl, HA, HK3, HO_9, HI147, HB⟩ := hrel
                cases gk with
                | zero => exact absurd HA.out (by simp [spec_DrawLzwPut.l0])
                | succ k3 =>
                  have H := HA.out
                  clear HA
                  simp only [spec_DrawLzwPut.l0] at H
                  by_cases c24 : x10_3 > 0
                  · rw [if_pos c24] at H
                    have c24b0 : decide (0 < x10_3) = true := decide_eq_true c24
                    clear c24
                    replace H := Option.bind_eq_some_iff.mp H
                    obtain ⟨t163, A250, H⟩ := H
                    replace H : ((spec_l1Rd_pick.f k3 t145 x148001_3 t163).bind fun bt164 => (if x9_3.length < 140737488355328 then (spec_DrawLzwPut.l0 k3 x6_11 bq_ (x9_3 ++ [(bt164.1) % 256]) (wrap64 (x10_3 - 1)) t145 bt164.2) else (none))) = some (r1, r2, r3) := H
                    have A25 := Aside0.mk A250
                    clear A250
                    replace H := Option.bind_eq_some_iff.mp H
                    obtain ⟨⟨t164, t165⟩, A260, H⟩ := H
                    replace H : (if x9_3.length < 140737488355328 then (spec_DrawLzwPut.l0 k3 x6_11 bq_ (x9_3 ++ [(t164) % 256]) (wrap64 (x10_3 - 1)) t145 t165) else (none)) = some (r1, r2, r3) := H
                    have A26 := Aside0.mk A260
                    clear A260
                    by_cases c27 : x9_3.length < 140737488355328
                    · rw [if_pos c27] at H
                      have LMc27 := Aside0.mk c27
                      clear c27
                      obtain ⟨y166, hy166⟩ : ∃ y_ : List Int, y_ = (x9_3 ++ [(t164) % 256]) := ⟨_, rfl⟩
                      replace H : (spec_DrawLzwPut.l0 k3 x6_11 bq_ y166 (wrap64 (x10_3 - 1)) t145 t165) = some (r1, r2, r3) := by first | (rw [hy166]; with_reducible exact H) | (have H2_ := (Option.bind_some _ _).symm.trans H; rw [hy166]; with_reducible exact H2_) | (have H2_ := (Option.bind_some _ _).symm.trans H; with_reducible exact H2_) | with_reducible exact H | (rw [hy166]; exact H) | exact H
                      have Ny166 := Aside0.mk hy166
                      clear hy166
                      have H' := Aside0.mk H
                      clear H
                      go_wp2_with (first | ((with_reducible refine gate_callee (f := 27) rfl ?_); refine goesL_ (some 42) rfl rfl Try.func27 (by kernel_rfl) rfl #[.int .i64 x6_11] rfl (by (try simp only [List.map_toArray, List.map_cons, List.map_nil]); first | done | rfl | (simp only [List.length_drop, List.length_take]; rfl)) ?_; (with_reducible refine (spec_l1Pow.calls k3 x6_11 t163 _ A25.out).mono ?_); rintro e w' ⟨rfl, ⟨nd, rfl⟩⟩; refine ⟨_, rfl, ?_⟩) | ((with_reducible refine gate_callee (f := 17) rfl ?_); refine goesL_ (some 43) rfl rfl Try.func17 (by kernel_rfl) rfl #[.pointer (some ⟨g147, 0, none⟩), .int .i64 t163] rfl (by (try simp only [List.map_toArray, List.map_cons, List.map_nil]); first | done | rfl | (simp only [List.length_drop, List.length_take]; rfl)) ?_; (with_reducible refine (spec_l1Rd_pick.calls k3 g147 t145 x148001_3 t163 t164 t165 w _ ?side1 ?side2 A26.out).mono ?_); (case side1 => repeat (first | (with_reducible first | exact HI147.out | apply IsS58.alloc | apply IsS58.drewN | apply IsS58.drew | apply IsS58.set_1) | exact HI147.out)); (case side2 => repeat (first | (with_reducible first | exact HB.out | apply below_alloc | apply pw_below_drewN | apply below_drew1 | refine below_set ?_ (IsS58.ge HI147.out)) | exact HB.out)); rintro e w28 ⟨rfl, hi, hb, hk⟩; refine ⟨_, rfl, ?_⟩; have n0_ := Aside0.mk (Kd.R_mono (Kd.R_keep (IsS58.apart (show IsS58 w _ g147 t145 x148001_3 from by repeat (first | (with_reducible first | exact HI147.out | apply IsS58.alloc | apply IsS58.drewN | apply IsS58.drew | apply IsS58.set_1) | exact HI147.out)) (by (with_reducible repeat (first | apply Kd.R_alloc | apply Kd.R_drewN | apply Kd.R_drew)); exact HO_9.out) (by decide)) hk (fun _ h => h.2)) (fun _ h => h.1)); have n1_ := Aside0.mk (hb); have n2_ := Aside0.mk (hi); clear HO_9; clear HB; clear HI147; have HO_9 := n0_; have HB := n1_; have HI147 := n2_; clear n0_ n1_ n2_; (try clear hb); (try clear hb2); (try clear hk); (try clear hi)) | ((with_reducible refine gate_builtin (b := .append) (xs := #[.tmp 39, .tmp 45]) rfl ?_); at_builtin; refine Kd.R_append (Kd.int .u8) (w0 := w) w.heap.size rfl (.tmp 39) (.tmp 45) 22 5 (.int .u8 0) 1 rfl Try.underlying22 info5 rfl (by decide) (by omega) u9 x9_3 ((t164) % 256) [.int .u8 ((t164) % 256)] (fun _ => True) (fun _ => False) rfl rfl ?aP (fun _ hk => hk.elim) ?aF ?aO ?aB ?aS ?aL ?_; (case aP => exact rfl); (case aB => exact (by repeat (first | (with_reducible first | exact HB.out | apply below_alloc | apply pw_below_drewN | apply below_drew1 | refine below_set ?_ (IsS58.ge HI147.out)) | exact HB.out))); (case aF => exact (fun _ _ => trivial)); (case aO => exact (by (with_reducible repeat (first | apply Kd.R_alloc | apply Kd.R_drewN | apply Kd.R_drew)); exact HO_9.out)); (case aS => exact (below_size (by repeat (first | (with_reducible first | exact HB.out | apply below_alloc | apply pw_below_drewN | apply below_drew1 | refine below_set ?_ (IsS58.ge HI147.out)) | exact HB.out)))); (case aL => have := LMc27.out; omega); intro v167 w29 ho hb hg hat; rw [← Ny166.out] at ho; have n0_ := Aside0.mk (IsS58.grown (by repeat (first | (with_reducible first | exact HI147.out | apply IsS58.alloc | apply IsS58.drewN | apply IsS58.drew | apply IsS58.set_1) | exact HI147.out)) hg (IsS58.own_ne HI147.out HO_9.out (by decide))); have n1_ := Aside0.mk (hb); have n2_ := Aside0.mk (ho); clear HI147; clear HB; clear HO_9; have HI147 := n0_; have HB := n1_; have HO168 := n2_; clear n0_ n1_ n2_; clear ho hb hg hat))
                      go_roundg k3
                      case measure => have := HJ4.out; have := HJ11.out; have := HK3.out; omega
                      case rel => exact ⟨(y166), (wrap64 (x10_3 - 1)), (t165), (by first | rfl | (simp; done) | (simp [*]; done)), H', ⟨by have := HJ4.out; have := HJ11.out; have := HK3.out; omega⟩, ⟨by (with_reducible repeat (first | apply Kd.R_alloc | apply Kd.R_drewN | apply Kd.R_drew)); exact HO168.out⟩, ⟨by repeat (first | (with_reducible first | exact HI147.out | apply IsS58.alloc | apply IsS58.drewN | apply IsS58.drew | apply IsS58.set_1) | exact HI147.out)⟩, ⟨by repeat (first | (with_reducible first | exact HB.out | apply below_alloc | apply pw_below_drewN | apply below_drew1 | refine below_set ?_ (IsS58.ge HI147.out)) | exact HB.out)⟩⟩
                    · rw [if_neg c27] at H
                      exact absurd H (by simp)
                  · rw [if_neg c24] at H
                    have c24b0 : decide (0 < x10_3) = false := decide_eq_false c24
                    clear c24
                    have H' := Aside0.mk H
                    clear H
                    have hcv30 := own_string (P := Try.prog) Try.underlying22 Try.underlying5 Try.underlying9 (Kd.own_of_R HO_9.out)
                    go_wp2
                    go_meet
                    case rel => exact ⟨_, (strOfNums x9_3), (x148001_3), (by first | rfl | (simp; done) | (simp [*]; done)), H', ⟨by have := HJ4.out; have := HJ11.out; have := HK3.out; first | omega | exact Nat.le_refl _⟩, ⟨by repeat (first | (with_reducible first | exact HI147.out | apply IsS58.alloc | apply IsS58.drewN | apply IsS58.drew | apply IsS58.set_1) | exact HI147.out)⟩, ⟨by repeat (first | (with_reducible first | exact HB.out | apply below_alloc | apply pw_below_drewN | apply below_drew1 | refine below_set ?_ (IsS58.ge HI147.out)) | exact HB.out)⟩⟩
            · rw [if_neg c19] at H
              have c19b0 : (t156 == 0) = false := beq_eq_false_iff_ne.mpr c19
              have c19b1 : (t156 != 0) = true := bne_iff_ne.mpr c19
              (first | rw [c19b0] | (simp only [i64_w, i32_w]; rw [c19b0]) | skip)
              have H' := Aside0.mk H
              clear H
              go_wp2
              go_meet
              case rel => exact ⟨_, (t154), (t157), (by first | rfl | (simp; done) | (simp [*]; done)), H', ⟨by have := HJ4.out; have := HJ11.out; first | omega | exact Nat.le_refl _⟩, ⟨by repeat (first | (with_reducible first | exact HI147.out | apply IsS58.alloc | apply IsS58.drewN | apply IsS58.drew | apply IsS58.set_1) | exact HI147.out)⟩, ⟨by repeat (first | (with_reducible first | exact HB.out | apply below_alloc | apply pw_below_drewN | apply below_drew1 | refine below_set ?_ (IsS58.ge HI147.out)) | exact HB.out)⟩⟩
          case rest =>
            clear HC16
            try clear c1
            try clear c2
            try clear p2
            try clear hcv3
            try clear p6
            try clear c9
            try clear c9b0
            try clear c9b1
            try clear c13
            try clear c14
            try clear c15
            try clear c17
            try clear c19
            try clear c19b0
            try clear c19b1
            try clear c24
            try clear c24b0
            try clear c26
            try clear c27
            try clear hcv30
            try clear p2
            try clear p6
            obtain ⟨kq, x8_15, x148001_15, rfl, HA, HJ15, HI147, HB⟩ := hcut
            cases kq with
            | zero => exact absurd HA.out (by simp [spec_DrawLzwPut.j3])
            | succ kj15 =>
              have H := HA.out
              clear HA
              simp only [spec_DrawLzwPut.j3] at H
              replace H := Option.bind_eq_some_iff.mp H
              obtain ⟨⟨t169, t170⟩, A310, H⟩ := H
              replace H : (if t169 = 0 then ((some (([1, 9] : List Int) : List Int)).bind fun y171 => ((spec_l1Rd_pick.f kj15 t145 t170 2).bind fun bt174 => (if 0 ≤ bt174.1 then (if bt174.1 < (y171.length : Int) then (some (x8_15, rd y171 bt174.1, bq_)) else (none)) else (none)))) else (if t169 = 1 then (if x8_15.size + 1 ≤ 9223372036854775807 then (some (x8_15 ++ (⟨#[255]⟩ : ByteArray), x6_11, bq_)) else (none)) else (some (x8_15, x6_11, bq_)))) = some (r1, r2, r3) := H
              have A31 := Aside0.mk A310
              clear A310
              by_cases c32 : t169 = 0
              · rw [if_pos c32] at H
                have c32b0 : (t169 == 0) = true := beq_iff_eq.mpr c32
                have c32b1 : (t169 != 0) = false := bne_eq_false_iff_eq.mpr c32
                clear c32
                obtain ⟨y171, hy171⟩ : ∃ y_ : List Int, y_ = (([1, 9] : List Int)) := ⟨_, rfl⟩
                replace H : ((spec_l1Rd_pick.f kj15 t145 t170 2).bind fun bt174 => (if 0 ≤ bt174.1 then (if bt174.1 < (y171.length : Int) then (some (x8_15, rd y171 bt174.1, bq_)) else (none)) else (none))) = some (r1, r2, r3) := by first | (rw [hy171]; with_reducible exact H) | (have H2_ := (Option.bind_some _ _).symm.trans H; rw [hy171]; with_reducible exact H2_) | (have H2_ := (Option.bind_some _ _).symm.trans H; with_reducible exact H2_) | with_reducible exact H | (rw [hy171]; exact H) | exact H
                have Ny171 := Aside0.mk hy171
                clear hy171
                replace H := Option.bind_eq_some_iff.mp H
                obtain ⟨⟨t174, t175⟩, A330, H⟩ := H
                replace H : (if 0 ≤ t174 then (if t174 < (y171.length : Int) then (some (x8_15, rd y171 t174, bq_)) else (none)) else (none)) = some (r1, r2, r3) := H
                have A33 := Aside0.mk A330
                clear A330
                by_cases c34 : 0 ≤ t174
                · rw [if_pos c34] at H
                  have c34b0 : decide (0 ≤ t174) = true := decide_eq_true c34
                  clear c34
                  by_cases c35 : t174 < (y171.length : Int)
                  · rw [if_pos c35] at H
                    have c35b0 : decide (t174 < (y171.length : Int)) = true := decide_eq_true c35
                    clear c35
                    simp only [Option.some.injEq, Prod.mk.injEq] at H
                    obtain ⟨rfl, rfl, rfl⟩ := H
                    go_wp2_with (first | ((with_reducible refine gate_callee (f := 17) rfl ?_); refine goesL_ (some 50) rfl rfl Try.func17 (by kernel_rfl) rfl #[.pointer (some ⟨g147, 0, none⟩), .int .i64 20] rfl (by (try simp only [List.map_toArray, List.map_cons, List.map_nil]); first | done | rfl | (simp only [List.length_drop, List.length_take]; rfl)) ?_; (with_reducible refine (spec_l1Rd_pick.calls kj15 g147 t145 x148001_15 20 t169 t170 w _ ?side1 ?side2 A31.out).mono ?_); (case side1 => repeat (first | (with_reducible first | exact HI147.out | apply IsS58.alloc | apply IsS58.drewN | apply IsS58.drew | apply IsS58.set_1) | exact HI147.out)); (case side2 => repeat (first | (with_reducible first | exact HB.out | apply below_alloc | apply pw_below_drewN | apply below_drew1 | refine below_set ?_ (IsS58.ge HI147.out)) | exact HB.out)); rintro e w36 ⟨rfl, hi, hb, hk⟩; refine ⟨_, rfl, ?_⟩; have n0_ := Aside0.mk (hb); have n1_ := Aside0.mk (hi); clear HB; clear HI147; have HB := n0_; have HI147 := n1_; clear n0_ n1_; (try clear hb); (try clear hb2); (try clear hk); (try clear hi)) | ((with_reducible refine gate_dst (N := 53) rfl ?_); refine Kd.R_lit (Kd.int .i64) _ 3 ?hg (N := 53) ?hd (xs := ([1, 9] : List Int)) (inner := [.int .i64 1, .int .i64 9]) (ok := fun _ => True) (okp := fun _ => True) ?hr ?hp (fun _ hk => hk) trivial (Below.refl _ _) (Nat.le_refl _) (by simp) ?_; (case hd => rfl); (case hg => rfl); (case hr => first | (go_simp; done) | (go_simp; rfl)); (case hp => exact (Reps.one (show Kd.M (Kd.int .i64) _ _ _ 1 [.int .i64 1] from rfl) (Reps.one (show Kd.M (Kd.int .i64) _ _ _ 9 [.int .i64 9] from rfl) (Reps.none _ _)))); intro v172 w37 ho38 hb hg_ hnew_; clear hg_ hnew_; (first | rw [← Ny171.out] at ho38 | (simp only [Int.reduceToNat] at ho38; rw [← Ny171.out] at ho38)); have n0_ := Aside0.mk (Kd.R_lower ho38 (below_size (by repeat (first | (with_reducible first | exact HB.out | apply below_alloc | apply pw_below_drewN | apply below_drew1 | refine below_set ?_ (IsS58.ge HI147.out)) | exact HB.out)))); have n1_ := Aside0.mk (IsS58.below (by repeat (first | (with_reducible first | exact HI147.out | apply IsS58.alloc | apply IsS58.drewN | apply IsS58.drew | apply IsS58.set_1) | exact HI147.out)) hb); have n2_ := Aside0.mk (below_step (by repeat (first | (with_reducible first | exact HB.out | apply below_alloc | apply pw_below_drewN | apply below_drew1 | refine below_set ?_ (IsS58.ge HI147.out)) | exact HB.out)) hb); clear HI147; clear HB; have HO173 := n0_; have HI147 := n1_; have HB := n2_; clear n0_ n1_ n2_; clear hb ho38) | ((with_reducible refine gate_callee (f := 17) rfl ?_); refine goesL_ (some 55) rfl rfl Try.func17 (by kernel_rfl) rfl #[.pointer (some ⟨g147, 0, none⟩), .int .i64 2] rfl (by (try simp only [List.map_toArray, List.map_cons, List.map_nil]); first | done | rfl | (simp only [List.length_drop, List.length_take]; rfl)) ?_; (with_reducible refine (spec_l1Rd_pick.calls kj15 g147 t145 t170 2 t174 t175 w _ ?side1 ?side2 A33.out).mono ?_); (case side1 => repeat (first | (with_reducible first | exact HI147.out | apply IsS58.alloc | apply IsS58.drewN | apply IsS58.drew | apply IsS58.set_1) | exact HI147.out)); (case side2 => repeat (first | (with_reducible first | exact HB.out | apply below_alloc | apply pw_below_drewN | apply below_drew1 | refine below_set ?_ (IsS58.ge HI147.out)) | exact HB.out)); rintro e w39 ⟨rfl, hi, hb, hk⟩; refine ⟨_, rfl, ?_⟩; have n0_ := Aside0.mk (Kd.R_mono (Kd.R_keep (IsS58.apart (show IsS58 w _ g147 t145 t170 from by repeat (first | (with_reducible first | exact HI147.out | apply IsS58.alloc | apply IsS58.drewN | apply IsS58.drew | apply IsS58.set_1) | exact HI147.out)) (by (with_reducible repeat (first | apply Kd.R_alloc | apply Kd.R_drewN | apply Kd.R_drew)); exact HO173.out) (by decide)) hk (fun _ h => h.2)) (fun _ h => h.1)); have n1_ := Aside0.mk (hb); have n2_ := Aside0.mk (hi); clear HO173; clear HB; clear HI147; have HO173 := n0_; have HB := n1_; have HI147 := n2_; clear n0_ n1_ n2_; (try clear hb); (try clear hb2); (try clear hk); (try clear hi); obtain ⟨Ao40, co40, eo40⟩ := Kd.R_slice HO173.out; subst eo40; have p176 : 0 ≤ (t174 : Int) := of_decide_eq_true (by first | (with_reducible assumption) | assumption); have q176 : t174 < (y171.length : Int) := of_decide_eq_true (by first | (with_reducible assumption) | assumption); obtain ⟨ad176, e176, hx176_0⟩ := Kd.at_int (Kd.R_reads' HO173.out).2.2 t174 p176 q176; cases e176; replace p176 := eq_true p176; replace q176 := eq_true q176))
                    go_ret3
                    exact ⟨by first | rfl | (simp [errW_none, errW_some] <;> rfl) | (simp [*, errW_none, errW_some] <;> rfl), by repeat (first | (with_reducible first | exact HB.out | apply below_alloc | apply pw_below_drewN | apply below_drew1 | refine below_set ?_ (IsS58.ge HI147.out)) | exact HB.out)⟩
                  · rw [if_neg c35] at H
                    exact absurd H (by simp)
                · rw [if_neg c34] at H
                  exact absurd H (by simp)
              · rw [if_neg c32] at H
                have c32b0 : (t169 == 0) = false := beq_eq_false_iff_ne.mpr c32
                have c32b1 : (t169 != 0) = true := bne_iff_ne.mpr c32
                by_cases c41 : t169 = 1
                · rw [if_pos c41] at H
                  have c41b0 : (t169 == 1) = true := beq_iff_eq.mpr c41
                  have c41b1 : (t169 != 1) = false := bne_eq_false_iff_eq.mpr c41
                  clear c41
                  by_cases c42 : x8_15.size + 1 ≤ 9223372036854775807
                  · rw [if_pos c42] at H
                    have c42b0 := eq_true c42
                    have c42b1 : decide (x8_15.size + 1 ≤ 9223372036854775807) = true := decide_eq_true c42
                    try have c42b2 : (9223372036854775807 < x8_15.size + 1) = False := eq_false (Nat.not_lt.2 c42)
                    simp only [Option.some.injEq, Prod.mk.injEq] at H
                    obtain ⟨rfl, rfl, rfl⟩ := H
                    go_wp2_with (first | ((with_reducible refine gate_callee (f := 17) rfl ?_); refine goesL_ (some 50) rfl rfl Try.func17 (by kernel_rfl) rfl #[.pointer (some ⟨g147, 0, none⟩), .int .i64 20] rfl (by (try simp only [List.map_toArray, List.map_cons, List.map_nil]); first | done | rfl | (simp only [List.length_drop, List.length_take]; rfl)) ?_; (with_reducible refine (spec_l1Rd_pick.calls kj15 g147 t145 x148001_15 20 t169 t170 w _ ?side1 ?side2 A31.out).mono ?_); (case side1 => repeat (first | (with_reducible first | exact HI147.out | apply IsS58.alloc | apply IsS58.drewN | apply IsS58.drew | apply IsS58.set_1) | exact HI147.out)); (case side2 => repeat (first | (with_reducible first | exact HB.out | apply below_alloc | apply pw_below_drewN | apply below_drew1 | refine below_set ?_ (IsS58.ge HI147.out)) | exact HB.out)); rintro e w43 ⟨rfl, hi, hb, hk⟩; refine ⟨_, rfl, ?_⟩; have n0_ := Aside0.mk (hb); have n1_ := Aside0.mk (hi); clear HB; clear HI147; have HB := n0_; have HI147 := n1_; clear n0_ n1_; (try clear hb); (try clear hb2); (try clear hk); (try clear hi)))
                    go_ret3
                    exact ⟨by first | rfl | (simp [errW_none, errW_some] <;> rfl) | (simp [*, errW_none, errW_some] <;> rfl), by repeat (first | (with_reducible first | exact HB.out | apply below_alloc | apply pw_below_drewN | apply below_drew1 | refine below_set ?_ (IsS58.ge HI147.out)) | exact HB.out)⟩
                  · rw [if_neg c42] at H
                    exact absurd H (by simp)
                · rw [if_neg c41] at H
                  have c41b0 : (t169 == 1) = false := beq_eq_false_iff_ne.mpr c41
                  have c41b1 : (t169 != 1) = true := bne_iff_ne.mpr c41
                  simp only [Option.some.injEq, Prod.mk.injEq] at H
                  obtain ⟨rfl, rfl, rfl⟩ := H
                  go_wp2_with (first | ((with_reducible refine gate_callee (f := 17) rfl ?_); refine goesL_ (some 50) rfl rfl Try.func17 (by kernel_rfl) rfl #[.pointer (some ⟨g147, 0, none⟩), .int .i64 20] rfl (by (try simp only [List.map_toArray, List.map_cons, List.map_nil]); first | done | rfl | (simp only [List.length_drop, List.length_take]; rfl)) ?_; (with_reducible refine (spec_l1Rd_pick.calls kj15 g147 t145 x148001_15 20 t169 t170 w _ ?side1 ?side2 A31.out).mono ?_); (case side1 => repeat (first | (with_reducible first | exact HI147.out | apply IsS58.alloc | apply IsS58.drewN | apply IsS58.drew | apply IsS58.set_1) | exact HI147.out)); (case side2 => repeat (first | (with_reducible first | exact HB.out | apply below_alloc | apply pw_below_drewN | apply below_drew1 | refine below_set ?_ (IsS58.ge HI147.out)) | exact HB.out)); rintro e w44 ⟨rfl, hi, hb, hk⟩; refine ⟨_, rfl, ?_⟩; have n0_ := Aside0.mk (hb); have n1_ := Aside0.mk (hi); clear HB; clear HI147; have HB := n0_; have HI147 := n1_; clear n0_ n1_; (try clear hb); (try clear hb2); (try clear hk); (try clear hi)))
                  go_ret3
                  exact ⟨by first | rfl | (simp [errW_none, errW_some] <;> rfl) | (simp [*, errW_none, errW_some] <;> rfl), by repeat (first | (with_reducible first | exact HB.out | apply below_alloc | apply pw_below_drewN | apply below_drew1 | refine below_set ?_ (IsS58.ge HI147.out)) | exact HB.out)⟩

/-! ### spec_l1In: function 24 -/
def spec_l1In.f (a0 : Int) (a1 : Int) (a2 : Int) : Option (Bool) := if a0 ≥ a1 then (some (decide (a0 ≤ a2))) else (some false)
set_option maxHeartbeats 8000000 in
set_option maxRecDepth 100000 in
theorem spec_l1In.calls (a0 : Int) (a1 : Int) (a2 : Int) (r : Bool) (w : World) (h : spec_l1In.f a0 a1 a2 = some r) :
    Calls Try.prog 24 #[.int .i64 a0, .int .i64 a1, .int .i64 a2] w fun e w' => e = .returned (.bool r) ∧ Drawn0 w w' := by
  have H : (if a0 ≥ a1 then (some (decide (a0 ≤ a2))) else (some false)) = some r := h
  clear h
  by_cases c4 : a0 ≥ a1
  · rw [if_pos c4] at H
    have c4b0 : decide (a1 ≤ a0) = true := decide_eq_true c4
    clear c4
    obtain rfl := Option.some.inj H
    go_enter Try.func24, Try.ntmps24
    go_wp2
    go_ret
    exact ⟨by first | rfl | (simp; done) | (simp [*]; done), by repeat (first | exact Drawn0.refl _ | apply Drawn0.step)⟩
  · rw [if_neg c4] at H
    have c4b0 : decide (a1 ≤ a0) = false := decide_eq_false c4
    clear c4
    obtain rfl := Option.some.inj H
    go_enter Try.func24, Try.ntmps24
    go_wp2
    go_ret
    exact ⟨by first | rfl | (simp; done) | (simp [*]; done), by repeat (first | exact Drawn0.refl _ | apply Drawn0.step)⟩

/-! ### spec_l6Ok: function 23 -/
def spec_l6Ok.f (a0 : Int) (a1 : Bool) : Option (Bool) := (spec_l1In.f a0 2 8).bind fun t177 => (if t177 = true then (if a1 = true then (some (a0 == 8)) else (some true)) else (some false))
set_option maxHeartbeats 8000000 in
set_option maxRecDepth 100000 in
theorem spec_l6Ok.calls (a0 : Int) (a1 : Bool) (r : Bool) (w : World) (h : spec_l6Ok.f a0 a1 = some r) :
    Calls Try.prog 23 #[.int .i64 a0, .bool a1] w fun e w' => e = .returned (.bool r) ∧ Drawn0 w w' := by
  have H : ((spec_l1In.f a0 2 8).bind fun t177 => (if t177 = true then (if a1 = true then (some (a0 == 8)) else (some true)) else (some false))) = some r := h
  clear h
  replace H := Option.bind_eq_some_iff.mp H
  obtain ⟨t177, A30, H⟩ := H
  replace H : (if t177 = true then (if a1 = true then (some (a0 == 8)) else (some true)) else (some false)) = some r := H
  have A3 := Aside0.mk A30
  clear A30
  by_cases c4 : t177 = true
  · subst c4
    have H1 : (if a1 = true then (some (a0 == 8)) else (some true)) = some r := by first | (rw [if_pos rfl] at H; exact H) | rfl
    clear H
    have H := H1
    clear H1
    by_cases c5 : a1 = true
    · subst c5
      have H1 : (some (a0 == 8)) = some r := by first | (rw [if_pos rfl] at H; exact H) | rfl
      clear H
      have H := H1
      clear H1
      obtain rfl := Option.some.inj H
      go_enter Try.func23, Try.ntmps23
      go_wp2_with (first | ((with_reducible refine gate_callee (f := 24) rfl ?_); refine goesL_ (some 6) rfl rfl Try.func24 (by kernel_rfl) rfl #[.int .i64 a0, .int .i64 2, .int .i64 8] rfl (by (try simp only [List.map_toArray, List.map_cons, List.map_nil]); first | done | rfl | (simp only [List.length_drop, List.length_take]; rfl)) ?_; (with_reducible refine (spec_l1In.calls a0 2 8 true _ A3.out).mono ?_); rintro e w' ⟨rfl, ⟨nd, rfl⟩⟩; refine ⟨_, rfl, ?_⟩))
      go_ret
      exact ⟨by first | rfl | (simp; done) | (simp [*]; done), by repeat (first | exact Drawn0.refl _ | apply Drawn0.step)⟩
    · replace c5 := Bool.eq_false_iff.mpr c5
      subst c5
      have H1 : (some true) = some r := by first | (rw [if_neg (show ¬ (false = true) by decide)] at H; exact H) | rfl
      clear H
      have H := H1
      clear H1
      obtain rfl := Option.some.inj H
      go_enter Try.func23, Try.ntmps23
      go_wp2_with (first | ((with_reducible refine gate_callee (f := 24) rfl ?_); refine goesL_ (some 6) rfl rfl Try.func24 (by kernel_rfl) rfl #[.int .i64 a0, .int .i64 2, .int .i64 8] rfl (by (try simp only [List.map_toArray, List.map_cons, List.map_nil]); first | done | rfl | (simp only [List.length_drop, List.length_take]; rfl)) ?_; (with_reducible refine (spec_l1In.calls a0 2 8 true _ A3.out).mono ?_); rintro e w' ⟨rfl, ⟨nd, rfl⟩⟩; refine ⟨_, rfl, ?_⟩))
      go_ret
      exact ⟨by first | rfl | (simp; done) | (simp [*]; done), by repeat (first | exact Drawn0.refl _ | apply Drawn0.step)⟩
  · replace c4 := Bool.eq_false_iff.mpr c4
    subst c4
    have H1 : (some false) = some r := by first | (rw [if_neg (show ¬ (false = true) by decide)] at H; exact H) | rfl
    clear H
    have H := H1
    clear H1
    obtain rfl := Option.some.inj H
    go_enter Try.func23, Try.ntmps23
    go_wp2_with (first | ((with_reducible refine gate_callee (f := 24) rfl ?_); refine goesL_ (some 6) rfl rfl Try.func24 (by kernel_rfl) rfl #[.int .i64 a0, .int .i64 2, .int .i64 8] rfl (by (try simp only [List.map_toArray, List.map_cons, List.map_nil]); first | done | rfl | (simp only [List.length_drop, List.length_take]; rfl)) ?_; (with_reducible refine (spec_l1In.calls a0 2 8 false _ A3.out).mono ?_); rintro e w' ⟨rfl, ⟨nd, rfl⟩⟩; refine ⟨_, rfl, ?_⟩))
    go_ret
    exact ⟨by first | rfl | (simp; done) | (simp [*]; done), by repeat (first | exact Drawn0.refl _ | apply Drawn0.step)⟩

end Go.Proofs.Ytdebckcphaocmaa.PFnLzwGet
