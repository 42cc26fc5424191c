/- What the functions that the law comes to compute, as plain functions, and that the machine's calls come to just that: written by a program for this claim, and turned where Lean did not take it. No condition. -/
import Derived.Test.YtfladcffgblfdaaThRowZ
import Derived.Test.YtfladcffgblfdaaHFnPackGetx0
import Derived.Test.YtfladcffgblfdaaHFnPackGetx1
import Derived.Test.YtfladcffgblfdaaHFnPackGetx2
namespace Go.Proofs.Ytfladcffgblfdaa.PFnPackGet
open Go.RowKit Go.Proofs.YtfladcffgblfdaaW.PrintWords Go.Proofs.YtfladcffgblfdaaW.PrintLast Go.Proofs.YtfladcffgblfdaaW.PrintMore
attribute [local go_sem] max2_int min2_int max_two min_two max_three min_three max_four min_four   -- for this text's walks alone
set_option linter.unusedVariables false
set_option linter.unusedSimpArgs false

/-! ### spec_PackPut: function 38 -/
def spec_PackPut.l0 : Nat → ByteArray → ByteArray → Int → Option (ByteArray)
  | 0, _, _, _ => none
  | k + 1, x0, x3, x4 => if x4 < (x0.size : Int) then ((spec_l7Alike.f k x0 x4 128).bind fun t159 => (if t159 ≥ 3 then ((some (([(wrap64 (257 - t159)) % 256] : List Int) : List Int)).bind fun y160 => (if x3.size + (strOfNums y160).size ≤ 9223372036854775807 then (if 0 ≤ x4 then (if x4 ≤ (wrap64 (x4 + 1)) then (if (wrap64 (x4 + 1)) ≤ (x0.size : Int) then (if (x3 ++ (strOfNums y160)).size + (x0.extract (x4 : Int).toNat ((wrap64 (x4 + 1)) : Int).toNat).size ≤ 9223372036854775807 then (spec_PackPut.l0 k x0 ((x3 ++ (strOfNums y160)) ++ (x0.extract (x4 : Int).toNat ((wrap64 (x4 + 1)) : Int).toNat)) (wrap64 (x4 + t159))) else (none)) else (none)) else (none)) else (none)) else (none))) else ((spec_l7Fresh.f k x0 x4 128).bind fun t163 => ((some (([(wrap64 (t163 - 1)) % 256] : List Int) : List Int)).bind fun y164 => (if x3.size + (strOfNums y164).size ≤ 9223372036854775807 then (if 0 ≤ x4 then (if x4 ≤ (wrap64 (x4 + t163)) then (if (wrap64 (x4 + t163)) ≤ (x0.size : Int) then (if (x3 ++ (strOfNums y164)).size + (x0.extract (x4 : Int).toNat ((wrap64 (x4 + t163)) : Int).toNat).size ≤ 9223372036854775807 then (spec_PackPut.l0 k x0 ((x3 ++ (strOfNums y164)) ++ (x0.extract (x4 : Int).toNat ((wrap64 (x4 + t163)) : Int).toNat)) (wrap64 (x4 + t163))) else (none)) else (none)) else (none)) else (none)) else (none)))))) else (some x3)
def spec_PackPut.f (k : Nat) (a0 : ByteArray) : Option (ByteArray) := if (a0.size : Int) > 5000 then (some (⟨#[]⟩ : ByteArray)) else (spec_PackPut.l0 k a0 (⟨#[]⟩ : ByteArray) 0)
theorem spec_PackPut.mono_l : ∀ k, (∀ y0 y1 y2, LeO (spec_PackPut.l0 k y0 y1 y2) (spec_PackPut.l0 (k + 1) y0 y1 y2))
  | 0 => fun _ _ _ r h => by simp [spec_PackPut.l0] at h
  | k + 1 => by
    have ih0 := spec_PackPut.mono_l k
    · intro y0 y1 y2
      unfold spec_PackPut.l0
      repeat' first
      | (with_reducible exact ih0 _ _ _)
      | (with_reducible exact spec_l7Alike.mono _ _ _ _)
      | (with_reducible exact spec_l7Fresh.mono _ _ _ _)
      | (with_reducible exact LeO.refl _)
      | (with_reducible exact LeO.none _)
      | (with_reducible refine LeO.ite ?_ ?_)
      | (with_reducible refine LeO.bind ?_ (fun _ => ?_))
      | exact ih0 _ _ _
      | exact spec_l7Alike.mono _ _ _ _
      | exact spec_l7Fresh.mono _ _ _ _
      | exact LeO.none _
      | refine LeO.ite ?_ ?_
      | refine LeO.bind ?_ (fun _ => ?_)
theorem spec_PackPut.mono : ∀ a0 k, LeO (spec_PackPut.f k a0) (spec_PackPut.f (k + 1) a0) := by
  intro a0 k
  have ih0 := spec_PackPut.mono_l k
  unfold spec_PackPut.f
  repeat' first
      | (with_reducible exact ih0 _ _ _)
      | (with_reducible exact spec_l7Alike.mono _ _ _ _)
      | (with_reducible exact spec_l7Fresh.mono _ _ _ _)
      | (with_reducible exact LeO.refl _)
      | (with_reducible exact LeO.none _)
      | (with_reducible refine LeO.ite ?_ ?_)
      | (with_reducible refine LeO.bind ?_ (fun _ => ?_))
      | exact ih0 _ _ _
      | exact spec_l7Alike.mono _ _ _ _
      | exact spec_l7Fresh.mono _ _ _ _
      | exact LeO.none _
      | refine LeO.ite ?_ ?_
      | refine LeO.bind ?_ (fun _ => ?_)
def spec_PackPut.T8 : Bool × List (List Nat × List Nat) := (true, [([], []), ([], []), ([1], [1]), ([2], [2]), ([3], [3]), ([4], [4]), ([0, 5], [0, 5]), ([], []), ([], []), ([], []), ([9], [9]), ([7, 8, 10], [7, 8, 10]), ([6, 11], [6, 11]), ([12, 0, 1, 2, 3, 4, 5, 6, 7, 8, 9, 10, 11, 12], [0, 12])])
def spec_PackPut.B8 : List Nat := [0, 0, 2, 6, 14, 30, 63, 0, 0, 0, 512, 1920, 4095, 8191]
theorem spec_PackPut.tab8 : rtab .any (opsOf Try.f38 8) = spec_PackPut.T8 := by kernel_rfl
theorem spec_PackPut.bits8 : waitsOk spec_PackPut.T8.2 spec_PackPut.B8 = true := by kernel_rfl
def spec_PackPut.T10 : Bool × List (List Nat × List Nat) := (true, [([], []), ([], []), ([1], [1]), ([2], [2]), ([3], [3]), ([4], [4]), ([0, 5], [0, 5]), ([], []), ([], []), ([], []), ([], []), ([9, 10], [9, 10]), ([7, 8, 11], [7, 8, 11]), ([6, 12], [6, 12]), ([13, 0, 1, 2, 3, 4, 5, 6, 7, 8, 9, 10, 11, 12, 13], [0, 13])])
def spec_PackPut.B10 : List Nat := [0, 0, 2, 6, 14, 30, 63, 0, 0, 0, 0, 1536, 3968, 8191, 16383]
theorem spec_PackPut.tab10 : rtab .any (opsOf Try.f38 10) = spec_PackPut.T10 := by kernel_rfl
theorem spec_PackPut.bits10 : waitsOk spec_PackPut.T10.2 spec_PackPut.B10 = true := by kernel_rfl
set_option maxHeartbeats 8000000 in
set_option maxRecDepth 100000 in
theorem spec_PackPut.calls (k : Nat) (a0 : ByteArray) (r : ByteArray) (w : World) (h : spec_PackPut.f k a0 = some r) :
    Calls Try.prog 38 #[.string a0] w fun e w' => e = .returned (.string r) ∧ Below w.heap.size w w' := by
  have HB := Aside0.mk (Below.refl w.heap.size w)
  have H : (if (a0.size : Int) > 5000 then (some (⟨#[]⟩ : ByteArray)) else (spec_PackPut.l0 k a0 (⟨#[]⟩ : ByteArray) 0)) = some r := h
  clear h
  by_cases c2 : (a0.size : Int) > 5000
  · rw [if_pos c2] at H
    have c2b0 : decide (5000 < (a0.size : Int)) = true := decide_eq_true c2
    have c2b1 : decide (5000 < a0.size) = true := decide_eq_true (by omega)
    clear c2
    obtain rfl := Option.some.inj H
    go_enter Try.func38, Try.ntmps38
    go_wp2
    go_ret
    exact ⟨by first | rfl | (simp [errW_none, errW_some] <;> rfl) | (simp [*, errW_none, errW_some] <;> rfl), by repeat (first | (with_reducible first | exact HB.out | apply below_alloc | apply pw_below_drewN | apply below_drew1) | exact HB.out)⟩
  · rw [if_neg c2] at H
    have c2b0 : decide (5000 < (a0.size : Int)) = false := decide_eq_false c2
    have c2b1 : decide (5000 < a0.size) = false := decide_eq_false (by omega)
    clear c2
    have H' := Aside0.mk H
    clear H
    go_enter Try.func38, Try.ntmps38
    go_wp2
    go_loopg [3, 4] k (fun kq v3 v4 w' => ∃ (x3_1 : ByteArray) (x4_1 : Int), v3 = .string x3_1 ∧ v4 = .int .i64 x4_1 ∧ Aside0 (spec_PackPut.l0 kq a0 x3_1 x4_1 = some r) ∧ Aside0 (kq ≤ k) ∧ Aside0 (Below w.heap.size w w'))
    case atStart => exact ⟨((⟨#[]⟩ : ByteArray)), (0), (by first | rfl | (simp; done) | (simp [*]; done)), (by first | rfl | (simp; done) | (simp [*]; done)), H', ⟨Nat.le_refl _⟩, ⟨by repeat (first | (with_reducible first | exact HB.out | apply below_alloc | apply pw_below_drewN | apply below_drew1) | exact HB.out)⟩⟩
    case round =>
      clear H'
      try clear c2
      try clear c2b0
      try clear c2b1
      try clear p2
      obtain ⟨x3_1, x4_1, rfl, rfl, HA, HK1, HB⟩ := hrel
      cases gk with
      | zero => exact absurd HA.out (by simp [spec_PackPut.l0])
      | succ k1 =>
        have H := HA.out
        clear HA
        simp only [spec_PackPut.l0] at H
        by_cases c3 : x4_1 < (a0.size : Int)
        · rw [if_pos c3] at H
          have c3b0 : decide (x4_1 < (a0.size : Int)) = true := decide_eq_true c3
          clear c3
          replace H := Option.bind_eq_some_iff.mp H
          obtain ⟨t159, A40, H⟩ := H
          replace H : (if t159 ≥ 3 then ((some (([(wrap64 (257 - t159)) % 256] : List Int) : List Int)).bind fun y160 => (if x3_1.size + (strOfNums y160).size ≤ 9223372036854775807 then (if 0 ≤ x4_1 then (if x4_1 ≤ (wrap64 (x4_1 + 1)) then (if (wrap64 (x4_1 + 1)) ≤ (a0.size : Int) then (if (x3_1 ++ (strOfNums y160)).size + (a0.extract (x4_1 : Int).toNat ((wrap64 (x4_1 + 1)) : Int).toNat).size ≤ 9223372036854775807 then (spec_PackPut.l0 k1 a0 ((x3_1 ++ (strOfNums y160)) ++ (a0.extract (x4_1 : Int).toNat ((wrap64 (x4_1 + 1)) : Int).toNat)) (wrap64 (x4_1 + t159))) else (none)) else (none)) else (none)) else (none)) else (none))) else ((spec_l7Fresh.f k1 a0 x4_1 128).bind fun t163 => ((some (([(wrap64 (t163 - 1)) % 256] : List Int) : List Int)).bind fun y164 => (if x3_1.size + (strOfNums y164).size ≤ 9223372036854775807 then (if 0 ≤ x4_1 then (if x4_1 ≤ (wrap64 (x4_1 + t163)) then (if (wrap64 (x4_1 + t163)) ≤ (a0.size : Int) then (if (x3_1 ++ (strOfNums y164)).size + (a0.extract (x4_1 : Int).toNat ((wrap64 (x4_1 + t163)) : Int).toNat).size ≤ 9223372036854775807 then (spec_PackPut.l0 k1 a0 ((x3_1 ++ (strOfNums y164)) ++ (a0.extract (x4_1 : Int).toNat ((wrap64 (x4_1 + t163)) : Int).toNat)) (wrap64 (x4_1 + t163))) else (none)) else (none)) else (none)) else (none)) else (none))))) = some r := H
          have A4 := Aside0.mk A40
          clear A40
          by_cases c5 : t159 ≥ 3
          · rw [if_pos c5] at H
            have c5b0 : decide (3 ≤ t159) = true := decide_eq_true c5
            clear c5
            obtain ⟨y160, hy160⟩ : ∃ y_ : List Int, y_ = (([(wrap64 (257 - t159)) % 256] : List Int)) := ⟨_, rfl⟩
            replace H : (if x3_1.size + (strOfNums y160).size ≤ 9223372036854775807 then (if 0 ≤ x4_1 then (if x4_1 ≤ (wrap64 (x4_1 + 1)) then (if (wrap64 (x4_1 + 1)) ≤ (a0.size : Int) then (if (x3_1 ++ (strOfNums y160)).size + (a0.extract (x4_1 : Int).toNat ((wrap64 (x4_1 + 1)) : Int).toNat).size ≤ 9223372036854775807 then (spec_PackPut.l0 k1 a0 ((x3_1 ++ (strOfNums y160)) ++ (a0.extract (x4_1 : Int).toNat ((wrap64 (x4_1 + 1)) : Int).toNat)) (wrap64 (x4_1 + t159))) else (none)) else (none)) else (none)) else (none)) else (none)) = some r := by first | (rw [hy160]; with_reducible exact H) | (have H2_ := (Option.bind_some _ _).symm.trans H; rw [hy160]; with_reducible exact H2_) | (have H2_ := (Option.bind_some _ _).symm.trans H; with_reducible exact H2_) | with_reducible exact H | (rw [hy160]; exact H) | exact H
            have Ny160 := Aside0.mk hy160
            clear hy160
            by_cases c6 : x3_1.size + (strOfNums y160).size ≤ 9223372036854775807
            · rw [if_pos c6] at H
              have c6b0 := eq_true c6
              have c6b1 : decide (x3_1.size + (strOfNums y160).size ≤ 9223372036854775807) = true := decide_eq_true c6
              try have c6b2 : (9223372036854775807 < x3_1.size + (strOfNums y160).size) = False := eq_false (Nat.not_lt.2 c6)
              by_cases c7 : 0 ≤ x4_1
              · rw [if_pos c7] at H
                have c7b0 := eq_true c7
                have c7b1 : decide (0 ≤ x4_1) = true := decide_eq_true c7
                clear c7
                by_cases c8 : x4_1 ≤ (wrap64 (x4_1 + 1))
                · rw [if_pos c8] at H
                  have c8b0 := eq_true c8
                  have c8b1 : decide (x4_1 ≤ (wrap64 (x4_1 + 1))) = true := decide_eq_true c8
                  by_cases c9 : (wrap64 (x4_1 + 1)) ≤ (a0.size : Int)
                  · rw [if_pos c9] at H
                    have c9b0 := eq_true c9
                    have c9b1 : decide ((wrap64 (x4_1 + 1)) ≤ (a0.size : Int)) = true := decide_eq_true c9
                    by_cases c10 : (x3_1 ++ (strOfNums y160)).size + (a0.extract (x4_1 : Int).toNat ((wrap64 (x4_1 + 1)) : Int).toNat).size ≤ 9223372036854775807
                    · rw [if_pos c10] at H
                      have c10b0 := eq_true c10
                      have c10b1 : decide ((x3_1 ++ (strOfNums y160)).size + (a0.extract (x4_1 : Int).toNat ((wrap64 (x4_1 + 1)) : Int).toNat).size ≤ 9223372036854775807) = true := decide_eq_true c10
                      try have c10b2 : (9223372036854775807 < (x3_1 ++ (strOfNums y160)).size + (a0.extract (x4_1 : Int).toNat ((wrap64 (x4_1 + 1)) : Int).toNat).size) = False := eq_false (Nat.not_lt.2 c10)
                      have c10b2q : (9223372036854775807 < x3_1.size + (strOfNums y160).size + (((wrap64 (x4_1 + 1))).toNat - x4_1.toNat)) = False := eq_false (by have h_ := c10; have h2_ := of_decide_eq_true c9b1; rw [ByteArray.size_append, ByteArray.size_extract] at h_; omega)
                      have H' := Aside0.mk H
                      clear H
                      try go_wp2_with (first | ((with_reducible refine gate_callee (f := 84) rfl ?_); refine goesL_ (some 15) rfl rfl Try.func84 (by kernel_rfl) rfl #[.string a0, .int .i64 x4_1, .int .i64 128] rfl (by (try simp only [List.map_toArray, List.map_cons, List.map_nil]); first | done | rfl | (simp only [List.length_drop, List.length_take]; rfl)) ?_; (with_reducible refine (spec_l7Alike.calls k1 a0 x4_1 128 t159 _ A4.out).mono ?_); rintro e w' ⟨rfl, ⟨nd, rfl⟩⟩; refine ⟨_, rfl, ?_⟩))
                      (try (rw [drewN_self wr]; generalize hq_ : World.drewN wr _ = wr; have n0_ : Aside0 (Below w.heap.size w wr) := ⟨by rw [← hq_]; exact (by repeat (first | (with_reducible first | exact HB.out | apply below_alloc | apply pw_below_drewN | apply below_drew1) | exact HB.out))⟩; clear HB hq_; have HB := n0_; clear n0_))
                      have n0_ := Aside0.mk (below_drew1 HB.out)
                      clear HB
                      have HB := n0_
                      clear n0_
                      refine start_ (n := 14) (S := fun w' => True) (ds := []) #[false, false, false, false, false, false, false, false, false, false, false, false, false, false] (by kernel_rfl) rfl rfl trivial (fun hHeld => ?_); refine with_tabW spec_PackPut.tab8 spec_PackPut.bits8 (fun HT_ HW_ => ?_)
                      generalize wr.drew = w11 at HB hHeld ⊢
                      refine pure_ (i := 0) (N := some 18) (v := ?_) (a' := ?_) #[true, false, false, false, false, false, false, false, false, false, false, false, false, false] rfl rfl (any_of HT_.out (by kernel_rfl)) (fun _ _ _ h => h) (Or.inl ⟨by rfl, ?_⟩) ?_ ?_
                      rotate_left
                      · intro w'
                        go_simp
                        with_reducible rfl
                      rotate_left
                      · simp only [Act.put, List.setIfInBounds_toArray, List.set_cons_zero, List.set_cons_succ, i64_w, i32_w]
                        rfl
                      refine pure_ (i := 1) (N := some 19) (v := ?_) (a' := ?_) #[true, true, false, false, false, false, false, false, false, false, false, false, false, false] rfl rfl (any_of HT_.out (by kernel_rfl)) (fun _ _ _ h => h) (Or.inl ⟨by rfl, ?_⟩) ?_ ?_
                      rotate_left
                      · intro w'
                        go_simp
                        with_reducible rfl
                      rotate_left
                      · simp only [Act.put, List.setIfInBounds_toArray, List.set_cons_zero, List.set_cons_succ, i64_w, i32_w]
                        rfl
                      refine pure_ (i := 2) (N := some 20) (v := ?_) (a' := ?_) #[true, true, true, false, false, false, false, false, false, false, false, false, false, false] rfl rfl (any_of HT_.out (by kernel_rfl)) (fun _ _ _ h => h) (Or.inl ⟨by rfl, ?_⟩) ?_ ?_
                      rotate_left
                      · intro w'
                        go_simp
                        with_reducible rfl
                      rotate_left
                      · simp only [Act.put, List.setIfInBounds_toArray, List.set_cons_zero, List.set_cons_succ, i64_w, i32_w]
                        rfl
                      refine pure_ (i := 3) (N := some 21) (v := ?_) (a' := ?_) #[true, true, true, true, false, false, false, false, false, false, false, false, false, false] rfl rfl (any_of HT_.out (by kernel_rfl)) (fun _ _ _ h => h) (Or.inl ⟨by rfl, ?_⟩) ?_ ?_
                      rotate_left
                      · intro w'
                        go_simp
                        with_reducible rfl
                      rotate_left
                      · simp only [Act.put, List.setIfInBounds_toArray, List.set_cons_zero, List.set_cons_succ, i64_w, i32_w]
                        rfl
                      refine pure_ (i := 7) (N := some 25) (v := ?_) (a' := ?_) #[true, true, true, true, false, false, false, true, false, false, false, false, false, false] rfl rfl (any_of HT_.out (by kernel_rfl)) (fun _ _ _ h => h) (Or.inl ⟨by rfl, ?_⟩) ?_ ?_
                      rotate_left
                      · intro w'
                        go_simp
                        with_reducible rfl
                      rotate_left
                      · simp only [Act.put, List.setIfInBounds_toArray, List.set_cons_zero, List.set_cons_succ, i64_w, i32_w]
                        rfl
                      refine pure_ (i := 8) (N := some 26) (v := ?_) (a' := ?_) #[true, true, true, true, false, false, false, true, true, false, false, false, false, false] rfl rfl (any_of HT_.out (by kernel_rfl)) (fun _ _ _ h => h) (Or.inl ⟨by rfl, ?_⟩) ?_ ?_
                      rotate_left
                      · intro w'
                        go_simp
                        with_reducible rfl
                      rotate_left
                      · simp only [Act.put, List.setIfInBounds_toArray, List.set_cons_zero, List.set_cons_succ, i64_w, i32_w]
                        rfl
                      refine pure_ (i := 9) (N := some 27) (v := ?_) (a' := ?_) #[true, true, true, true, false, false, false, true, true, true, false, false, false, false] rfl rfl (any_of HT_.out (by kernel_rfl)) (fun _ _ _ h => h) (Or.inl ⟨by rfl, ?_⟩) ?_ ?_
                      rotate_left
                      · intro w'
                        go_simp
                        with_reducible rfl
                      rotate_left
                      · simp only [Act.put, List.setIfInBounds_toArray, List.set_cons_zero, List.set_cons_succ, i64_w, i32_w]
                        rfl
                      refine pure_ (i := 10) (N := some 28) (v := ?_) (a' := ?_) #[true, true, true, true, false, false, false, true, true, true, true, false, false, false] rfl rfl (any_of HT_.out (by kernel_rfl)) (fun _ _ _ h => h) (Or.inl ⟨by rfl, ?_⟩) ?_ ?_
                      rotate_left
                      · intro w'
                        go_simp
                        with_reducible rfl
                      rotate_left
                      · simp only [Act.put, List.setIfInBounds_toArray, List.set_cons_zero, List.set_cons_succ, i64_w, i32_w]
                        rfl
                      refine pure_ (i := 11) (N := some 29) (v := ?_) (a' := ?_) #[true, true, true, true, false, false, false, true, true, true, true, true, false, false] rfl rfl (any_of HT_.out (by kernel_rfl)) (fun _ _ _ h => h) (Or.inl ⟨by rfl, ?_⟩) ?_ ?_
                      rotate_left
                      · intro w'
                        go_simp
                        with_reducible rfl
                      rotate_left
                      · simp only [Act.put, List.setIfInBounds_toArray, List.set_cons_zero, List.set_cons_succ, i64_w, i32_w]
                        rfl
                      refine one_ (i := 4) (N := some 22) #[true, true, true, true, true, false, false, true, true, true, true, true, false, false] rfl rfl (one_of HT_.out (by kernel_rfl)) (by decide) (fun K hK => ?_)
                      refine Kd.R_lit_step (Kd.int .u8) _ 5 ?hg (N := 22) ?hd (xs := ([(wrap64 (257 - t159)) % 256] : List Int)) (inner := [.int .u8 ((wrap64 (257 - t159)) % 256)]) (ok := fun _ => True) (okp := fun _ => True) ?hr ?hp (fun _ hk => hk) trivial (Below.refl _ _) (Nat.le_refl _) (by simp) ?_; (case hd => rfl); (case hg => rfl); (case hr => first | (go_simp; done) | (go_simp; rfl)); (case hp => exact (Reps.one (show Kd.M (Kd.int .u8) _ _ _ ((wrap64 (257 - t159)) % 256) [.int .u8 ((wrap64 (257 - t159)) % 256)] from rfl) (Reps.none _ _)))
                      intro v161 w12 ho13 hb hg_ hnew_
                      clear hg_ hnew_
                      (first | rw [← Ny160.out] at ho13 | (simp only [Int.reduceToNat] at ho13; rw [← Ny160.out] at ho13))
                      have n0_ := Aside0.mk (Kd.R_lower ho13 (below_size (by repeat (first | (with_reducible first | exact HB.out | apply below_alloc | apply pw_below_drewN | apply below_drew1) | exact HB.out))))
                      have n1_ := Aside0.mk (below_step (by repeat (first | (with_reducible first | exact HB.out | apply below_alloc | apply pw_below_drewN | apply below_drew1) | exact HB.out)) hb)
                      clear HB
                      have HO162 := n0_
                      have HB := n1_
                      clear n0_ n1_
                      clear hb ho13
                      refine hK.out _ _ trivial (fun hHeld => ?_)
                      clear hK K
                      refine norm_ (a' := ?_) ?_ ?_
                      rotate_left
                      · show Act.put _ (some 22) _ = _
                        simp only [Act.put, List.setIfInBounds_toArray, List.set_cons_zero, List.set_cons_succ, i64_w, i32_w]
                        rfl
                      refine one_ (i := 5) (N := some 23) #[true, true, true, true, true, true, false, true, true, true, true, true, false, false] rfl rfl (one_of HT_.out (by kernel_rfl)) (by decide) (fun K hK => ?_)
                      have hcv14 := own_string (P := Try.prog) Try.underlying22 Try.underlying5 Try.underlying9 (Kd.own_of_R HO162.out)
                      refine value_ (w1 := ?_) (v := ?_) (by rfl) rfl ?_ ?_
                      rotate_left 2
                      · go_simp
                        constructor
                        · rfl
                        · rfl
                      clear hcv14
                      refine hK.out _ _ trivial (fun hHeld => ?_)
                      clear hK K
                      refine norm_ (a' := ?_) ?_ ?_
                      rotate_left
                      · show Act.put _ (some 23) _ = _
                        simp only [Act.put, List.setIfInBounds_toArray, List.set_cons_zero, List.set_cons_succ, i64_w, i32_w]
                        rfl
                      refine pure_ (i := 6) (N := some 24) (v := ?_) (a' := ?_) #[true, true, true, true, true, true, true, true, true, true, true, true, false, false] rfl rfl (any_of HT_.out (by kernel_rfl)) (fun _ _ _ h => h) (Or.inl ⟨by rfl, ?_⟩) ?_ ?_
                      rotate_left
                      · intro w'
                        go_simp
                        with_reducible rfl
                      rotate_left
                      · simp only [Act.put, List.setIfInBounds_toArray, List.set_cons_zero, List.set_cons_succ, i64_w, i32_w]
                        rfl
                      refine pure_ (i := 12) (N := some 30) (v := ?_) (a' := ?_) #[true, true, true, true, true, true, true, true, true, true, true, true, true, false] rfl rfl (any_of HT_.out (by kernel_rfl)) (fun _ _ _ h => h) (Or.inl ⟨by rfl, ?_⟩) ?_ ?_
                      rotate_left
                      · intro w'
                        go_simp
                        with_reducible rfl
                      rotate_left
                      · simp only [Act.put, List.setIfInBounds_toArray, List.set_cons_zero, List.set_cons_succ, i64_w, i32_w]
                        rfl
                      refine pure_ (i := 13) (N := some 3) (v := ?_) (a' := ?_) #[true, true, true, true, true, true, true, true, true, true, true, true, true, true] rfl rfl (any_of HT_.out (by kernel_rfl)) (fun _ _ _ h => h) (Or.inl ⟨by rfl, ?_⟩) ?_ ?_
                      rotate_left
                      · intro w'
                        go_simp
                        with_reducible rfl
                      rotate_left
                      · simp only [Act.put, List.setIfInBounds_toArray, List.set_cons_zero, List.set_cons_succ, i64_w, i32_w]
                        rfl
                      refine done_ (done_of HT_.out (by kernel_rfl)) ?_
                      try go_wp2
                      go_roundg k1
                      case measure => have := HK1.out; omega
                      case rel => exact ⟨((x3_1 ++ (strOfNums y160)) ++ (a0.extract (x4_1 : Int).toNat ((wrap64 (x4_1 + 1)) : Int).toNat)), (wrap64 (x4_1 + t159)), (by first | rfl | (simp; done) | (simp [*]; done)), (by first | rfl | (simp; done) | (simp [*]; done)), H', ⟨by have := HK1.out; omega⟩, ⟨by repeat (first | (with_reducible first | exact HB.out | apply below_alloc | apply pw_below_drewN | apply below_drew1) | exact HB.out)⟩⟩
                    · rw [if_neg c10] at H
                      exact absurd H (by simp)
                  · rw [if_neg c9] at H
                    exact absurd H (by simp)
                · rw [if_neg c8] at H
                  exact absurd H (by simp)
              · rw [if_neg c7] at H
                exact absurd H (by simp)
            · rw [if_neg c6] at H
              exact absurd H (by simp)
          · rw [if_neg c5] at H
            have c5b0 : decide (3 ≤ t159) = false := decide_eq_false c5
            clear c5
            replace H := Option.bind_eq_some_iff.mp H
            obtain ⟨t163, A150, H⟩ := H
            replace H : ((some (([(wrap64 (t163 - 1)) % 256] : List Int) : List Int)).bind fun y164 => (if x3_1.size + (strOfNums y164).size ≤ 9223372036854775807 then (if 0 ≤ x4_1 then (if x4_1 ≤ (wrap64 (x4_1 + t163)) then (if (wrap64 (x4_1 + t163)) ≤ (a0.size : Int) then (if (x3_1 ++ (strOfNums y164)).size + (a0.extract (x4_1 : Int).toNat ((wrap64 (x4_1 + t163)) : Int).toNat).size ≤ 9223372036854775807 then (spec_PackPut.l0 k1 a0 ((x3_1 ++ (strOfNums y164)) ++ (a0.extract (x4_1 : Int).toNat ((wrap64 (x4_1 + t163)) : Int).toNat)) (wrap64 (x4_1 + t163))) else (none)) else (none)) else (none)) else (none)) else (none))) = some r := H
            have A15 := Aside0.mk A150
            clear A150
            obtain ⟨y164, hy164⟩ : ∃ y_ : List Int, y_ = (([(wrap64 (t163 - 1)) % 256] : List Int)) := ⟨_, rfl⟩
            replace H : (if x3_1.size + (strOfNums y164).size ≤ 9223372036854775807 then (if 0 ≤ x4_1 then (if x4_1 ≤ (wrap64 (x4_1 + t163)) then (if (wrap64 (x4_1 + t163)) ≤ (a0.size : Int) then (if (x3_1 ++ (strOfNums y164)).size + (a0.extract (x4_1 : Int).toNat ((wrap64 (x4_1 + t163)) : Int).toNat).size ≤ 9223372036854775807 then (spec_PackPut.l0 k1 a0 ((x3_1 ++ (strOfNums y164)) ++ (a0.extract (x4_1 : Int).toNat ((wrap64 (x4_1 + t163)) : Int).toNat)) (wrap64 (x4_1 + t163))) else (none)) else (none)) else (none)) else (none)) else (none)) = some r := by first | (rw [hy164]; with_reducible exact H) | (have H2_ := (Option.bind_some _ _).symm.trans H; rw [hy164]; with_reducible exact H2_) | (have H2_ := (Option.bind_some _ _).symm.trans H; with_reducible exact H2_) | with_reducible exact H | (rw [hy164]; exact H) | exact H
            have Ny164 := Aside0.mk hy164
            clear hy164
            by_cases c16 : x3_1.size + (strOfNums y164).size ≤ 9223372036854775807
            · rw [if_pos c16] at H
              have c16b0 := eq_true c16
              have c16b1 : decide (x3_1.size + (strOfNums y164).size ≤ 9223372036854775807) = true := decide_eq_true c16
              try have c16b2 : (9223372036854775807 < x3_1.size + (strOfNums y164).size) = False := eq_false (Nat.not_lt.2 c16)
              by_cases c17 : 0 ≤ x4_1
              · rw [if_pos c17] at H
                have c17b0 := eq_true c17
                have c17b1 : decide (0 ≤ x4_1) = true := decide_eq_true c17
                clear c17
                by_cases c18 : x4_1 ≤ (wrap64 (x4_1 + t163))
                · rw [if_pos c18] at H
                  have c18b0 := eq_true c18
                  have c18b1 : decide (x4_1 ≤ (wrap64 (x4_1 + t163))) = true := decide_eq_true c18
                  by_cases c19 : (wrap64 (x4_1 + t163)) ≤ (a0.size : Int)
                  · rw [if_pos c19] at H
                    have c19b0 := eq_true c19
                    have c19b1 : decide ((wrap64 (x4_1 + t163)) ≤ (a0.size : Int)) = true := decide_eq_true c19
                    by_cases c20 : (x3_1 ++ (strOfNums y164)).size + (a0.extract (x4_1 : Int).toNat ((wrap64 (x4_1 + t163)) : Int).toNat).size ≤ 9223372036854775807
                    · rw [if_pos c20] at H
                      have c20b0 := eq_true c20
                      have c20b1 : decide ((x3_1 ++ (strOfNums y164)).size + (a0.extract (x4_1 : Int).toNat ((wrap64 (x4_1 + t163)) : Int).toNat).size ≤ 9223372036854775807) = true := decide_eq_true c20
                      try have c20b2 : (9223372036854775807 < (x3_1 ++ (strOfNums y164)).size + (a0.extract (x4_1 : Int).toNat ((wrap64 (x4_1 + t163)) : Int).toNat).size) = False := eq_false (Nat.not_lt.2 c20)
                      have c20b2q : (9223372036854775807 < x3_1.size + (strOfNums y164).size + (((wrap64 (x4_1 + t163))).toNat - x4_1.toNat)) = False := eq_false (by have h_ := c20; have h2_ := of_decide_eq_true c19b1; rw [ByteArray.size_append, ByteArray.size_extract] at h_; omega)
                      have H' := Aside0.mk H
                      clear H
                      try go_wp2_with (first | ((with_reducible refine gate_callee (f := 84) rfl ?_); refine goesL_ (some 15) rfl rfl Try.func84 (by kernel_rfl) rfl #[.string a0, .int .i64 x4_1, .int .i64 128] rfl (by (try simp only [List.map_toArray, List.map_cons, List.map_nil]); first | done | rfl | (simp only [List.length_drop, List.length_take]; rfl)) ?_; (with_reducible refine (spec_l7Alike.calls k1 a0 x4_1 128 t159 _ A4.out).mono ?_); rintro e w' ⟨rfl, ⟨nd, rfl⟩⟩; refine ⟨_, rfl, ?_⟩) | ((with_reducible refine gate_callee (f := 85) rfl ?_); refine goesL_ (some 33) rfl rfl Try.func85 (by kernel_rfl) rfl #[.string a0, .int .i64 x4_1, .int .i64 128] rfl (by (try simp only [List.map_toArray, List.map_cons, List.map_nil]); first | done | rfl | (simp only [List.length_drop, List.length_take]; rfl)) ?_; (with_reducible refine (spec_l7Fresh.calls k1 a0 x4_1 128 t163 _ A15.out).mono ?_); rintro e w' ⟨rfl, ⟨nd, rfl⟩⟩; refine ⟨_, rfl, ?_⟩))
                      (try (rw [drewN_self wr]; generalize hq_ : World.drewN wr _ = wr; have n0_ : Aside0 (Below w.heap.size w wr) := ⟨by rw [← hq_]; exact (by repeat (first | (with_reducible first | exact HB.out | apply below_alloc | apply pw_below_drewN | apply below_drew1) | exact HB.out))⟩; clear HB hq_; have HB := n0_; clear n0_))
                      have n0_ := Aside0.mk (below_drew1 HB.out)
                      clear HB
                      have HB := n0_
                      clear n0_
                      refine start_ (n := 15) (S := fun w' => True) (ds := []) #[false, false, false, false, false, false, false, false, false, false, false, false, false, false, false] (by kernel_rfl) rfl rfl trivial (fun hHeld => ?_); refine with_tabW spec_PackPut.tab10 spec_PackPut.bits10 (fun HT_ HW_ => ?_)
                      generalize wr.drew = w21 at HB hHeld ⊢
                      refine pure_ (i := 0) (N := some 34) (v := ?_) (a' := ?_) #[true, false, false, false, false, false, false, false, false, false, false, false, false, false, false] rfl rfl (any_of HT_.out (by kernel_rfl)) (fun _ _ _ h => h) (Or.inl ⟨by rfl, ?_⟩) ?_ ?_
                      rotate_left
                      · intro w'
                        go_simp
                        with_reducible rfl
                      rotate_left
                      · simp only [Act.put, List.setIfInBounds_toArray, List.set_cons_zero, List.set_cons_succ, i64_w, i32_w]
                        rfl
                      refine pure_ (i := 1) (N := some 35) (v := ?_) (a' := ?_) #[true, true, false, false, false, false, false, false, false, false, false, false, false, false, false] rfl rfl (any_of HT_.out (by kernel_rfl)) (fun _ _ _ h => h) (Or.inl ⟨by rfl, ?_⟩) ?_ ?_
                      rotate_left
                      · intro w'
                        go_simp
                        with_reducible rfl
                      rotate_left
                      · simp only [Act.put, List.setIfInBounds_toArray, List.set_cons_zero, List.set_cons_succ, i64_w, i32_w]
                        rfl
                      refine pure_ (i := 2) (N := some 36) (v := ?_) (a' := ?_) #[true, true, true, false, false, false, false, false, false, false, false, false, false, false, false] rfl rfl (any_of HT_.out (by kernel_rfl)) (fun _ _ _ h => h) (Or.inl ⟨by rfl, ?_⟩) ?_ ?_
                      rotate_left
                      · intro w'
                        go_simp
                        with_reducible rfl
                      rotate_left
                      · simp only [Act.put, List.setIfInBounds_toArray, List.set_cons_zero, List.set_cons_succ, i64_w, i32_w]
                        rfl
                      refine pure_ (i := 3) (N := some 37) (v := ?_) (a' := ?_) #[true, true, true, true, false, false, false, false, false, false, false, false, false, false, false] rfl rfl (any_of HT_.out (by kernel_rfl)) (fun _ _ _ h => h) (Or.inl ⟨by rfl, ?_⟩) ?_ ?_
                      rotate_left
                      · intro w'
                        go_simp
                        with_reducible rfl
                      rotate_left
                      · simp only [Act.put, List.setIfInBounds_toArray, List.set_cons_zero, List.set_cons_succ, i64_w, i32_w]
                        rfl
                      refine pure_ (i := 7) (N := some 41) (v := ?_) (a' := ?_) #[true, true, true, true, false, false, false, true, false, false, false, false, false, false, false] rfl rfl (any_of HT_.out (by kernel_rfl)) (fun _ _ _ h => h) (Or.inl ⟨by rfl, ?_⟩) ?_ ?_
                      rotate_left
                      · intro w'
                        go_simp
                        with_reducible rfl
                      rotate_left
                      · simp only [Act.put, List.setIfInBounds_toArray, List.set_cons_zero, List.set_cons_succ, i64_w, i32_w]
                        rfl
                      refine pure_ (i := 8) (N := some 42) (v := ?_) (a' := ?_) #[true, true, true, true, false, false, false, true, true, false, false, false, false, false, false] rfl rfl (any_of HT_.out (by kernel_rfl)) (fun _ _ _ h => h) (Or.inl ⟨by rfl, ?_⟩) ?_ ?_
                      rotate_left
                      · intro w'
                        go_simp
                        with_reducible rfl
                      rotate_left
                      · simp only [Act.put, List.setIfInBounds_toArray, List.set_cons_zero, List.set_cons_succ, i64_w, i32_w]
                        rfl
                      refine pure_ (i := 9) (N := some 43) (v := ?_) (a' := ?_) #[true, true, true, true, false, false, false, true, true, true, false, false, false, false, false] rfl rfl (any_of HT_.out (by kernel_rfl)) (fun _ _ _ h => h) (Or.inl ⟨by rfl, ?_⟩) ?_ ?_
                      rotate_left
                      · intro w'
                        go_simp
                        with_reducible rfl
                      rotate_left
                      · simp only [Act.put, List.setIfInBounds_toArray, List.set_cons_zero, List.set_cons_succ, i64_w, i32_w]
                        rfl
                      refine pure_ (i := 10) (N := some 44) (v := ?_) (a' := ?_) #[true, true, true, true, false, false, false, true, true, true, true, false, false, false, false] rfl rfl (any_of HT_.out (by kernel_rfl)) (fun _ _ _ h => h) (Or.inl ⟨by rfl, ?_⟩) ?_ ?_
                      rotate_left
                      · intro w'
                        go_simp
                        with_reducible rfl
                      rotate_left
                      · simp only [Act.put, List.setIfInBounds_toArray, List.set_cons_zero, List.set_cons_succ, i64_w, i32_w]
                        rfl
                      refine pure_ (i := 11) (N := some 45) (v := ?_) (a' := ?_) #[true, true, true, true, false, false, false, true, true, true, true, true, false, false, false] rfl rfl (any_of HT_.out (by kernel_rfl)) (fun _ _ _ h => h) (Or.inl ⟨by rfl, ?_⟩) ?_ ?_
                      rotate_left
                      · intro w'
                        go_simp
                        with_reducible rfl
                      rotate_left
                      · simp only [Act.put, List.setIfInBounds_toArray, List.set_cons_zero, List.set_cons_succ, i64_w, i32_w]
                        rfl
                      refine pure_ (i := 12) (N := some 46) (v := ?_) (a' := ?_) #[true, true, true, true, false, false, false, true, true, true, true, true, true, false, false] rfl rfl (any_of HT_.out (by kernel_rfl)) (fun _ _ _ h => h) (Or.inl ⟨by rfl, ?_⟩) ?_ ?_
                      rotate_left
                      · intro w'
                        go_simp
                        with_reducible rfl
                      rotate_left
                      · simp only [Act.put, List.setIfInBounds_toArray, List.set_cons_zero, List.set_cons_succ, i64_w, i32_w]
                        rfl
                      refine one_ (i := 4) (N := some 38) #[true, true, true, true, true, false, false, true, true, true, true, true, true, false, false] rfl rfl (one_of HT_.out (by kernel_rfl)) (by decide) (fun K hK => ?_)
                      refine Kd.R_lit_step (Kd.int .u8) _ 5 ?hg (N := 38) ?hd (xs := ([(wrap64 (t163 - 1)) % 256] : List Int)) (inner := [.int .u8 ((wrap64 (t163 - 1)) % 256)]) (ok := fun _ => True) (okp := fun _ => True) ?hr ?hp (fun _ hk => hk) trivial (Below.refl _ _) (Nat.le_refl _) (by simp) ?_; (case hd => rfl); (case hg => rfl); (case hr => first | (go_simp; done) | (go_simp; rfl)); (case hp => exact (Reps.one (show Kd.M (Kd.int .u8) _ _ _ ((wrap64 (t163 - 1)) % 256) [.int .u8 ((wrap64 (t163 - 1)) % 256)] from rfl) (Reps.none _ _)))
                      intro v165 w22 ho23 hb hg_ hnew_
                      clear hg_ hnew_
                      (first | rw [← Ny164.out] at ho23 | (simp only [Int.reduceToNat] at ho23; rw [← Ny164.out] at ho23))
                      have n0_ := Aside0.mk (Kd.R_lower ho23 (below_size (by repeat (first | (with_reducible first | exact HB.out | apply below_alloc | apply pw_below_drewN | apply below_drew1) | exact HB.out))))
                      have n1_ := Aside0.mk (below_step (by repeat (first | (with_reducible first | exact HB.out | apply below_alloc | apply pw_below_drewN | apply below_drew1) | exact HB.out)) hb)
                      clear HB
                      have HO166 := n0_
                      have HB := n1_
                      clear n0_ n1_
                      clear hb ho23
                      refine hK.out _ _ trivial (fun hHeld => ?_)
                      clear hK K
                      refine norm_ (a' := ?_) ?_ ?_
                      rotate_left
                      · show Act.put _ (some 38) _ = _
                        simp only [Act.put, List.setIfInBounds_toArray, List.set_cons_zero, List.set_cons_succ, i64_w, i32_w]
                        rfl
                      refine one_ (i := 5) (N := some 39) #[true, true, true, true, true, true, false, true, true, true, true, true, true, false, false] rfl rfl (one_of HT_.out (by kernel_rfl)) (by decide) (fun K hK => ?_)
                      have hcv24 := own_string (P := Try.prog) Try.underlying22 Try.underlying5 Try.underlying9 (Kd.own_of_R HO166.out)
                      refine value_ (w1 := ?_) (v := ?_) (by rfl) rfl ?_ ?_
                      rotate_left 2
                      · go_simp
                        constructor
                        · rfl
                        · rfl
                      clear hcv24
                      refine hK.out _ _ trivial (fun hHeld => ?_)
                      clear hK K
                      refine norm_ (a' := ?_) ?_ ?_
                      rotate_left
                      · show Act.put _ (some 39) _ = _
                        simp only [Act.put, List.setIfInBounds_toArray, List.set_cons_zero, List.set_cons_succ, i64_w, i32_w]
                        rfl
                      refine pure_ (i := 6) (N := some 40) (v := ?_) (a' := ?_) #[true, true, true, true, true, true, true, true, true, true, true, true, true, false, false] rfl rfl (any_of HT_.out (by kernel_rfl)) (fun _ _ _ h => h) (Or.inl ⟨by rfl, ?_⟩) ?_ ?_
                      rotate_left
                      · intro w'
                        go_simp
                        with_reducible rfl
                      rotate_left
                      · simp only [Act.put, List.setIfInBounds_toArray, List.set_cons_zero, List.set_cons_succ, i64_w, i32_w]
                        rfl
                      refine pure_ (i := 13) (N := some 47) (v := ?_) (a' := ?_) #[true, true, true, true, true, true, true, true, true, true, true, true, true, true, false] rfl rfl (any_of HT_.out (by kernel_rfl)) (fun _ _ _ h => h) (Or.inl ⟨by rfl, ?_⟩) ?_ ?_
                      rotate_left
                      · intro w'
                        go_simp
                        with_reducible rfl
                      rotate_left
                      · simp only [Act.put, List.setIfInBounds_toArray, List.set_cons_zero, List.set_cons_succ, i64_w, i32_w]
                        rfl
                      refine pure_ (i := 14) (N := some 3) (v := ?_) (a' := ?_) #[true, true, true, true, true, true, true, true, true, true, true, true, true, true, true] rfl rfl (any_of HT_.out (by kernel_rfl)) (fun _ _ _ h => h) (Or.inl ⟨by rfl, ?_⟩) ?_ ?_
                      rotate_left
                      · intro w'
                        go_simp
                        with_reducible rfl
                      rotate_left
                      · simp only [Act.put, List.setIfInBounds_toArray, List.set_cons_zero, List.set_cons_succ, i64_w, i32_w]
                        rfl
                      refine done_ (done_of HT_.out (by kernel_rfl)) ?_
                      try go_wp2
                      go_roundg k1
                      case measure => have := HK1.out; omega
                      case rel => exact ⟨((x3_1 ++ (strOfNums y164)) ++ (a0.extract (x4_1 : Int).toNat ((wrap64 (x4_1 + t163)) : Int).toNat)), (wrap64 (x4_1 + t163)), (by first | rfl | (simp; done) | (simp [*]; done)), (by first | rfl | (simp; done) | (simp [*]; done)), H', ⟨by have := HK1.out; omega⟩, ⟨by repeat (first | (with_reducible first | exact HB.out | apply below_alloc | apply pw_below_drewN | apply below_drew1) | exact HB.out)⟩⟩
                    · rw [if_neg c20] at H
                      exact absurd H (by simp)
                  · rw [if_neg c19] at H
                    exact absurd H (by simp)
                · rw [if_neg c18] at H
                  exact absurd H (by simp)
              · rw [if_neg c17] at H
                exact absurd H (by simp)
            · rw [if_neg c16] at H
              exact absurd H (by simp)
        · rw [if_neg c3] at H
          have c3b0 : decide (x4_1 < (a0.size : Int)) = false := decide_eq_false c3
          clear c3
          obtain rfl := Option.some.inj H
          go_wp2
          go_ret
          exact ⟨by first | rfl | (simp [errW_none, errW_some] <;> rfl) | (simp [*, errW_none, errW_some] <;> rfl), by repeat (first | (with_reducible first | exact HB.out | apply below_alloc | apply pw_below_drewN | apply below_drew1) | exact HB.out)⟩

/-! ### spec_l14Bend: function 88 -/
def spec_l14Bend.f (k : Nat) (s0_0 : List Int) (s0_1 : Int) (a1 : ByteArray) : Option (ByteArray × Int) := if a1.toList = ([] : List UInt8) then (some (a1, s0_1)) else (if a1.size ≤ 9223372036854775807 then ((some (bytesOf a1 : List Int)).bind fun y167 => ((spec_l1Rd_pick.f k s0_0 s0_1 (y167.length : Int)).bind fun bt170 => (if 0 ≤ bt170.1 then (if bt170.1 < (y167.length : Int) then ((spec_l1Rd_pick.f k s0_0 bt170.2 255).bind fun bt173 => (some (strOfNums (y167.set (bt170.1 : Int).toNat (Go.bits .xor .u8 (rd y167 bt170.1) ((wrap64 (1 + bt173.1)) % 256))), bt173.2))) else (none)) else (none)))) else (none))
theorem spec_l14Bend.mono : ∀ a0 a1 a2 k, LeO (spec_l14Bend.f k a0 a1 a2) (spec_l14Bend.f (k + 1) a0 a1 a2) := by
  intro a0 a1 a2 k
  unfold spec_l14Bend.f
  repeat' first
      | (with_reducible exact spec_l1Rd_pick.mono _ _ _ _)
      | (with_reducible exact LeO.refl _)
      | (with_reducible exact LeO.none _)
      | (with_reducible refine LeO.ite ?_ ?_)
      | (with_reducible refine LeO.bind ?_ (fun _ => ?_))
      | exact spec_l1Rd_pick.mono _ _ _ _
      | exact LeO.none _
      | refine LeO.ite ?_ ?_
      | refine LeO.bind ?_ (fun _ => ?_)
def spec_l14Bend.T5 : Bool × List (List Nat × List Nat) := (true, [([], []), ([], []), ([], []), ([], []), ([2, 3], [2, 3]), ([4], [4]), ([], []), ([6], [6]), ([7], [7]), ([8], [8]), ([5, 9], [5, 9]), ([0, 1, 0, 1, 2, 3, 4, 5, 6, 7, 8, 9, 10], [0, 1]), ([11, 10, 7, 0, 1, 2, 3, 4, 5, 6, 7, 8, 9, 10], [10, 11])])
def spec_l14Bend.B5 : List Nat := [0, 0, 0, 0, 12, 28, 0, 64, 192, 448, 1020, 2047, 4095]
theorem spec_l14Bend.tab5 : rtab .any (opsOf Try.f88 5) = spec_l14Bend.T5 := by kernel_rfl
theorem spec_l14Bend.bits5 : waitsOk spec_l14Bend.T5.2 spec_l14Bend.B5 = true := by kernel_rfl
set_option maxHeartbeats 8000000 in
set_option maxRecDepth 100000 in
theorem spec_l14Bend.calls (k : Nat) (g : Nat) (s0_0 : List Int) (s0_1 : Int) (a1 : ByteArray) (r1 : ByteArray) (r2 : Int) (w0 w : World) (hI : IsS93 w0 w g s0_0 s0_1) (hB : Below w0.heap.size w0 w) (h : spec_l14Bend.f k s0_0 s0_1 a1 = some (r1, r2)) :
    Calls Try.prog 88 #[.pointer (some ⟨g, 0, none⟩), .string a1] w fun e w' => e = .returned (.string r1) ∧ IsS93 w0 w' g s0_0 r2 ∧ Below w0.heap.size w0 w' ∧ KeepBut w w' g none := by
  have HI0 := Aside0.mk hI
  have HK := Aside0.mk (KeepBut.refl w g none)
  have HL := Aside0.mk hB.size
  clear hI
  have HW0 := Aside0.mk hB.size
  have HB := Aside0.mk hB
  clear hB
  have H : (if a1.toList = ([] : List UInt8) then (some (a1, s0_1)) else (if a1.size ≤ 9223372036854775807 then ((some (bytesOf a1 : List Int)).bind fun y167 => ((spec_l1Rd_pick.f k s0_0 s0_1 (y167.length : Int)).bind fun bt170 => (if 0 ≤ bt170.1 then (if bt170.1 < (y167.length : Int) then ((spec_l1Rd_pick.f k s0_0 bt170.2 255).bind fun bt173 => (some (strOfNums (y167.set (bt170.1 : Int).toNat (Go.bits .xor .u8 (rd y167 bt170.1) ((wrap64 (1 + bt173.1)) % 256))), bt173.2))) else (none)) else (none)))) else (none))) = some (r1, r2) := h
  clear h
  by_cases c3 : a1.toList = ([] : List UInt8)
  · rw [if_pos c3] at H
    have c3b0 : (a1.toList == ([] : List UInt8)) = true := beq_iff_eq.mpr c3
    have c3b1 : (a1.toList != ([] : List UInt8)) = false := bne_eq_false_iff_eq.mpr c3
    clear c3
    simp only [Option.some.injEq, Prod.mk.injEq] at H
    obtain ⟨rfl, rfl⟩ := H
    go_enter Try.func88, Try.ntmps88
    go_wp2
    go_ret
    exact ⟨by first | rfl | (simp [errW_none, errW_some] <;> rfl) | (simp [*, errW_none, errW_some] <;> rfl), by repeat (first | (with_reducible first | exact HI0.out | apply IsS93.alloc | apply IsS93.drewN | apply IsS93.drew | apply IsS93.set_1) | exact HI0.out), by repeat (first | (with_reducible first | exact HB.out | apply below_alloc | apply pw_below_drewN | apply below_drew1 | refine below_set ?_ (IsS93.ge HI0.out)) | exact HB.out), by repeat (first | (with_reducible first | exact HK.out | apply KeepBut.set_ | apply keep_drewN | apply keep_drew | apply keep_alloc) | exact HK.out)⟩
  · rw [if_neg c3] at H
    have c3b0 : (a1.toList == ([] : List UInt8)) = false := beq_eq_false_iff_ne.mpr c3
    have c3b1 : (a1.toList != ([] : List UInt8)) = true := bne_iff_ne.mpr c3
    by_cases c4 : a1.size ≤ 9223372036854775807
    · rw [if_pos c4] at H
      have c4b0 := eq_true c4
      have c4b1 : decide (a1.size ≤ 9223372036854775807) = true := decide_eq_true c4
      try have c4b2 : (9223372036854775807 < a1.size) = False := eq_false (Nat.not_lt.2 c4)
      clear c4
      obtain ⟨y167, hy167⟩ : ∃ y_ : List Int, y_ = (bytesOf a1) := ⟨_, rfl⟩
      replace H : ((spec_l1Rd_pick.f k s0_0 s0_1 (y167.length : Int)).bind fun bt170 => (if 0 ≤ bt170.1 then (if bt170.1 < (y167.length : Int) then ((spec_l1Rd_pick.f k s0_0 bt170.2 255).bind fun bt173 => (some (strOfNums (y167.set (bt170.1 : Int).toNat (Go.bits .xor .u8 (rd y167 bt170.1) ((wrap64 (1 + bt173.1)) % 256))), bt173.2))) else (none)) else (none))) = some (r1, r2) := by first | (rw [hy167]; with_reducible exact H) | (have H2_ := (Option.bind_some _ _).symm.trans H; rw [hy167]; with_reducible exact H2_) | (have H2_ := (Option.bind_some _ _).symm.trans H; with_reducible exact H2_) | with_reducible exact H | (rw [hy167]; exact H) | exact H
      have Ny167 := Aside0.mk hy167
      clear hy167
      replace H := Option.bind_eq_some_iff.mp H
      obtain ⟨⟨t170, t171⟩, A60, H⟩ := H
      replace H : (if 0 ≤ t170 then (if t170 < (y167.length : Int) then ((spec_l1Rd_pick.f k s0_0 t171 255).bind fun bt173 => (some (strOfNums (y167.set (t170 : Int).toNat (Go.bits .xor .u8 (rd y167 t170) ((wrap64 (1 + bt173.1)) % 256))), bt173.2))) else (none)) else (none)) = some (r1, r2) := H
      have A6 := Aside0.mk A60
      clear A60
      by_cases c7 : 0 ≤ t170
      · rw [if_pos c7] at H
        have c7b0 : decide (0 ≤ t170) = true := decide_eq_true c7
        clear c7
        by_cases c8 : t170 < (y167.length : Int)
        · rw [if_pos c8] at H
          have c8b0 : decide (t170 < (y167.length : Int)) = true := decide_eq_true c8
          clear c8
          replace H := Option.bind_eq_some_iff.mp H
          obtain ⟨⟨t173, t174⟩, A90, H⟩ := H
          replace H : (some (strOfNums (y167.set (t170 : Int).toNat (Go.bits .xor .u8 (rd y167 t170) ((wrap64 (1 + t173)) % 256))), t174)) = some (r1, r2) := H
          have A9 := Aside0.mk A90
          clear A90
          obtain ⟨y175, hy175⟩ : ∃ y_ : List Int, y_ = (y167.set (t170 : Int).toNat (Go.bits .xor .u8 (rd y167 t170) ((wrap64 (1 + t173)) % 256))) := ⟨_, rfl⟩
          replace H : (some (strOfNums y175, t174)) = some (r1, r2) := by first | (rw [hy175]; with_reducible exact H) | (have H2_ := (Option.bind_some _ _).symm.trans H; rw [hy175]; with_reducible exact H2_) | (have H2_ := (Option.bind_some _ _).symm.trans H; with_reducible exact H2_) | with_reducible exact H | (rw [hy175]; exact H) | exact H
          have Ny175 := Aside0.mk hy175
          clear hy175
          simp only [Option.some.injEq, Prod.mk.injEq] at H
          obtain ⟨rfl, rfl⟩ := H
          go_enter Try.func88, Try.ntmps88
          try go_wp2_with (first | ((with_reducible refine gate_dst (N := 11) rfl ?_); refine Go.Proofs.Ytfladcffgblfdaa.Th.convZ_event ?hg (N := 11) ?hd (s := a1) (e := 5) ?hr (of_decide_eq_true c4b1) ?_; (case hd => rfl); (case hg => rfl); (case hr => first | (have kbCV := fun W => print_bytes (P := Try.prog) 9 22 5 Try.underlying9 Try.underlying22 Try.underlying5 a1 W; go_simp; done) | (have kbCV := fun W => print_bytes (P := Try.prog) 9 22 5 Try.underlying9 Try.underlying22 Try.underlying5 a1 W; go_simp; rfl)); intro v168 w11 ho12 hb; rw [← Ny167.out] at ho12; have n0_ := Aside0.mk (Go.Proofs.Ytfladcffgblfdaa.Th.RZ.lower ho12 (keep_size (w := w) (g := g) (row := none) (by repeat (first | (with_reducible first | exact HK.out | apply KeepBut.set_ | apply keep_drewN | apply keep_drew | apply keep_alloc) | exact HK.out)))); have n1_ := Aside0.mk (IsS93.below (by repeat (first | (with_reducible first | exact HI0.out | apply IsS93.alloc | apply IsS93.drewN | apply IsS93.drew | apply IsS93.set_1) | exact HI0.out)) hb); have n2_ := Aside0.mk (KeepBut.trans (by repeat (first | (with_reducible first | exact HK.out | apply KeepBut.set_ | apply keep_drewN | apply keep_drew | apply keep_alloc) | exact HK.out)) (KeepBut.of_below hb g none) (.inl rfl)); have n3_ := Aside0.mk (below_step (by repeat (first | (with_reducible first | exact HB.out | apply below_alloc | apply pw_below_drewN | apply below_drew1 | refine below_set ?_ (IsS93.ge HI0.out)) | exact HB.out)) hb); clear HI0; clear HK; clear HB; have HO169 := n0_; have HI0 := n1_; have HK := n2_; have HB := n3_; clear n0_ n1_ n2_ n3_; clear hb ho12; obtain ⟨Ao13, co13, eo13⟩ := Go.Proofs.Ytfladcffgblfdaa.Th.RZ.slice HO169.out; subst eo13) | ((with_reducible refine gate_callee (f := 69) rfl ?_); refine goesL_ (some 15) rfl rfl Try.func69 (by kernel_rfl) rfl #[.pointer (some ⟨g, 0, none⟩), .int .i64 (y167.length : Int)] rfl (by (try simp only [List.map_toArray, List.map_cons, List.map_nil]); first | done | rfl | (simp only [List.length_drop, List.length_take]; rfl)) ?_; (with_reducible refine (spec_l1Rd_pick.calls k g s0_0 s0_1 (y167.length : Int) t170 t171 w0 _ ?side1 ?side2 A6.out).mono ?_); (case side1 => repeat (first | (with_reducible first | exact HI0.out | apply IsS93.alloc | apply IsS93.drewN | apply IsS93.drew | apply IsS93.set_1) | exact HI0.out)); (case side2 => repeat (first | (with_reducible first | exact HB.out | apply below_alloc | apply pw_below_drewN | apply below_drew1 | refine below_set ?_ (IsS93.ge HI0.out)) | exact HB.out)); rintro e w14 ⟨rfl, hi, hb, hk⟩; refine ⟨_, rfl, ?_⟩; have n0_ := Aside0.mk (Go.Proofs.Ytfladcffgblfdaa.Th.RZ.keep (by repeat (first | exact HO169.out | apply Go.Proofs.Ytfladcffgblfdaa.Th.RZ.drewN | apply Go.Proofs.Ytfladcffgblfdaa.Th.RZ.drew)) (Go.Proofs.Ytfladcffgblfdaa.Th.RZ.ne HO169.out (by obtain ⟨_, _, h_, _⟩ := HI0.out; exact ⟨_, _, _, h_, by decide⟩)) hk); have n1_ := Aside0.mk (KeepBut.trans (by repeat (first | (with_reducible first | exact HK.out | apply KeepBut.set_ | apply keep_drewN | apply keep_drew | apply keep_alloc) | exact HK.out)) hk (.inl rfl)); have n2_ := Aside0.mk (hb); have n3_ := Aside0.mk (hi); clear HO169; clear HK; clear HB; clear HI0; have HO169 := n0_; have HK := n1_; have HB := n2_; have HI0 := n3_; clear n0_ n1_ n2_ n3_; (try clear hb); (try clear hb2); (try clear hk); (try clear hi)))
          have n0_ := Aside0.mk (Go.Proofs.Ytfladcffgblfdaa.Th.RZ.drew HO169.out)
          have n1_ := Aside0.mk (IsS93.drew HI0.out)
          have n2_ := Aside0.mk (keep_drew HK.out)
          have n3_ := Aside0.mk (below_drew1 HB.out)
          clear HO169
          clear HI0
          clear HK
          clear HB
          have HO169 := n0_
          have HI0 := n1_
          have HK := n2_
          have HB := n3_
          clear n0_ n1_ n2_ n3_
          have p172 : 0 ≤ (t170 : Int) := of_decide_eq_true (by first | (with_reducible assumption) | assumption)
          have q172 : t170 < (y167.length : Int) := of_decide_eq_true (by first | (with_reducible assumption) | assumption)
          obtain ⟨ad172, e172, hx172_0⟩ := Kd.at_int (Go.Proofs.Ytfladcffgblfdaa.Th.RZ.C HO169.out) t170 p172 q172
          cases e172
          replace p172 := eq_true p172
          replace q172 := eq_true q172
          refine start_ (n := 13) (S := fun w' => w'.cell? (ad172.add (t170).toNat) = some (.int .u8 (rd y167 t170))) (ds := [12]) #[false, false, false, false, false, false, false, false, false, false, false, false, false] (by kernel_rfl) rfl rfl (hx172_0) (fun hHeld => ?_); refine with_tabW spec_l14Bend.tab5 spec_l14Bend.bits5 (fun HT_ HW_ => ?_)
          generalize w14.drew = w15 at HO169 HI0 HK HB hx172_0 hHeld ⊢
          refine pure_ (i := 0) (N := some 16) (v := ?_) (a' := ?_) #[true, false, false, false, false, false, false, false, false, false, false, false, false] rfl rfl (any_of HT_.out (by kernel_rfl)) (fun _ _ _ h => h) (Or.inl ⟨by rfl, ?_⟩) ?_ ?_
          rotate_left
          · intro w'
            go_simp
            with_reducible rfl
          rotate_left
          · simp only [Act.put, List.setIfInBounds_toArray, List.set_cons_zero, List.set_cons_succ, i64_w, i32_w]
            rfl
          refine pure_ (i := 1) (N := some 17) (v := ?_) (a' := ?_) #[true, true, false, false, false, false, false, false, false, false, false, false, false] rfl rfl (any_of HT_.out (by kernel_rfl)) (fun _ _ _ h => h) (Or.inl ⟨by rfl, ?_⟩) ?_ ?_
          rotate_left
          · intro w'
            go_simp
            with_reducible rfl
          rotate_left
          · simp only [Act.put, List.setIfInBounds_toArray, List.set_cons_zero, List.set_cons_succ, i64_w, i32_w]
            rfl
          refine pure_ (i := 2) (N := some 18) (v := ?_) (a' := ?_) #[true, true, true, false, false, false, false, false, false, false, false, false, false] rfl rfl (any_of HT_.out (by kernel_rfl)) (fun _ _ _ h => h) (Or.inl ⟨by rfl, ?_⟩) ?_ ?_
          rotate_left
          · intro w'
            go_simp
            with_reducible rfl
          rotate_left
          · simp only [Act.put, List.setIfInBounds_toArray, List.set_cons_zero, List.set_cons_succ, i64_w, i32_w]
            rfl
          refine pure_ (i := 3) (N := some 19) (v := ?_) (a' := ?_) #[true, true, true, true, false, false, false, false, false, false, false, false, false] rfl rfl (any_of HT_.out (by kernel_rfl)) (fun _ _ _ h => h) (Or.inl ⟨by rfl, ?_⟩) ?_ ?_
          rotate_left
          · intro w'
            go_simp
            with_reducible rfl
          rotate_left
          · simp only [Act.put, List.setIfInBounds_toArray, List.set_cons_zero, List.set_cons_succ, i64_w, i32_w]
            rfl
          refine pure_ (i := 4) (N := some 20) (v := ?_) (a' := ?_) #[true, true, true, true, true, false, false, false, false, false, false, false, false] rfl rfl (any_of HT_.out (by kernel_rfl)) (fun _ _ _ h => h) (Or.inl ⟨by rfl, ?_⟩) ?_ ?_
          rotate_left
          · intro w'
            go_simp
            with_reducible rfl
          rotate_left
          · simp only [Act.put, List.setIfInBounds_toArray, List.set_cons_zero, List.set_cons_succ, i64_w, i32_w]
            rfl
          refine pure_ (i := 6) (N := some 22) (v := ?_) (a' := ?_) #[true, true, true, true, true, false, true, false, false, false, false, false, false] rfl rfl (any_of HT_.out (by kernel_rfl)) (fun _ _ _ h => h) (Or.inl ⟨by rfl, ?_⟩) ?_ ?_
          rotate_left
          · intro w'
            go_simp
            with_reducible rfl
          rotate_left
          · simp only [Act.put, List.setIfInBounds_toArray, List.set_cons_zero, List.set_cons_succ, i64_w, i32_w]
            rfl
          refine take_ (i := 5) (N := some 21) (v := ?_) (a' := ?_) #[true, true, true, true, true, true, true, false, false, false, false, false, false] rfl rfl (take_ofW HT_.out HW_.out (by kernel_rfl)) (fun _ _ _ h => h) (Or.inl ⟨by rfl, ?_⟩) hHeld ?_ ?_
          rotate_left
          · intro w' s0
            go_simp
            with_reducible rfl
          rotate_left
          · simp only [Act.put, List.setIfInBounds_toArray, List.set_cons_zero, List.set_cons_succ, i64_w, i32_w]
            rfl
          refine one_ (i := 7) (N := some 23) #[true, true, true, true, true, true, true, true, false, false, false, false, false] rfl rfl (one_of HT_.out (by kernel_rfl)) (by decide) (fun K hK => ?_)
          refine goes_ Try.func69 (by kernel_rfl) rfl #[.pointer (some ⟨g, 0, none⟩), .int .i64 255] (by rfl) rfl rfl (by (try simp only [List.map_toArray, List.map_cons, List.map_nil]); first | done | rfl | (simp only [List.length_drop, List.length_take]; rfl)) ?_
          with_reducible refine (spec_l1Rd_pick.calls k g s0_0 t171 255 t173 t174 w0 _ ?side1 ?side2 A9.out).mono ?_
          (case side1 => repeat (first | (with_reducible first | exact HI0.out | apply IsS93.alloc | apply IsS93.drewN | apply IsS93.drew | apply IsS93.set_1) | exact HI0.out))
          (case side2 => repeat (first | (with_reducible first | exact HB.out | apply below_alloc | apply pw_below_drewN | apply below_drew1 | refine below_set ?_ (IsS93.ge HI0.out)) | exact HB.out))
          rintro e w16 ⟨rfl, hi, hb, hk⟩
          have HS0_ := keep_cell hk (hHeld) (by first | (rw [add_block]; exact Kd.own_blk (Go.Proofs.Ytfladcffgblfdaa.Th.RZ.ne HO169.out (by obtain ⟨_, _, h_, _⟩ := HI0.out; exact ⟨_, _, _, h_, by decide⟩))) | (show (Addr.add _ _).block ≠ _; rw [add_block]; exact Kd.own_blk (Go.Proofs.Ytfladcffgblfdaa.Th.RZ.ne HO169.out (by obtain ⟨_, _, h_, _⟩ := HI0.out; exact ⟨_, _, _, h_, by decide⟩))) | exact Kd.own_blk (Go.Proofs.Ytfladcffgblfdaa.Th.RZ.ne HO169.out (by obtain ⟨_, _, h_, _⟩ := HI0.out; exact ⟨_, _, _, h_, by decide⟩)))
          refine ⟨_, rfl, ?_⟩
          have n0_ := Aside0.mk (Go.Proofs.Ytfladcffgblfdaa.Th.RZ.keep (by repeat (first | exact HO169.out | apply Go.Proofs.Ytfladcffgblfdaa.Th.RZ.drewN | apply Go.Proofs.Ytfladcffgblfdaa.Th.RZ.drew)) (Go.Proofs.Ytfladcffgblfdaa.Th.RZ.ne HO169.out (by obtain ⟨_, _, h_, _⟩ := HI0.out; exact ⟨_, _, _, h_, by decide⟩)) hk)
          have n1_ := Aside0.mk (KeepBut.trans (by repeat (first | (with_reducible first | exact HK.out | apply KeepBut.set_ | apply keep_drewN | apply keep_drew | apply keep_alloc) | exact HK.out)) hk (.inl rfl))
          have n2_ := Aside0.mk (hb)
          have n3_ := Aside0.mk (hi)
          clear HO169
          clear HK
          clear HB
          clear HI0
          have HO169 := n0_
          have HK := n1_
          have HB := n2_
          have HI0 := n3_
          clear n0_ n1_ n2_ n3_
          (try clear hb)
          (try clear hb2)
          (try clear hk)
          (try clear hi)
          have p10 : 0 ≤ (t170 : Int) := of_decide_eq_true (by first | (with_reducible assumption) | assumption)
          have q10 : (t170 : Int) < ((y167.length : Int) : Int) := of_decide_eq_true (by first | (with_reducible assumption) | assumption)
          obtain ⟨go10, co10, eo10, gb10, gl10, cl10, HG10⟩ := Go.Proofs.Ytfladcffgblfdaa.Th.RZ.form HO169.out
          (first | cases eo10 | (injection eo10 with ea_ en_ ec_; (first | subst ea_ | (injection ea_ with ea_; subst ea_)); subst ec_; clear en_))
          have GB10 := Aside0.mk gb10
          have GG10 := Aside0.mk HG10
          clear gb10 gl10 HG10
          (first | simp only [add_plain] at hx172_0 | skip)
          obtain ⟨hx10_0, hf10_0⟩ := Go.Proofs.Ytfladcffgblfdaa.Th.RZ.celln HO169.out (t170 : Int) p10 q10
          replace p10 := eq_true p10
          replace q10 := eq_true q10
          have HN0_go10 := Aside0.mk (show g ≠ go10 from by have h_ := (Go.Proofs.Ytfladcffgblfdaa.Th.RZ.ne HO169.out (by obtain ⟨_, _, h_, _⟩ := HI0.out; exact ⟨_, _, _, h_, by decide⟩)); intro e_; exact h_ (by rw [e_]; rfl))
          have HP17 := Go.Proofs.Ytfladcffgblfdaa.Th.RZ.putn HO169.out (t170 : Int) (Go.bits .xor .u8 (rd y167 t170) ((wrap64 (1 + t173)) % 256))
          rw [← Ny175.out] at HP17
          have HQ17 := Aside0.mk HP17
          clear HP17
          refine hK.out _ _ (HS0_) (fun hHeld => ?_)
          clear hK K
          refine norm_ (a' := ?_) ?_ ?_
          rotate_left
          · show Act.put _ (some 23) _ = _
            simp only [Act.put, List.setIfInBounds_toArray, List.set_cons_zero, List.set_cons_succ, i64_w, i32_w]
            rfl
          refine pure_ (i := 8) (N := some 24) (v := ?_) (a' := ?_) #[true, true, true, true, true, true, true, true, true, false, false, false, false] rfl rfl (any_of HT_.out (by kernel_rfl)) (fun _ _ _ h => h) (Or.inl ⟨by rfl, ?_⟩) ?_ ?_
          rotate_left
          · intro w'
            go_simp
            with_reducible rfl
          rotate_left
          · simp only [Act.put, List.setIfInBounds_toArray, List.set_cons_zero, List.set_cons_succ, i64_w, i32_w]
            rfl
          refine pure_ (i := 9) (N := some 25) (v := ?_) (a' := ?_) #[true, true, true, true, true, true, true, true, true, true, false, false, false] rfl rfl (any_of HT_.out (by kernel_rfl)) (fun _ _ _ h => h) (Or.inl ⟨by rfl, ?_⟩) ?_ ?_
          rotate_left
          · intro w'
            go_simp
            with_reducible rfl
          rotate_left
          · simp only [Act.put, List.setIfInBounds_toArray, List.set_cons_zero, List.set_cons_succ, i64_w, i32_w]
            rfl
          refine pure_ (i := 10) (N := some 26) (v := ?_) (a' := ?_) #[true, true, true, true, true, true, true, true, true, true, true, false, false] rfl rfl (any_of HT_.out (by kernel_rfl)) (fun _ _ _ h => h) (Or.inl ⟨by rfl, ?_⟩) ?_ ?_
          rotate_left
          · intro w'
            go_simp
            with_reducible rfl
          rotate_left
          · simp only [Act.put, List.setIfInBounds_toArray, List.set_cons_zero, List.set_cons_succ, i64_w, i32_w]
            rfl
          refine pure_ (i := 11) (N := some 27) (v := ?_) (a' := ?_) #[true, true, true, true, true, true, true, true, true, true, true, true, false] rfl rfl (any_of HT_.out (by kernel_rfl)) (fun _ _ _ h => h) (Or.inl ⟨by rfl, ?_⟩) ?_ ?_
          rotate_left
          · intro w'
            go_simp
            with_reducible rfl
          rotate_left
          · simp only [Act.put, List.setIfInBounds_toArray, List.set_cons_zero, List.set_cons_succ, i64_w, i32_w]
            rfl
          refine last_ (i := 12) (N := none) #[true, true, true, true, true, true, true, true, true, true, true, true, true] rfl rfl (one_of HT_.out (by kernel_rfl)) (by decide) (fun K hK => ?_)
          refine skip_ (w1 := ?_) (by rfl) rfl ?_ ?_
          rotate_left
          · go_simp
            rfl
          refine hK.out _ _ ?_
          clear hK K
          refine done_ (done_of HT_.out (by kernel_rfl)) ?_
          refine Go.Proofs.Ytfladcffgblfdaa.Th.world_gen ?_
          intro wz_ hwz_
          have HZ_ := Aside0.mk (show Go.Proofs.Ytfladcffgblfdaa.Th.RZ 5 wz_ _ _ _ from by rw [hwz_]; exact HQ17.out)
          clear HO169
          have HO169 := HZ_
          clear HQ17
          have HQ17 := HZ_
          clear HZ_
          have n0_ := Aside0.mk (show IsS93 w0 wz_ g s0_0 t174 from by rw [hwz_]; refine IsS93.far ?_ HN0_go10.out _; repeat (first | (with_reducible first | exact HI0.out | apply IsS93.alloc | apply IsS93.drewN | apply IsS93.drew) | exact HI0.out))
          have n1_ := Aside0.mk (show Below w0.heap.size w0 wz_ from by rw [hwz_]; refine below_set ?_ (Nat.le_trans HL.out GB10.out); repeat (first | (with_reducible first | exact HB.out | apply below_alloc | apply pw_below_drewN | apply below_drew1) | exact HB.out))
          have n2_ := Aside0.mk (show KeepBut w wz_ g none from by rw [hwz_]; refine keep_far ?_ GB10.out _; repeat (first | (with_reducible first | exact HK.out | apply keep_drewN | apply keep_drew | apply keep_alloc) | exact HK.out))
          clear HI0 HB HK
          have HI0 := n0_
          have HB := n1_
          have HK := n2_
          clear n0_ n1_ n2_
          clear hwz_
          have hcv18 := Go.Proofs.Ytfladcffgblfdaa.Th.RZ.own_string (P := Try.prog) Try.underlying22 Try.underlying5 Try.underlying9 HO169.out
          try go_wp2
          go_ret
          exact ⟨by first | rfl | (simp [errW_none, errW_some] <;> rfl) | (simp [*, errW_none, errW_some] <;> rfl), by repeat (first | (with_reducible first | exact HI0.out | apply IsS93.alloc | apply IsS93.drewN | apply IsS93.drew | apply IsS93.set_1 | refine IsS93.far ?_ HN0_go10.out _) | exact HI0.out), by repeat (first | (with_reducible first | exact HB.out | apply below_alloc | apply pw_below_drewN | apply below_drew1 | refine below_set ?_ (Nat.le_trans HL.out GB10.out) | refine below_set ?_ (IsS93.ge HI0.out)) | exact HB.out), by repeat (first | (with_reducible first | exact HK.out | apply KeepBut.set_ | apply keep_drewN | apply keep_drew | apply keep_alloc | refine keep_far ?_ GB10.out _) | exact HK.out)⟩
        · rw [if_neg c8] at H
          exact absurd H (by simp)
      · rw [if_neg c7] at H
        exact absurd H (by simp)
    · rw [if_neg c4] at H
      exact absurd H (by simp)

/-! ### spec_l14Limit: function 89 -/
def spec_l14Limit.f (k : Nat) (s0_0 : List Int) (s0_1 : Int) : Option (Int × Int) := (spec_l1Rd_pick.f k s0_0 s0_1 40).bind fun bt176 => ((some (([5000, 5000, bt176.1, 5001, (-1)] : List Int) : List Int)).bind fun y178 => ((spec_l1Rd_pick.f k s0_0 bt176.2 14).bind fun bt181 => (if 0 ≤ (wrap64 (Int.tdiv (wrap64 (bt181.1 * 5)) 14)) then (if (wrap64 (Int.tdiv (wrap64 (bt181.1 * 5)) 14)) < (y178.length : Int) then (some (rd y178 (wrap64 (Int.tdiv (wrap64 (bt181.1 * 5)) 14)), bt181.2)) else (none)) else (none))))
theorem spec_l14Limit.mono : ∀ a0 a1 k, LeO (spec_l14Limit.f k a0 a1) (spec_l14Limit.f (k + 1) a0 a1) := by
  intro a0 a1 k
  unfold spec_l14Limit.f
  repeat' first
      | (with_reducible exact spec_l1Rd_pick.mono _ _ _ _)
      | (with_reducible exact LeO.refl _)
      | (with_reducible exact LeO.none _)
      | (with_reducible refine LeO.ite ?_ ?_)
      | (with_reducible refine LeO.bind ?_ (fun _ => ?_))
      | exact spec_l1Rd_pick.mono _ _ _ _
      | exact LeO.none _
      | refine LeO.ite ?_ ?_
      | refine LeO.bind ?_ (fun _ => ?_)
set_option maxHeartbeats 8000000 in
set_option maxRecDepth 100000 in
theorem spec_l14Limit.calls (k : Nat) (g : Nat) (s0_0 : List Int) (s0_1 : Int) (r1 : Int) (r2 : Int) (w0 w : World) (hI : IsS93 w0 w g s0_0 s0_1) (hB : Below w0.heap.size w0 w) (h : spec_l14Limit.f k s0_0 s0_1 = some (r1, r2)) :
    Calls Try.prog 89 #[.pointer (some ⟨g, 0, none⟩)] w fun e w' => e = .returned (.int .i64 r1) ∧ IsS93 w0 w' g s0_0 r2 ∧ Below w0.heap.size w0 w' ∧ KeepBut w w' g none := by
  have HI0 := Aside0.mk hI
  have HK := Aside0.mk (KeepBut.refl w g none)
  have HL := Aside0.mk hB.size
  clear hI
  have HW0 := Aside0.mk hB.size
  have HB := Aside0.mk hB
  clear hB
  have H : ((spec_l1Rd_pick.f k s0_0 s0_1 40).bind fun bt176 => ((some (([5000, 5000, bt176.1, 5001, (-1)] : List Int) : List Int)).bind fun y178 => ((spec_l1Rd_pick.f k s0_0 bt176.2 14).bind fun bt181 => (if 0 ≤ (wrap64 (Int.tdiv (wrap64 (bt181.1 * 5)) 14)) then (if (wrap64 (Int.tdiv (wrap64 (bt181.1 * 5)) 14)) < (y178.length : Int) then (some (rd y178 (wrap64 (Int.tdiv (wrap64 (bt181.1 * 5)) 14)), bt181.2)) else (none)) else (none))))) = some (r1, r2) := h
  clear h
  replace H := Option.bind_eq_some_iff.mp H
  obtain ⟨⟨t176, t177⟩, A20, H⟩ := H
  replace H : ((some (([5000, 5000, t176, 5001, (-1)] : List Int) : List Int)).bind fun y178 => ((spec_l1Rd_pick.f k s0_0 t177 14).bind fun bt181 => (if 0 ≤ (wrap64 (Int.tdiv (wrap64 (bt181.1 * 5)) 14)) then (if (wrap64 (Int.tdiv (wrap64 (bt181.1 * 5)) 14)) < (y178.length : Int) then (some (rd y178 (wrap64 (Int.tdiv (wrap64 (bt181.1 * 5)) 14)), bt181.2)) else (none)) else (none)))) = some (r1, r2) := H
  have A2 := Aside0.mk A20
  clear A20
  obtain ⟨y178, hy178⟩ : ∃ y_ : List Int, y_ = (([5000, 5000, t176, 5001, (-1)] : List Int)) := ⟨_, rfl⟩
  replace H : ((spec_l1Rd_pick.f k s0_0 t177 14).bind fun bt181 => (if 0 ≤ (wrap64 (Int.tdiv (wrap64 (bt181.1 * 5)) 14)) then (if (wrap64 (Int.tdiv (wrap64 (bt181.1 * 5)) 14)) < (y178.length : Int) then (some (rd y178 (wrap64 (Int.tdiv (wrap64 (bt181.1 * 5)) 14)), bt181.2)) else (none)) else (none))) = some (r1, r2) := by first | (rw [hy178]; with_reducible exact H) | (have H2_ := (Option.bind_some _ _).symm.trans H; rw [hy178]; with_reducible exact H2_) | (have H2_ := (Option.bind_some _ _).symm.trans H; with_reducible exact H2_) | with_reducible exact H | (rw [hy178]; exact H) | exact H
  have Ny178 := Aside0.mk hy178
  clear hy178
  replace H := Option.bind_eq_some_iff.mp H
  obtain ⟨⟨t181, t182⟩, A30, H⟩ := H
  replace H : (if 0 ≤ (wrap64 (Int.tdiv (wrap64 (t181 * 5)) 14)) then (if (wrap64 (Int.tdiv (wrap64 (t181 * 5)) 14)) < (y178.length : Int) then (some (rd y178 (wrap64 (Int.tdiv (wrap64 (t181 * 5)) 14)), t182)) else (none)) else (none)) = some (r1, r2) := H
  have A3 := Aside0.mk A30
  clear A30
  obtain ⟨ji4, hji4⟩ : ∃ j_ : Int, (wrap64 (Int.tdiv (wrap64 (t181 * 5)) 14)) = j_ := ⟨_, rfl⟩
  replace H : (if 0 ≤ (ji4) then (if (ji4) < (y178.length : Int) then (some (rd y178 (ji4), t182)) else (none)) else (none)) = some (r1, r2) := by first | (rw [hji4] at H; exact H) | (simp only [hji4] at H ⊢; exact H)
  (try rw [hji4] at A2)
  (try rw [hji4] at A3)
  have hji4w : (IntKind.i64.wrap (Int.tdiv (wrap64 (t181 * 5)) 14)) = ji4 := (i64_w _).trans hji4
  by_cases c5 : 0 ≤ (ji4)
  · rw [if_pos c5] at H
    have c5b0 : decide (0 ≤ (ji4)) = true := decide_eq_true c5
    clear c5
    by_cases c6 : (ji4) < (y178.length : Int)
    · rw [if_pos c6] at H
      have c6b0 : decide ((ji4) < (y178.length : Int)) = true := decide_eq_true c6
      clear c6
      simp only [Option.some.injEq, Prod.mk.injEq] at H
      obtain ⟨rfl, rfl⟩ := H
      go_enter Try.func89, Try.ntmps89
      go_wp2_with (first | ((with_reducible refine gate_callee (f := 69) rfl ?_); refine goesL_ (some 4) rfl rfl Try.func69 (by kernel_rfl) rfl #[.pointer (some ⟨g, 0, none⟩), .int .i64 40] rfl (by (try simp only [List.map_toArray, List.map_cons, List.map_nil]); first | done | rfl | (simp only [List.length_drop, List.length_take]; rfl)) ?_; (with_reducible refine (spec_l1Rd_pick.calls k g s0_0 s0_1 40 t176 t177 w0 _ ?side1 ?side2 A2.out).mono ?_); (case side1 => repeat (first | (with_reducible first | exact HI0.out | apply IsS93.alloc | apply IsS93.drewN | apply IsS93.drew | apply IsS93.set_1) | exact HI0.out)); (case side2 => repeat (first | (with_reducible first | exact HB.out | apply below_alloc | apply pw_below_drewN | apply below_drew1 | refine below_set ?_ (IsS93.ge HI0.out)) | exact HB.out)); rintro e w7 ⟨rfl, hi, hb, hk⟩; refine ⟨_, rfl, ?_⟩; have n0_ := Aside0.mk (KeepBut.trans (by repeat (first | (with_reducible first | exact HK.out | apply KeepBut.set_ | apply keep_drewN | apply keep_drew | apply keep_alloc) | exact HK.out)) hk (.inl rfl)); have n1_ := Aside0.mk (hb); have n2_ := Aside0.mk (hi); clear HK; clear HB; clear HI0; have HK := n0_; have HB := n1_; have HI0 := n2_; clear n0_ n1_ n2_; (try clear hb); (try clear hb2); (try clear hk); (try clear hi)) | ((with_reducible refine gate_dst (N := 5) rfl ?_); refine Kd.R_lit (Kd.int .i64) _ 3 ?hg (N := 5) ?hd (xs := ([5000, 5000, t176, 5001, (-1)] : List Int)) (inner := [.int .i64 5000, .int .i64 5000, .int .i64 t176, .int .i64 5001, .int .i64 (-1)]) (ok := fun _ => True) (okp := fun _ => True) ?hr ?hp (fun _ hk => hk) trivial (Below.refl _ _) (Nat.le_refl _) (by simp) ?_; (case hd => rfl); (case hg => rfl); (case hr => first | (go_simp; done) | (go_simp; rfl)); (case hp => exact (Reps.one (show Kd.M (Kd.int .i64) _ _ _ 5000 [.int .i64 5000] from rfl) (Reps.one (show Kd.M (Kd.int .i64) _ _ _ 5000 [.int .i64 5000] from rfl) (Reps.one (show Kd.M (Kd.int .i64) _ _ _ t176 [.int .i64 t176] from rfl) (Reps.one (show Kd.M (Kd.int .i64) _ _ _ 5001 [.int .i64 5001] from rfl) (Reps.one (show Kd.M (Kd.int .i64) _ _ _ (-1) [.int .i64 (-1)] from rfl) (Reps.none _ _))))))); intro v179 w8 ho9 hb hg_ hnew_; clear hg_ hnew_; (first | rw [← Ny178.out] at ho9 | (simp only [Int.reduceToNat] at ho9; rw [← Ny178.out] at ho9)); have n0_ := Aside0.mk (Kd.R_lower ho9 (keep_size (w := w) (g := g) (row := none) (by repeat (first | (with_reducible first | exact HK.out | apply KeepBut.set_ | apply keep_drewN | apply keep_drew | apply keep_alloc) | exact HK.out)))); have n1_ := Aside0.mk (IsS93.below (by repeat (first | (with_reducible first | exact HI0.out | apply IsS93.alloc | apply IsS93.drewN | apply IsS93.drew | apply IsS93.set_1) | exact HI0.out)) hb); have n2_ := Aside0.mk (KeepBut.trans (by repeat (first | (with_reducible first | exact HK.out | apply KeepBut.set_ | apply keep_drewN | apply keep_drew | apply keep_alloc) | exact HK.out)) (KeepBut.of_below hb g none) (.inl rfl)); have n3_ := Aside0.mk (below_step (by repeat (first | (with_reducible first | exact HB.out | apply below_alloc | apply pw_below_drewN | apply below_drew1 | refine below_set ?_ (IsS93.ge HI0.out)) | exact HB.out)) hb); clear HI0; clear HK; clear HB; have HO180 := n0_; have HI0 := n1_; have HK := n2_; have HB := n3_; clear n0_ n1_ n2_ n3_; clear hb ho9) | ((with_reducible refine gate_callee (f := 69) rfl ?_); refine goesL_ (some 7) rfl rfl Try.func69 (by kernel_rfl) rfl #[.pointer (some ⟨g, 0, none⟩), .int .i64 14] rfl (by (try simp only [List.map_toArray, List.map_cons, List.map_nil]); first | done | rfl | (simp only [List.length_drop, List.length_take]; rfl)) ?_; (with_reducible refine (spec_l1Rd_pick.calls k g s0_0 t177 14 t181 t182 w0 _ ?side1 ?side2 A3.out).mono ?_); (case side1 => repeat (first | (with_reducible first | exact HI0.out | apply IsS93.alloc | apply IsS93.drewN | apply IsS93.drew | apply IsS93.set_1) | exact HI0.out)); (case side2 => repeat (first | (with_reducible first | exact HB.out | apply below_alloc | apply pw_below_drewN | apply below_drew1 | refine below_set ?_ (IsS93.ge HI0.out)) | exact HB.out)); rintro e w10 ⟨rfl, hi, hb, hk⟩; refine ⟨_, rfl, ?_⟩; have n0_ := Aside0.mk (Kd.R_mono (Kd.R_keep (IsS93.apart (show IsS93 w0 _ g s0_0 t177 from by repeat (first | (with_reducible first | exact HI0.out | apply IsS93.alloc | apply IsS93.drewN | apply IsS93.drew | apply IsS93.set_1) | exact HI0.out)) (by (with_reducible repeat (first | apply Kd.R_alloc | apply Kd.R_drewN | apply Kd.R_drew)); exact HO180.out) (by decide)) hk (fun _ h => h.2)) (fun _ h => h.1)); have n1_ := Aside0.mk (KeepBut.trans (by repeat (first | (with_reducible first | exact HK.out | apply KeepBut.set_ | apply keep_drewN | apply keep_drew | apply keep_alloc) | exact HK.out)) hk (.inl rfl)); have n2_ := Aside0.mk (hb); have n3_ := Aside0.mk (hi); clear HO180; clear HK; clear HB; clear HI0; have HO180 := n0_; have HK := n1_; have HB := n2_; have HI0 := n3_; clear n0_ n1_ n2_ n3_; (try clear hb); (try clear hb2); (try clear hk); (try clear hi); obtain ⟨Ao11, co11, eo11⟩ := Kd.R_slice HO180.out; subst eo11; have p183 : 0 ≤ ((ji4) : Int) := of_decide_eq_true (by first | (with_reducible assumption) | assumption); have q183 : (ji4) < (y178.length : Int) := of_decide_eq_true (by first | (with_reducible assumption) | assumption); obtain ⟨ad183, e183, hx183_0⟩ := Kd.at_int (Kd.R_reads' HO180.out).2.2 (ji4) p183 q183; cases e183; replace p183 := eq_true p183; replace q183 := eq_true q183))
      go_ret
      exact ⟨by first | rfl | (simp [errW_none, errW_some] <;> rfl) | (simp only [← hji4]; first | rfl | (simp [errW_none, errW_some] <;> rfl)) | (simp [*, errW_none, errW_some] <;> rfl), by repeat (first | (with_reducible first | exact HI0.out | apply IsS93.alloc | apply IsS93.drewN | apply IsS93.drew | apply IsS93.set_1) | exact HI0.out), by repeat (first | (with_reducible first | exact HB.out | apply below_alloc | apply pw_below_drewN | apply below_drew1 | refine below_set ?_ (IsS93.ge HI0.out)) | exact HB.out), by repeat (first | (with_reducible first | exact HK.out | apply KeepBut.set_ | apply keep_drewN | apply keep_drew | apply keep_alloc) | exact HK.out)⟩
    · rw [if_neg c6] at H
      exact absurd H (by simp)
  · rw [if_neg c5] at H
    exact absurd H (by simp)

end Go.Proofs.Ytfladcffgblfdaa.PFnPackGet
