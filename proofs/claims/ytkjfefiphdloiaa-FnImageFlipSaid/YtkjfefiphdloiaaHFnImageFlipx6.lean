/- What the functions that the law comes to compute, as plain functions, and that the machine's calls come to just that: written by a program for this claim, and turned where Lean did not take it. No condition. -/
import Derived.Test.YtkjfefiphdloiaaThClo
import Derived.Test.YtkjfefiphdloiaaHFnImageFlipx0
import Derived.Test.YtkjfefiphdloiaaHFnImageFlipx4
import Derived.Test.YtkjfefiphdloiaaHFnImageFlipx5
namespace Go.Proofs.Ytkjfefiphdloiaa.PFnImageFlip
open Go.RowKit Go.Proofs.YtkjfefiphdloiaaW.PrintWords Go.Proofs.YtkjfefiphdloiaaW.PrintLast Go.Proofs.YtkjfefiphdloiaaW.PrintMore
attribute [local go_sem] max2_int min2_int max_two min_two max_three min_three max_four min_four   -- for this text's walks alone
set_option linter.unusedVariables false
set_option linter.unusedSimpArgs false

/-! ### impl_Image_made: function 57 -/
mutual
def impl_Image_made.l0 (cl : Int → Int → Option (Int × Int)) : Nat → Int → Int → Int → Int → Int → Int → Int → List Int → List Int → Int → Int → Int → Int → List Int → List Int → Option (Int × Int × Int × Int × List Int × List Int)
 | 0, _, _, _, _, _, _, _, _, _, _, _, _, _, _, _ => none
 | k + 1, x1, x24, x25, x163000, x163001, x163002, x163003, x163004, x163005, x168000, x168001, x168002, x168003, x168004, x168005 => if x25 < x24 then (impl_Image_made.l1 cl k x1 x25 x24 x25 x1 0 x163000 x163001 x163002 x163003 x163004 x163005 x168000 x168001 x168002 x168003 x168004 x168005) else (some (x168000, x168001, x168002, x168003, x168004, x168005))
def impl_Image_made.l1 (cl : Int → Int → Option (Int × Int)) : Nat → Int → Int → Int → Int → Int → Int → Int → Int → Int → Int → List Int → List Int → Int → Int → Int → Int → List Int → List Int → Option (Int × Int × Int × Int × List Int × List Int)
 | 0, _, _, _, _, _, _, _, _, _, _, _, _, _, _, _, _, _, _ => none
 | k + 1, x1, x10, x24, x25, x28, x29, x163000, x163001, x163002, x163003, x163004, x163005, x168000, x168001, x168002, x168003, x168004, x168005 => if x29 < x28 then ((cl x29 x10).bind fun bt168 => (if 0 ≤ (wrap64 ((wrap64 (bt168.2 * x163002)) + bt168.1)) then (if (wrap64 ((wrap64 (bt168.2 * x163002)) + bt168.1)) < (x163005.length : Int) then (if x168005.length < 17592186044416 then (impl_Image_made.l1 cl k x1 x10 x24 x25 x28 (wrap64 (x29 + 1)) x163000 x163001 x163002 x163003 x163004 x163005 x168000 x168001 x168002 x168003 x168004 (x168005 ++ [rd x163005 (wrap64 ((wrap64 (bt168.2 * x163002)) + bt168.1))])) else (none)) else (none)) else (none))) else (impl_Image_made.l0 cl k x1 x24 (wrap64 (x25 + 1)) x163000 x163001 x163002 x163003 x163004 x163005 x168000 x168001 x168002 x168003 x168004 x168005)
end
def impl_Image_made.f (cl : Int → Int → Option (Int × Int)) (k : Nat) (a0_0 : Int) (a0_1 : Int) (a0_2 : Int) (a0_3 : Int) (l0_4 : List Int) (l0_5 : List Int) (a1 : Int) (a2 : Int) : Option (Int × Int × Int × Int × List Int × List Int) := (slices_Clone_int_int.f l0_4).bind fun t164 => (impl_Image_made.l0 cl k a1 a2 0 a0_0 a0_1 a0_2 a0_3 l0_4 l0_5 a0_0 a0_1 a1 a2 t164 ([] : List Int))
theorem impl_Image_made.mono_l (cl : Int → Int → Option (Int × Int)) : ∀ k, (∀ y0 y1 y2 y3 y4 y5 y6 y7 y8 y9 y10 y11 y12 y13 y14, LeO (impl_Image_made.l0 cl k y0 y1 y2 y3 y4 y5 y6 y7 y8 y9 y10 y11 y12 y13 y14) (impl_Image_made.l0 cl (k + 1) y0 y1 y2 y3 y4 y5 y6 y7 y8 y9 y10 y11 y12 y13 y14)) ∧ (∀ y0 y1 y2 y3 y4 y5 y6 y7 y8 y9 y10 y11 y12 y13 y14 y15 y16 y17, LeO (impl_Image_made.l1 cl k y0 y1 y2 y3 y4 y5 y6 y7 y8 y9 y10 y11 y12 y13 y14 y15 y16 y17) (impl_Image_made.l1 cl (k + 1) y0 y1 y2 y3 y4 y5 y6 y7 y8 y9 y10 y11 y12 y13 y14 y15 y16 y17))
 | 0 => ⟨fun _ _ _ _ _ _ _ _ _ _ _ _ _ _ _ r h => by simp [impl_Image_made.l0] at h, fun _ _ _ _ _ _ _ _ _ _ _ _ _ _ _ _ _ _ r h => by simp [impl_Image_made.l1] at h⟩
 | k + 1 => by
  obtain ⟨ih0, ih1⟩ := impl_Image_made.mono_l cl k
  refine ⟨?_, ?_⟩
  ·intro y0 y1 y2 y3 y4 y5 y6 y7 y8 y9 y10 y11 y12 y13 y14
   unfold impl_Image_made.l0
   repeat' first
   | (with_reducible exact ih0 _ _ _ _ _ _ _ _ _ _ _ _ _ _ _)
   | (with_reducible exact ih1 _ _ _ _ _ _ _ _ _ _ _ _ _ _ _ _ _ _)
   | (with_reducible exact LeO.refl _)
   | (with_reducible exact LeO.none _)
   | (with_reducible refine LeO.ite ?_ ?_)
   | (with_reducible refine LeO.bind ?_ (fun _ => ?_))
  ·intro y0 y1 y2 y3 y4 y5 y6 y7 y8 y9 y10 y11 y12 y13 y14 y15 y16 y17
   unfold impl_Image_made.l1
   repeat' first
   | (with_reducible exact ih0 _ _ _ _ _ _ _ _ _ _ _ _ _ _ _)
   | (with_reducible exact ih1 _ _ _ _ _ _ _ _ _ _ _ _ _ _ _ _ _ _)
   | (with_reducible exact LeO.refl _)
   | (with_reducible exact LeO.none _)
   | (with_reducible refine LeO.ite ?_ ?_)
   | (with_reducible refine LeO.bind ?_ (fun _ => ?_))
theorem impl_Image_made.mono (cl : Int → Int → Option (Int × Int)) : ∀ a0 a1 a2 a3 a4 a5 a6 a7 k, LeO (impl_Image_made.f cl k a0 a1 a2 a3 a4 a5 a6 a7) (impl_Image_made.f cl (k + 1) a0 a1 a2 a3 a4 a5 a6 a7) := by
 intro a0 a1 a2 a3 a4 a5 a6 a7 k
 obtain ⟨ih0, ih1⟩ := impl_Image_made.mono_l cl k
 unfold impl_Image_made.f
 repeat' first
   | (with_reducible exact ih0 _ _ _ _ _ _ _ _ _ _ _ _ _ _ _)
   | (with_reducible exact ih1 _ _ _ _ _ _ _ _ _ _ _ _ _ _ _ _ _ _)
   | (with_reducible exact LeO.refl _)
   | (with_reducible exact LeO.none _)
   | (with_reducible refine LeO.ite ?_ ?_)
   | (with_reducible refine LeO.bind ?_ (fun _ => ?_))
def impl_Image_made.T1 : Bool × List (List Nat × List Nat) := (true, [([], []), ([0], [0]), ([], []), ([2], [2]), ([], []), ([], []), ([], []), ([6], [6]), ([7], [7]), ([1, 3, 4, 5, 8], [1, 3, 4, 5, 8]), ([], []), ([10, 9, 8, 0, 1, 2, 3, 4, 5, 6, 7, 8, 9, 10], [9, 10])])
def impl_Image_made.B1 : List Nat := [0, 1, 0, 4, 0, 0, 0, 64, 192, 511, 0, 2047]
theorem impl_Image_made.tab1 : rtab .any (opsOf Try.f57 1) = impl_Image_made.T1 := by kernel_rfl
theorem impl_Image_made.bits1 : waitsOk impl_Image_made.T1.2 impl_Image_made.B1 = true := by kernel_rfl
def impl_Image_made.T9 : Bool × List (List Nat × List Nat) := (true, [([], []), ([0], [0]), ([], []), ([2], [2]), ([], []), ([], []), ([5], [5]), ([4, 6], [4, 6]), ([], []), ([7, 8], [7, 8]), ([3, 9], [3, 9]), ([10], [10]), ([11], [11]), ([1, 12], [1, 12]), ([0, 1, 2, 3, 4, 5, 6, 7, 8, 9, 10, 11, 12, 13], []), ([14, 13, 13, 0, 1, 2, 3, 4, 5, 6, 7, 8, 9, 10, 11, 12, 13], [13, 14])])
def impl_Image_made.B9 : List Nat := [0, 1, 0, 4, 0, 0, 32, 112, 0, 496, 1020, 2044, 4092, 8191, 16383, 32767]
theorem impl_Image_made.tab9 : rtab .any (opsOf Try.f57 9) = impl_Image_made.T9 := by kernel_rfl
theorem impl_Image_made.bits9 : waitsOk impl_Image_made.T9.2 impl_Image_made.B9 = true := by kernel_rfl
set_option maxHeartbeats 8000000 in
set_option maxRecDepth 100000 in
theorem impl_Image_made.calls (cl : Int → Int → Option (Int × Int)) (F_ : FuncId) (fn_ : Func) (cap_ : Array Value) (k : Nat) (a0_0 : Int) (a0_1 : Int) (a0_2 : Int) (a0_3 : Int) (A0_4 : Option Addr) (c0_4 : Nat) (l0_4 : List Int) (A0_5 : Option Addr) (c0_5 : Nat) (l0_5 : List Int) (a1 : Int) (a2 : Int) (r1 : Int) (r2 : Int) (r3 : Int) (r4 : Int) (r5 : List Int) (r6 : List Int) (w : World) (hr0_4 : Kd.C (Kd.int .i64) w A0_4 l0_4.length l0_4) (hc0_4 : l0_4.length ≤ c0_4) (hr0_5 : Kd.C (Kd.int .i64) w A0_5 l0_5.length l0_5) (hc0_5 : l0_5.length ≤ c0_5) (hfn_ : Try.prog.funcs[F_]? = some fn_) (hnm_ : (fn_.name == "runtime.NumGoroutine") = false) (hbd_ : fn_.body.isSome = true) (hcl_ : ∀ (x y r s : Int) (w' : World), cl x y = some (r, s) → Below w.heap.size w w' → Calls Try.prog F_ (#[.int .i64 x, .int .i64 y] ++ cap_) w' fun e w'' => e = .returned (.tuple #[.int .i64 r, .int .i64 s]) ∧ Drawn0 w' w'') (h : impl_Image_made.f cl k a0_0 a0_1 a0_2 a0_3 l0_4 l0_5 a1 a2 = some (r1, r2, r3, r4, r5, r6)) :
  Calls Try.prog 57 #[.agg #[.int .i64 a0_0, .int .i64 a0_1, .int .i64 a0_2, .int .i64 a0_3, .slice A0_4 l0_4.length c0_4, .slice A0_5 l0_5.length c0_5], .int .i64 a1, .int .i64 a2, .func (.func F_) #[] cap_] w fun e w' => ∃ v4_ v5_ : Value, e = .returned (.agg #[.int .i64 r1, .int .i64 r2, .int .i64 r3, .int .i64 r4, v4_, v5_]) ∧ Kd.R (Kd.int .i64) 3 w' w.heap.size (fun k_ => some k_ ≠ (v5_ : Value).ownBlock) v4_ r5 ∧ Kd.R (Kd.int .i64) 3 w' w.heap.size (fun k_ => some k_ ≠ (v4_ : Value).ownBlock) v5_ r6 ∧ Below w.heap.size w w' := by
 have hu27 := Try.underlying27
 have HFN_ := Aside0.mk hfn_
 have HNM_ := Aside0.mk hnm_
 have HBD_ := Aside0.mk hbd_
 have HCL_ := Aside0.mk hcl_
 clear hfn_ hnm_ hbd_ hcl_
 have HR0_4 := Aside0.mk hr0_4
 have HC0_4 := Aside0.mk hc0_4
 clear hr0_4 hc0_4
 have HR0_5 := Aside0.mk hr0_5
 have HC0_5 := Aside0.mk hc0_5
 clear hr0_5 hc0_5
 have HB := Aside0.mk (Below.refl w.heap.size w)
 have H : ((slices_Clone_int_int.f l0_4).bind fun t164 => (impl_Image_made.l0 cl k a1 a2 0 a0_0 a0_1 a0_2 a0_3 l0_4 l0_5 a0_0 a0_1 a1 a2 t164 ([] : List Int))) = some (r1, r2, r3, r4, r5, r6) := h
 clear h
 replace H := Option.bind_eq_some_iff.mp H
 obtain ⟨t164, A50, H⟩ := H
 replace H : (impl_Image_made.l0 cl k a1 a2 0 a0_0 a0_1 a0_2 a0_3 l0_4 l0_5 a0_0 a0_1 a1 a2 t164 ([] : List Int)) = some (r1, r2, r3, r4, r5, r6) := H
 have A5 := Aside0.mk A50
 clear A50
 have H' := Aside0.mk H
 clear H
 go_enter Try.func57, Try.ntmps57
 try go_wp2_with (first | ((with_reducible refine gate_dst (N := 4) rfl ?_); refine box_event ?hg (N := 4) ?hd (cs := #[.int .i64 a0_0, .int .i64 a0_1, .int .i64 a0_2, .int .i64 a0_3, .slice A0_4 l0_4.length c0_4, .slice A0_5 l0_5.length c0_5]) (t := 27) ?hr ?_; (case hd => rfl); (case hg => rfl); (case hr => first | (go_simp; done) | (go_simp; rfl)); intro gb162 hg w6 hbox hb; have n0_ := Aside0.mk (below_step (by repeat (first | (with_reducible first | exact HB.out | apply below_alloc | apply pw_below_drewN | apply below_drew1) | exact HB.out)) hb); have n1_ := Aside0.mk (hbox); have n2_ := Aside0.mk ((by rw [hg]; exact (below_size (by repeat (first | (with_reducible first | exact HB.out | apply below_alloc | apply pw_below_drewN | apply below_drew1) | exact HB.out))) : w.heap.size ≤ gb162)); have n3_ := Aside0.mk ((by rw [hg]; exact (below_size (by repeat (first | (with_reducible first | exact HB.out | apply below_alloc | apply pw_below_drewN | apply below_drew1) | exact HB.out))) : w.heap.size ≤ gb162)); clear HB; have HB := n0_; have BK162 := n1_; have GW162 := n2_; have GE162 := n3_; clear n0_ n1_ n2_ n3_; clear hb hbox hg) | ((with_reducible refine gate_dst (N := 8) rfl ?_); refine box_event ?hg (N := 8) ?hd (cs := #[.int .i64 0, .int .i64 0, .int .i64 0, .int .i64 0, .slice none 0 0, .slice none 0 0]) (t := 27) ?hr ?_; (case hd => rfl); (case hg => rfl); (case hr => first | (go_simp; done) | (go_simp; rfl)); intro gb163 hg w7 hbox hb; have n0_ := Aside0.mk (blk_below (g := gb162) (by (with_reducible repeat (first | apply blk_drewN | apply blk_drew | apply blk_alloc)); exact BK162.out) hb); have n1_ := Aside0.mk (below_step (by repeat (first | (with_reducible first | exact HB.out | apply below_alloc | apply pw_below_drewN | apply below_drew1 | refine below_set ?_ GE162.out) | exact HB.out)) hb); have n2_ := Aside0.mk (hbox); have n3_ := Aside0.mk ((by rw [hg]; exact (below_size (by repeat (first | (with_reducible first | exact HB.out | apply below_alloc | apply pw_below_drewN | apply below_drew1 | refine below_set ?_ GE162.out) | exact HB.out))) : w.heap.size ≤ gb163)); have n4_ := Aside0.mk ((by rw [hg]; exact (below_size (by repeat (first | (with_reducible first | exact HB.out | apply below_alloc | apply pw_below_drewN | apply below_drew1 | refine below_set ?_ GE162.out) | exact HB.out))) : w.heap.size ≤ gb163)); have n5_ := Aside0.mk ((by rw [hg]; exact Nat.ne_of_lt (blk_lt (g := gb162) (by (with_reducible repeat (first | apply blk_drewN | apply blk_drew | apply blk_alloc)); exact BK162.out)) : gb162 ≠ gb163)); have n6_ := Aside0.mk n5_.out.symm; clear BK162; clear HB; have BK162 := n0_; have HB := n1_; have BK163 := n2_; have GW163 := n3_; have GE163 := n4_; have NB162_163 := n5_; have NB163_162 := n6_; clear n0_ n1_ n2_ n3_ n4_ n5_ n6_; clear hb hbox hg))
 have n0_ := Aside0.mk (blk_drew BK162.out)
 have n1_ := Aside0.mk (blk_drew BK163.out)
 have n2_ := Aside0.mk (below_drew1 HB.out)
 clear BK162
 clear BK163
 clear HB
 have BK162 := n0_
 have BK163 := n1_
 have HB := n2_
 clear n0_ n1_ n2_
 refine start_ (n := 12) (S := fun w' => w'.cell? ⟨gb162, 0, none⟩ = some (.int .i64 a0_0) ∧ w'.cell? ⟨gb162, 1, none⟩ = some (.int .i64 a0_1) ∧ w'.cell? ⟨gb162, 2, none⟩ = some (.int .i64 a0_2) ∧ w'.cell? ⟨gb162, 3, none⟩ = some (.int .i64 a0_3) ∧ w'.cell? ⟨gb162, 4, none⟩ = some (.slice A0_4 l0_4.length c0_4) ∧ w'.cell? ⟨gb162, 5, none⟩ = some (.slice A0_5 l0_5.length c0_5)) (ds := []) #[false, false, false, false, false, false, false, false, false, false, false, false] (by kernel_rfl) rfl rfl (bc6 BK162.out) (fun hHeld => ?_); refine with_tabW impl_Image_made.tab1 impl_Image_made.bits1 (fun HT_ HW_ => ?_)
 generalize w7.drew = w8 at BK162 BK163 HB hHeld ⊢
 refine pure_ (i := 0) (N := some 14) (v := ?_) (a' := ?_) #[true, false, false, false, false, false, false, false, false, false, false, false] rfl rfl (any_of HT_.out (by kernel_rfl)) (fun _ _ _ h => h) (Or.inl ⟨by rfl, ?_⟩) ?_ ?_
 rotate_left
 ·intro w'
  go_simp
  with_reducible rfl
 rotate_left
 ·simp only [Act.put, sA_, s0_, s1_, i64_w, i32_w]
  rfl
 refine pure_ (i := 2) (N := some 16) (v := ?_) (a' := ?_) #[true, false, true, false, false, false, false, false, false, false, false, false] rfl rfl (any_of HT_.out (by kernel_rfl)) (fun _ _ _ h => h) (Or.inl ⟨by rfl, ?_⟩) ?_ ?_
 rotate_left
 ·intro w'
  go_simp
  with_reducible rfl
 rotate_left
 ·simp only [Act.put, sA_, s0_, s1_, i64_w, i32_w]
  rfl
 refine pure_ (i := 4) (N := some 18) (v := ?_) (a' := ?_) #[true, false, true, false, true, false, false, false, false, false, false, false] rfl rfl (any_of HT_.out (by kernel_rfl)) (fun _ _ _ h => h) (Or.inl ⟨by rfl, ?_⟩) ?_ ?_
 rotate_left
 ·intro w'
  go_simp
  with_reducible rfl
 rotate_left
 ·simp only [Act.put, sA_, s0_, s1_, i64_w, i32_w]
  rfl
 refine pure_ (i := 5) (N := some 19) (v := ?_) (a' := ?_) #[true, false, true, false, true, true, false, false, false, false, false, false] rfl rfl (any_of HT_.out (by kernel_rfl)) (fun _ _ _ h => h) (Or.inl ⟨by rfl, ?_⟩) ?_ ?_
 rotate_left
 ·intro w'
  go_simp
  with_reducible rfl
 rotate_left
 ·simp only [Act.put, sA_, s0_, s1_, i64_w, i32_w]
  rfl
 refine pure_ (i := 6) (N := some 20) (v := ?_) (a' := ?_) #[true, false, true, false, true, true, true, false, false, false, false, false] rfl rfl (any_of HT_.out (by kernel_rfl)) (fun _ _ _ h => h) (Or.inl ⟨by rfl, ?_⟩) ?_ ?_
 rotate_left
 ·intro w'
  go_simp
  with_reducible rfl
 rotate_left
 ·simp only [Act.put, sA_, s0_, s1_, i64_w, i32_w]
  rfl
 refine take_ (i := 1) (N := some 15) (v := ?_) (a' := ?_) #[true, true, true, false, true, true, true, false, false, false, false, false] rfl rfl (take_ofW HT_.out HW_.out (by kernel_rfl)) (fun _ _ _ h => h) (Or.inl ⟨by rfl, ?_⟩) hHeld ?_ ?_
 rotate_left
 ·rintro w' ⟨s0, s1, s2, s3, s4, s5⟩
  go_simp
  with_reducible rfl
 rotate_left
 ·simp only [Act.put, sA_, s0_, s1_, i64_w, i32_w]
  rfl
 refine take_ (i := 3) (N := some 17) (v := ?_) (a' := ?_) #[true, true, true, true, true, true, true, false, false, false, false, false] rfl rfl (take_ofW HT_.out HW_.out (by kernel_rfl)) (fun _ _ _ h => h) (Or.inl ⟨by rfl, ?_⟩) hHeld ?_ ?_
 rotate_left
 ·rintro w' ⟨s0, s1, s2, s3, s4, s5⟩
  go_simp
  with_reducible rfl
 rotate_left
 ·simp only [Act.put, sA_, s0_, s1_, i64_w, i32_w]
  rfl
 refine take_ (i := 7) (N := some 21) (v := ?_) (a' := ?_) #[true, true, true, true, true, true, true, true, false, false, false, false] rfl rfl (take_ofW HT_.out HW_.out (by kernel_rfl)) (fun _ _ _ h => h) (Or.inl ⟨by rfl, ?_⟩) hHeld ?_ ?_
 rotate_left
 ·rintro w' ⟨s0, s1, s2, s3, s4, s5⟩
  go_simp
  with_reducible rfl
 rotate_left
 ·simp only [Act.put, sA_, s0_, s1_, i64_w, i32_w]
  rfl
 refine join_ (σ := Value × Nat) 1 #[true, true, true, true, true, true, true, true, true, true, true, false] (fun s_ => [(22, s_.1), (9, .pointer (some ⟨s_.2, 0, none⟩)), (23, .agg #[.int .i64 a0_0, .int .i64 a0_1, .int .i64 a1, .int .i64 a2, s_.1, .slice none 0 0])]) (fun s_ w' => (w'.cell? ⟨gb162, 0, none⟩ = some (.int .i64 a0_0) ∧ w'.cell? ⟨gb162, 1, none⟩ = some (.int .i64 a0_1) ∧ w'.cell? ⟨gb162, 2, none⟩ = some (.int .i64 a0_2) ∧ w'.cell? ⟨gb162, 3, none⟩ = some (.int .i64 a0_3) ∧ w'.cell? ⟨gb162, 4, none⟩ = some (.slice A0_4 l0_4.length c0_4) ∧ w'.cell? ⟨gb162, 5, none⟩ = some (.slice A0_5 l0_5.length c0_5)) ∧ (Kd.R (Kd.int .i64) 3 w' w.heap.size (fun _ => True) s_.1 t164) ∧ (w'.heap[gb162]? = some (.cells #[.int .i64 a0_0, .int .i64 a0_1, .int .i64 a0_2, .int .i64 a0_3, .slice A0_4 l0_4.length c0_4, .slice A0_5 l0_5.length c0_5] 27 (0, 0))) ∧ (w'.heap[gb163]? = some (.cells #[.int .i64 0, .int .i64 0, .int .i64 0, .int .i64 0, .slice none 0 0, .slice none 0 0] 27 (0, 0))) ∧ (w'.heap[s_.2]? = some (.cells #[.int .i64 0, .int .i64 0, .int .i64 0, .int .i64 0, .slice none 0 0, .slice none 0 0] 27 (0, 0))) ∧ (w.heap.size ≤ s_.2) ∧ (w.heap.size ≤ s_.2) ∧ (gb162 ≠ s_.2) ∧ (s_.2 ≠ gb162) ∧ (gb163 ≠ s_.2) ∧ (s_.2 ≠ gb163) ∧ (Below w.heap.size w w')) ?_ ?_
 rotate_left
 ·intro hCont
  refine two_ (i := 8) (j := 10) (Ni := some 22) (Nj := some 9) #[true, true, true, true, true, true, true, true, true, false, false, false] #[true, true, true, true, true, true, true, true, false, false, true, false] rfl rfl rfl rfl (two_of HT_.out (by kernel_rfl)) (by decide) (by decide) (fun K hK => ?_) (fun K hK => ?_)
  ·skip
   refine goes_ Try.func73 (by kernel_rfl) rfl #[.slice A0_4 l0_4.length c0_4] (by rfl) rfl rfl (by (try simp only [List.map_toArray, List.map_cons, List.map_nil]); first | done | rfl | (simp only [List.length_drop, List.length_take]; rfl)) ?_
   with_reducible refine (slices_Clone_int_int.calls _ _ l0_4 t164 _ ?side1 ?side2 A5.out).mono ?_
   (case side1 => repeat (first | exact (Kd.C_below HR0_4.out HB.out) | (with_reducible refine Kd.C_alloc ?_ _) | (with_reducible refine Kd.C_drewN ?_ _) | (with_reducible refine Kd.C_drew ?_)))
   (case side2 => exact HC0_4.out)
   rintro e w9 ⟨v165, rfl, ho0, hb⟩
   refine ⟨_, rfl, ?_⟩
   have n0_ := Aside0.mk (Kd.R_lower ho0 (below_size (by repeat (first | (with_reducible first | exact HB.out | apply below_alloc | apply pw_below_drewN | apply below_drew1 | refine below_set ?_ GE162.out | refine below_set ?_ GE163.out) | exact HB.out))))
   have n1_ := Aside0.mk (blk_below (g := gb162) (by (with_reducible repeat (first | apply blk_drewN | apply blk_drew | apply blk_alloc)); exact BK162.out) hb)
   have n2_ := Aside0.mk (blk_below (g := gb163) (by (with_reducible repeat (first | apply blk_drewN | apply blk_drew | apply blk_alloc)); exact BK163.out) hb)
   have n3_ := Aside0.mk (below_step (by repeat (first | (with_reducible first | exact HB.out | apply below_alloc | apply pw_below_drewN | apply below_drew1 | refine below_set ?_ GE162.out | refine below_set ?_ GE163.out) | exact HB.out)) hb)
   clear BK162
   clear BK163
   clear HB
   have HO166 := n0_
   have BK162 := n1_
   have BK163 := n2_
   have HB := n3_
   clear n0_ n1_ n2_ n3_
   (try clear hb)
   (try clear hb2)
   (try clear hk)
   (try clear hi)
   (try clear ho0)
   obtain ⟨Ao10, co10, eo10⟩ := Kd.R_slice HO166.out
   (first | subst eo10 | (injection eo10 with f1_ f2_ f3_; have f4_ := f1_.symm; have f5_ := f3_.symm; clear f1_ f2_ f3_; subst f4_; subst f5_))
   refine hK.out _ _ (bc6 BK162.out) (fun hHeld => ?_)
   clear hK K
   refine norm_ (a' := ?_) ?_ ?_
   rotate_left
   ·show Act.put _ (some 22) _ = _
    simp only [Act.put, sA_, s0_, s1_, i64_w, i32_w]
    rfl
   refine pure_ (i := 9) (N := some 23) (v := ?_) (a' := ?_) #[true, true, true, true, true, true, true, true, true, true, false, false] rfl rfl (any_of HT_.out (by kernel_rfl)) (fun _ _ _ h => h) (Or.inl ⟨by rfl, ?_⟩) ?_ ?_
   rotate_left
   ·intro w'
    go_simp
    with_reducible rfl
   rotate_left
   ·simp only [Act.put, sA_, s0_, s1_, i64_w, i32_w]
    rfl
   refine one_ (i := 10) (N := some 9) #[true, true, true, true, true, true, true, true, true, true, true, false] rfl rfl (one_of HT_.out (by kernel_rfl)) (by decide) (fun K hK => ?_)
   refine box_step ?hg (N := 9) ?hd (cs := #[.int .i64 0, .int .i64 0, .int .i64 0, .int .i64 0, .slice none 0 0, .slice none 0 0]) (t := 27) ?hr ?_; (case hd => rfl); (case hg => rfl); (case hr => first | (go_simp; done) | (go_simp; rfl))
   intro gb167 hg w11 hbox hb
   have n0_ := Aside0.mk (Kd.R_below (by (with_reducible repeat (first | apply Kd.R_alloc | apply Kd.R_drewN | apply Kd.R_drew)); exact HO166.out) hb)
   have n1_ := Aside0.mk (blk_below (g := gb162) (by (with_reducible repeat (first | apply blk_drewN | apply blk_drew | apply blk_alloc)); exact BK162.out) hb)
   have n2_ := Aside0.mk (blk_below (g := gb163) (by (with_reducible repeat (first | apply blk_drewN | apply blk_drew | apply blk_alloc)); exact BK163.out) hb)
   have n3_ := Aside0.mk (below_step (by repeat (first | (with_reducible first | exact HB.out | apply below_alloc | apply pw_below_drewN | apply below_drew1 | refine below_set ?_ GE162.out | refine below_set ?_ GE163.out) | exact HB.out)) hb)
   have n4_ := Aside0.mk (hbox)
   have n5_ := Aside0.mk ((by rw [hg]; exact (below_size (by repeat (first | (with_reducible first | exact HB.out | apply below_alloc | apply pw_below_drewN | apply below_drew1 | refine below_set ?_ GE162.out | refine below_set ?_ GE163.out) | exact HB.out))) : w.heap.size ≤ gb167))
   have n6_ := Aside0.mk ((by rw [hg]; exact (below_size (by repeat (first | (with_reducible first | exact HB.out | apply below_alloc | apply pw_below_drewN | apply below_drew1 | refine below_set ?_ GE162.out | refine below_set ?_ GE163.out) | exact HB.out))) : w.heap.size ≤ gb167))
   have n7_ := Aside0.mk ((by rw [hg]; exact Nat.ne_of_lt (blk_lt (g := gb162) (by (with_reducible repeat (first | apply blk_drewN | apply blk_drew | apply blk_alloc)); exact BK162.out)) : gb162 ≠ gb167))
   have n8_ := Aside0.mk ((by rw [hg]; exact Nat.ne_of_gt (blk_lt (g := gb162) (by (with_reducible repeat (first | apply blk_drewN | apply blk_drew | apply blk_alloc)); exact BK162.out)) : gb167 ≠ gb162))
   have n9_ := Aside0.mk ((by rw [hg]; exact Nat.ne_of_lt (blk_lt (g := gb163) (by (with_reducible repeat (first | apply blk_drewN | apply blk_drew | apply blk_alloc)); exact BK163.out)) : gb163 ≠ gb167))
   have n10_ := Aside0.mk ((by rw [hg]; exact Nat.ne_of_gt (blk_lt (g := gb163) (by (with_reducible repeat (first | apply blk_drewN | apply blk_drew | apply blk_alloc)); exact BK163.out)) : gb167 ≠ gb163))
   clear HO166
   clear BK162
   clear BK163
   clear HB
   have HO166 := n0_
   have BK162 := n1_
   have BK163 := n2_
   have HB := n3_
   have BK167 := n4_
   have GW167 := n5_
   have GE167 := n6_
   have NB162_167 := n7_
   have NB167_162 := n8_
   have NB163_167 := n9_
   have NB167_163 := n10_
   clear n0_ n1_ n2_ n3_ n4_ n5_ n6_ n7_ n8_ n9_ n10_
   clear hb hbox hg
   refine hK.out _ _ (bc6 BK162.out) (fun hHeld => ?_)
   clear hK K
   refine norm_ (a' := ?_) ?_ ?_
   rotate_left
   ·show Act.put _ (some 9) _ = _
    simp only [Act.put, sA_, s0_, s1_, i64_w, i32_w]
    rfl
   exact norm_ (by simp only [putAll, Act.put, sA_, s0_, s1_]) (hCont (.slice Ao10 t164.length co10, gb167) _ ⟨hHeld, (by (with_reducible repeat (first | apply Kd.R_alloc | apply Kd.R_drewN | apply Kd.R_drew)); exact HO166.out), (by (with_reducible repeat (first | apply blk_drewN | apply blk_drew | apply blk_alloc)); exact BK162.out), (by (with_reducible repeat (first | apply blk_drewN | apply blk_drew | apply blk_alloc)); exact BK163.out), (by (with_reducible repeat (first | apply blk_drewN | apply blk_drew | apply blk_alloc)); exact BK167.out), GW167.out, GE167.out, NB162_167.out, NB167_162.out, NB163_167.out, NB167_163.out, (by repeat (first | (with_reducible first | exact HB.out | apply below_alloc | apply pw_below_drewN | apply below_drew1 | refine below_set ?_ GE162.out | refine below_set ?_ GE163.out | refine below_set ?_ GE167.out) | exact HB.out))⟩)
  ·skip
   refine box_step ?hg (N := 9) ?hd (cs := #[.int .i64 0, .int .i64 0, .int .i64 0, .int .i64 0, .slice none 0 0, .slice none 0 0]) (t := 27) ?hr ?_; (case hd => rfl); (case hg => rfl); (case hr => first | (go_simp; done) | (go_simp; rfl))
   intro gb167 hg w9 hbox hb
   have n0_ := Aside0.mk (blk_below (g := gb162) (by (with_reducible repeat (first | apply blk_drewN | apply blk_drew | apply blk_alloc)); exact BK162.out) hb)
   have n1_ := Aside0.mk (blk_below (g := gb163) (by (with_reducible repeat (first | apply blk_drewN | apply blk_drew | apply blk_alloc)); exact BK163.out) hb)
   have n2_ := Aside0.mk (below_step (by repeat (first | (with_reducible first | exact HB.out | apply below_alloc | apply pw_below_drewN | apply below_drew1 | refine below_set ?_ GE162.out | refine below_set ?_ GE163.out) | exact HB.out)) hb)
   have n3_ := Aside0.mk (hbox)
   have n4_ := Aside0.mk ((by rw [hg]; exact (below_size (by repeat (first | (with_reducible first | exact HB.out | apply below_alloc | apply pw_below_drewN | apply below_drew1 | refine below_set ?_ GE162.out | refine below_set ?_ GE163.out) | exact HB.out))) : w.heap.size ≤ gb167))
   have n5_ := Aside0.mk ((by rw [hg]; exact (below_size (by repeat (first | (with_reducible first | exact HB.out | apply below_alloc | apply pw_below_drewN | apply below_drew1 | refine below_set ?_ GE162.out | refine below_set ?_ GE163.out) | exact HB.out))) : w.heap.size ≤ gb167))
   have n6_ := Aside0.mk ((by rw [hg]; exact Nat.ne_of_lt (blk_lt (g := gb162) (by (with_reducible repeat (first | apply blk_drewN | apply blk_drew | apply blk_alloc)); exact BK162.out)) : gb162 ≠ gb167))
   have n7_ := Aside0.mk ((by rw [hg]; exact Nat.ne_of_gt (blk_lt (g := gb162) (by (with_reducible repeat (first | apply blk_drewN | apply blk_drew | apply blk_alloc)); exact BK162.out)) : gb167 ≠ gb162))
   have n8_ := Aside0.mk ((by rw [hg]; exact Nat.ne_of_lt (blk_lt (g := gb163) (by (with_reducible repeat (first | apply blk_drewN | apply blk_drew | apply blk_alloc)); exact BK163.out)) : gb163 ≠ gb167))
   have n9_ := Aside0.mk ((by rw [hg]; exact Nat.ne_of_gt (blk_lt (g := gb163) (by (with_reducible repeat (first | apply blk_drewN | apply blk_drew | apply blk_alloc)); exact BK163.out)) : gb167 ≠ gb163))
   clear BK162
   clear BK163
   clear HB
   have BK162 := n0_
   have BK163 := n1_
   have HB := n2_
   have BK167 := n3_
   have GW167 := n4_
   have GE167 := n5_
   have NB162_167 := n6_
   have NB167_162 := n7_
   have NB163_167 := n8_
   have NB167_163 := n9_
   clear n0_ n1_ n2_ n3_ n4_ n5_ n6_ n7_ n8_ n9_
   clear hb hbox hg
   refine hK.out _ _ (bc6 BK162.out) (fun hHeld => ?_)
   clear hK K
   refine norm_ (a' := ?_) ?_ ?_
   rotate_left
   ·show Act.put _ (some 9) _ = _
    simp only [Act.put, sA_, s0_, s1_, i64_w, i32_w]
    rfl
   refine one_ (i := 8) (N := some 22) #[true, true, true, true, true, true, true, true, true, false, true, false] rfl rfl (one_of HT_.out (by kernel_rfl)) (by decide) (fun K hK => ?_)
   refine goes_ Try.func73 (by kernel_rfl) rfl #[.slice A0_4 l0_4.length c0_4] (by rfl) rfl rfl (by (try simp only [List.map_toArray, List.map_cons, List.map_nil]); first | done | rfl | (simp only [List.length_drop, List.length_take]; rfl)) ?_
   with_reducible refine (slices_Clone_int_int.calls _ _ l0_4 t164 _ ?side1 ?side2 A5.out).mono ?_
   (case side1 => repeat (first | exact (Kd.C_below HR0_4.out HB.out) | (with_reducible refine Kd.C_alloc ?_ _) | (with_reducible refine Kd.C_drewN ?_ _) | (with_reducible refine Kd.C_drew ?_)))
   (case side2 => exact HC0_4.out)
   rintro e w10 ⟨v165, rfl, ho0, hb⟩
   refine ⟨_, rfl, ?_⟩
   have n0_ := Aside0.mk (Kd.R_lower ho0 (below_size (by repeat (first | (with_reducible first | exact HB.out | apply below_alloc | apply pw_below_drewN | apply below_drew1 | refine below_set ?_ GE162.out | refine below_set ?_ GE163.out | refine below_set ?_ GE167.out) | exact HB.out))))
   have n1_ := Aside0.mk (blk_below (g := gb162) (by (with_reducible repeat (first | apply blk_drewN | apply blk_drew | apply blk_alloc)); exact BK162.out) hb)
   have n2_ := Aside0.mk (blk_below (g := gb163) (by (with_reducible repeat (first | apply blk_drewN | apply blk_drew | apply blk_alloc)); exact BK163.out) hb)
   have n3_ := Aside0.mk (blk_below (g := gb167) (by (with_reducible repeat (first | apply blk_drewN | apply blk_drew | apply blk_alloc)); exact BK167.out) hb)
   have n4_ := Aside0.mk (below_step (by repeat (first | (with_reducible first | exact HB.out | apply below_alloc | apply pw_below_drewN | apply below_drew1 | refine below_set ?_ GE162.out | refine below_set ?_ GE163.out | refine below_set ?_ GE167.out) | exact HB.out)) hb)
   clear BK162
   clear BK163
   clear BK167
   clear HB
   have HO166 := n0_
   have BK162 := n1_
   have BK163 := n2_
   have BK167 := n3_
   have HB := n4_
   clear n0_ n1_ n2_ n3_ n4_
   (try clear hb)
   (try clear hb2)
   (try clear hk)
   (try clear hi)
   (try clear ho0)
   obtain ⟨Ao11, co11, eo11⟩ := Kd.R_slice HO166.out
   (first | subst eo11 | (injection eo11 with f1_ f2_ f3_; have f4_ := f1_.symm; have f5_ := f3_.symm; clear f1_ f2_ f3_; subst f4_; subst f5_))
   refine hK.out _ _ (bc6 BK162.out) (fun hHeld => ?_)
   clear hK K
   refine norm_ (a' := ?_) ?_ ?_
   rotate_left
   ·show Act.put _ (some 22) _ = _
    simp only [Act.put, sA_, s0_, s1_, i64_w, i32_w]
    rfl
   refine pure_ (i := 9) (N := some 23) (v := ?_) (a' := ?_) #[true, true, true, true, true, true, true, true, true, true, true, false] rfl rfl (any_of HT_.out (by kernel_rfl)) (fun _ _ _ h => h) (Or.inl ⟨by rfl, ?_⟩) ?_ ?_
   rotate_left
   ·intro w'
    go_simp
    with_reducible rfl
   rotate_left
   ·simp only [Act.put, sA_, s0_, s1_, i64_w, i32_w]
    rfl
   exact norm_ (by simp only [putAll, Act.put, sA_, s0_, s1_]) (hCont (.slice Ao11 t164.length co11, gb167) _ ⟨hHeld, (by (with_reducible repeat (first | apply Kd.R_alloc | apply Kd.R_drewN | apply Kd.R_drew)); exact HO166.out), (by (with_reducible repeat (first | apply blk_drewN | apply blk_drew | apply blk_alloc)); exact BK162.out), (by (with_reducible repeat (first | apply blk_drewN | apply blk_drew | apply blk_alloc)); exact BK163.out), (by (with_reducible repeat (first | apply blk_drewN | apply blk_drew | apply blk_alloc)); exact BK167.out), GW167.out, GE167.out, NB162_167.out, NB167_162.out, NB163_167.out, NB167_163.out, (by repeat (first | (with_reducible first | exact HB.out | apply below_alloc | apply pw_below_drewN | apply below_drew1 | refine below_set ?_ GE162.out | refine below_set ?_ GE163.out | refine below_set ?_ GE167.out) | exact HB.out))⟩)
 rintro ⟨v165, gb167⟩ w12 ⟨hS_, h0_, h1_, h2_, h3_, h4_, h5_, h6_, h7_, h8_, h9_, h10_⟩
 have n0_ : Aside0 (Kd.R (Kd.int .i64) 3 w12 w.heap.size (fun _ => True) v165 t164) := ⟨h0_⟩
 have n1_ : Aside0 (w12.heap[gb162]? = some (.cells #[.int .i64 a0_0, .int .i64 a0_1, .int .i64 a0_2, .int .i64 a0_3, .slice A0_4 l0_4.length c0_4, .slice A0_5 l0_5.length c0_5] 27 (0, 0))) := ⟨h1_⟩
 have n2_ : Aside0 (w12.heap[gb163]? = some (.cells #[.int .i64 0, .int .i64 0, .int .i64 0, .int .i64 0, .slice none 0 0, .slice none 0 0] 27 (0, 0))) := ⟨h2_⟩
 have n3_ : Aside0 (w12.heap[gb167]? = some (.cells #[.int .i64 0, .int .i64 0, .int .i64 0, .int .i64 0, .slice none 0 0, .slice none 0 0] 27 (0, 0))) := ⟨h3_⟩
 have n4_ : Aside0 (w.heap.size ≤ gb167) := ⟨h4_⟩
 have n5_ : Aside0 (w.heap.size ≤ gb167) := ⟨h5_⟩
 have n6_ : Aside0 (gb162 ≠ gb167) := ⟨h6_⟩
 have n7_ : Aside0 (gb167 ≠ gb162) := ⟨h7_⟩
 have n8_ : Aside0 (gb163 ≠ gb167) := ⟨h8_⟩
 have n9_ : Aside0 (gb167 ≠ gb163) := ⟨h9_⟩
 have n10_ : Aside0 (Below w.heap.size w w12) := ⟨h10_⟩
 clear BK162
 clear BK163
 clear HB
 clear h0_ h1_ h2_ h3_ h4_ h5_ h6_ h7_ h8_ h9_ h10_
 have HO166 := n0_
 have BK162 := n1_
 have BK163 := n2_
 have BK167 := n3_
 have GW167 := n4_
 have GE167 := n5_
 have NB162_167 := n6_
 have NB167_162 := n7_
 have NB163_167 := n8_
 have NB167_163 := n9_
 have HB := n10_
 clear n0_ n1_ n2_ n3_ n4_ n5_ n6_ n7_ n8_ n9_ n10_
 have hHeld : w12.cell? ⟨gb162, 0, none⟩ = some (.int .i64 a0_0) ∧ w12.cell? ⟨gb162, 1, none⟩ = some (.int .i64 a0_1) ∧ w12.cell? ⟨gb162, 2, none⟩ = some (.int .i64 a0_2) ∧ w12.cell? ⟨gb162, 3, none⟩ = some (.int .i64 a0_3) ∧ w12.cell? ⟨gb162, 4, none⟩ = some (.slice A0_4 l0_4.length c0_4) ∧ w12.cell? ⟨gb162, 5, none⟩ = some (.slice A0_5 l0_5.length c0_5) := hS_
 obtain ⟨Ao13, co13, eo13⟩ := Kd.R_slice HO166.out
 (first | subst eo13 | (injection eo13 with f1_ f2_ f3_; have f4_ := f1_.symm; have f5_ := f3_.symm; clear f1_ f2_ f3_; subst f4_; subst f5_))
 refine norm_ (a' := ?_) ?_ ?_
 rotate_left
 ·simp only [putAll, Act.put, sA_, s0_, s1_]
  rfl
 refine one_ (i := 11) (N := none) #[true, true, true, true, true, true, true, true, true, true, true, true] rfl rfl (one_of HT_.out (by kernel_rfl)) (by decide) (fun K hK => ?_)
 have hs14 : w12.cell? ⟨gb167, 0, none⟩ = some (.int .i64 0) := (blk_cell BK167.out 0).trans rfl
 have hfs14 := blk_frozen BK167.out 0
 have hns14_0 := NB162_167.out
 have hns14_1 := NB163_167.out
 have hms14_0 := NB167_162.out
 have hms14_1 := NB167_163.out
 have hs15 : w12.cell? ⟨gb167, 1, none⟩ = some (.int .i64 0) := (blk_cell BK167.out 1).trans rfl
 have hfs15 := blk_frozen BK167.out 1
 have hns15_0 := NB162_167.out
 have hns15_1 := NB163_167.out
 have hms15_0 := NB167_162.out
 have hms15_1 := NB167_163.out
 have hs16 : w12.cell? ⟨gb167, 2, none⟩ = some (.int .i64 0) := (blk_cell BK167.out 2).trans rfl
 have hfs16 := blk_frozen BK167.out 2
 have hns16_0 := NB162_167.out
 have hns16_1 := NB163_167.out
 have hms16_0 := NB167_162.out
 have hms16_1 := NB167_163.out
 have hs17 : w12.cell? ⟨gb167, 3, none⟩ = some (.int .i64 0) := (blk_cell BK167.out 3).trans rfl
 have hfs17 := blk_frozen BK167.out 3
 have hns17_0 := NB162_167.out
 have hns17_1 := NB163_167.out
 have hms17_0 := NB167_162.out
 have hms17_1 := NB167_163.out
 have hs18 : w12.cell? ⟨gb167, 4, none⟩ = some (.slice none 0 0) := (blk_cell BK167.out 4).trans rfl
 have hfs18 := blk_frozen BK167.out 4
 have hns18_0 := NB162_167.out
 have hns18_1 := NB163_167.out
 have hms18_0 := NB167_162.out
 have hms18_1 := NB167_163.out
 have hs19 : w12.cell? ⟨gb167, 5, none⟩ = some (.slice none 0 0) := (blk_cell BK167.out 5).trans rfl
 have hfs19 := blk_frozen BK167.out 5
 have hns19_0 := NB162_167.out
 have hns19_1 := NB163_167.out
 have hms19_0 := NB167_162.out
 have hms19_1 := NB167_163.out
 refine skip_ (w1 := ?_) (by rfl) rfl ?_ ?_
 rotate_left
 ·go_simp
  rfl
 refine hK.out _ _ ⟨((cell_far (p := ⟨gb167, _, none⟩) NB162_167.out _).trans (((cell_far (p := ⟨gb167, _, none⟩) NB162_167.out _).trans (((cell_far (p := ⟨gb167, _, none⟩) NB162_167.out _).trans (((cell_far (p := ⟨gb167, _, none⟩) NB162_167.out _).trans (((cell_far (p := ⟨gb167, _, none⟩) NB162_167.out _).trans (((cell_far (p := ⟨gb167, _, none⟩) NB162_167.out _).trans (hHeld.1)))))))))))), ((cell_far (p := ⟨gb167, _, none⟩) NB162_167.out _).trans (((cell_far (p := ⟨gb167, _, none⟩) NB162_167.out _).trans (((cell_far (p := ⟨gb167, _, none⟩) NB162_167.out _).trans (((cell_far (p := ⟨gb167, _, none⟩) NB162_167.out _).trans (((cell_far (p := ⟨gb167, _, none⟩) NB162_167.out _).trans (((cell_far (p := ⟨gb167, _, none⟩) NB162_167.out _).trans (hHeld.2.1)))))))))))), ((cell_far (p := ⟨gb167, _, none⟩) NB162_167.out _).trans (((cell_far (p := ⟨gb167, _, none⟩) NB162_167.out _).trans (((cell_far (p := ⟨gb167, _, none⟩) NB162_167.out _).trans (((cell_far (p := ⟨gb167, _, none⟩) NB162_167.out _).trans (((cell_far (p := ⟨gb167, _, none⟩) NB162_167.out _).trans (((cell_far (p := ⟨gb167, _, none⟩) NB162_167.out _).trans (hHeld.2.2.1)))))))))))), ((cell_far (p := ⟨gb167, _, none⟩) NB162_167.out _).trans (((cell_far (p := ⟨gb167, _, none⟩) NB162_167.out _).trans (((cell_far (p := ⟨gb167, _, none⟩) NB162_167.out _).trans (((cell_far (p := ⟨gb167, _, none⟩) NB162_167.out _).trans (((cell_far (p := ⟨gb167, _, none⟩) NB162_167.out _).trans (((cell_far (p := ⟨gb167, _, none⟩) NB162_167.out _).trans (hHeld.2.2.2.1)))))))))))), ((cell_far (p := ⟨gb167, _, none⟩) NB162_167.out _).trans (((cell_far (p := ⟨gb167, _, none⟩) NB162_167.out _).trans (((cell_far (p := ⟨gb167, _, none⟩) NB162_167.out _).trans (((cell_far (p := ⟨gb167, _, none⟩) NB162_167.out _).trans (((cell_far (p := ⟨gb167, _, none⟩) NB162_167.out _).trans (((cell_far (p := ⟨gb167, _, none⟩) NB162_167.out _).trans (hHeld.2.2.2.2.1)))))))))))), ((cell_far (p := ⟨gb167, _, none⟩) NB162_167.out _).trans (((cell_far (p := ⟨gb167, _, none⟩) NB162_167.out _).trans (((cell_far (p := ⟨gb167, _, none⟩) NB162_167.out _).trans (((cell_far (p := ⟨gb167, _, none⟩) NB162_167.out _).trans (((cell_far (p := ⟨gb167, _, none⟩) NB162_167.out _).trans (((cell_far (p := ⟨gb167, _, none⟩) NB162_167.out _).trans (hHeld.2.2.2.2.2))))))))))))⟩ (fun hHeld => ?_)
 clear hK K
 refine done_ (done_of HT_.out (by kernel_rfl)) ?_
 try go_wp2
 go_loopg [25] k (fun kq v25 w' => ∃ (x25_1 : Int) (x168005_1 : List Int) (u168005 : Value), v25 = .int .i64 x25_1 ∧ Aside0 (impl_Image_made.l0 cl kq a1 a2 x25_1 a0_0 a0_1 a0_2 a0_3 l0_4 l0_5 a0_0 a0_1 a1 a2 t164 x168005_1 = some (r1, r2, r3, r4, r5, r6)) ∧ Aside0 (kq ≤ k) ∧ Aside0 (Kd.R (Kd.int .i64) 3 w' w.heap.size (fun k_ => some k_ ≠ (u168005 : Value).ownBlock) (.slice Ao13 t164.length co13) t164) ∧ Aside0 (Kd.R (Kd.int .i64) 3 w' w.heap.size (fun k_ => some k_ ≠ ((.slice Ao13 t164.length co13) : Value).ownBlock) u168005 x168005_1) ∧ Aside0 (w'.heap[gb162]? = some (.cells #[.int .i64 a0_0, .int .i64 a0_1, .int .i64 a0_2, .int .i64 a0_3, (.slice A0_4 l0_4.length c0_4), (.slice A0_5 l0_5.length c0_5)] 27 (0, 0))) ∧ Aside0 (w'.heap[gb163]? = some (.cells #[.int .i64 0, .int .i64 0, .int .i64 0, .int .i64 0, (.slice none 0 0), (.slice none 0 0)] 27 (0, 0))) ∧ Aside0 (w'.heap[gb167]? = some (.cells #[.int .i64 a0_0, .int .i64 a0_1, .int .i64 a1, .int .i64 a2, (.slice Ao13 t164.length co13), u168005] 27 (0, 0))) ∧ Aside0 (Below w.heap.size w w'))
 case atStart => exact ⟨(0), (([] : List Int)), (.slice none 0 0), (by first | rfl | (simp; done) | (simp [*]; done)), H', ⟨Nat.le_refl _⟩, ⟨by (with_reducible repeat (first | apply Kd.R_alloc | apply Kd.R_drewN | apply Kd.R_drew)); exact Kd.R_mono (Kd.R_far (Kd.R_far (Kd.R_far (Kd.R_far (Kd.R_far (Kd.R_far (Kd.R_types HO166.out BK167.out (by decide)) (fun _ hk => hk.2) (.int .i64 a0_0)) (fun _ hk => hk.2) (.int .i64 a0_1)) (fun _ hk => hk.2) (.int .i64 a1)) (fun _ hk => hk.2) (.int .i64 a2)) (fun _ hk => hk.2) (.slice Ao13 t164.length co13)) (fun _ hk => hk.2) (.slice none 0 0)) (fun _ hk => (by simp [Value.ownBlock]))⟩, ⟨by first | exact Kd.R_nil _ _ _ _ _ | exact Kd.N_nil _ _ _ _ _ | exact Kd.V_nil _ _ _ _ _ | exact Kd.Q_nil _ _ _ _ _ | exact Kd.S_nil _ _ _ _ _⟩, ⟨by (with_reducible repeat (first | apply blk_drewN | apply blk_drew | apply blk_alloc)); refine blk_far ?_ NB162_167.out _; (with_reducible repeat (first | apply blk_drewN | apply blk_drew | apply blk_alloc)); refine blk_far ?_ NB162_167.out _; (with_reducible repeat (first | apply blk_drewN | apply blk_drew | apply blk_alloc)); refine blk_far ?_ NB162_167.out _; (with_reducible repeat (first | apply blk_drewN | apply blk_drew | apply blk_alloc)); refine blk_far ?_ NB162_167.out _; (with_reducible repeat (first | apply blk_drewN | apply blk_drew | apply blk_alloc)); refine blk_far ?_ NB162_167.out _; (with_reducible repeat (first | apply blk_drewN | apply blk_drew | apply blk_alloc)); refine blk_far ?_ NB162_167.out _; (with_reducible repeat (first | apply blk_drewN | apply blk_drew | apply blk_alloc)); exact BK162.out⟩, ⟨by (with_reducible repeat (first | apply blk_drewN | apply blk_drew | apply blk_alloc)); refine blk_far ?_ NB163_167.out _; (with_reducible repeat (first | apply blk_drewN | apply blk_drew | apply blk_alloc)); refine blk_far ?_ NB163_167.out _; (with_reducible repeat (first | apply blk_drewN | apply blk_drew | apply blk_alloc)); refine blk_far ?_ NB163_167.out _; (with_reducible repeat (first | apply blk_drewN | apply blk_drew | apply blk_alloc)); refine blk_far ?_ NB163_167.out _; (with_reducible repeat (first | apply blk_drewN | apply blk_drew | apply blk_alloc)); refine blk_far ?_ NB163_167.out _; (with_reducible repeat (first | apply blk_drewN | apply blk_drew | apply blk_alloc)); refine blk_far ?_ NB163_167.out _; (with_reducible repeat (first | apply blk_drewN | apply blk_drew | apply blk_alloc)); exact BK163.out⟩, ⟨by (with_reducible repeat (first | apply blk_drewN | apply blk_drew | apply blk_alloc)); refine blk_put (cs := #[.int .i64 a0_0, .int .i64 a0_1, .int .i64 a1, .int .i64 a2, .slice Ao13 t164.length co13, .slice none 0 0]) ?_ 5 _ rfl; (with_reducible repeat (first | apply blk_drewN | apply blk_drew | apply blk_alloc)); refine blk_put (cs := #[.int .i64 a0_0, .int .i64 a0_1, .int .i64 a1, .int .i64 a2, .slice none 0 0, .slice none 0 0]) ?_ 4 _ rfl; (with_reducible repeat (first | apply blk_drewN | apply blk_drew | apply blk_alloc)); refine blk_put (cs := #[.int .i64 a0_0, .int .i64 a0_1, .int .i64 a1, .int .i64 0, .slice none 0 0, .slice none 0 0]) ?_ 3 _ rfl; (with_reducible repeat (first | apply blk_drewN | apply blk_drew | apply blk_alloc)); refine blk_put (cs := #[.int .i64 a0_0, .int .i64 a0_1, .int .i64 0, .int .i64 0, .slice none 0 0, .slice none 0 0]) ?_ 2 _ rfl; (with_reducible repeat (first | apply blk_drewN | apply blk_drew | apply blk_alloc)); refine blk_put (cs := #[.int .i64 a0_0, .int .i64 0, .int .i64 0, .int .i64 0, .slice none 0 0, .slice none 0 0]) ?_ 1 _ rfl; (with_reducible repeat (first | apply blk_drewN | apply blk_drew | apply blk_alloc)); refine blk_put (cs := #[.int .i64 0, .int .i64 0, .int .i64 0, .int .i64 0, .slice none 0 0, .slice none 0 0]) ?_ 0 _ rfl; (with_reducible repeat (first | apply blk_drewN | apply blk_drew | apply blk_alloc)); exact BK167.out⟩, ⟨by repeat (first | (with_reducible first | exact HB.out | apply below_alloc | apply pw_below_drewN | apply below_drew1 | refine below_set ?_ GE162.out | refine below_set ?_ GE163.out | refine below_set ?_ GE167.out) | exact HB.out)⟩⟩
 case round =>
  clear H'
  try clear p2
  try clear c5
  try clear c7
  obtain ⟨x25_1, x168005_1, u168005, rfl, HA, HK1, HO_168004, HO_168005, BK162, BK163, BK167, HB⟩ := hrel
  cases gk with
  | zero => exact absurd HA.out (by simp [impl_Image_made.l0])
  | succ k1 =>
   have H := HA.out
   clear HA
   simp only [impl_Image_made.l0] at H
   by_cases c20 : x25_1 < a2
   ·rw [if_pos c20] at H
    have c20b0 : decide (x25_1 < a2) = true := decide_eq_true c20
    clear c20
    have H' := Aside0.mk H
    clear H
    go_wp2
    go_loopg [29] k1 (fun kq v29 w' => ∃ (x29_2 : Int) (x168005_2 : List Int) (u168005 : Value), v29 = .int .i64 x29_2 ∧ Aside0 (impl_Image_made.l1 cl kq a1 x25_1 a2 x25_1 a1 x29_2 a0_0 a0_1 a0_2 a0_3 l0_4 l0_5 a0_0 a0_1 a1 a2 t164 x168005_2 = some (r1, r2, r3, r4, r5, r6)) ∧ Aside0 (kq ≤ k1) ∧ Aside0 (Kd.R (Kd.int .i64) 3 w' w.heap.size (fun k_ => some k_ ≠ (u168005 : Value).ownBlock) (.slice Ao13 t164.length co13) t164) ∧ Aside0 (Kd.R (Kd.int .i64) 3 w' w.heap.size (fun k_ => some k_ ≠ ((.slice Ao13 t164.length co13) : Value).ownBlock) u168005 x168005_2) ∧ Aside0 (w'.heap[gb162]? = some (.cells #[.int .i64 a0_0, .int .i64 a0_1, .int .i64 a0_2, .int .i64 a0_3, (.slice A0_4 l0_4.length c0_4), (.slice A0_5 l0_5.length c0_5)] 27 (0, 0))) ∧ Aside0 (w'.heap[gb163]? = some (.cells #[.int .i64 0, .int .i64 0, .int .i64 0, .int .i64 0, (.slice none 0 0), (.slice none 0 0)] 27 (0, 0))) ∧ Aside0 (w'.heap[gb167]? = some (.cells #[.int .i64 a0_0, .int .i64 a0_1, .int .i64 a1, .int .i64 a2, (.slice Ao13 t164.length co13), u168005] 27 (0, 0))) ∧ Aside0 (Below w.heap.size w w'))
    case atStart => exact ⟨(0), (x168005_1), (u168005), (by first | rfl | (simp; done) | (simp [*]; done)), H', ⟨Nat.le_refl _⟩, ⟨by (with_reducible repeat (first | apply Kd.R_alloc | apply Kd.R_drewN | apply Kd.R_drew)); exact HO_168004.out⟩, ⟨by (with_reducible repeat (first | apply Kd.R_alloc | apply Kd.R_drewN | apply Kd.R_drew)); exact HO_168005.out⟩, ⟨by (with_reducible repeat (first | apply blk_drewN | apply blk_drew | apply blk_alloc)); exact BK162.out⟩, ⟨by (with_reducible repeat (first | apply blk_drewN | apply blk_drew | apply blk_alloc)); exact BK163.out⟩, ⟨by (with_reducible repeat (first | apply blk_drewN | apply blk_drew | apply blk_alloc)); exact BK167.out⟩, ⟨by repeat (first | (with_reducible first | exact HB.out | apply below_alloc | apply pw_below_drewN | apply below_drew1 | refine below_set ?_ GE162.out | refine below_set ?_ GE163.out | refine below_set ?_ GE167.out) | exact HB.out)⟩⟩
    case round =>
     clear H'
     try clear c2
     try clear p2
     try clear c5
     try clear c7
     try clear c20
     try clear c20b0
     try clear p2
     obtain ⟨x29_2, x168005_2, u168005, rfl, HA, HK2, HO_168004, HO_168005, BK162, BK163, BK167, HB⟩ := hrel
     cases gk with
     | zero => exact absurd HA.out (by simp [impl_Image_made.l1])
     | succ k2 =>
      have H := HA.out
      clear HA
      simp only [impl_Image_made.l1] at H
      by_cases c21 : x29_2 < a1
      ·rw [if_pos c21] at H
       have c21b0 : decide (x29_2 < a1) = true := decide_eq_true c21
       clear c21
       replace H := Option.bind_eq_some_iff.mp H
       obtain ⟨⟨t168, t169⟩, A220, H⟩ := H
       replace H : (if 0 ≤ (wrap64 ((wrap64 (t169 * a0_2)) + t168)) then (if (wrap64 ((wrap64 (t169 * a0_2)) + t168)) < (l0_5.length : Int) then (if x168005_2.length < 17592186044416 then (impl_Image_made.l1 cl k2 a1 x25_1 a2 x25_1 a1 (wrap64 (x29_2 + 1)) a0_0 a0_1 a0_2 a0_3 l0_4 l0_5 a0_0 a0_1 a1 a2 t164 (x168005_2 ++ [rd l0_5 (wrap64 ((wrap64 (t169 * a0_2)) + t168))])) else (none)) else (none)) else (none)) = some (r1, r2, r3, r4, r5, r6) := H
       have A22 := Aside0.mk A220
       clear A220
       obtain ⟨ji23, hji23⟩ : ∃ j_ : Int, (wrap64 ((wrap64 (t169 * a0_2)) + t168)) = j_ := ⟨_, rfl⟩
       replace H : (if 0 ≤ (ji23) then (if (ji23) < (l0_5.length : Int) then (if x168005_2.length < 17592186044416 then (impl_Image_made.l1 cl k2 a1 x25_1 a2 x25_1 a1 (wrap64 (x29_2 + 1)) a0_0 a0_1 a0_2 a0_3 l0_4 l0_5 a0_0 a0_1 a1 a2 t164 (x168005_2 ++ [rd l0_5 (ji23)])) else (none)) else (none)) else (none)) = some (r1, r2, r3, r4, r5, r6) := by first | (rw [hji23] at H; exact H) | (simp only [hji23] at H ⊢; exact H)
       (try rw [hji23] at A22)
       have hji23w : (IntKind.i64.wrap ((wrap64 (t169 * a0_2)) + t168)) = ji23 := (i64_w _).trans hji23
       by_cases c24 : 0 ≤ (ji23)
       ·rw [if_pos c24] at H
        have c24b0 : decide (0 ≤ (ji23)) = true := decide_eq_true c24
        clear c24
        by_cases c25 : (ji23) < (l0_5.length : Int)
        ·rw [if_pos c25] at H
         have c25b0 : decide ((ji23) < (l0_5.length : Int)) = true := decide_eq_true c25
         clear c25
         by_cases c26 : x168005_2.length < 17592186044416
         ·rw [if_pos c26] at H
          have LMc26 := Aside0.mk c26
          clear c26
          obtain ⟨y171, hy171⟩ : ∃ y_ : List Int, y_ = (x168005_2 ++ [rd l0_5 (ji23)]) := ⟨_, rfl⟩
          replace H : (impl_Image_made.l1 cl k2 a1 x25_1 a2 x25_1 a1 (wrap64 (x29_2 + 1)) a0_0 a0_1 a0_2 a0_3 l0_4 l0_5 a0_0 a0_1 a1 a2 t164 y171) = some (r1, r2, r3, r4, r5, r6) := by first | (rw [hy171]; with_reducible exact H) | (have H2_ := (Option.bind_some _ _).symm.trans H; rw [hy171]; with_reducible exact H2_) | (have H2_ := (Option.bind_some _ _).symm.trans H; with_reducible exact H2_) | with_reducible exact H | (rw [hy171]; exact H) | exact H
          have Ny171 := Aside0.mk hy171
          clear hy171
          have H' := Aside0.mk H
          clear H
          try go_wp2_with (first | ((with_reducible refine Th.gate_clo (x := 33) rfl ?_); refine Th.goesC_ (some 36) rfl rfl (x := 33) (f := F_) (fn := fn_) (cap := cap_) HFN_.out HNM_.out HBD_.out #[.int .i64 x29_2, .int .i64 x25_1] rfl rfl (by (try simp only [List.map_toArray, List.map_cons, List.map_nil]); first | done | rfl | (simp only [List.length_drop, List.length_take]; rfl)) ?_; refine (HCL_.out x29_2 x25_1 t168 t169 _ A22.out (by repeat (first | (with_reducible first | exact HB.out | apply below_alloc | apply pw_below_drewN | apply below_drew1) | exact HB.out))).mono ?_; rintro e w' ⟨rfl, ⟨nd, rfl⟩⟩; refine ⟨_, rfl, ?_⟩; (try (rw [drewN_self wr]; generalize hq_ : World.drewN wr _ = wr; have n0_ : Aside0 (Kd.R (Kd.int .i64) 3 wr w.heap.size (fun k_ => some k_ ≠ (u168005 : Value).ownBlock) (.slice Ao13 t164.length co13) t164) := ⟨by rw [← hq_]; exact (by (with_reducible repeat (first | apply Kd.R_alloc | apply Kd.R_drewN | apply Kd.R_drew)); exact HO_168004.out)⟩; have n1_ : Aside0 (Kd.R (Kd.int .i64) 3 wr w.heap.size (fun k_ => some k_ ≠ (.slice Ao13 t164.length co13 : Value).ownBlock) u168005 x168005_2) := ⟨by rw [← hq_]; exact (by (with_reducible repeat (first | apply Kd.R_alloc | apply Kd.R_drewN | apply Kd.R_drew)); exact HO_168005.out)⟩; have n2_ : Aside0 (wr.heap[gb162]? = some (.cells #[.int .i64 a0_0, .int .i64 a0_1, .int .i64 a0_2, .int .i64 a0_3, .slice A0_4 l0_4.length c0_4, .slice A0_5 l0_5.length c0_5] 27 (0, 0))) := ⟨by rw [← hq_]; exact (by (with_reducible repeat (first | apply blk_drewN | apply blk_drew | apply blk_alloc)); exact BK162.out)⟩; have n3_ : Aside0 (wr.heap[gb163]? = some (.cells #[.int .i64 0, .int .i64 0, .int .i64 0, .int .i64 0, .slice none 0 0, .slice none 0 0] 27 (0, 0))) := ⟨by rw [← hq_]; exact (by (with_reducible repeat (first | apply blk_drewN | apply blk_drew | apply blk_alloc)); exact BK163.out)⟩; have n4_ : Aside0 (wr.heap[gb167]? = some (.cells #[.int .i64 a0_0, .int .i64 a0_1, .int .i64 a1, .int .i64 a2, .slice Ao13 t164.length co13, u168005] 27 (0, 0))) := ⟨by rw [← hq_]; exact (by (with_reducible repeat (first | apply blk_drewN | apply blk_drew | apply blk_alloc)); exact BK167.out)⟩; have n5_ : Aside0 (Below w.heap.size w wr) := ⟨by rw [← hq_]; exact (by repeat (first | (with_reducible first | exact HB.out | apply below_alloc | apply pw_below_drewN | apply below_drew1 | refine below_set ?_ GE162.out | refine below_set ?_ GE163.out | refine below_set ?_ GE167.out) | exact HB.out))⟩; clear HO_168004 HO_168005 BK162 BK163 BK167 HB hq_; have HO_168004 := n0_; have HO_168005 := n1_; have BK162 := n2_; have BK163 := n3_; have BK167 := n4_; have HB := n5_; clear n0_ n1_ n2_ n3_ n4_ n5_))))
          have n0_ := Aside0.mk (Kd.R_drew HO_168004.out)
          have n1_ := Aside0.mk (Kd.R_drew HO_168005.out)
          have n2_ := Aside0.mk (blk_drew BK162.out)
          have n3_ := Aside0.mk (blk_drew BK163.out)
          have n4_ := Aside0.mk (blk_drew BK167.out)
          have n5_ := Aside0.mk (below_drew1 HB.out)
          clear HO_168004
          clear HO_168005
          clear BK162
          clear BK163
          clear BK167
          clear HB
          have HO_168004 := n0_
          have HO_168005 := n1_
          have BK162 := n2_
          have BK163 := n3_
          have BK167 := n4_
          have HB := n5_
          clear n0_ n1_ n2_ n3_ n4_ n5_
          have p170 : 0 ≤ ((ji23) : Int) := of_decide_eq_true (by first | (with_reducible assumption) | assumption)
          have q170 : (ji23) < (l0_5.length : Int) := of_decide_eq_true (by first | (with_reducible assumption) | assumption)
          obtain ⟨ad170, e170, hx170_0⟩ := Kd.at_int HR0_5.out (ji23) p170 q170
          have hw170_0 := hx170_0
          cases e170
          replace hx170_0 := (HB.out.cell (World.block_lt_of_cell? w _ hx170_0)).trans hx170_0
          replace p170 := eq_true p170
          replace q170 := eq_true q170
          refine start_ (n := 16) (S := fun w' => w'.cell? ⟨gb167, 0, none⟩ = some (.int .i64 a0_0) ∧ w'.cell? ⟨gb167, 1, none⟩ = some (.int .i64 a0_1) ∧ w'.cell? ⟨gb167, 2, none⟩ = some (.int .i64 a1) ∧ w'.cell? ⟨gb167, 3, none⟩ = some (.int .i64 a2) ∧ w'.cell? ⟨gb167, 4, none⟩ = some (.slice Ao13 t164.length co13) ∧ w'.cell? ⟨gb167, 5, none⟩ = some (u168005) ∧ w'.cell? ⟨gb162, 0, none⟩ = some (.int .i64 a0_0) ∧ w'.cell? ⟨gb162, 1, none⟩ = some (.int .i64 a0_1) ∧ w'.cell? ⟨gb162, 2, none⟩ = some (.int .i64 a0_2) ∧ w'.cell? ⟨gb162, 3, none⟩ = some (.int .i64 a0_3) ∧ w'.cell? ⟨gb162, 4, none⟩ = some (.slice A0_4 l0_4.length c0_4) ∧ w'.cell? ⟨gb162, 5, none⟩ = some (.slice (some ad170) l0_5.length c0_5) ∧ w'.cell? (ad170.add ((ji23)).toNat) = some (.int .i64 (rd l0_5 (ji23)))) (ds := [15]) #[false, false, false, false, false, false, false, false, false, false, false, false, false, false, false, false] (by kernel_rfl) rfl rfl ⟨(blk_cell BK167.out 0).trans rfl, (blk_cell BK167.out 1).trans rfl, (blk_cell BK167.out 2).trans rfl, (blk_cell BK167.out 3).trans rfl, (blk_cell BK167.out 4).trans rfl, (blk_cell BK167.out 5).trans rfl, (blk_cell BK162.out 0).trans rfl, (blk_cell BK162.out 1).trans rfl, (blk_cell BK162.out 2).trans rfl, (blk_cell BK162.out 3).trans rfl, (blk_cell BK162.out 4).trans rfl, (blk_cell BK162.out 5).trans rfl, ((HB.out.cell (World.block_lt_of_cell? w _ hw170_0)).trans hw170_0)⟩ (fun hHeld => ?_); refine with_tabW impl_Image_made.tab9 impl_Image_made.bits9 (fun HT_ HW_ => ?_)
          generalize wr.drew = w27 at HO_168004 HO_168005 BK162 BK163 BK167 HB hx170_0 hHeld ⊢
          refine pure_ (i := 0) (N := some 39) (v := ?_) (a' := ?_) #[true, false, false, false, false, false, false, false, false, false, false, false, false, false, false, false] rfl rfl (any_of HT_.out (by kernel_rfl)) (fun _ _ _ h => h) (Or.inl ⟨by rfl, ?_⟩) ?_ ?_
          rotate_left
          ·intro w'
           go_simp
           with_reducible rfl
          rotate_left
          ·simp only [Act.put, sA_, s0_, s1_, i64_w, i32_w]
           rfl
          refine pure_ (i := 2) (N := some 41) (v := ?_) (a' := ?_) #[true, false, true, false, false, false, false, false, false, false, false, false, false, false, false, false] rfl rfl (any_of HT_.out (by kernel_rfl)) (fun _ _ _ h => h) (Or.inl ⟨by rfl, ?_⟩) ?_ ?_
          rotate_left
          ·intro w'
           go_simp
           with_reducible rfl
          rotate_left
          ·simp only [Act.put, sA_, s0_, s1_, i64_w, i32_w]
           rfl
          refine pure_ (i := 4) (N := some 43) (v := ?_) (a' := ?_) #[true, false, true, false, true, false, false, false, false, false, false, false, false, false, false, false] rfl rfl (any_of HT_.out (by kernel_rfl)) (fun _ _ _ h => h) (Or.inl ⟨by rfl, ?_⟩) ?_ ?_
          rotate_left
          ·intro w'
           go_simp
           with_reducible rfl
          rotate_left
          ·simp only [Act.put, sA_, s0_, s1_, i64_w, i32_w]
           rfl
          refine pure_ (i := 5) (N := some 44) (v := ?_) (a' := ?_) #[true, false, true, false, true, true, false, false, false, false, false, false, false, false, false, false] rfl rfl (any_of HT_.out (by kernel_rfl)) (fun _ _ _ h => h) (Or.inl ⟨by rfl, ?_⟩) ?_ ?_
          rotate_left
          ·intro w'
           go_simp
           with_reducible rfl
          rotate_left
          ·simp only [Act.put, sA_, s0_, s1_, i64_w, i32_w]
           rfl
          refine pure_ (i := 8) (N := some 47) (v := ?_) (a' := ?_) #[true, false, true, false, true, true, false, false, true, false, false, false, false, false, false, false] rfl rfl (any_of HT_.out (by kernel_rfl)) (fun _ _ _ h => h) (Or.inl ⟨by rfl, ?_⟩) ?_ ?_
          rotate_left
          ·intro w'
           go_simp
           with_reducible rfl
          rotate_left
          ·simp only [Act.put, sA_, s0_, s1_, i64_w, i32_w]
           rfl
          refine take_ (i := 1) (N := some 40) (v := ?_) (a' := ?_) #[true, true, true, false, true, true, false, false, true, false, false, false, false, false, false, false] rfl rfl (take_ofW HT_.out HW_.out (by kernel_rfl)) (fun _ _ _ h => h) (Or.inl ⟨by rfl, ?_⟩) hHeld ?_ ?_
          rotate_left
          ·rintro w' ⟨s0, s1, s2, s3, s4, s5, s6, s7, s8, s9, s10, s11, s12⟩
           go_simp
           with_reducible rfl
          rotate_left
          ·simp only [Act.put, sA_, s0_, s1_, i64_w, i32_w]
           rfl
          refine take_ (i := 3) (N := some 42) (v := ?_) (a' := ?_) #[true, true, true, true, true, true, false, false, true, false, false, false, false, false, false, false] rfl rfl (take_ofW HT_.out HW_.out (by kernel_rfl)) (fun _ _ _ h => h) (Or.inl ⟨by rfl, ?_⟩) hHeld ?_ ?_
          rotate_left
          ·rintro w' ⟨s0, s1, s2, s3, s4, s5, s6, s7, s8, s9, s10, s11, s12⟩
           go_simp
           with_reducible rfl
          rotate_left
          ·simp only [Act.put, sA_, s0_, s1_, i64_w, i32_w]
           rfl
          refine take_ (i := 6) (N := some 45) (v := ?_) (a' := ?_) #[true, true, true, true, true, true, true, false, true, false, false, false, false, false, false, false] rfl rfl (take_ofW HT_.out HW_.out (by kernel_rfl)) (fun _ _ _ h => h) (Or.inl ⟨by rfl, ?_⟩) hHeld ?_ ?_
          rotate_left
          ·rintro w' ⟨s0, s1, s2, s3, s4, s5, s6, s7, s8, s9, s10, s11, s12⟩
           go_simp
           with_reducible rfl
          rotate_left
          ·simp only [Act.put, sA_, s0_, s1_, i64_w, i32_w]
           rfl
          refine pure_ (i := 7) (N := some 46) (v := ?_) (a' := ?_) #[true, true, true, true, true, true, true, true, true, false, false, false, false, false, false, false] rfl rfl (any_of HT_.out (by kernel_rfl)) (fun _ _ _ h => h) (Or.inl ⟨by rfl, ?_⟩) ?_ ?_
          rotate_left
          ·intro w'
           go_simp
           with_reducible rfl
          rotate_left
          ·simp only [Act.put, sA_, s0_, s1_, i64_w, i32_w]
           rfl
          refine pure_ (i := 9) (N := some 48) (v := ?_) (a' := ?_) #[true, true, true, true, true, true, true, true, true, true, false, false, false, false, false, false] rfl rfl (any_of HT_.out (by kernel_rfl)) (fun _ _ _ h => h) (Or.inl ⟨by rfl, ?_⟩) ?_ ?_
          rotate_left
          ·intro w'
           go_simp
           with_reducible rfl
          rotate_left
          ·simp only [Act.put, sA_, s0_, s1_, i64_w, i32_w]
           rfl
          refine pure_ (i := 10) (N := some 49) (v := ?_) (a' := ?_) #[true, true, true, true, true, true, true, true, true, true, true, false, false, false, false, false] rfl rfl (any_of HT_.out (by kernel_rfl)) (fun _ _ _ h => h) (Or.inl ⟨by rfl, ?_⟩) ?_ ?_
          rotate_left
          ·intro w'
           go_simp
           with_reducible rfl
          rotate_left
          ·simp only [Act.put, sA_, s0_, s1_, i64_w, i32_w]
           rfl
          refine take_ (i := 11) (N := some 50) (v := ?_) (a' := ?_) #[true, true, true, true, true, true, true, true, true, true, true, true, false, false, false, false] rfl rfl (take_ofW HT_.out HW_.out (by kernel_rfl)) (fun _ _ _ h => h) (Or.inl ⟨by rfl, ?_⟩) hHeld ?_ ?_
          rotate_left
          ·rintro w' ⟨s0, s1, s2, s3, s4, s5, s6, s7, s8, s9, s10, s11, s12⟩
           go_simp
           with_reducible rfl
          rotate_left
          ·simp only [Act.put, sA_, s0_, s1_, i64_w, i32_w]
           rfl
          refine one_ (i := 12) (N := some 51) #[true, true, true, true, true, true, true, true, true, true, true, true, true, false, false, false] rfl rfl (one_of HT_.out (by kernel_rfl)) (by decide) (fun K hK => ?_)
          refine value_ (w1 := ?_) (v := ?_) (by rfl) rfl ?_ ?_
          rotate_left 2
          ·go_simp
           constructor
           ·rfl
           ·rfl
          refine hK.out _ _ ⟨(blk_cell (blk_alloc BK167.out _) 0).trans rfl, (blk_cell (blk_alloc BK167.out _) 1).trans rfl, (blk_cell (blk_alloc BK167.out _) 2).trans rfl, (blk_cell (blk_alloc BK167.out _) 3).trans rfl, (blk_cell (blk_alloc BK167.out _) 4).trans rfl, (blk_cell (blk_alloc BK167.out _) 5).trans rfl, (blk_cell (blk_alloc BK162.out _) 0).trans rfl, (blk_cell (blk_alloc BK162.out _) 1).trans rfl, (blk_cell (blk_alloc BK162.out _) 2).trans rfl, (blk_cell (blk_alloc BK162.out _) 3).trans rfl, (blk_cell (blk_alloc BK162.out _) 4).trans rfl, (blk_cell (blk_alloc BK162.out _) 5).trans rfl, (World.cell?_alloc_lt _ _ _ (World.block_lt_of_cell? _ _ (((HB.out.cell (World.block_lt_of_cell? w _ hw170_0)).trans hw170_0)))).trans (((HB.out.cell (World.block_lt_of_cell? w _ hw170_0)).trans hw170_0))⟩ (fun hHeld => ?_)
          clear hK K
          refine norm_ (a' := ?_) ?_ ?_
          rotate_left
          ·show Act.put _ (some 51) _ = _
           simp only [Act.put, sA_, s0_, s1_, i64_w, i32_w]
           rfl
          refine one_ (i := 13) (N := some 52) #[true, true, true, true, true, true, true, true, true, true, true, true, true, true, false, false] rfl rfl (one_of HT_.out (by kernel_rfl)) (by decide) (fun K hK => ?_)
          refine Kd.R_append_step (Kd.int .i64) (w0 := w) w.heap.size (by rfl) (.tmp 40) (.tmp 51) 22 3 (.int .i64 0) 8 rfl Try.underlying22 info3 rfl (by decide) (by omega) u168005 x168005_2 (rd l0_5 (ji23)) [.int .i64 (rd l0_5 (ji23))] (fun k_ => some k_ ≠ (.slice Ao13 t164.length co13 : Value).ownBlock) (fun _ => False) rfl rfl ?aP (fun _ hk => hk.elim) ?aF ?aO ?aB ?aS ?aL ?_
          (case aP => exact rfl)
          (case aB => exact (by repeat (first | (with_reducible first | exact HB.out | apply below_alloc | apply pw_below_drewN | apply below_drew1 | refine below_set ?_ GE162.out | refine below_set ?_ GE163.out | refine below_set ?_ GE167.out) | exact HB.out)))
          (case aF => exact (fun k_ hk => Kd.fresh' (Kd.R_lt (by (with_reducible repeat (first | apply Kd.R_alloc | apply Kd.R_drewN | apply Kd.R_drew)); exact HO_168004.out)) k_ hk))
          (case aO => exact (by (with_reducible repeat (first | apply Kd.R_alloc | apply Kd.R_drewN | apply Kd.R_drew)); exact HO_168005.out))
          (case aS => exact (below_size (by repeat (first | (with_reducible first | exact HB.out | apply below_alloc | apply pw_below_drewN | apply below_drew1 | refine below_set ?_ GE162.out | refine below_set ?_ GE163.out | refine below_set ?_ GE167.out) | exact HB.out))))
          (case aL => have := LMc26.out; omega)
          intro v172 w28 ho hb hg hat
          rw [← Ny171.out] at ho
          have n0_ := Aside0.mk (Kd.R_after (ok := (fun _ => True)) (by (with_reducible repeat (first | apply Kd.R_alloc | apply Kd.R_drewN | apply Kd.R_drew)); exact Kd.R_mono HO_168004.out (fun _ hk => ⟨trivial, hk⟩)) hg hat)
          have n1_ := Aside0.mk (blk_grown (g := gb162) (o := .cells #[.int .i64 a0_0, .int .i64 a0_1, .int .i64 a0_2, .int .i64 a0_3, .slice A0_4 l0_4.length c0_4, .slice (some ad170) l0_5.length c0_5] 27 (0, 0)) (by (with_reducible repeat (first | apply blk_drewN | apply blk_drew | apply blk_alloc)); exact BK162.out) hg (Kd.R_ne HO_168005.out BK162.out (by decide)))
          have n2_ := Aside0.mk (blk_grown (g := gb163) (o := .cells #[.int .i64 0, .int .i64 0, .int .i64 0, .int .i64 0, .slice none 0 0, .slice none 0 0] 27 (0, 0)) (by (with_reducible repeat (first | apply blk_drewN | apply blk_drew | apply blk_alloc)); exact BK163.out) hg (Kd.R_ne HO_168005.out BK163.out (by decide)))
          have n3_ := Aside0.mk (blk_grown (g := gb167) (o := .cells #[.int .i64 a0_0, .int .i64 a0_1, .int .i64 a1, .int .i64 a2, .slice Ao13 t164.length co13, u168005] 27 (0, 0)) (by (with_reducible repeat (first | apply blk_drewN | apply blk_drew | apply blk_alloc)); exact BK167.out) hg (Kd.R_ne HO_168005.out BK167.out (by decide)))
          have n4_ := Aside0.mk (hb)
          have n5_ := Aside0.mk (ho)
          clear HO_168004
          clear BK162
          clear BK163
          clear BK167
          clear HB
          clear HO_168005
          have HO_168004 := n0_
          have BK162 := n1_
          have BK163 := n2_
          have BK167 := n3_
          have HB := n4_
          have HO173 := n5_
          clear n0_ n1_ n2_ n3_ n4_ n5_
          clear ho hb hg hat
          obtain ⟨Ao29, co29, eo29⟩ := Kd.R_slice HO173.out
          (first | subst eo29 | (injection eo29 with f1_ f2_ f3_; have f4_ := f1_.symm; have f5_ := f3_.symm; clear f1_ f2_ f3_; subst f4_; subst f5_))
          refine hK.out _ _ ⟨(blk_cell BK167.out 0).trans rfl, (blk_cell BK167.out 1).trans rfl, (blk_cell BK167.out 2).trans rfl, (blk_cell BK167.out 3).trans rfl, (blk_cell BK167.out 4).trans rfl, (blk_cell BK167.out 5).trans rfl, (blk_cell BK162.out 0).trans rfl, (blk_cell BK162.out 1).trans rfl, (blk_cell BK162.out 2).trans rfl, (blk_cell BK162.out 3).trans rfl, (blk_cell BK162.out 4).trans rfl, (blk_cell BK162.out 5).trans rfl, ((HB.out.cell (World.block_lt_of_cell? w _ hw170_0)).trans hw170_0)⟩ (fun hHeld => ?_)
          clear hK K
          refine norm_ (a' := ?_) ?_ ?_
          rotate_left
          ·show Act.put _ (some 52) _ = _
           simp only [Act.put, sA_, s0_, s1_, i64_w, i32_w]
           rfl
          refine pure_ (i := 14) (N := some 53) (v := ?_) (a' := ?_) #[true, true, true, true, true, true, true, true, true, true, true, true, true, true, true, false] rfl rfl (any_of HT_.out (by kernel_rfl)) (fun _ _ _ h => h) (Or.inl ⟨by rfl, ?_⟩) ?_ ?_
          rotate_left
          ·intro w'
           go_simp
           with_reducible rfl
          rotate_left
          ·simp only [Act.put, sA_, s0_, s1_, i64_w, i32_w]
           rfl
          refine last_ (i := 15) (N := none) #[true, true, true, true, true, true, true, true, true, true, true, true, true, true, true, true] rfl rfl (one_of HT_.out (by kernel_rfl)) (by decide) (fun K hK => ?_)
          have hs30 : w28.cell? ⟨gb167, 5, none⟩ = some (u168005) := (blk_cell BK167.out 5).trans rfl
          have hfs30 := blk_frozen BK167.out 5
          have hns30_0 := NB162_167.out
          have hns30_1 := NB163_167.out
          have hms30_0 := NB167_162.out
          have hms30_1 := NB167_163.out
          refine skip_ (w1 := ?_) (by rfl) rfl ?_ ?_
          rotate_left
          ·go_simp
           rfl
          refine hK.out _ _ ?_
          clear hK K
          refine done_ (done_of HT_.out (by kernel_rfl)) ?_
          try go_wp2
          go_roundg k2
          case measure => have := HK1.out; have := HK2.out; omega
          case rel => exact ⟨(wrap64 (x29_2 + 1)), (y171), (.slice Ao29 y171.length co29), (by first | rfl | (simp; done) | (simp [*]; done)), H', ⟨by have := HK1.out; have := HK2.out; omega⟩, ⟨by (with_reducible repeat (first | apply Kd.R_alloc | apply Kd.R_drewN | apply Kd.R_drew)); exact Kd.R_mono (Kd.R_far (Kd.R_types HO_168004.out BK167.out (by decide)) (fun _ hk => hk.2) (.slice Ao29 y171.length co29)) (fun _ hk => hk.1.2)⟩, ⟨by (with_reducible repeat (first | apply Kd.R_alloc | apply Kd.R_drewN | apply Kd.R_drew)); exact Kd.R_mono (Kd.R_far (Kd.R_types HO173.out BK167.out (by decide)) (fun _ hk => hk.2) (.slice Ao29 y171.length co29)) (fun _ hk => hk.1)⟩, ⟨by (with_reducible repeat (first | apply blk_drewN | apply blk_drew | apply blk_alloc)); refine blk_far ?_ NB162_167.out _; (with_reducible repeat (first | apply blk_drewN | apply blk_drew | apply blk_alloc)); exact BK162.out⟩, ⟨by (with_reducible repeat (first | apply blk_drewN | apply blk_drew | apply blk_alloc)); refine blk_far ?_ NB163_167.out _; (with_reducible repeat (first | apply blk_drewN | apply blk_drew | apply blk_alloc)); exact BK163.out⟩, ⟨by (with_reducible repeat (first | apply blk_drewN | apply blk_drew | apply blk_alloc)); refine blk_put (cs := #[.int .i64 a0_0, .int .i64 a0_1, .int .i64 a1, .int .i64 a2, .slice Ao13 t164.length co13, u168005]) ?_ 5 _ rfl; (with_reducible repeat (first | apply blk_drewN | apply blk_drew | apply blk_alloc)); exact BK167.out⟩, ⟨by repeat (first | (with_reducible first | exact HB.out | apply below_alloc | apply pw_below_drewN | apply below_drew1 | refine below_set ?_ GE162.out | refine below_set ?_ GE163.out | refine below_set ?_ GE167.out) | exact HB.out)⟩⟩
         ·rw [if_neg c26] at H
          exact absurd H (by simp)
        ·rw [if_neg c25] at H
         exact absurd H (by simp)
       ·rw [if_neg c24] at H
        exact absurd H (by simp)
      ·rw [if_neg c21] at H
       have c21b0 : decide (x29_2 < a1) = false := decide_eq_false c21
       clear c21
       have H' := Aside0.mk H
       clear H
       go_wp2
       go_roundg k2
       case measure => have := HK1.out; have := HK2.out; omega
       case rel => exact ⟨(wrap64 (x25_1 + 1)), (x168005_2), (u168005), (by first | rfl | (simp; done) | (simp [*]; done)), H', ⟨by have := HK1.out; have := HK2.out; omega⟩, ⟨by (with_reducible repeat (first | apply Kd.R_alloc | apply Kd.R_drewN | apply Kd.R_drew)); exact HO_168004.out⟩, ⟨by (with_reducible repeat (first | apply Kd.R_alloc | apply Kd.R_drewN | apply Kd.R_drew)); exact HO_168005.out⟩, ⟨by (with_reducible repeat (first | apply blk_drewN | apply blk_drew | apply blk_alloc)); exact BK162.out⟩, ⟨by (with_reducible repeat (first | apply blk_drewN | apply blk_drew | apply blk_alloc)); exact BK163.out⟩, ⟨by (with_reducible repeat (first | apply blk_drewN | apply blk_drew | apply blk_alloc)); exact BK167.out⟩, ⟨by repeat (first | (with_reducible first | exact HB.out | apply below_alloc | apply pw_below_drewN | apply below_drew1 | refine below_set ?_ GE162.out | refine below_set ?_ GE163.out | refine below_set ?_ GE167.out) | exact HB.out)⟩⟩
   ·rw [if_neg c20] at H
    have c20b0 : decide (x25_1 < a2) = false := decide_eq_false c20
    clear c20
    simp only [Option.some.injEq, Prod.mk.injEq] at H
    obtain ⟨rfl, rfl, rfl, rfl, rfl, rfl⟩ := H
    have hnb31 := NB167_162.out
    have hnc31 := NB162_167.out
    have hnb32 := NB167_163.out
    have hnc32 := NB163_167.out
    obtain ⟨hcz33_0, hcz33_1, hcz33_2, hcz33_3, hcz33_4, hcz33_5⟩ := bc6 BK167.out
    obtain ⟨hfz33_0, hfz33_1, hfz33_2, hfz33_3, hfz33_4, hfz33_5⟩ := bf6 BK167.out
    have hnb34 := NB163_162.out
    have hnc34 := NB162_163.out
    obtain ⟨hcz35_0, hcz35_1, hcz35_2, hcz35_3, hcz35_4, hcz35_5⟩ := bc6 BK163.out
    obtain ⟨hfz35_0, hfz35_1, hfz35_2, hfz35_3, hfz35_4, hfz35_5⟩ := bf6 BK163.out
    obtain ⟨Ao36, co36, eo36⟩ := Kd.R_slice HO_168005.out
    subst eo36
    go_wp2
    refine bodyPost_ret (results_cell_row rfl _ _ gb163 27 #[.int .i64 a0_0, .int .i64 a0_1, .int .i64 a1, .int .i64 a2, .slice Ao13 t164.length co13, .slice Ao36 x168005_1.length co36] (0, 0) _ rfl (by (with_reducible repeat (first | apply blk_drewN | apply blk_drew | apply blk_alloc)); refine blk_put (cs := #[.int .i64 a0_0, .int .i64 a0_1, .int .i64 a1, .int .i64 a2, .slice Ao13 t164.length co13, .slice none 0 0]) ?_ 5 _ rfl; (with_reducible repeat (first | apply blk_drewN | apply blk_drew | apply blk_alloc)); refine blk_put (cs := #[.int .i64 a0_0, .int .i64 a0_1, .int .i64 a1, .int .i64 a2, .slice none 0 0, .slice none 0 0]) ?_ 4 _ rfl; (with_reducible repeat (first | apply blk_drewN | apply blk_drew | apply blk_alloc)); refine blk_put (cs := #[.int .i64 a0_0, .int .i64 a0_1, .int .i64 a1, .int .i64 0, .slice none 0 0, .slice none 0 0]) ?_ 3 _ rfl; (with_reducible repeat (first | apply blk_drewN | apply blk_drew | apply blk_alloc)); refine blk_put (cs := #[.int .i64 a0_0, .int .i64 a0_1, .int .i64 0, .int .i64 0, .slice none 0 0, .slice none 0 0]) ?_ 2 _ rfl; (with_reducible repeat (first | apply blk_drewN | apply blk_drew | apply blk_alloc)); refine blk_put (cs := #[.int .i64 a0_0, .int .i64 0, .int .i64 0, .int .i64 0, .slice none 0 0, .slice none 0 0]) ?_ 1 _ rfl; (with_reducible repeat (first | apply blk_drewN | apply blk_drew | apply blk_alloc)); refine blk_put (cs := #[.int .i64 0, .int .i64 0, .int .i64 0, .int .i64 0, .slice none 0 0, .slice none 0 0]) ?_ 0 _ rfl; (with_reducible repeat (first | apply blk_drewN | apply blk_drew | apply blk_alloc)); exact BK163.out) Try.underlying27 rfl (by kernel_rfl)) rfl ?_
    exact ⟨_, _, by first | rfl | (simp [errW_none, errW_some] <;> rfl) | (simp [*, errW_none, errW_some] <;> rfl), by (with_reducible repeat (first | apply Kd.R_alloc | apply Kd.R_drewN | apply Kd.R_drew)); exact Kd.R_mono (Kd.R_far (Kd.R_far (Kd.R_far (Kd.R_far (Kd.R_far (Kd.R_far (Kd.R_types HO_168004.out BK163.out (by decide)) (fun _ hk => hk.2) (.int .i64 a0_0)) (fun _ hk => hk.2) (.int .i64 a0_1)) (fun _ hk => hk.2) (.int .i64 a1)) (fun _ hk => hk.2) (.int .i64 a2)) (fun _ hk => hk.2) (.slice Ao13 t164.length co13)) (fun _ hk => hk.2) (.slice Ao36 x168005_1.length co36)) (fun _ hk => hk.1), by (with_reducible repeat (first | apply Kd.R_alloc | apply Kd.R_drewN | apply Kd.R_drew)); exact Kd.R_mono (Kd.R_far (Kd.R_far (Kd.R_far (Kd.R_far (Kd.R_far (Kd.R_far (Kd.R_types HO_168005.out BK163.out (by decide)) (fun _ hk => hk.2) (.int .i64 a0_0)) (fun _ hk => hk.2) (.int .i64 a0_1)) (fun _ hk => hk.2) (.int .i64 a1)) (fun _ hk => hk.2) (.int .i64 a2)) (fun _ hk => hk.2) (.slice Ao13 t164.length co13)) (fun _ hk => hk.2) (.slice Ao36 x168005_1.length co36)) (fun _ hk => hk.1), by repeat (first | (with_reducible first | exact HB.out | apply below_alloc | apply pw_below_drewN | apply below_drew1 | refine below_set ?_ GE162.out | refine below_set ?_ GE163.out | refine below_set ?_ GE167.out) | exact HB.out)⟩

/-! ### impl_ImageFlip: function 27 -/
def impl_ImageFlip.f (k : Nat) (a0_0 : Int) (a0_1 : Int) (a0_2 : Int) (a0_3 : Int) (l0_4 : List Int) (l0_5 : List Int) : Option (Int × Int × Int × Int × List Int × List Int) := (impl_ImageOk.f k a0_0 a0_1 a0_2 a0_3 l0_4 l0_5).bind fun t176 => (if t176 = true then ((impl_Image_made.f (fun x y => some (x, wrap64 (wrap64 (a0_3 - 1) - y))) k a0_0 a0_1 a0_2 a0_3 l0_4 l0_5 a0_2 a0_3).bind fun bt177 => (some (bt177.1, bt177.2.1, bt177.2.2.1, bt177.2.2.2.1, bt177.2.2.2.2.1, bt177.2.2.2.2.2))) else (some (0, 0, 0, 0, ([] : List Int), ([] : List Int))))
theorem impl_ImageFlip.mono : ∀ a0 a1 a2 a3 a4 a5 k, LeO (impl_ImageFlip.f k a0 a1 a2 a3 a4 a5) (impl_ImageFlip.f (k + 1) a0 a1 a2 a3 a4 a5) := by
 intro a0 a1 a2 a3 a4 a5 k
 unfold impl_ImageFlip.f
 repeat' first
   | (with_reducible exact impl_ImageOk.mono _ _ _ _ _ _ _)
   | (with_reducible exact impl_Image_made.mono _ _ _ _ _ _ _ _ _ _)
   | (with_reducible exact LeO.refl _)
   | (with_reducible exact LeO.none _)
   | (with_reducible refine LeO.ite ?_ ?_)
   | (with_reducible refine LeO.bind ?_ (fun _ => ?_))
set_option maxHeartbeats 8000000 in
set_option maxRecDepth 100000 in
theorem impl_ImageFlip.clo (h : Int) (g : Nat) (x y : Int) (w : World) (hc : w.cell? ⟨g, 3, none⟩ = some (.int .i64 h)) :
  Calls Try.prog 58 #[.int .i64 x, .int .i64 y, .pointer (some ⟨g, 0, none⟩)] w fun e w' => e = .returned (.tuple #[.int .i64 x, .int .i64 (wrap64 (wrap64 (h - 1) - y))]) ∧ Drawn0 w w' := by
 have hu_ := Try.underlying27
 go_enter Try.func58, Try.ntmps58
 go_wp2
 repeat (go_quiet (fail); try go_wp2)
 go_ret2
 exact ⟨by first | rfl | (simp; done), by repeat (first | exact Drawn0.refl _ | apply Drawn0.step)⟩
set_option maxHeartbeats 8000000 in
set_option maxRecDepth 100000 in
theorem impl_ImageFlip.calls (k : Nat) (a0_0 : Int) (a0_1 : Int) (a0_2 : Int) (a0_3 : Int) (A0_4 : Option Addr) (c0_4 : Nat) (l0_4 : List Int) (A0_5 : Option Addr) (c0_5 : Nat) (l0_5 : List Int) (r1 : Int) (r2 : Int) (r3 : Int) (r4 : Int) (r5 : List Int) (r6 : List Int) (w : World) (hr0_4 : Kd.C (Kd.int .i64) w A0_4 l0_4.length l0_4) (hc0_4 : l0_4.length ≤ c0_4) (hr0_5 : Kd.C (Kd.int .i64) w A0_5 l0_5.length l0_5) (hc0_5 : l0_5.length ≤ c0_5) (h : impl_ImageFlip.f k a0_0 a0_1 a0_2 a0_3 l0_4 l0_5 = some (r1, r2, r3, r4, r5, r6)) :
  Calls Try.prog 27 #[.agg #[.int .i64 a0_0, .int .i64 a0_1, .int .i64 a0_2, .int .i64 a0_3, .slice A0_4 l0_4.length c0_4, .slice A0_5 l0_5.length c0_5]] w fun e w' => ∃ v4_ v5_ : Value, e = .returned (.agg #[.int .i64 r1, .int .i64 r2, .int .i64 r3, .int .i64 r4, v4_, v5_]) ∧ Kd.R (Kd.int .i64) 3 w' w.heap.size (fun k_ => some k_ ≠ (v5_ : Value).ownBlock) v4_ r5 ∧ Kd.R (Kd.int .i64) 3 w' w.heap.size (fun k_ => some k_ ≠ (v4_ : Value).ownBlock) v5_ r6 ∧ Below w.heap.size w w' := by
 have hmf_ : ∀ (fn : Fn) (first cap : Array Value) (w : World), (Instr.makeFunc fn first cap).run Try.prog w = .ok (.func fn first cap) w := fun _ _ _ _ => rfl
 have hu27 := Try.underlying27
 have HR0_4 := Aside0.mk hr0_4
 have HC0_4 := Aside0.mk hc0_4
 clear hr0_4 hc0_4
 have HR0_5 := Aside0.mk hr0_5
 have HC0_5 := Aside0.mk hc0_5
 clear hr0_5 hc0_5
 have HB := Aside0.mk (Below.refl w.heap.size w)
 have H : ((impl_ImageOk.f k a0_0 a0_1 a0_2 a0_3 l0_4 l0_5).bind fun t176 => (if t176 = true then ((impl_Image_made.f (fun x y => some (x, wrap64 (wrap64 (a0_3 - 1) - y))) k a0_0 a0_1 a0_2 a0_3 l0_4 l0_5 a0_2 a0_3).bind fun bt177 => (some (bt177.1, bt177.2.1, bt177.2.2.1, bt177.2.2.2.1, bt177.2.2.2.2.1, bt177.2.2.2.2.2))) else (some (0, 0, 0, 0, ([] : List Int), ([] : List Int))))) = some (r1, r2, r3, r4, r5, r6) := h
 clear h
 replace H := Option.bind_eq_some_iff.mp H
 obtain ⟨t176, A20, H⟩ := H
 replace H : (if t176 = true then ((impl_Image_made.f (fun x y => some (x, wrap64 (wrap64 (a0_3 - 1) - y))) k a0_0 a0_1 a0_2 a0_3 l0_4 l0_5 a0_2 a0_3).bind fun bt177 => (some (bt177.1, bt177.2.1, bt177.2.2.1, bt177.2.2.2.1, bt177.2.2.2.2.1, bt177.2.2.2.2.2))) else (some (0, 0, 0, 0, ([] : List Int), ([] : List Int)))) = some (r1, r2, r3, r4, r5, r6) := H
 have A2 := Aside0.mk A20
 clear A20
 by_cases c3 : t176 = true
 ·subst c3
  have H1 : ((impl_Image_made.f (fun x y => some (x, wrap64 (wrap64 (a0_3 - 1) - y))) k a0_0 a0_1 a0_2 a0_3 l0_4 l0_5 a0_2 a0_3).bind fun bt177 => (some (bt177.1, bt177.2.1, bt177.2.2.1, bt177.2.2.2.1, bt177.2.2.2.2.1, bt177.2.2.2.2.2))) = some (r1, r2, r3, r4, r5, r6) := by first | (rw [if_pos rfl] at H; exact H) | rfl
  clear H
  have H := H1
  clear H1
  replace H := Option.bind_eq_some_iff.mp H
  obtain ⟨⟨t177, t178, t179, t180, t181, t184⟩, A40, H⟩ := H
  replace H : (some (t177, t178, t179, t180, t181, t184)) = some (r1, r2, r3, r4, r5, r6) := H
  have A4 := Aside0.mk A40
  clear A40
  simp only [Option.some.injEq, Prod.mk.injEq] at H
  obtain ⟨rfl, rfl, rfl, rfl, rfl, rfl⟩ := H
  go_enter Try.func27, Try.ntmps27
  go_wp2_with (first | ((with_reducible refine gate_dst (N := 1) rfl ?_); refine box_event ?hg (N := 1) ?hd (cs := #[.int .i64 a0_0, .int .i64 a0_1, .int .i64 a0_2, .int .i64 a0_3, .slice A0_4 l0_4.length c0_4, .slice A0_5 l0_5.length c0_5]) (t := 27) ?hr ?_; (case hd => rfl); (case hg => rfl); (case hr => first | (go_simp; done) | (go_simp; rfl)); intro gb174 hg w5 hbox hb; have n0_ := Aside0.mk (below_step (by repeat (first | (with_reducible first | exact HB.out | apply below_alloc | apply pw_below_drewN | apply below_drew1) | exact HB.out)) hb); have n1_ := Aside0.mk (hbox); have n2_ := Aside0.mk ((by rw [hg]; exact (below_size (by repeat (first | (with_reducible first | exact HB.out | apply below_alloc | apply pw_below_drewN | apply below_drew1) | exact HB.out))) : w.heap.size ≤ gb174)); have n3_ := Aside0.mk ((by rw [hg]; exact (below_size (by repeat (first | (with_reducible first | exact HB.out | apply below_alloc | apply pw_below_drewN | apply below_drew1) | exact HB.out))) : w.heap.size ≤ gb174)); clear HB; have HB := n0_; have BK174 := n1_; have GW174 := n2_; have GE174 := n3_; clear n0_ n1_ n2_ n3_; clear hb hbox hg) | ((with_reducible refine gate_dst (N := 2) rfl ?_); refine box_event ?hg (N := 2) ?hd (cs := #[.int .i64 0, .int .i64 0, .int .i64 0, .int .i64 0, .slice none 0 0, .slice none 0 0]) (t := 27) ?hr ?_; (case hd => rfl); (case hg => rfl); (case hr => first | (go_simp; done) | (go_simp; rfl)); intro gb175 hg w6 hbox hb; have n0_ := Aside0.mk (blk_below (g := gb174) (by (with_reducible repeat (first | apply blk_drewN | apply blk_drew | apply blk_alloc)); exact BK174.out) hb); have n1_ := Aside0.mk (below_step (by repeat (first | (with_reducible first | exact HB.out | apply below_alloc | apply pw_below_drewN | apply below_drew1 | refine below_set ?_ GE174.out) | exact HB.out)) hb); have n2_ := Aside0.mk (hbox); have n3_ := Aside0.mk ((by rw [hg]; exact (below_size (by repeat (first | (with_reducible first | exact HB.out | apply below_alloc | apply pw_below_drewN | apply below_drew1 | refine below_set ?_ GE174.out) | exact HB.out))) : w.heap.size ≤ gb175)); have n4_ := Aside0.mk ((by rw [hg]; exact (below_size (by repeat (first | (with_reducible first | exact HB.out | apply below_alloc | apply pw_below_drewN | apply below_drew1 | refine below_set ?_ GE174.out) | exact HB.out))) : w.heap.size ≤ gb175)); have n5_ := Aside0.mk ((by rw [hg]; exact Nat.ne_of_lt (blk_lt (g := gb174) (by (with_reducible repeat (first | apply blk_drewN | apply blk_drew | apply blk_alloc)); exact BK174.out)) : gb174 ≠ gb175)); have n6_ := Aside0.mk n5_.out.symm; clear BK174; clear HB; have BK174 := n0_; have HB := n1_; have BK175 := n2_; have GW175 := n3_; have GE175 := n4_; have NB174_175 := n5_; have NB175_174 := n6_; clear n0_ n1_ n2_ n3_ n4_ n5_ n6_; clear hb hbox hg; have hnb7 := NB174_175.out; have hnc7 := NB175_174.out; obtain ⟨hcz8_0, hcz8_1, hcz8_2, hcz8_3, hcz8_4, hcz8_5⟩ := bc6 BK174.out; obtain ⟨hfz8_0, hfz8_1, hfz8_2, hfz8_3, hfz8_4, hfz8_5⟩ := bf6 BK174.out) | ((with_reducible refine gate_callee (f := 18) rfl ?_); refine goesL_ (some 4) rfl rfl Try.func18 (by kernel_rfl) rfl #[.agg #[.int .i64 a0_0, .int .i64 a0_1, .int .i64 a0_2, .int .i64 a0_3, .slice A0_4 l0_4.length c0_4, .slice A0_5 l0_5.length c0_5]] rfl (by (try simp only [List.map_toArray, List.map_cons, List.map_nil]); first | done | rfl | (simp only [List.length_drop, List.length_take]; rfl)) ?_; (with_reducible refine (impl_ImageOk.calls k a0_0 a0_1 a0_2 a0_3 _ _ l0_4 _ _ l0_5 true _ ?side1 ?side2 ?side3 ?side4 A2.out).mono ?_); (case side1 => repeat (first | exact (Kd.C_below HR0_4.out HB.out) | (with_reducible refine Kd.C_alloc ?_ _) | (with_reducible refine Kd.C_drewN ?_ _) | (with_reducible refine Kd.C_drew ?_))); (case side2 => exact HC0_4.out); (case side3 => repeat (first | exact (Kd.C_below HR0_5.out HB.out) | (with_reducible refine Kd.C_alloc ?_ _) | (with_reducible refine Kd.C_drewN ?_ _) | (with_reducible refine Kd.C_drew ?_))); (case side4 => exact HC0_5.out); rintro e w9 ⟨rfl, hb⟩; refine ⟨_, rfl, ?_⟩; have n0_ := Aside0.mk (blk_below (g := gb174) (by (with_reducible repeat (first | apply blk_drewN | apply blk_drew | apply blk_alloc)); exact BK174.out) hb); have n1_ := Aside0.mk (blk_below (g := gb175) (by (with_reducible repeat (first | apply blk_drewN | apply blk_drew | apply blk_alloc)); exact BK175.out) hb); have n2_ := Aside0.mk (below_step (by repeat (first | (with_reducible first | exact HB.out | apply below_alloc | apply pw_below_drewN | apply below_drew1 | refine below_set ?_ GE174.out | refine below_set ?_ GE175.out) | exact HB.out)) hb); clear BK174; clear BK175; clear HB; have BK174 := n0_; have BK175 := n1_; have HB := n2_; clear n0_ n1_ n2_; (try clear hb); (try clear hb2); (try clear hk); (try clear hi); obtain ⟨hcz10_0, hcz10_1, hcz10_2, hcz10_3, hcz10_4, hcz10_5⟩ := bc6 BK174.out; obtain ⟨hfz10_0, hfz10_1, hfz10_2, hfz10_3, hfz10_4, hfz10_5⟩ := bf6 BK174.out) | ((with_reducible refine gate_callee (f := 57) rfl ?_); refine goesL_ (some 13) rfl rfl Try.func57 (by kernel_rfl) rfl #[.agg #[.int .i64 a0_0, .int .i64 a0_1, .int .i64 a0_2, .int .i64 a0_3, .slice A0_4 l0_4.length c0_4, .slice A0_5 l0_5.length c0_5], .int .i64 a0_2, .int .i64 a0_3, .func (.func 58) #[] #[.pointer (some ⟨gb174, 0, none⟩)]] rfl (by (try simp only [List.map_toArray, List.map_cons, List.map_nil]); first | done | rfl | (simp only [List.length_drop, List.length_take]; rfl)) ?_; (with_reducible refine (impl_Image_made.calls (fun x y => some (x, wrap64 (wrap64 (a0_3 - 1) - y))) 58 Try.f58 #[.pointer (some ⟨gb174, 0, none⟩)] k a0_0 a0_1 a0_2 a0_3 _ _ l0_4 _ _ l0_5 a0_2 a0_3 t177 t178 t179 t180 t181 t184 _ ?side1 ?side2 ?side3 ?side4 Try.func58 (by kernel_rfl) rfl (fun x_ y_ r_ s_ w_ he_ hb_ => by obtain ⟨rfl, rfl⟩ := Prod.mk.inj (Option.some.inj he_); rw [show (#[.int .i64 x_, .int .i64 y_] ++ #[.pointer (some ⟨gb174, 0, none⟩)] : Array Value) = #[.int .i64 x_, .int .i64 y_, .pointer (some ⟨gb174, 0, none⟩)] from by simp]; exact impl_ImageFlip.clo a0_3 gb174 x_ y_ w_ ((blk_cell (blk_below BK174.out hb_) 3).trans rfl)) A4.out).mono ?_); (case side1 => repeat (first | exact (Kd.C_below HR0_4.out HB.out) | (with_reducible refine Kd.C_alloc ?_ _) | (with_reducible refine Kd.C_drewN ?_ _) | (with_reducible refine Kd.C_drew ?_))); (case side2 => exact HC0_4.out); (case side3 => repeat (first | exact (Kd.C_below HR0_5.out HB.out) | (with_reducible refine Kd.C_alloc ?_ _) | (with_reducible refine Kd.C_drewN ?_ _) | (with_reducible refine Kd.C_drew ?_))); (case side4 => exact HC0_5.out); rintro e w11 ⟨v182, v185, rfl, ho0, ho1, hb⟩; refine ⟨_, rfl, ?_⟩; have n0_ := Aside0.mk (Kd.R_lower ho0 (below_size (by repeat (first | (with_reducible first | exact HB.out | apply below_alloc | apply pw_below_drewN | apply below_drew1 | refine below_set ?_ GE174.out | refine below_set ?_ GE175.out) | exact HB.out)))); have n1_ := Aside0.mk (Kd.R_lower ho1 (below_size (by repeat (first | (with_reducible first | exact HB.out | apply below_alloc | apply pw_below_drewN | apply below_drew1 | refine below_set ?_ GE174.out | refine below_set ?_ GE175.out) | exact HB.out)))); have n2_ := Aside0.mk (blk_below (g := gb174) (by (with_reducible repeat (first | apply blk_drewN | apply blk_drew | apply blk_alloc)); exact BK174.out) hb); have n3_ := Aside0.mk (blk_below (g := gb175) (by (with_reducible repeat (first | apply blk_drewN | apply blk_drew | apply blk_alloc)); exact BK175.out) hb); have n4_ := Aside0.mk (below_step (by repeat (first | (with_reducible first | exact HB.out | apply below_alloc | apply pw_below_drewN | apply below_drew1 | refine below_set ?_ GE174.out | refine below_set ?_ GE175.out) | exact HB.out)) hb); clear BK174; clear BK175; clear HB; have HO183 := n0_; have HO186 := n1_; have BK174 := n2_; have BK175 := n3_; have HB := n4_; clear n0_ n1_ n2_ n3_ n4_; (try clear hb); (try clear hb2); (try clear hk); (try clear hi); (try clear ho0); (try clear ho1); obtain ⟨hcz12_0, hcz12_1, hcz12_2, hcz12_3, hcz12_4, hcz12_5⟩ := bc6 BK175.out; obtain ⟨hfz12_0, hfz12_1, hfz12_2, hfz12_3, hfz12_4, hfz12_5⟩ := bf6 BK175.out; obtain ⟨Ao13, co13, eo13⟩ := Kd.R_slice HO183.out; subst eo13; obtain ⟨Ao14, co14, eo14⟩ := Kd.R_slice HO186.out; subst eo14))
  refine bodyPost_ret (results_cell_row rfl _ _ gb175 27 #[.int .i64 t177, .int .i64 t178, .int .i64 t179, .int .i64 t180, .slice Ao13 t181.length co13, .slice Ao14 t184.length co14] (0, 0) _ rfl (by (with_reducible repeat (first | apply blk_drewN | apply blk_drew | apply blk_alloc)); refine blk_put (cs := #[.int .i64 t177, .int .i64 t178, .int .i64 t179, .int .i64 t180, .slice Ao13 t181.length co13, .slice none 0 0]) ?_ 5 _ rfl; (with_reducible repeat (first | apply blk_drewN | apply blk_drew | apply blk_alloc)); refine blk_put (cs := #[.int .i64 t177, .int .i64 t178, .int .i64 t179, .int .i64 t180, .slice none 0 0, .slice none 0 0]) ?_ 4 _ rfl; (with_reducible repeat (first | apply blk_drewN | apply blk_drew | apply blk_alloc)); refine blk_put (cs := #[.int .i64 t177, .int .i64 t178, .int .i64 t179, .int .i64 0, .slice none 0 0, .slice none 0 0]) ?_ 3 _ rfl; (with_reducible repeat (first | apply blk_drewN | apply blk_drew | apply blk_alloc)); refine blk_put (cs := #[.int .i64 t177, .int .i64 t178, .int .i64 0, .int .i64 0, .slice none 0 0, .slice none 0 0]) ?_ 2 _ rfl; (with_reducible repeat (first | apply blk_drewN | apply blk_drew | apply blk_alloc)); refine blk_put (cs := #[.int .i64 t177, .int .i64 0, .int .i64 0, .int .i64 0, .slice none 0 0, .slice none 0 0]) ?_ 1 _ rfl; (with_reducible repeat (first | apply blk_drewN | apply blk_drew | apply blk_alloc)); refine blk_put (cs := #[.int .i64 0, .int .i64 0, .int .i64 0, .int .i64 0, .slice none 0 0, .slice none 0 0]) ?_ 0 _ rfl; (with_reducible repeat (first | apply blk_drewN | apply blk_drew | apply blk_alloc)); exact BK175.out) Try.underlying27 rfl (by kernel_rfl)) rfl ?_
  exact ⟨_, _, by first | rfl | (simp [errW_none, errW_some] <;> rfl) | (simp [*, errW_none, errW_some] <;> rfl), by (with_reducible repeat (first | apply Kd.R_alloc | apply Kd.R_drewN | apply Kd.R_drew)); exact Kd.R_mono (Kd.R_far (Kd.R_far (Kd.R_far (Kd.R_far (Kd.R_far (Kd.R_far (Kd.R_types HO183.out BK175.out (by decide)) (fun _ hk => hk.2) (.int .i64 t177)) (fun _ hk => hk.2) (.int .i64 t178)) (fun _ hk => hk.2) (.int .i64 t179)) (fun _ hk => hk.2) (.int .i64 t180)) (fun _ hk => hk.2) (.slice Ao13 t181.length co13)) (fun _ hk => hk.2) (.slice Ao14 t184.length co14)) (fun _ hk => hk.1), by (with_reducible repeat (first | apply Kd.R_alloc | apply Kd.R_drewN | apply Kd.R_drew)); exact Kd.R_mono (Kd.R_far (Kd.R_far (Kd.R_far (Kd.R_far (Kd.R_far (Kd.R_far (Kd.R_types HO186.out BK175.out (by decide)) (fun _ hk => hk.2) (.int .i64 t177)) (fun _ hk => hk.2) (.int .i64 t178)) (fun _ hk => hk.2) (.int .i64 t179)) (fun _ hk => hk.2) (.int .i64 t180)) (fun _ hk => hk.2) (.slice Ao13 t181.length co13)) (fun _ hk => hk.2) (.slice Ao14 t184.length co14)) (fun _ hk => hk.1), by repeat (first | (with_reducible first | exact HB.out | apply below_alloc | apply pw_below_drewN | apply below_drew1 | refine below_set ?_ GE174.out | refine below_set ?_ GE175.out) | exact HB.out)⟩
 ·replace c3 := Bool.eq_false_iff.mpr c3
  subst c3
  have H1 : (some (0, 0, 0, 0, ([] : List Int), ([] : List Int))) = some (r1, r2, r3, r4, r5, r6) := by first | (rw [if_neg (show ¬ (false = true) by decide)] at H; exact H) | rfl
  clear H
  have H := H1
  clear H1
  simp only [Option.some.injEq, Prod.mk.injEq] at H
  obtain ⟨rfl, rfl, rfl, rfl, rfl, rfl⟩ := H
  go_enter Try.func27, Try.ntmps27
  go_wp2_with (first | ((with_reducible refine gate_dst (N := 1) rfl ?_); refine box_event ?hg (N := 1) ?hd (cs := #[.int .i64 a0_0, .int .i64 a0_1, .int .i64 a0_2, .int .i64 a0_3, .slice A0_4 l0_4.length c0_4, .slice A0_5 l0_5.length c0_5]) (t := 27) ?hr ?_; (case hd => rfl); (case hg => rfl); (case hr => first | (go_simp; done) | (go_simp; rfl)); intro gb174 hg w15 hbox hb; have n0_ := Aside0.mk (below_step (by repeat (first | (with_reducible first | exact HB.out | apply below_alloc | apply pw_below_drewN | apply below_drew1) | exact HB.out)) hb); have n1_ := Aside0.mk (hbox); have n2_ := Aside0.mk ((by rw [hg]; exact (below_size (by repeat (first | (with_reducible first | exact HB.out | apply below_alloc | apply pw_below_drewN | apply below_drew1) | exact HB.out))) : w.heap.size ≤ gb174)); have n3_ := Aside0.mk ((by rw [hg]; exact (below_size (by repeat (first | (with_reducible first | exact HB.out | apply below_alloc | apply pw_below_drewN | apply below_drew1) | exact HB.out))) : w.heap.size ≤ gb174)); clear HB; have HB := n0_; have BK174 := n1_; have GW174 := n2_; have GE174 := n3_; clear n0_ n1_ n2_ n3_; clear hb hbox hg) | ((with_reducible refine gate_dst (N := 2) rfl ?_); refine box_event ?hg (N := 2) ?hd (cs := #[.int .i64 0, .int .i64 0, .int .i64 0, .int .i64 0, .slice none 0 0, .slice none 0 0]) (t := 27) ?hr ?_; (case hd => rfl); (case hg => rfl); (case hr => first | (go_simp; done) | (go_simp; rfl)); intro gb175 hg w16 hbox hb; have n0_ := Aside0.mk (blk_below (g := gb174) (by (with_reducible repeat (first | apply blk_drewN | apply blk_drew | apply blk_alloc)); exact BK174.out) hb); have n1_ := Aside0.mk (below_step (by repeat (first | (with_reducible first | exact HB.out | apply below_alloc | apply pw_below_drewN | apply below_drew1 | refine below_set ?_ GE174.out) | exact HB.out)) hb); have n2_ := Aside0.mk (hbox); have n3_ := Aside0.mk ((by rw [hg]; exact (below_size (by repeat (first | (with_reducible first | exact HB.out | apply below_alloc | apply pw_below_drewN | apply below_drew1 | refine below_set ?_ GE174.out) | exact HB.out))) : w.heap.size ≤ gb175)); have n4_ := Aside0.mk ((by rw [hg]; exact (below_size (by repeat (first | (with_reducible first | exact HB.out | apply below_alloc | apply pw_below_drewN | apply below_drew1 | refine below_set ?_ GE174.out) | exact HB.out))) : w.heap.size ≤ gb175)); have n5_ := Aside0.mk ((by rw [hg]; exact Nat.ne_of_lt (blk_lt (g := gb174) (by (with_reducible repeat (first | apply blk_drewN | apply blk_drew | apply blk_alloc)); exact BK174.out)) : gb174 ≠ gb175)); have n6_ := Aside0.mk n5_.out.symm; clear BK174; clear HB; have BK174 := n0_; have HB := n1_; have BK175 := n2_; have GW175 := n3_; have GE175 := n4_; have NB174_175 := n5_; have NB175_174 := n6_; clear n0_ n1_ n2_ n3_ n4_ n5_ n6_; clear hb hbox hg; have hnb17 := NB174_175.out; have hnc17 := NB175_174.out; obtain ⟨hcz18_0, hcz18_1, hcz18_2, hcz18_3, hcz18_4, hcz18_5⟩ := bc6 BK174.out; obtain ⟨hfz18_0, hfz18_1, hfz18_2, hfz18_3, hfz18_4, hfz18_5⟩ := bf6 BK174.out) | ((with_reducible refine gate_callee (f := 18) rfl ?_); refine goesL_ (some 4) rfl rfl Try.func18 (by kernel_rfl) rfl #[.agg #[.int .i64 a0_0, .int .i64 a0_1, .int .i64 a0_2, .int .i64 a0_3, .slice A0_4 l0_4.length c0_4, .slice A0_5 l0_5.length c0_5]] rfl (by (try simp only [List.map_toArray, List.map_cons, List.map_nil]); first | done | rfl | (simp only [List.length_drop, List.length_take]; rfl)) ?_; (with_reducible refine (impl_ImageOk.calls k a0_0 a0_1 a0_2 a0_3 _ _ l0_4 _ _ l0_5 false _ ?side1 ?side2 ?side3 ?side4 A2.out).mono ?_); (case side1 => repeat (first | exact (Kd.C_below HR0_4.out HB.out) | (with_reducible refine Kd.C_alloc ?_ _) | (with_reducible refine Kd.C_drewN ?_ _) | (with_reducible refine Kd.C_drew ?_))); (case side2 => exact HC0_4.out); (case side3 => repeat (first | exact (Kd.C_below HR0_5.out HB.out) | (with_reducible refine Kd.C_alloc ?_ _) | (with_reducible refine Kd.C_drewN ?_ _) | (with_reducible refine Kd.C_drew ?_))); (case side4 => exact HC0_5.out); rintro e w19 ⟨rfl, hb⟩; refine ⟨_, rfl, ?_⟩; have n0_ := Aside0.mk (blk_below (g := gb174) (by (with_reducible repeat (first | apply blk_drewN | apply blk_drew | apply blk_alloc)); exact BK174.out) hb); have n1_ := Aside0.mk (blk_below (g := gb175) (by (with_reducible repeat (first | apply blk_drewN | apply blk_drew | apply blk_alloc)); exact BK175.out) hb); have n2_ := Aside0.mk (below_step (by repeat (first | (with_reducible first | exact HB.out | apply below_alloc | apply pw_below_drewN | apply below_drew1 | refine below_set ?_ GE174.out | refine below_set ?_ GE175.out) | exact HB.out)) hb); clear BK174; clear BK175; clear HB; have BK174 := n0_; have BK175 := n1_; have HB := n2_; clear n0_ n1_ n2_; (try clear hb); (try clear hb2); (try clear hk); (try clear hi); obtain ⟨hcz20_0, hcz20_1, hcz20_2, hcz20_3, hcz20_4, hcz20_5⟩ := bc6 BK175.out; obtain ⟨hfz20_0, hfz20_1, hfz20_2, hfz20_3, hfz20_4, hfz20_5⟩ := bf6 BK175.out))
  refine bodyPost_ret (results_cell_row rfl _ _ gb175 27 #[.int .i64 0, .int .i64 0, .int .i64 0, .int .i64 0, .slice none 0 0, .slice none 0 0] (0, 0) _ rfl (by (with_reducible repeat (first | apply blk_drewN | apply blk_drew | apply blk_alloc)); refine blk_put (cs := #[.int .i64 0, .int .i64 0, .int .i64 0, .int .i64 0, .slice none 0 0, .slice none 0 0]) ?_ 5 _ rfl; (with_reducible repeat (first | apply blk_drewN | apply blk_drew | apply blk_alloc)); refine blk_put (cs := #[.int .i64 0, .int .i64 0, .int .i64 0, .int .i64 0, .slice none 0 0, .slice none 0 0]) ?_ 4 _ rfl; (with_reducible repeat (first | apply blk_drewN | apply blk_drew | apply blk_alloc)); refine blk_put (cs := #[.int .i64 0, .int .i64 0, .int .i64 0, .int .i64 0, .slice none 0 0, .slice none 0 0]) ?_ 3 _ rfl; (with_reducible repeat (first | apply blk_drewN | apply blk_drew | apply blk_alloc)); refine blk_put (cs := #[.int .i64 0, .int .i64 0, .int .i64 0, .int .i64 0, .slice none 0 0, .slice none 0 0]) ?_ 2 _ rfl; (with_reducible repeat (first | apply blk_drewN | apply blk_drew | apply blk_alloc)); refine blk_put (cs := #[.int .i64 0, .int .i64 0, .int .i64 0, .int .i64 0, .slice none 0 0, .slice none 0 0]) ?_ 1 _ rfl; (with_reducible repeat (first | apply blk_drewN | apply blk_drew | apply blk_alloc)); refine blk_put (cs := #[.int .i64 0, .int .i64 0, .int .i64 0, .int .i64 0, .slice none 0 0, .slice none 0 0]) ?_ 0 _ rfl; (with_reducible repeat (first | apply blk_drewN | apply blk_drew | apply blk_alloc)); exact BK175.out) Try.underlying27 rfl (by kernel_rfl)) rfl ?_
  exact ⟨_, _, by first | rfl | (simp [errW_none, errW_some] <;> rfl) | (simp [*, errW_none, errW_some] <;> rfl), by first | exact Kd.R_nil _ _ _ _ _ | exact Kd.N_nil _ _ _ _ _ | exact Kd.V_nil _ _ _ _ _ | exact Kd.Q_nil _ _ _ _ _ | exact Kd.S_nil _ _ _ _ _, by first | exact Kd.R_nil _ _ _ _ _ | exact Kd.N_nil _ _ _ _ _ | exact Kd.V_nil _ _ _ _ _ | exact Kd.Q_nil _ _ _ _ _ | exact Kd.S_nil _ _ _ _ _, by repeat (first | (with_reducible first | exact HB.out | apply below_alloc | apply pw_below_drewN | apply below_drew1 | refine below_set ?_ GE174.out | refine below_set ?_ GE175.out) | exact HB.out)⟩

end Go.Proofs.Ytkjfefiphdloiaa.PFnImageFlip
