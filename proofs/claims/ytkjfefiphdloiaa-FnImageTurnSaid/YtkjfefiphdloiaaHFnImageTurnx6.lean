/- What the functions that the law comes to compute, as plain functions, and that the machine's calls come to just that: written by a program for this claim, and turned where Lean did not take it. No condition. -/
import Derived.Test.YtkjfefiphdloiaaThClo
import Derived.Test.YtkjfefiphdloiaaHFnImageTurnx0
import Derived.Test.YtkjfefiphdloiaaHFnImageTurnx4
import Derived.Test.YtkjfefiphdloiaaHFnImageTurnx5
namespace Go.Proofs.Ytkjfefiphdloiaa.PFnImageTurn
open Go.RowKit Go.Proofs.YtkjfefiphdloiaaW.PrintWords Go.Proofs.YtkjfefiphdloiaaW.PrintLast Go.Proofs.YtkjfefiphdloiaaW.PrintMore
attribute [local go_sem] max2_int min2_int max_two min_two max_three min_three max_four min_four   -- for this text's walks alone
set_option linter.unusedVariables false
set_option linter.unusedSimpArgs false

/-! ### impl_Image_made: function 57 -/
mutual
def impl_Image_made.l0 (cl:Int → Int → Option (Int × Int)):Nat → Int → Int → Int → Int → Int → Int → Int → List Int → List Int → Int → Int → Int → Int → List Int → List Int → Option (Int × Int × Int × Int × List Int × List Int)
 | 0,_,_,_,_,_,_,_,_,_,_,_,_,_,_,_=>none
 | k+1,x1,x24,x25,x156000,x156001,x156002,x156003,x156004,x156005,x161000,x161001,x161002,x161003,x161004,x161005=>if x25 < x24 then (impl_Image_made.l1 cl k x1 x25 x24 x25 x1 0 x156000 x156001 x156002 x156003 x156004 x156005 x161000 x161001 x161002 x161003 x161004 x161005) else (some (x161000,x161001,x161002,x161003,x161004,x161005))
def impl_Image_made.l1 (cl:Int → Int → Option (Int × Int)):Nat → Int → Int → Int → Int → Int → Int → Int → Int → Int → Int → List Int → List Int → Int → Int → Int → Int → List Int → List Int → Option (Int × Int × Int × Int × List Int × List Int)
 | 0,_,_,_,_,_,_,_,_,_,_,_,_,_,_,_,_,_,_=>none
 | k+1,x1,x10,x24,x25,x28,x29,x156000,x156001,x156002,x156003,x156004,x156005,x161000,x161001,x161002,x161003,x161004,x161005=>if x29 < x28 then ((cl x29 x10).bind fun bt161=>(if 0≤(wrap64 ((wrap64 (bt161.2 * x156002))+bt161.1)) then (if (wrap64 ((wrap64 (bt161.2 * x156002))+bt161.1)) < (x156005.length:Int) then (if x161005.length < 17592186044416 then (impl_Image_made.l1 cl k x1 x10 x24 x25 x28 (wrap64 (x29+1)) x156000 x156001 x156002 x156003 x156004 x156005 x161000 x161001 x161002 x161003 x161004 (x161005 ++ [rd x156005 (wrap64 ((wrap64 (bt161.2 * x156002))+bt161.1))])) else (none)) else (none)) else (none))) else (impl_Image_made.l0 cl k x1 x24 (wrap64 (x25+1)) x156000 x156001 x156002 x156003 x156004 x156005 x161000 x161001 x161002 x161003 x161004 x161005)
end
def impl_Image_made.f (cl:Int → Int → Option (Int × Int)) (k:Nat) (a0_0:Int) (a0_1:Int) (a0_2:Int) (a0_3:Int) (l0_4:List Int) (l0_5:List Int) (a1:Int) (a2:Int):Option (Int × Int × Int × Int × List Int × List Int):=(slices_Clone_int_int.f l0_4).bind fun t157=>(impl_Image_made.l0 cl k a1 a2 0 a0_0 a0_1 a0_2 a0_3 l0_4 l0_5 a0_0 a0_1 a1 a2 t157 ([]:List Int))
theorem impl_Image_made.mono_l (cl:Int → Int → Option (Int × Int)):∀ k,(∀ y0 y1 y2 y3 y4 y5 y6 y7 y8 y9 y10 y11 y12 y13 y14,LeO (impl_Image_made.l0 cl k y0 y1 y2 y3 y4 y5 y6 y7 y8 y9 y10 y11 y12 y13 y14) (impl_Image_made.l0 cl (k+1) y0 y1 y2 y3 y4 y5 y6 y7 y8 y9 y10 y11 y12 y13 y14))∧(∀ y0 y1 y2 y3 y4 y5 y6 y7 y8 y9 y10 y11 y12 y13 y14 y15 y16 y17,LeO (impl_Image_made.l1 cl k y0 y1 y2 y3 y4 y5 y6 y7 y8 y9 y10 y11 y12 y13 y14 y15 y16 y17) (impl_Image_made.l1 cl (k+1) y0 y1 y2 y3 y4 y5 y6 y7 y8 y9 y10 y11 y12 y13 y14 y15 y16 y17))
 | 0=>⟨fun _ _ _ _ _ _ _ _ _ _ _ _ _ _ _ r h=>by simp [impl_Image_made.l0] at h,fun _ _ _ _ _ _ _ _ _ _ _ _ _ _ _ _ _ _ r h=>by simp [impl_Image_made.l1] at h⟩
 | k+1=>by
  obtain ⟨ih0,ih1⟩:=impl_Image_made.mono_l cl k
  refine ⟨?_,?_⟩
  ·intro y0 y1 y2 y3 y4 y5 y6 y7 y8 y9 y10 y11 y12 y13 y14
   unfold impl_Image_made.l0
   repeat' first
   | (with_reducible exact ih0 _ _ _ _ _ _ _ _ _ _ _ _ _ _ _)
   | (with_reducible exact ih1 _ _ _ _ _ _ _ _ _ _ _ _ _ _ _ _ _ _)
   | (with_reducible exact LeO.refl _)
   | (with_reducible exact LeO.none _)
   | (with_reducible refine LeO.ite ?_ ?_)
   | (with_reducible refine LeO.bind ?_ (fun _=>?_))
  ·intro y0 y1 y2 y3 y4 y5 y6 y7 y8 y9 y10 y11 y12 y13 y14 y15 y16 y17
   unfold impl_Image_made.l1
   repeat' first
   | (with_reducible exact ih0 _ _ _ _ _ _ _ _ _ _ _ _ _ _ _)
   | (with_reducible exact ih1 _ _ _ _ _ _ _ _ _ _ _ _ _ _ _ _ _ _)
   | (with_reducible exact LeO.refl _)
   | (with_reducible exact LeO.none _)
   | (with_reducible refine LeO.ite ?_ ?_)
   | (with_reducible refine LeO.bind ?_ (fun _=>?_))
theorem impl_Image_made.mono (cl:Int → Int → Option (Int × Int)):∀ a0 a1 a2 a3 a4 a5 a6 a7 k,LeO (impl_Image_made.f cl k a0 a1 a2 a3 a4 a5 a6 a7) (impl_Image_made.f cl (k+1) a0 a1 a2 a3 a4 a5 a6 a7):=by
 intro a0 a1 a2 a3 a4 a5 a6 a7 k
 obtain ⟨ih0,ih1⟩:=impl_Image_made.mono_l cl k
 unfold impl_Image_made.f
 repeat' first
   | (with_reducible exact ih0 _ _ _ _ _ _ _ _ _ _ _ _ _ _ _)
   | (with_reducible exact ih1 _ _ _ _ _ _ _ _ _ _ _ _ _ _ _ _ _ _)
   | (with_reducible exact LeO.refl _)
   | (with_reducible exact LeO.none _)
   | (with_reducible refine LeO.ite ?_ ?_)
   | (with_reducible refine LeO.bind ?_ (fun _=>?_))
def impl_Image_made.T1:Bool × List (List Nat × List Nat):=(true,[([],[]),([0],[0]),([],[]),([2],[2]),([],[]),([],[]),([],[]),([6],[6]),([7],[7]),([1,3,4,5,8],[1,3,4,5,8]),([],[]),([10,9,8,0,1,2,3,4,5,6,7,8,9,10],[9,10])])
def impl_Image_made.B1:List Nat:=[0,1,0,4,0,0,0,64,192,511,0,2047]
theorem impl_Image_made.tab1:rtab .any (opsOf Try.f57 1)=impl_Image_made.T1:=by kernel_rfl
theorem impl_Image_made.bits1:waitsOk impl_Image_made.T1.2 impl_Image_made.B1=true:=by kernel_rfl
def impl_Image_made.T9:Bool × List (List Nat × List Nat):=(true,[([],[]),([0],[0]),([],[]),([2],[2]),([],[]),([],[]),([5],[5]),([4,6],[4,6]),([],[]),([7,8],[7,8]),([3,9],[3,9]),([10],[10]),([11],[11]),([1,12],[1,12]),([0,1,2,3,4,5,6,7,8,9,10,11,12,13],[]),([14,13,13,0,1,2,3,4,5,6,7,8,9,10,11,12,13],[13,14])])
def impl_Image_made.B9:List Nat:=[0,1,0,4,0,0,32,112,0,496,1020,2044,4092,8191,16383,32767]
theorem impl_Image_made.tab9:rtab .any (opsOf Try.f57 9)=impl_Image_made.T9:=by kernel_rfl
theorem impl_Image_made.bits9:waitsOk impl_Image_made.T9.2 impl_Image_made.B9=true:=by kernel_rfl
set_option maxHeartbeats 8000000 in
set_option maxRecDepth 100000 in
theorem impl_Image_made.calls (cl : Int → Int → Option (Int × Int)) (F_ : FuncId) (fn_ : Func) (cap_ : Array Value) (k : Nat) (a0_0 : Int) (a0_1 : Int) (a0_2 : Int) (a0_3 : Int) (A0_4 : Option Addr) (c0_4 : Nat) (l0_4 : List Int) (A0_5 : Option Addr) (c0_5 : Nat) (l0_5 : List Int) (a1 : Int) (a2 : Int) (r1 : Int) (r2 : Int) (r3 : Int) (r4 : Int) (r5 : List Int) (r6 : List Int) (w : World) (hr0_4 : Kd.C (Kd.int .i64) w A0_4 l0_4.length l0_4) (hc0_4 : l0_4.length ≤ c0_4) (hr0_5 : Kd.C (Kd.int .i64) w A0_5 l0_5.length l0_5) (hc0_5 : l0_5.length ≤ c0_5) (hfn_ : Try.prog.funcs[F_]? = some fn_) (hnm_ : (fn_.name == "runtime.NumGoroutine") = false) (hbd_ : fn_.body.isSome = true) (hcl_ : ∀ (x y r s : Int) (w' : World), cl x y = some (r, s) → Below w.heap.size w w' → Calls Try.prog F_ (#[.int .i64 x, .int .i64 y] ++ cap_) w' fun e w'' => e = .returned (.tuple #[.int .i64 r, .int .i64 s]) ∧ Drawn0 w' w'') (h : impl_Image_made.f cl k a0_0 a0_1 a0_2 a0_3 l0_4 l0_5 a1 a2 = some (r1, r2, r3, r4, r5, r6)) :
  Calls Try.prog 57 #[.agg #[.int .i64 a0_0,.int .i64 a0_1,.int .i64 a0_2,.int .i64 a0_3,.slice A0_4 l0_4.length c0_4,.slice A0_5 l0_5.length c0_5],.int .i64 a1,.int .i64 a2,.func (.func F_) #[] cap_] w fun e w'=>∃ v4_ v5_:Value,e=.returned (.agg #[.int .i64 r1,.int .i64 r2,.int .i64 r3,.int .i64 r4,v4_,v5_])∧Kd.R (Kd.int .i64) 3 w' w.heap.size (fun k_=>some k_≠(v5_:Value).ownBlock) v4_ r5∧Kd.R (Kd.int .i64) 3 w' w.heap.size (fun k_=>some k_≠(v4_:Value).ownBlock) v5_ r6∧Below w.heap.size w w':=by
 have hu27:=Try.underlying27
 have HFN_:=aM_ hfn_
 have HNM_:=aM_ hnm_
 have HBD_:=aM_ hbd_
 have HCL_:=aM_ hcl_
 clear hfn_ hnm_ hbd_ hcl_
 have HR0_4:=aM_ hr0_4
 have HC0_4:=aM_ hc0_4
 clear hr0_4 hc0_4
 have HR0_5:=aM_ hr0_5
 have HC0_5:=aM_ hc0_5
 clear hr0_5 hc0_5
 have HB:=aM_ (Below.refl w.heap.size w)
 have H:((slices_Clone_int_int.f l0_4).bind fun t157=>(impl_Image_made.l0 cl k a1 a2 0 a0_0 a0_1 a0_2 a0_3 l0_4 l0_5 a0_0 a0_1 a1 a2 t157 ([]:List Int)))=some (r1,r2,r3,r4,r5,r6):=h
 clear h
 replace H:=Option.bind_eq_some_iff.mp H
 obtain ⟨t157,A50,H⟩:=H
 replace H:(impl_Image_made.l0 cl k a1 a2 0 a0_0 a0_1 a0_2 a0_3 l0_4 l0_5 a0_0 a0_1 a1 a2 t157 ([]:List Int))=some (r1,r2,r3,r4,r5,r6):=H
 have A5:=aM_ A50
 clear A50
 have H':=aM_ H
 clear H
 go_enter Try.func57,Try.ntmps57
 try go_wp2_with (first|((with_reducible refine gate_dst (N:=4) rfl ?_);refine box_event ?hg (N:=4) ?hd (cs:=#[.int .i64 a0_0,.int .i64 a0_1,.int .i64 a0_2,.int .i64 a0_3,.slice A0_4 l0_4.length c0_4,.slice A0_5 l0_5.length c0_5]) (t:=27) ?hr ?_;(case hd=>rfl);(case hg=>rfl);(case hr=>first|(go_simp;done)|(go_simp;rfl));intro gb155 hg w6 hbox hb;have n0_:=aM_ (below_step (by repeat (first|(with_reducible first|exact HB.out|apply wA_|apply wN_|apply wD_)|exact HB.out)) hb);have n1_:=aM_ (hbox);have n2_:=aM_ ((by rw [hg];exact (below_size (by repeat (first|(with_reducible first|exact HB.out|apply wA_|apply wN_|apply wD_)|exact HB.out))):w.heap.size≤gb155));have n3_:=aM_ ((by rw [hg];exact (below_size (by repeat (first|(with_reducible first|exact HB.out|apply wA_|apply wN_|apply wD_)|exact HB.out))):w.heap.size≤gb155));clear HB;have HB:=n0_;have BK155:=n1_;have GW155:=n2_;have GE155:=n3_;clear n0_ n1_ n2_ n3_;clear hb hbox hg)|((with_reducible refine gate_dst (N:=8) rfl ?_);refine box_event ?hg (N:=8) ?hd (cs:=#[.int .i64 0,.int .i64 0,.int .i64 0,.int .i64 0,.slice none 0 0,.slice none 0 0]) (t:=27) ?hr ?_;(case hd=>rfl);(case hg=>rfl);(case hr=>first|(go_simp;done)|(go_simp;rfl));intro gb156 hg w7 hbox hb;have n0_:=aM_ (blk_below (g:=gb155) (by (with_reducible repeat (first|apply kN_|apply kD_|apply kA_));exact BK155.out) hb);have n1_:=aM_ (below_step (by repeat (first|(with_reducible first|exact HB.out|apply wA_|apply wN_|apply wD_|refine below_set ?_ GE155.out)|exact HB.out)) hb);have n2_:=aM_ (hbox);have n3_:=aM_ ((by rw [hg];exact (below_size (by repeat (first|(with_reducible first|exact HB.out|apply wA_|apply wN_|apply wD_|refine below_set ?_ GE155.out)|exact HB.out))):w.heap.size≤gb156));have n4_:=aM_ ((by rw [hg];exact (below_size (by repeat (first|(with_reducible first|exact HB.out|apply wA_|apply wN_|apply wD_|refine below_set ?_ GE155.out)|exact HB.out))):w.heap.size≤gb156));have n5_:=aM_ ((by rw [hg];exact Nat.ne_of_lt (blk_lt (g:=gb155) (by (with_reducible repeat (first|apply kN_|apply kD_|apply kA_));exact BK155.out)):gb155≠gb156));have n6_:=aM_ n5_.out.symm;clear BK155;clear HB;have BK155:=n0_;have HB:=n1_;have BK156:=n2_;have GW156:=n3_;have GE156:=n4_;have NB155_156:=n5_;have NB156_155:=n6_;clear n0_ n1_ n2_ n3_ n4_ n5_ n6_;clear hb hbox hg))
 have n0_:=aM_ (kD_ BK155.out)
 have n1_:=aM_ (kD_ BK156.out)
 have n2_:=aM_ (wD_ HB.out)
 clear BK155
 clear BK156
 clear HB
 have BK155:=n0_
 have BK156:=n1_
 have HB:=n2_
 clear n0_ n1_ n2_
 refine start_ (n:=12) (S:=fun w'=>w'.cell? ⟨gb155,0,none⟩=some (.int .i64 a0_0)∧w'.cell? ⟨gb155,1,none⟩=some (.int .i64 a0_1)∧w'.cell? ⟨gb155,2,none⟩=some (.int .i64 a0_2)∧w'.cell? ⟨gb155,3,none⟩=some (.int .i64 a0_3)∧w'.cell? ⟨gb155,4,none⟩=some (.slice A0_4 l0_4.length c0_4)∧w'.cell? ⟨gb155,5,none⟩=some (.slice A0_5 l0_5.length c0_5)) (ds:=[]) #[false,false,false,false,false,false,false,false,false,false,false,false] (by kernel_rfl) rfl rfl (bc6 BK155.out) (fun hHeld=>?_);refine with_tabW impl_Image_made.tab1 impl_Image_made.bits1 (fun HT_ HW_=>?_)
 generalize w7.drew=w8 at BK155 BK156 HB hHeld ⊢
 refine pure_ (i:=0) (N:=some 14) (v:=?_) (a':=?_) #[true,false,false,false,false,false,false,false,false,false,false,false] rfl rfl (any_of HT_.out (by kernel_rfl)) (fun _ _ _ h=>h) (Or.inl ⟨by rfl,?_⟩) ?_ ?_
 rotate_left
 ·intro w'
  go_simp
  with_reducible rfl
 rotate_left
 ·simp only [Act.put,sA_,s0_,s1_,i64_w,i32_w]
  rfl
 refine pure_ (i:=2) (N:=some 16) (v:=?_) (a':=?_) #[true,false,true,false,false,false,false,false,false,false,false,false] rfl rfl (any_of HT_.out (by kernel_rfl)) (fun _ _ _ h=>h) (Or.inl ⟨by rfl,?_⟩) ?_ ?_
 rotate_left
 ·intro w'
  go_simp
  with_reducible rfl
 rotate_left
 ·simp only [Act.put,sA_,s0_,s1_,i64_w,i32_w]
  rfl
 refine pure_ (i:=4) (N:=some 18) (v:=?_) (a':=?_) #[true,false,true,false,true,false,false,false,false,false,false,false] rfl rfl (any_of HT_.out (by kernel_rfl)) (fun _ _ _ h=>h) (Or.inl ⟨by rfl,?_⟩) ?_ ?_
 rotate_left
 ·intro w'
  go_simp
  with_reducible rfl
 rotate_left
 ·simp only [Act.put,sA_,s0_,s1_,i64_w,i32_w]
  rfl
 refine pure_ (i:=5) (N:=some 19) (v:=?_) (a':=?_) #[true,false,true,false,true,true,false,false,false,false,false,false] rfl rfl (any_of HT_.out (by kernel_rfl)) (fun _ _ _ h=>h) (Or.inl ⟨by rfl,?_⟩) ?_ ?_
 rotate_left
 ·intro w'
  go_simp
  with_reducible rfl
 rotate_left
 ·simp only [Act.put,sA_,s0_,s1_,i64_w,i32_w]
  rfl
 refine pure_ (i:=6) (N:=some 20) (v:=?_) (a':=?_) #[true,false,true,false,true,true,true,false,false,false,false,false] rfl rfl (any_of HT_.out (by kernel_rfl)) (fun _ _ _ h=>h) (Or.inl ⟨by rfl,?_⟩) ?_ ?_
 rotate_left
 ·intro w'
  go_simp
  with_reducible rfl
 rotate_left
 ·simp only [Act.put,sA_,s0_,s1_,i64_w,i32_w]
  rfl
 refine take_ (i:=1) (N:=some 15) (v:=?_) (a':=?_) #[true,true,true,false,true,true,true,false,false,false,false,false] rfl rfl (take_ofW HT_.out HW_.out (by kernel_rfl)) (fun _ _ _ h=>h) (Or.inl ⟨by rfl,?_⟩) hHeld ?_ ?_
 rotate_left
 ·rintro w' ⟨s0,s1,s2,s3,s4,s5⟩
  go_simp
  with_reducible rfl
 rotate_left
 ·simp only [Act.put,sA_,s0_,s1_,i64_w,i32_w]
  rfl
 refine take_ (i:=3) (N:=some 17) (v:=?_) (a':=?_) #[true,true,true,true,true,true,true,false,false,false,false,false] rfl rfl (take_ofW HT_.out HW_.out (by kernel_rfl)) (fun _ _ _ h=>h) (Or.inl ⟨by rfl,?_⟩) hHeld ?_ ?_
 rotate_left
 ·rintro w' ⟨s0,s1,s2,s3,s4,s5⟩
  go_simp
  with_reducible rfl
 rotate_left
 ·simp only [Act.put,sA_,s0_,s1_,i64_w,i32_w]
  rfl
 refine take_ (i:=7) (N:=some 21) (v:=?_) (a':=?_) #[true,true,true,true,true,true,true,true,false,false,false,false] rfl rfl (take_ofW HT_.out HW_.out (by kernel_rfl)) (fun _ _ _ h=>h) (Or.inl ⟨by rfl,?_⟩) hHeld ?_ ?_
 rotate_left
 ·rintro w' ⟨s0,s1,s2,s3,s4,s5⟩
  go_simp
  with_reducible rfl
 rotate_left
 ·simp only [Act.put,sA_,s0_,s1_,i64_w,i32_w]
  rfl
 refine join_ (σ:=Value × Nat) 1 #[true,true,true,true,true,true,true,true,true,true,true,false] (fun s_=>[(22,s_.1),(9,.pointer (some ⟨s_.2,0,none⟩)),(23,.agg #[.int .i64 a0_0,.int .i64 a0_1,.int .i64 a1,.int .i64 a2,s_.1,.slice none 0 0])]) (fun s_ w'=>(w'.cell? ⟨gb155,0,none⟩=some (.int .i64 a0_0)∧w'.cell? ⟨gb155,1,none⟩=some (.int .i64 a0_1)∧w'.cell? ⟨gb155,2,none⟩=some (.int .i64 a0_2)∧w'.cell? ⟨gb155,3,none⟩=some (.int .i64 a0_3)∧w'.cell? ⟨gb155,4,none⟩=some (.slice A0_4 l0_4.length c0_4)∧w'.cell? ⟨gb155,5,none⟩=some (.slice A0_5 l0_5.length c0_5))∧(Kd.R (Kd.int .i64) 3 w' w.heap.size (fun _=>True) s_.1 t157)∧(w'.heap[gb155]?=some (.cells #[.int .i64 a0_0,.int .i64 a0_1,.int .i64 a0_2,.int .i64 a0_3,.slice A0_4 l0_4.length c0_4,.slice A0_5 l0_5.length c0_5] 27 (0,0)))∧(w'.heap[gb156]?=some (.cells #[.int .i64 0,.int .i64 0,.int .i64 0,.int .i64 0,.slice none 0 0,.slice none 0 0] 27 (0,0)))∧(w'.heap[s_.2]?=some (.cells #[.int .i64 0,.int .i64 0,.int .i64 0,.int .i64 0,.slice none 0 0,.slice none 0 0] 27 (0,0)))∧(w.heap.size≤s_.2)∧(w.heap.size≤s_.2)∧(gb155≠s_.2)∧(s_.2≠gb155)∧(gb156≠s_.2)∧(s_.2≠gb156)∧(Below w.heap.size w w')) ?_ ?_
 rotate_left
 ·intro hCont
  refine two_ (i:=8) (j:=10) (Ni:=some 22) (Nj:=some 9) #[true,true,true,true,true,true,true,true,true,false,false,false] #[true,true,true,true,true,true,true,true,false,false,true,false] rfl rfl rfl rfl (two_of HT_.out (by kernel_rfl)) (by decide) (by decide) (fun K hK=>?_) (fun K hK=>?_)
  ·skip
   refine goes_ Try.func73 (by kernel_rfl) rfl #[.slice A0_4 l0_4.length c0_4] (by rfl) rfl rfl (by (try simp only [List.map_toArray,List.map_cons,List.map_nil]);first|done|rfl|(simp only [List.length_drop,List.length_take];rfl)) ?_
   with_reducible refine (slices_Clone_int_int.calls _ _ l0_4 t157 _ ?side1 ?side2 A5.out).mono ?_
   (case side1=>repeat (first|exact (Kd.C_below HR0_4.out HB.out)|(with_reducible refine Kd.C_alloc ?_ _)|(with_reducible refine Kd.C_drewN ?_ _)|(with_reducible refine Kd.C_drew ?_)))
   (case side2=>exact HC0_4.out)
   rintro e w9 ⟨v158,rfl,ho0,hb⟩
   refine ⟨_,rfl,?_⟩
   have n0_:=aM_ (Kd.R_lower ho0 (below_size (by repeat (first|(with_reducible first|exact HB.out|apply wA_|apply wN_|apply wD_|refine below_set ?_ GE155.out|refine below_set ?_ GE156.out)|exact HB.out))))
   have n1_:=aM_ (blk_below (g:=gb155) (by (with_reducible repeat (first|apply kN_|apply kD_|apply kA_));exact BK155.out) hb)
   have n2_:=aM_ (blk_below (g:=gb156) (by (with_reducible repeat (first|apply kN_|apply kD_|apply kA_));exact BK156.out) hb)
   have n3_:=aM_ (below_step (by repeat (first|(with_reducible first|exact HB.out|apply wA_|apply wN_|apply wD_|refine below_set ?_ GE155.out|refine below_set ?_ GE156.out)|exact HB.out)) hb)
   clear BK155
   clear BK156
   clear HB
   have HO159:=n0_
   have BK155:=n1_
   have BK156:=n2_
   have HB:=n3_
   clear n0_ n1_ n2_ n3_
   (try clear hb)
   (try clear hb2)
   (try clear hk)
   (try clear hi)
   (try clear ho0)
   obtain ⟨Ao10,co10,eo10⟩:=Kd.R_slice HO159.out
   (first|subst eo10|(injection eo10 with f1_ f2_ f3_;have f4_:=f1_.symm;have f5_:=f3_.symm;clear f1_ f2_ f3_;subst f4_;subst f5_))
   refine hK.out _ _ (bc6 BK155.out) (fun hHeld=>?_)
   clear hK K
   refine norm_ (a':=?_) ?_ ?_
   rotate_left
   ·show Act.put _ (some 22) _=_
    simp only [Act.put,sA_,s0_,s1_,i64_w,i32_w]
    rfl
   refine pure_ (i:=9) (N:=some 23) (v:=?_) (a':=?_) #[true,true,true,true,true,true,true,true,true,true,false,false] rfl rfl (any_of HT_.out (by kernel_rfl)) (fun _ _ _ h=>h) (Or.inl ⟨by rfl,?_⟩) ?_ ?_
   rotate_left
   ·intro w'
    go_simp
    with_reducible rfl
   rotate_left
   ·simp only [Act.put,sA_,s0_,s1_,i64_w,i32_w]
    rfl
   refine one_ (i:=10) (N:=some 9) #[true,true,true,true,true,true,true,true,true,true,true,false] rfl rfl (one_of HT_.out (by kernel_rfl)) (by decide) (fun K hK=>?_)
   refine box_step ?hg (N:=9) ?hd (cs:=#[.int .i64 0,.int .i64 0,.int .i64 0,.int .i64 0,.slice none 0 0,.slice none 0 0]) (t:=27) ?hr ?_;(case hd=>rfl);(case hg=>rfl);(case hr=>first|(go_simp;done)|(go_simp;rfl))
   intro gb160 hg w11 hbox hb
   have n0_:=aM_ (Kd.R_below (by (with_reducible repeat (first|apply rA_|apply rN_|apply rD_));exact HO159.out) hb)
   have n1_:=aM_ (blk_below (g:=gb155) (by (with_reducible repeat (first|apply kN_|apply kD_|apply kA_));exact BK155.out) hb)
   have n2_:=aM_ (blk_below (g:=gb156) (by (with_reducible repeat (first|apply kN_|apply kD_|apply kA_));exact BK156.out) hb)
   have n3_:=aM_ (below_step (by repeat (first|(with_reducible first|exact HB.out|apply wA_|apply wN_|apply wD_|refine below_set ?_ GE155.out|refine below_set ?_ GE156.out)|exact HB.out)) hb)
   have n4_:=aM_ (hbox)
   have n5_:=aM_ ((by rw [hg];exact (below_size (by repeat (first|(with_reducible first|exact HB.out|apply wA_|apply wN_|apply wD_|refine below_set ?_ GE155.out|refine below_set ?_ GE156.out)|exact HB.out))):w.heap.size≤gb160))
   have n6_:=aM_ ((by rw [hg];exact (below_size (by repeat (first|(with_reducible first|exact HB.out|apply wA_|apply wN_|apply wD_|refine below_set ?_ GE155.out|refine below_set ?_ GE156.out)|exact HB.out))):w.heap.size≤gb160))
   have n7_:=aM_ ((by rw [hg];exact Nat.ne_of_lt (blk_lt (g:=gb155) (by (with_reducible repeat (first|apply kN_|apply kD_|apply kA_));exact BK155.out)):gb155≠gb160))
   have n8_:=aM_ ((by rw [hg];exact Nat.ne_of_gt (blk_lt (g:=gb155) (by (with_reducible repeat (first|apply kN_|apply kD_|apply kA_));exact BK155.out)):gb160≠gb155))
   have n9_:=aM_ ((by rw [hg];exact Nat.ne_of_lt (blk_lt (g:=gb156) (by (with_reducible repeat (first|apply kN_|apply kD_|apply kA_));exact BK156.out)):gb156≠gb160))
   have n10_:=aM_ ((by rw [hg];exact Nat.ne_of_gt (blk_lt (g:=gb156) (by (with_reducible repeat (first|apply kN_|apply kD_|apply kA_));exact BK156.out)):gb160≠gb156))
   clear HO159
   clear BK155
   clear BK156
   clear HB
   have HO159:=n0_
   have BK155:=n1_
   have BK156:=n2_
   have HB:=n3_
   have BK160:=n4_
   have GW160:=n5_
   have GE160:=n6_
   have NB155_160:=n7_
   have NB160_155:=n8_
   have NB156_160:=n9_
   have NB160_156:=n10_
   clear n0_ n1_ n2_ n3_ n4_ n5_ n6_ n7_ n8_ n9_ n10_
   clear hb hbox hg
   refine hK.out _ _ (bc6 BK155.out) (fun hHeld=>?_)
   clear hK K
   refine norm_ (a':=?_) ?_ ?_
   rotate_left
   ·show Act.put _ (some 9) _=_
    simp only [Act.put,sA_,s0_,s1_,i64_w,i32_w]
    rfl
   exact norm_ (by simp only [putAll,Act.put,sA_,s0_,s1_]) (hCont (.slice Ao10 t157.length co10,gb160) _ ⟨hHeld,(by (with_reducible repeat (first|apply rA_|apply rN_|apply rD_));exact HO159.out),(by (with_reducible repeat (first|apply kN_|apply kD_|apply kA_));exact BK155.out),(by (with_reducible repeat (first|apply kN_|apply kD_|apply kA_));exact BK156.out),(by (with_reducible repeat (first|apply kN_|apply kD_|apply kA_));exact BK160.out),GW160.out,GE160.out,NB155_160.out,NB160_155.out,NB156_160.out,NB160_156.out,(by repeat (first|(with_reducible first|exact HB.out|apply wA_|apply wN_|apply wD_|refine below_set ?_ GE155.out|refine below_set ?_ GE156.out|refine below_set ?_ GE160.out)|exact HB.out))⟩)
  ·skip
   refine box_step ?hg (N:=9) ?hd (cs:=#[.int .i64 0,.int .i64 0,.int .i64 0,.int .i64 0,.slice none 0 0,.slice none 0 0]) (t:=27) ?hr ?_;(case hd=>rfl);(case hg=>rfl);(case hr=>first|(go_simp;done)|(go_simp;rfl))
   intro gb160 hg w9 hbox hb
   have n0_:=aM_ (blk_below (g:=gb155) (by (with_reducible repeat (first|apply kN_|apply kD_|apply kA_));exact BK155.out) hb)
   have n1_:=aM_ (blk_below (g:=gb156) (by (with_reducible repeat (first|apply kN_|apply kD_|apply kA_));exact BK156.out) hb)
   have n2_:=aM_ (below_step (by repeat (first|(with_reducible first|exact HB.out|apply wA_|apply wN_|apply wD_|refine below_set ?_ GE155.out|refine below_set ?_ GE156.out)|exact HB.out)) hb)
   have n3_:=aM_ (hbox)
   have n4_:=aM_ ((by rw [hg];exact (below_size (by repeat (first|(with_reducible first|exact HB.out|apply wA_|apply wN_|apply wD_|refine below_set ?_ GE155.out|refine below_set ?_ GE156.out)|exact HB.out))):w.heap.size≤gb160))
   have n5_:=aM_ ((by rw [hg];exact (below_size (by repeat (first|(with_reducible first|exact HB.out|apply wA_|apply wN_|apply wD_|refine below_set ?_ GE155.out|refine below_set ?_ GE156.out)|exact HB.out))):w.heap.size≤gb160))
   have n6_:=aM_ ((by rw [hg];exact Nat.ne_of_lt (blk_lt (g:=gb155) (by (with_reducible repeat (first|apply kN_|apply kD_|apply kA_));exact BK155.out)):gb155≠gb160))
   have n7_:=aM_ ((by rw [hg];exact Nat.ne_of_gt (blk_lt (g:=gb155) (by (with_reducible repeat (first|apply kN_|apply kD_|apply kA_));exact BK155.out)):gb160≠gb155))
   have n8_:=aM_ ((by rw [hg];exact Nat.ne_of_lt (blk_lt (g:=gb156) (by (with_reducible repeat (first|apply kN_|apply kD_|apply kA_));exact BK156.out)):gb156≠gb160))
   have n9_:=aM_ ((by rw [hg];exact Nat.ne_of_gt (blk_lt (g:=gb156) (by (with_reducible repeat (first|apply kN_|apply kD_|apply kA_));exact BK156.out)):gb160≠gb156))
   clear BK155
   clear BK156
   clear HB
   have BK155:=n0_
   have BK156:=n1_
   have HB:=n2_
   have BK160:=n3_
   have GW160:=n4_
   have GE160:=n5_
   have NB155_160:=n6_
   have NB160_155:=n7_
   have NB156_160:=n8_
   have NB160_156:=n9_
   clear n0_ n1_ n2_ n3_ n4_ n5_ n6_ n7_ n8_ n9_
   clear hb hbox hg
   refine hK.out _ _ (bc6 BK155.out) (fun hHeld=>?_)
   clear hK K
   refine norm_ (a':=?_) ?_ ?_
   rotate_left
   ·show Act.put _ (some 9) _=_
    simp only [Act.put,sA_,s0_,s1_,i64_w,i32_w]
    rfl
   refine one_ (i:=8) (N:=some 22) #[true,true,true,true,true,true,true,true,true,false,true,false] rfl rfl (one_of HT_.out (by kernel_rfl)) (by decide) (fun K hK=>?_)
   refine goes_ Try.func73 (by kernel_rfl) rfl #[.slice A0_4 l0_4.length c0_4] (by rfl) rfl rfl (by (try simp only [List.map_toArray,List.map_cons,List.map_nil]);first|done|rfl|(simp only [List.length_drop,List.length_take];rfl)) ?_
   with_reducible refine (slices_Clone_int_int.calls _ _ l0_4 t157 _ ?side1 ?side2 A5.out).mono ?_
   (case side1=>repeat (first|exact (Kd.C_below HR0_4.out HB.out)|(with_reducible refine Kd.C_alloc ?_ _)|(with_reducible refine Kd.C_drewN ?_ _)|(with_reducible refine Kd.C_drew ?_)))
   (case side2=>exact HC0_4.out)
   rintro e w10 ⟨v158,rfl,ho0,hb⟩
   refine ⟨_,rfl,?_⟩
   have n0_:=aM_ (Kd.R_lower ho0 (below_size (by repeat (first|(with_reducible first|exact HB.out|apply wA_|apply wN_|apply wD_|refine below_set ?_ GE155.out|refine below_set ?_ GE156.out|refine below_set ?_ GE160.out)|exact HB.out))))
   have n1_:=aM_ (blk_below (g:=gb155) (by (with_reducible repeat (first|apply kN_|apply kD_|apply kA_));exact BK155.out) hb)
   have n2_:=aM_ (blk_below (g:=gb156) (by (with_reducible repeat (first|apply kN_|apply kD_|apply kA_));exact BK156.out) hb)
   have n3_:=aM_ (blk_below (g:=gb160) (by (with_reducible repeat (first|apply kN_|apply kD_|apply kA_));exact BK160.out) hb)
   have n4_:=aM_ (below_step (by repeat (first|(with_reducible first|exact HB.out|apply wA_|apply wN_|apply wD_|refine below_set ?_ GE155.out|refine below_set ?_ GE156.out|refine below_set ?_ GE160.out)|exact HB.out)) hb)
   clear BK155
   clear BK156
   clear BK160
   clear HB
   have HO159:=n0_
   have BK155:=n1_
   have BK156:=n2_
   have BK160:=n3_
   have HB:=n4_
   clear n0_ n1_ n2_ n3_ n4_
   (try clear hb)
   (try clear hb2)
   (try clear hk)
   (try clear hi)
   (try clear ho0)
   obtain ⟨Ao11,co11,eo11⟩:=Kd.R_slice HO159.out
   (first|subst eo11|(injection eo11 with f1_ f2_ f3_;have f4_:=f1_.symm;have f5_:=f3_.symm;clear f1_ f2_ f3_;subst f4_;subst f5_))
   refine hK.out _ _ (bc6 BK155.out) (fun hHeld=>?_)
   clear hK K
   refine norm_ (a':=?_) ?_ ?_
   rotate_left
   ·show Act.put _ (some 22) _=_
    simp only [Act.put,sA_,s0_,s1_,i64_w,i32_w]
    rfl
   refine pure_ (i:=9) (N:=some 23) (v:=?_) (a':=?_) #[true,true,true,true,true,true,true,true,true,true,true,false] rfl rfl (any_of HT_.out (by kernel_rfl)) (fun _ _ _ h=>h) (Or.inl ⟨by rfl,?_⟩) ?_ ?_
   rotate_left
   ·intro w'
    go_simp
    with_reducible rfl
   rotate_left
   ·simp only [Act.put,sA_,s0_,s1_,i64_w,i32_w]
    rfl
   exact norm_ (by simp only [putAll,Act.put,sA_,s0_,s1_]) (hCont (.slice Ao11 t157.length co11,gb160) _ ⟨hHeld,(by (with_reducible repeat (first|apply rA_|apply rN_|apply rD_));exact HO159.out),(by (with_reducible repeat (first|apply kN_|apply kD_|apply kA_));exact BK155.out),(by (with_reducible repeat (first|apply kN_|apply kD_|apply kA_));exact BK156.out),(by (with_reducible repeat (first|apply kN_|apply kD_|apply kA_));exact BK160.out),GW160.out,GE160.out,NB155_160.out,NB160_155.out,NB156_160.out,NB160_156.out,(by repeat (first|(with_reducible first|exact HB.out|apply wA_|apply wN_|apply wD_|refine below_set ?_ GE155.out|refine below_set ?_ GE156.out|refine below_set ?_ GE160.out)|exact HB.out))⟩)
 rintro ⟨v158,gb160⟩ w12 ⟨hS_,h0_,h1_,h2_,h3_,h4_,h5_,h6_,h7_,h8_,h9_,h10_⟩
 have n0_:Aside0 (Kd.R (Kd.int .i64) 3 w12 w.heap.size (fun _=>True) v158 t157):=⟨h0_⟩
 have n1_:Aside0 (w12.heap[gb155]?=some (.cells #[.int .i64 a0_0,.int .i64 a0_1,.int .i64 a0_2,.int .i64 a0_3,.slice A0_4 l0_4.length c0_4,.slice A0_5 l0_5.length c0_5] 27 (0,0))):=⟨h1_⟩
 have n2_:Aside0 (w12.heap[gb156]?=some (.cells #[.int .i64 0,.int .i64 0,.int .i64 0,.int .i64 0,.slice none 0 0,.slice none 0 0] 27 (0,0))):=⟨h2_⟩
 have n3_:Aside0 (w12.heap[gb160]?=some (.cells #[.int .i64 0,.int .i64 0,.int .i64 0,.int .i64 0,.slice none 0 0,.slice none 0 0] 27 (0,0))):=⟨h3_⟩
 have n4_:Aside0 (w.heap.size≤gb160):=⟨h4_⟩
 have n5_:Aside0 (w.heap.size≤gb160):=⟨h5_⟩
 have n6_:Aside0 (gb155≠gb160):=⟨h6_⟩
 have n7_:Aside0 (gb160≠gb155):=⟨h7_⟩
 have n8_:Aside0 (gb156≠gb160):=⟨h8_⟩
 have n9_:Aside0 (gb160≠gb156):=⟨h9_⟩
 have n10_:Aside0 (Below w.heap.size w w12):=⟨h10_⟩
 clear BK155
 clear BK156
 clear HB
 clear h0_ h1_ h2_ h3_ h4_ h5_ h6_ h7_ h8_ h9_ h10_
 have HO159:=n0_
 have BK155:=n1_
 have BK156:=n2_
 have BK160:=n3_
 have GW160:=n4_
 have GE160:=n5_
 have NB155_160:=n6_
 have NB160_155:=n7_
 have NB156_160:=n8_
 have NB160_156:=n9_
 have HB:=n10_
 clear n0_ n1_ n2_ n3_ n4_ n5_ n6_ n7_ n8_ n9_ n10_
 have hHeld:w12.cell? ⟨gb155,0,none⟩=some (.int .i64 a0_0)∧w12.cell? ⟨gb155,1,none⟩=some (.int .i64 a0_1)∧w12.cell? ⟨gb155,2,none⟩=some (.int .i64 a0_2)∧w12.cell? ⟨gb155,3,none⟩=some (.int .i64 a0_3)∧w12.cell? ⟨gb155,4,none⟩=some (.slice A0_4 l0_4.length c0_4)∧w12.cell? ⟨gb155,5,none⟩=some (.slice A0_5 l0_5.length c0_5):=hS_
 obtain ⟨Ao13,co13,eo13⟩:=Kd.R_slice HO159.out
 (first|subst eo13|(injection eo13 with f1_ f2_ f3_;have f4_:=f1_.symm;have f5_:=f3_.symm;clear f1_ f2_ f3_;subst f4_;subst f5_))
 refine norm_ (a':=?_) ?_ ?_
 rotate_left
 ·simp only [putAll,Act.put,sA_,s0_,s1_]
  rfl
 refine one_ (i:=11) (N:=none) #[true,true,true,true,true,true,true,true,true,true,true,true] rfl rfl (one_of HT_.out (by kernel_rfl)) (by decide) (fun K hK=>?_)
 have hs14:w12.cell? ⟨gb160,0,none⟩=some (.int .i64 0):=(blk_cell BK160.out 0).trans rfl
 have hfs14:=blk_frozen BK160.out 0
 have hns14_0:=NB155_160.out
 have hns14_1:=NB156_160.out
 have hms14_0:=NB160_155.out
 have hms14_1:=NB160_156.out
 have hs15:w12.cell? ⟨gb160,1,none⟩=some (.int .i64 0):=(blk_cell BK160.out 1).trans rfl
 have hfs15:=blk_frozen BK160.out 1
 have hns15_0:=NB155_160.out
 have hns15_1:=NB156_160.out
 have hms15_0:=NB160_155.out
 have hms15_1:=NB160_156.out
 have hs16:w12.cell? ⟨gb160,2,none⟩=some (.int .i64 0):=(blk_cell BK160.out 2).trans rfl
 have hfs16:=blk_frozen BK160.out 2
 have hns16_0:=NB155_160.out
 have hns16_1:=NB156_160.out
 have hms16_0:=NB160_155.out
 have hms16_1:=NB160_156.out
 have hs17:w12.cell? ⟨gb160,3,none⟩=some (.int .i64 0):=(blk_cell BK160.out 3).trans rfl
 have hfs17:=blk_frozen BK160.out 3
 have hns17_0:=NB155_160.out
 have hns17_1:=NB156_160.out
 have hms17_0:=NB160_155.out
 have hms17_1:=NB160_156.out
 have hs18:w12.cell? ⟨gb160,4,none⟩=some (.slice none 0 0):=(blk_cell BK160.out 4).trans rfl
 have hfs18:=blk_frozen BK160.out 4
 have hns18_0:=NB155_160.out
 have hns18_1:=NB156_160.out
 have hms18_0:=NB160_155.out
 have hms18_1:=NB160_156.out
 have hs19:w12.cell? ⟨gb160,5,none⟩=some (.slice none 0 0):=(blk_cell BK160.out 5).trans rfl
 have hfs19:=blk_frozen BK160.out 5
 have hns19_0:=NB155_160.out
 have hns19_1:=NB156_160.out
 have hms19_0:=NB160_155.out
 have hms19_1:=NB160_156.out
 refine skip_ (w1:=?_) (by rfl) rfl ?_ ?_
 rotate_left
 ·go_simp
  rfl
 refine hK.out _ _ ⟨((cell_far (p:=⟨gb160,_,none⟩) NB155_160.out _).trans (((cell_far (p:=⟨gb160,_,none⟩) NB155_160.out _).trans (((cell_far (p:=⟨gb160,_,none⟩) NB155_160.out _).trans (((cell_far (p:=⟨gb160,_,none⟩) NB155_160.out _).trans (((cell_far (p:=⟨gb160,_,none⟩) NB155_160.out _).trans (((cell_far (p:=⟨gb160,_,none⟩) NB155_160.out _).trans (hHeld.1)))))))))))),((cell_far (p:=⟨gb160,_,none⟩) NB155_160.out _).trans (((cell_far (p:=⟨gb160,_,none⟩) NB155_160.out _).trans (((cell_far (p:=⟨gb160,_,none⟩) NB155_160.out _).trans (((cell_far (p:=⟨gb160,_,none⟩) NB155_160.out _).trans (((cell_far (p:=⟨gb160,_,none⟩) NB155_160.out _).trans (((cell_far (p:=⟨gb160,_,none⟩) NB155_160.out _).trans (hHeld.2.1)))))))))))),((cell_far (p:=⟨gb160,_,none⟩) NB155_160.out _).trans (((cell_far (p:=⟨gb160,_,none⟩) NB155_160.out _).trans (((cell_far (p:=⟨gb160,_,none⟩) NB155_160.out _).trans (((cell_far (p:=⟨gb160,_,none⟩) NB155_160.out _).trans (((cell_far (p:=⟨gb160,_,none⟩) NB155_160.out _).trans (((cell_far (p:=⟨gb160,_,none⟩) NB155_160.out _).trans (hHeld.2.2.1)))))))))))),((cell_far (p:=⟨gb160,_,none⟩) NB155_160.out _).trans (((cell_far (p:=⟨gb160,_,none⟩) NB155_160.out _).trans (((cell_far (p:=⟨gb160,_,none⟩) NB155_160.out _).trans (((cell_far (p:=⟨gb160,_,none⟩) NB155_160.out _).trans (((cell_far (p:=⟨gb160,_,none⟩) NB155_160.out _).trans (((cell_far (p:=⟨gb160,_,none⟩) NB155_160.out _).trans (hHeld.2.2.2.1)))))))))))),((cell_far (p:=⟨gb160,_,none⟩) NB155_160.out _).trans (((cell_far (p:=⟨gb160,_,none⟩) NB155_160.out _).trans (((cell_far (p:=⟨gb160,_,none⟩) NB155_160.out _).trans (((cell_far (p:=⟨gb160,_,none⟩) NB155_160.out _).trans (((cell_far (p:=⟨gb160,_,none⟩) NB155_160.out _).trans (((cell_far (p:=⟨gb160,_,none⟩) NB155_160.out _).trans (hHeld.2.2.2.2.1)))))))))))),((cell_far (p:=⟨gb160,_,none⟩) NB155_160.out _).trans (((cell_far (p:=⟨gb160,_,none⟩) NB155_160.out _).trans (((cell_far (p:=⟨gb160,_,none⟩) NB155_160.out _).trans (((cell_far (p:=⟨gb160,_,none⟩) NB155_160.out _).trans (((cell_far (p:=⟨gb160,_,none⟩) NB155_160.out _).trans (((cell_far (p:=⟨gb160,_,none⟩) NB155_160.out _).trans (hHeld.2.2.2.2.2))))))))))))⟩ (fun hHeld=>?_)
 clear hK K
 refine done_ (done_of HT_.out (by kernel_rfl)) ?_
 try go_wp2
 go_loopg [25] k (fun kq v25 w'=>∃ (x25_1:Int) (x161005_1:List Int) (u161005:Value),v25=.int .i64 x25_1∧Aside0 (impl_Image_made.l0 cl kq a1 a2 x25_1 a0_0 a0_1 a0_2 a0_3 l0_4 l0_5 a0_0 a0_1 a1 a2 t157 x161005_1=some (r1,r2,r3,r4,r5,r6))∧Aside0 (kq≤k)∧Aside0 (Kd.R (Kd.int .i64) 3 w' w.heap.size (fun k_=>some k_≠(u161005:Value).ownBlock) (.slice Ao13 t157.length co13) t157)∧Aside0 (Kd.R (Kd.int .i64) 3 w' w.heap.size (fun k_=>some k_≠((.slice Ao13 t157.length co13):Value).ownBlock) u161005 x161005_1)∧Aside0 (w'.heap[gb155]?=some (.cells #[.int .i64 a0_0,.int .i64 a0_1,.int .i64 a0_2,.int .i64 a0_3,(.slice A0_4 l0_4.length c0_4),(.slice A0_5 l0_5.length c0_5)] 27 (0,0)))∧Aside0 (w'.heap[gb156]?=some (.cells #[.int .i64 0,.int .i64 0,.int .i64 0,.int .i64 0,(.slice none 0 0),(.slice none 0 0)] 27 (0,0)))∧Aside0 (w'.heap[gb160]?=some (.cells #[.int .i64 a0_0,.int .i64 a0_1,.int .i64 a1,.int .i64 a2,(.slice Ao13 t157.length co13),u161005] 27 (0,0)))∧Aside0 (Below w.heap.size w w'))
 case atStart=>exact ⟨(0),(([]:List Int)),(.slice none 0 0),(by first|rfl|(simp;done)|(simp [*];done)),H',⟨Nat.le_refl _⟩,⟨by (with_reducible repeat (first|apply rA_|apply rN_|apply rD_));exact Kd.R_mono (Kd.R_far (Kd.R_far (Kd.R_far (Kd.R_far (Kd.R_far (Kd.R_far (Kd.R_types HO159.out BK160.out (by decide)) (fun _ hk=>hk.2) _) (fun _ hk=>hk.2) _) (fun _ hk=>hk.2) _) (fun _ hk=>hk.2) _) (fun _ hk=>hk.2) _) (fun _ hk=>hk.2) _) (fun _ hk=>(by simp [Value.ownBlock]))⟩,⟨by first|exact Kd.R_nil _ _ _ _ _|exact Kd.N_nil _ _ _ _ _|exact Kd.V_nil _ _ _ _ _|exact Kd.Q_nil _ _ _ _ _|exact Kd.S_nil _ _ _ _ _⟩,⟨by (with_reducible repeat (first|apply kN_|apply kD_|apply kA_));refine blk_far ?_ NB155_160.out _;(with_reducible repeat (first|apply kN_|apply kD_|apply kA_));refine blk_far ?_ NB155_160.out _;(with_reducible repeat (first|apply kN_|apply kD_|apply kA_));refine blk_far ?_ NB155_160.out _;(with_reducible repeat (first|apply kN_|apply kD_|apply kA_));refine blk_far ?_ NB155_160.out _;(with_reducible repeat (first|apply kN_|apply kD_|apply kA_));refine blk_far ?_ NB155_160.out _;(with_reducible repeat (first|apply kN_|apply kD_|apply kA_));refine blk_far ?_ NB155_160.out _;(with_reducible repeat (first|apply kN_|apply kD_|apply kA_));exact BK155.out⟩,⟨by (with_reducible repeat (first|apply kN_|apply kD_|apply kA_));refine blk_far ?_ NB156_160.out _;(with_reducible repeat (first|apply kN_|apply kD_|apply kA_));refine blk_far ?_ NB156_160.out _;(with_reducible repeat (first|apply kN_|apply kD_|apply kA_));refine blk_far ?_ NB156_160.out _;(with_reducible repeat (first|apply kN_|apply kD_|apply kA_));refine blk_far ?_ NB156_160.out _;(with_reducible repeat (first|apply kN_|apply kD_|apply kA_));refine blk_far ?_ NB156_160.out _;(with_reducible repeat (first|apply kN_|apply kD_|apply kA_));refine blk_far ?_ NB156_160.out _;(with_reducible repeat (first|apply kN_|apply kD_|apply kA_));exact BK156.out⟩,⟨by (with_reducible repeat (first|apply kN_|apply kD_|apply kA_));refine blk_put (cs:=#[.int .i64 a0_0,.int .i64 a0_1,.int .i64 a1,.int .i64 a2,.slice Ao13 t157.length co13,.slice none 0 0]) ?_ 5 _ rfl;(with_reducible repeat (first|apply kN_|apply kD_|apply kA_));refine blk_put (cs:=#[.int .i64 a0_0,.int .i64 a0_1,.int .i64 a1,.int .i64 a2,.slice none 0 0,.slice none 0 0]) ?_ 4 _ rfl;(with_reducible repeat (first|apply kN_|apply kD_|apply kA_));refine blk_put (cs:=#[.int .i64 a0_0,.int .i64 a0_1,.int .i64 a1,.int .i64 0,.slice none 0 0,.slice none 0 0]) ?_ 3 _ rfl;(with_reducible repeat (first|apply kN_|apply kD_|apply kA_));refine blk_put (cs:=#[.int .i64 a0_0,.int .i64 a0_1,.int .i64 0,.int .i64 0,.slice none 0 0,.slice none 0 0]) ?_ 2 _ rfl;(with_reducible repeat (first|apply kN_|apply kD_|apply kA_));refine blk_put (cs:=#[.int .i64 a0_0,.int .i64 0,.int .i64 0,.int .i64 0,.slice none 0 0,.slice none 0 0]) ?_ 1 _ rfl;(with_reducible repeat (first|apply kN_|apply kD_|apply kA_));refine blk_put (cs:=#[.int .i64 0,.int .i64 0,.int .i64 0,.int .i64 0,.slice none 0 0,.slice none 0 0]) ?_ 0 _ rfl;(with_reducible repeat (first|apply kN_|apply kD_|apply kA_));exact BK160.out⟩,⟨by repeat (first|(with_reducible first|exact HB.out|apply wA_|apply wN_|apply wD_|refine below_set ?_ GE155.out|refine below_set ?_ GE156.out|refine below_set ?_ GE160.out)|exact HB.out)⟩⟩
 case round =>
  clear H'
  try clear p2
  try clear c5
  try clear c7
  obtain ⟨x25_1,x161005_1,u161005,rfl,HA,HK1,HO_161004,HO_161005,BK155,BK156,BK160,HB⟩:=hrel
  cases gk with
  | zero=>exact absurd HA.out (by simp [impl_Image_made.l0])
  | succ k1 =>
   have H:=HA.out
   clear HA
   simp only [impl_Image_made.l0] at H
   by_cases c20:x25_1 < a2
   ·rw [if_pos c20] at H
    have c20b0:decide (x25_1 < a2)=true:=decide_eq_true c20
    clear c20
    have H':=aM_ H
    clear H
    go_wp2
    go_loopg [29] k1 (fun kq v29 w'=>∃ (x29_2:Int) (x161005_2:List Int) (u161005:Value),v29=.int .i64 x29_2∧Aside0 (impl_Image_made.l1 cl kq a1 x25_1 a2 x25_1 a1 x29_2 a0_0 a0_1 a0_2 a0_3 l0_4 l0_5 a0_0 a0_1 a1 a2 t157 x161005_2=some (r1,r2,r3,r4,r5,r6))∧Aside0 (kq≤k1)∧Aside0 (Kd.R (Kd.int .i64) 3 w' w.heap.size (fun k_=>some k_≠(u161005:Value).ownBlock) (.slice Ao13 t157.length co13) t157)∧Aside0 (Kd.R (Kd.int .i64) 3 w' w.heap.size (fun k_=>some k_≠((.slice Ao13 t157.length co13):Value).ownBlock) u161005 x161005_2)∧Aside0 (w'.heap[gb155]?=some (.cells #[.int .i64 a0_0,.int .i64 a0_1,.int .i64 a0_2,.int .i64 a0_3,(.slice A0_4 l0_4.length c0_4),(.slice A0_5 l0_5.length c0_5)] 27 (0,0)))∧Aside0 (w'.heap[gb156]?=some (.cells #[.int .i64 0,.int .i64 0,.int .i64 0,.int .i64 0,(.slice none 0 0),(.slice none 0 0)] 27 (0,0)))∧Aside0 (w'.heap[gb160]?=some (.cells #[.int .i64 a0_0,.int .i64 a0_1,.int .i64 a1,.int .i64 a2,(.slice Ao13 t157.length co13),u161005] 27 (0,0)))∧Aside0 (Below w.heap.size w w'))
    case atStart=>exact ⟨(0),(x161005_1),(u161005),(by first|rfl|(simp;done)|(simp [*];done)),H',⟨Nat.le_refl _⟩,⟨by (with_reducible repeat (first|apply rA_|apply rN_|apply rD_));exact HO_161004.out⟩,⟨by (with_reducible repeat (first|apply rA_|apply rN_|apply rD_));exact HO_161005.out⟩,⟨by (with_reducible repeat (first|apply kN_|apply kD_|apply kA_));exact BK155.out⟩,⟨by (with_reducible repeat (first|apply kN_|apply kD_|apply kA_));exact BK156.out⟩,⟨by (with_reducible repeat (first|apply kN_|apply kD_|apply kA_));exact BK160.out⟩,⟨by repeat (first|(with_reducible first|exact HB.out|apply wA_|apply wN_|apply wD_|refine below_set ?_ GE155.out|refine below_set ?_ GE156.out|refine below_set ?_ GE160.out)|exact HB.out)⟩⟩
    case round =>
     clear H'
     try clear c2
     try clear p2
     try clear c5
     try clear c7
     try clear c20
     try clear c20b0
     try clear p2
     obtain ⟨x29_2,x161005_2,u161005,rfl,HA,HK2,HO_161004,HO_161005,BK155,BK156,BK160,HB⟩:=hrel
     cases gk with
     | zero=>exact absurd HA.out (by simp [impl_Image_made.l1])
     | succ k2 =>
      have H:=HA.out
      clear HA
      simp only [impl_Image_made.l1] at H
      by_cases c21:x29_2 < a1
      ·rw [if_pos c21] at H
       have c21b0:decide (x29_2 < a1)=true:=decide_eq_true c21
       clear c21
       replace H:=Option.bind_eq_some_iff.mp H
       obtain ⟨⟨t161,t162⟩,A220,H⟩:=H
       replace H:(if 0≤(wrap64 ((wrap64 (t162 * a0_2))+t161)) then (if (wrap64 ((wrap64 (t162 * a0_2))+t161)) < (l0_5.length:Int) then (if x161005_2.length < 17592186044416 then (impl_Image_made.l1 cl k2 a1 x25_1 a2 x25_1 a1 (wrap64 (x29_2+1)) a0_0 a0_1 a0_2 a0_3 l0_4 l0_5 a0_0 a0_1 a1 a2 t157 (x161005_2 ++ [rd l0_5 (wrap64 ((wrap64 (t162 * a0_2))+t161))])) else (none)) else (none)) else (none))=some (r1,r2,r3,r4,r5,r6):=H
       have A22:=aM_ A220
       clear A220
       obtain ⟨ji23,hji23⟩:∃ j_:Int,(wrap64 ((wrap64 (t162 * a0_2))+t161))=j_:=⟨_,rfl⟩
       replace H:(if 0≤(ji23) then (if (ji23) < (l0_5.length:Int) then (if x161005_2.length < 17592186044416 then (impl_Image_made.l1 cl k2 a1 x25_1 a2 x25_1 a1 (wrap64 (x29_2+1)) a0_0 a0_1 a0_2 a0_3 l0_4 l0_5 a0_0 a0_1 a1 a2 t157 (x161005_2 ++ [rd l0_5 (ji23)])) else (none)) else (none)) else (none))=some (r1,r2,r3,r4,r5,r6):=by first|(rw [hji23] at H;exact H)|(simp only [hji23] at H ⊢;exact H)
       (try rw [hji23] at A22)
       have hji23w:(IntKind.i64.wrap ((wrap64 (t162 * a0_2))+t161))=ji23:=(i64_w _).trans hji23
       by_cases c24:0≤(ji23)
       ·rw [if_pos c24] at H
        have c24b0:decide (0≤(ji23))=true:=decide_eq_true c24
        clear c24
        by_cases c25:(ji23) < (l0_5.length:Int)
        ·rw [if_pos c25] at H
         have c25b0:decide ((ji23) < (l0_5.length:Int))=true:=decide_eq_true c25
         clear c25
         by_cases c26:x161005_2.length < 17592186044416
         ·rw [if_pos c26] at H
          have LMc26:=aM_ c26
          clear c26
          obtain ⟨y164,hy164⟩:∃ y_:List Int,y_=(x161005_2 ++ [rd l0_5 (ji23)]):=⟨_,rfl⟩
          replace H:(impl_Image_made.l1 cl k2 a1 x25_1 a2 x25_1 a1 (wrap64 (x29_2+1)) a0_0 a0_1 a0_2 a0_3 l0_4 l0_5 a0_0 a0_1 a1 a2 t157 y164)=some (r1,r2,r3,r4,r5,r6):=by first|(rw [hy164];with_reducible exact H)|(have H2_:=(Option.bind_some _ _).symm.trans H;rw [hy164];with_reducible exact H2_)|(have H2_:=(Option.bind_some _ _).symm.trans H;with_reducible exact H2_)|with_reducible exact H|(rw [hy164];exact H)|exact H
          have Ny164:=aM_ hy164
          clear hy164
          have H':=aM_ H
          clear H
          try go_wp2_with (first|((with_reducible refine Th.gate_clo (x:=33) rfl ?_);refine Th.goesC_ (some 36) rfl rfl (x:=33) (f:=F_) (fn:=fn_) (cap:=cap_) HFN_.out HNM_.out HBD_.out #[.int .i64 x29_2,.int .i64 x25_1] rfl rfl (by (try simp only [List.map_toArray,List.map_cons,List.map_nil]);first|done|rfl|(simp only [List.length_drop,List.length_take];rfl)) ?_;refine (HCL_.out x29_2 x25_1 t161 t162 _ A22.out (by repeat (first|(with_reducible first|exact HB.out|apply wA_|apply wN_|apply wD_)|exact HB.out))).mono ?_;rintro e w' ⟨rfl,⟨nd,rfl⟩⟩;refine ⟨_,rfl,?_⟩;(try (rw [drewN_self wr];generalize hq_:World.drewN wr _=wr;have n0_:Aside0 (Kd.R (Kd.int .i64) 3 wr w.heap.size (fun k_=>some k_≠(u161005:Value).ownBlock) (.slice Ao13 t157.length co13) t157):=⟨by rw [← hq_];exact (by (with_reducible repeat (first|apply rA_|apply rN_|apply rD_));exact HO_161004.out)⟩;have n1_:Aside0 (Kd.R (Kd.int .i64) 3 wr w.heap.size (fun k_=>some k_≠(.slice Ao13 t157.length co13:Value).ownBlock) u161005 x161005_2):=⟨by rw [← hq_];exact (by (with_reducible repeat (first|apply rA_|apply rN_|apply rD_));exact HO_161005.out)⟩;have n2_:Aside0 (wr.heap[gb155]?=some (.cells #[.int .i64 a0_0,.int .i64 a0_1,.int .i64 a0_2,.int .i64 a0_3,.slice A0_4 l0_4.length c0_4,.slice A0_5 l0_5.length c0_5] 27 (0,0))):=⟨by rw [← hq_];exact (by (with_reducible repeat (first|apply kN_|apply kD_|apply kA_));exact BK155.out)⟩;have n3_:Aside0 (wr.heap[gb156]?=some (.cells #[.int .i64 0,.int .i64 0,.int .i64 0,.int .i64 0,.slice none 0 0,.slice none 0 0] 27 (0,0))):=⟨by rw [← hq_];exact (by (with_reducible repeat (first|apply kN_|apply kD_|apply kA_));exact BK156.out)⟩;have n4_:Aside0 (wr.heap[gb160]?=some (.cells #[.int .i64 a0_0,.int .i64 a0_1,.int .i64 a1,.int .i64 a2,.slice Ao13 t157.length co13,u161005] 27 (0,0))):=⟨by rw [← hq_];exact (by (with_reducible repeat (first|apply kN_|apply kD_|apply kA_));exact BK160.out)⟩;have n5_:Aside0 (Below w.heap.size w wr):=⟨by rw [← hq_];exact (by repeat (first|(with_reducible first|exact HB.out|apply wA_|apply wN_|apply wD_|refine below_set ?_ GE155.out|refine below_set ?_ GE156.out|refine below_set ?_ GE160.out)|exact HB.out))⟩;clear HO_161004 HO_161005 BK155 BK156 BK160 HB hq_;have HO_161004:=n0_;have HO_161005:=n1_;have BK155:=n2_;have BK156:=n3_;have BK160:=n4_;have HB:=n5_;clear n0_ n1_ n2_ n3_ n4_ n5_))))
          have n0_:=aM_ (rD_ HO_161004.out)
          have n1_:=aM_ (rD_ HO_161005.out)
          have n2_:=aM_ (kD_ BK155.out)
          have n3_:=aM_ (kD_ BK156.out)
          have n4_:=aM_ (kD_ BK160.out)
          have n5_:=aM_ (wD_ HB.out)
          clear HO_161004
          clear HO_161005
          clear BK155
          clear BK156
          clear BK160
          clear HB
          have HO_161004:=n0_
          have HO_161005:=n1_
          have BK155:=n2_
          have BK156:=n3_
          have BK160:=n4_
          have HB:=n5_
          clear n0_ n1_ n2_ n3_ n4_ n5_
          have p163:0≤((ji23):Int):=of_decide_eq_true (by first|(with_reducible assumption)|assumption)
          have q163:(ji23) < (l0_5.length:Int):=of_decide_eq_true (by first|(with_reducible assumption)|assumption)
          obtain ⟨ad163,e163,hx163_0⟩:=Kd.at_int HR0_5.out (ji23) p163 q163
          have hw163_0:=hx163_0
          cases e163
          replace hx163_0:=(HB.out.cell (World.block_lt_of_cell? w _ hx163_0)).trans hx163_0
          replace p163:=eq_true p163
          replace q163:=eq_true q163
          refine start_ (n:=16) (S:=fun w'=>w'.cell? ⟨gb160,0,none⟩=some (.int .i64 a0_0)∧w'.cell? ⟨gb160,1,none⟩=some (.int .i64 a0_1)∧w'.cell? ⟨gb160,2,none⟩=some (.int .i64 a1)∧w'.cell? ⟨gb160,3,none⟩=some (.int .i64 a2)∧w'.cell? ⟨gb160,4,none⟩=some (.slice Ao13 t157.length co13)∧w'.cell? ⟨gb160,5,none⟩=some (u161005)∧w'.cell? ⟨gb155,0,none⟩=some (.int .i64 a0_0)∧w'.cell? ⟨gb155,1,none⟩=some (.int .i64 a0_1)∧w'.cell? ⟨gb155,2,none⟩=some (.int .i64 a0_2)∧w'.cell? ⟨gb155,3,none⟩=some (.int .i64 a0_3)∧w'.cell? ⟨gb155,4,none⟩=some (.slice A0_4 l0_4.length c0_4)∧w'.cell? ⟨gb155,5,none⟩=some (.slice (some ad163) l0_5.length c0_5)∧w'.cell? (ad163.add ((ji23)).toNat)=some (.int .i64 (rd l0_5 (ji23)))) (ds:=[15]) #[false,false,false,false,false,false,false,false,false,false,false,false,false,false,false,false] (by kernel_rfl) rfl rfl ⟨(blk_cell BK160.out 0).trans rfl,(blk_cell BK160.out 1).trans rfl,(blk_cell BK160.out 2).trans rfl,(blk_cell BK160.out 3).trans rfl,(blk_cell BK160.out 4).trans rfl,(blk_cell BK160.out 5).trans rfl,(blk_cell BK155.out 0).trans rfl,(blk_cell BK155.out 1).trans rfl,(blk_cell BK155.out 2).trans rfl,(blk_cell BK155.out 3).trans rfl,(blk_cell BK155.out 4).trans rfl,(blk_cell BK155.out 5).trans rfl,((HB.out.cell (World.block_lt_of_cell? w _ hw163_0)).trans hw163_0)⟩ (fun hHeld=>?_);refine with_tabW impl_Image_made.tab9 impl_Image_made.bits9 (fun HT_ HW_=>?_)
          generalize wr.drew=w27 at HO_161004 HO_161005 BK155 BK156 BK160 HB hx163_0 hHeld ⊢
          refine pure_ (i:=0) (N:=some 39) (v:=?_) (a':=?_) #[true,false,false,false,false,false,false,false,false,false,false,false,false,false,false,false] rfl rfl (any_of HT_.out (by kernel_rfl)) (fun _ _ _ h=>h) (Or.inl ⟨by rfl,?_⟩) ?_ ?_
          rotate_left
          ·intro w'
           go_simp
           with_reducible rfl
          rotate_left
          ·simp only [Act.put,sA_,s0_,s1_,i64_w,i32_w]
           rfl
          refine pure_ (i:=2) (N:=some 41) (v:=?_) (a':=?_) #[true,false,true,false,false,false,false,false,false,false,false,false,false,false,false,false] rfl rfl (any_of HT_.out (by kernel_rfl)) (fun _ _ _ h=>h) (Or.inl ⟨by rfl,?_⟩) ?_ ?_
          rotate_left
          ·intro w'
           go_simp
           with_reducible rfl
          rotate_left
          ·simp only [Act.put,sA_,s0_,s1_,i64_w,i32_w]
           rfl
          refine pure_ (i:=4) (N:=some 43) (v:=?_) (a':=?_) #[true,false,true,false,true,false,false,false,false,false,false,false,false,false,false,false] rfl rfl (any_of HT_.out (by kernel_rfl)) (fun _ _ _ h=>h) (Or.inl ⟨by rfl,?_⟩) ?_ ?_
          rotate_left
          ·intro w'
           go_simp
           with_reducible rfl
          rotate_left
          ·simp only [Act.put,sA_,s0_,s1_,i64_w,i32_w]
           rfl
          refine pure_ (i:=5) (N:=some 44) (v:=?_) (a':=?_) #[true,false,true,false,true,true,false,false,false,false,false,false,false,false,false,false] rfl rfl (any_of HT_.out (by kernel_rfl)) (fun _ _ _ h=>h) (Or.inl ⟨by rfl,?_⟩) ?_ ?_
          rotate_left
          ·intro w'
           go_simp
           with_reducible rfl
          rotate_left
          ·simp only [Act.put,sA_,s0_,s1_,i64_w,i32_w]
           rfl
          refine pure_ (i:=8) (N:=some 47) (v:=?_) (a':=?_) #[true,false,true,false,true,true,false,false,true,false,false,false,false,false,false,false] rfl rfl (any_of HT_.out (by kernel_rfl)) (fun _ _ _ h=>h) (Or.inl ⟨by rfl,?_⟩) ?_ ?_
          rotate_left
          ·intro w'
           go_simp
           with_reducible rfl
          rotate_left
          ·simp only [Act.put,sA_,s0_,s1_,i64_w,i32_w]
           rfl
          refine take_ (i:=1) (N:=some 40) (v:=?_) (a':=?_) #[true,true,true,false,true,true,false,false,true,false,false,false,false,false,false,false] rfl rfl (take_ofW HT_.out HW_.out (by kernel_rfl)) (fun _ _ _ h=>h) (Or.inl ⟨by rfl,?_⟩) hHeld ?_ ?_
          rotate_left
          ·rintro w' ⟨s0,s1,s2,s3,s4,s5,s6,s7,s8,s9,s10,s11,s12⟩
           go_simp
           with_reducible rfl
          rotate_left
          ·simp only [Act.put,sA_,s0_,s1_,i64_w,i32_w]
           rfl
          refine take_ (i:=3) (N:=some 42) (v:=?_) (a':=?_) #[true,true,true,true,true,true,false,false,true,false,false,false,false,false,false,false] rfl rfl (take_ofW HT_.out HW_.out (by kernel_rfl)) (fun _ _ _ h=>h) (Or.inl ⟨by rfl,?_⟩) hHeld ?_ ?_
          rotate_left
          ·rintro w' ⟨s0,s1,s2,s3,s4,s5,s6,s7,s8,s9,s10,s11,s12⟩
           go_simp
           with_reducible rfl
          rotate_left
          ·simp only [Act.put,sA_,s0_,s1_,i64_w,i32_w]
           rfl
          refine take_ (i:=6) (N:=some 45) (v:=?_) (a':=?_) #[true,true,true,true,true,true,true,false,true,false,false,false,false,false,false,false] rfl rfl (take_ofW HT_.out HW_.out (by kernel_rfl)) (fun _ _ _ h=>h) (Or.inl ⟨by rfl,?_⟩) hHeld ?_ ?_
          rotate_left
          ·rintro w' ⟨s0,s1,s2,s3,s4,s5,s6,s7,s8,s9,s10,s11,s12⟩
           go_simp
           with_reducible rfl
          rotate_left
          ·simp only [Act.put,sA_,s0_,s1_,i64_w,i32_w]
           rfl
          refine pure_ (i:=7) (N:=some 46) (v:=?_) (a':=?_) #[true,true,true,true,true,true,true,true,true,false,false,false,false,false,false,false] rfl rfl (any_of HT_.out (by kernel_rfl)) (fun _ _ _ h=>h) (Or.inl ⟨by rfl,?_⟩) ?_ ?_
          rotate_left
          ·intro w'
           go_simp
           with_reducible rfl
          rotate_left
          ·simp only [Act.put,sA_,s0_,s1_,i64_w,i32_w]
           rfl
          refine pure_ (i:=9) (N:=some 48) (v:=?_) (a':=?_) #[true,true,true,true,true,true,true,true,true,true,false,false,false,false,false,false] rfl rfl (any_of HT_.out (by kernel_rfl)) (fun _ _ _ h=>h) (Or.inl ⟨by rfl,?_⟩) ?_ ?_
          rotate_left
          ·intro w'
           go_simp
           with_reducible rfl
          rotate_left
          ·simp only [Act.put,sA_,s0_,s1_,i64_w,i32_w]
           rfl
          refine pure_ (i:=10) (N:=some 49) (v:=?_) (a':=?_) #[true,true,true,true,true,true,true,true,true,true,true,false,false,false,false,false] rfl rfl (any_of HT_.out (by kernel_rfl)) (fun _ _ _ h=>h) (Or.inl ⟨by rfl,?_⟩) ?_ ?_
          rotate_left
          ·intro w'
           go_simp
           with_reducible rfl
          rotate_left
          ·simp only [Act.put,sA_,s0_,s1_,i64_w,i32_w]
           rfl
          refine take_ (i:=11) (N:=some 50) (v:=?_) (a':=?_) #[true,true,true,true,true,true,true,true,true,true,true,true,false,false,false,false] rfl rfl (take_ofW HT_.out HW_.out (by kernel_rfl)) (fun _ _ _ h=>h) (Or.inl ⟨by rfl,?_⟩) hHeld ?_ ?_
          rotate_left
          ·rintro w' ⟨s0,s1,s2,s3,s4,s5,s6,s7,s8,s9,s10,s11,s12⟩
           go_simp
           with_reducible rfl
          rotate_left
          ·simp only [Act.put,sA_,s0_,s1_,i64_w,i32_w]
           rfl
          refine one_ (i:=12) (N:=some 51) #[true,true,true,true,true,true,true,true,true,true,true,true,true,false,false,false] rfl rfl (one_of HT_.out (by kernel_rfl)) (by decide) (fun K hK=>?_)
          refine value_ (w1:=?_) (v:=?_) (by rfl) rfl ?_ ?_
          rotate_left 2
          ·go_simp
           constructor
           ·rfl
           ·rfl
          refine hK.out _ _ ⟨(blk_cell (kA_ BK160.out _) 0).trans rfl,(blk_cell (kA_ BK160.out _) 1).trans rfl,(blk_cell (kA_ BK160.out _) 2).trans rfl,(blk_cell (kA_ BK160.out _) 3).trans rfl,(blk_cell (kA_ BK160.out _) 4).trans rfl,(blk_cell (kA_ BK160.out _) 5).trans rfl,(blk_cell (kA_ BK155.out _) 0).trans rfl,(blk_cell (kA_ BK155.out _) 1).trans rfl,(blk_cell (kA_ BK155.out _) 2).trans rfl,(blk_cell (kA_ BK155.out _) 3).trans rfl,(blk_cell (kA_ BK155.out _) 4).trans rfl,(blk_cell (kA_ BK155.out _) 5).trans rfl,(World.cell?_alloc_lt _ _ _ (World.block_lt_of_cell? _ _ (((HB.out.cell (World.block_lt_of_cell? w _ hw163_0)).trans hw163_0)))).trans (((HB.out.cell (World.block_lt_of_cell? w _ hw163_0)).trans hw163_0))⟩ (fun hHeld=>?_)
          clear hK K
          refine norm_ (a':=?_) ?_ ?_
          rotate_left
          ·show Act.put _ (some 51) _=_
           simp only [Act.put,sA_,s0_,s1_,i64_w,i32_w]
           rfl
          refine one_ (i:=13) (N:=some 52) #[true,true,true,true,true,true,true,true,true,true,true,true,true,true,false,false] rfl rfl (one_of HT_.out (by kernel_rfl)) (by decide) (fun K hK=>?_)
          refine Kd.R_append_step (Kd.int .i64) (w0:=w) w.heap.size (by rfl) (.tmp 40) (.tmp 51) 22 3 (.int .i64 0) 8 rfl Try.underlying22 info3 rfl (by decide) (by omega) u161005 x161005_2 (rd l0_5 (ji23)) [.int .i64 (rd l0_5 (ji23))] (fun k_=>some k_≠(.slice Ao13 t157.length co13:Value).ownBlock) (fun _=>False) rfl rfl ?aP (fun _ hk=>hk.elim) ?aF ?aO ?aB ?aS ?aL ?_
          (case aP=>exact rfl)
          (case aB=>exact (by repeat (first|(with_reducible first|exact HB.out|apply wA_|apply wN_|apply wD_|refine below_set ?_ GE155.out|refine below_set ?_ GE156.out|refine below_set ?_ GE160.out)|exact HB.out)))
          (case aF=>exact (fun k_ hk=>Kd.fresh' (Kd.R_lt (by (with_reducible repeat (first|apply rA_|apply rN_|apply rD_));exact HO_161004.out)) k_ hk))
          (case aO=>exact (by (with_reducible repeat (first|apply rA_|apply rN_|apply rD_));exact HO_161005.out))
          (case aS=>exact (below_size (by repeat (first|(with_reducible first|exact HB.out|apply wA_|apply wN_|apply wD_|refine below_set ?_ GE155.out|refine below_set ?_ GE156.out|refine below_set ?_ GE160.out)|exact HB.out))))
          (case aL=>have:=LMc26.out;omega)
          intro v165 w28 ho hb hg hat
          rw [← Ny164.out] at ho
          have n0_:=aM_ (Kd.R_after (ok:=(fun _=>True)) (by (with_reducible repeat (first|apply rA_|apply rN_|apply rD_));exact Kd.R_mono HO_161004.out (fun _ hk=>⟨trivial,hk⟩)) hg hat)
          have n1_:=aM_ (blk_grown (g:=gb155) (o:=.cells #[.int .i64 a0_0,.int .i64 a0_1,.int .i64 a0_2,.int .i64 a0_3,.slice A0_4 l0_4.length c0_4,.slice (some ad163) l0_5.length c0_5] 27 (0,0)) (by (with_reducible repeat (first|apply kN_|apply kD_|apply kA_));exact BK155.out) hg (Kd.R_ne HO_161005.out BK155.out (by decide)))
          have n2_:=aM_ (blk_grown (g:=gb156) (o:=.cells #[.int .i64 0,.int .i64 0,.int .i64 0,.int .i64 0,.slice none 0 0,.slice none 0 0] 27 (0,0)) (by (with_reducible repeat (first|apply kN_|apply kD_|apply kA_));exact BK156.out) hg (Kd.R_ne HO_161005.out BK156.out (by decide)))
          have n3_:=aM_ (blk_grown (g:=gb160) (o:=.cells #[.int .i64 a0_0,.int .i64 a0_1,.int .i64 a1,.int .i64 a2,.slice Ao13 t157.length co13,u161005] 27 (0,0)) (by (with_reducible repeat (first|apply kN_|apply kD_|apply kA_));exact BK160.out) hg (Kd.R_ne HO_161005.out BK160.out (by decide)))
          have n4_:=aM_ (hb)
          have n5_:=aM_ (ho)
          clear HO_161004
          clear BK155
          clear BK156
          clear BK160
          clear HB
          clear HO_161005
          have HO_161004:=n0_
          have BK155:=n1_
          have BK156:=n2_
          have BK160:=n3_
          have HB:=n4_
          have HO166:=n5_
          clear n0_ n1_ n2_ n3_ n4_ n5_
          clear ho hb hg hat
          obtain ⟨Ao29,co29,eo29⟩:=Kd.R_slice HO166.out
          (first|subst eo29|(injection eo29 with f1_ f2_ f3_;have f4_:=f1_.symm;have f5_:=f3_.symm;clear f1_ f2_ f3_;subst f4_;subst f5_))
          refine hK.out _ _ ⟨(blk_cell BK160.out 0).trans rfl,(blk_cell BK160.out 1).trans rfl,(blk_cell BK160.out 2).trans rfl,(blk_cell BK160.out 3).trans rfl,(blk_cell BK160.out 4).trans rfl,(blk_cell BK160.out 5).trans rfl,(blk_cell BK155.out 0).trans rfl,(blk_cell BK155.out 1).trans rfl,(blk_cell BK155.out 2).trans rfl,(blk_cell BK155.out 3).trans rfl,(blk_cell BK155.out 4).trans rfl,(blk_cell BK155.out 5).trans rfl,((HB.out.cell (World.block_lt_of_cell? w _ hw163_0)).trans hw163_0)⟩ (fun hHeld=>?_)
          clear hK K
          refine norm_ (a':=?_) ?_ ?_
          rotate_left
          ·show Act.put _ (some 52) _=_
           simp only [Act.put,sA_,s0_,s1_,i64_w,i32_w]
           rfl
          refine pure_ (i:=14) (N:=some 53) (v:=?_) (a':=?_) #[true,true,true,true,true,true,true,true,true,true,true,true,true,true,true,false] rfl rfl (any_of HT_.out (by kernel_rfl)) (fun _ _ _ h=>h) (Or.inl ⟨by rfl,?_⟩) ?_ ?_
          rotate_left
          ·intro w'
           go_simp
           with_reducible rfl
          rotate_left
          ·simp only [Act.put,sA_,s0_,s1_,i64_w,i32_w]
           rfl
          refine last_ (i:=15) (N:=none) #[true,true,true,true,true,true,true,true,true,true,true,true,true,true,true,true] rfl rfl (one_of HT_.out (by kernel_rfl)) (by decide) (fun K hK=>?_)
          have hs30:w28.cell? ⟨gb160,5,none⟩=some (u161005):=(blk_cell BK160.out 5).trans rfl
          have hfs30:=blk_frozen BK160.out 5
          have hns30_0:=NB155_160.out
          have hns30_1:=NB156_160.out
          have hms30_0:=NB160_155.out
          have hms30_1:=NB160_156.out
          refine skip_ (w1:=?_) (by rfl) rfl ?_ ?_
          rotate_left
          ·go_simp
           rfl
          refine hK.out _ _ ?_
          clear hK K
          refine done_ (done_of HT_.out (by kernel_rfl)) ?_
          try go_wp2
          go_roundg k2
          case measure=>have:=HK1.out;have:=HK2.out;omega
          case rel=>exact ⟨(wrap64 (x29_2+1)),(y164),(.slice Ao29 y164.length co29),(by first|rfl|(simp;done)|(simp [*];done)),H',⟨by have:=HK1.out;have:=HK2.out;omega⟩,⟨by (with_reducible repeat (first|apply rA_|apply rN_|apply rD_));exact Kd.R_mono (Kd.R_far (Kd.R_types HO_161004.out BK160.out (by decide)) (fun _ hk=>hk.2) _) (fun _ hk=>hk.1.2)⟩,⟨by (with_reducible repeat (first|apply rA_|apply rN_|apply rD_));exact Kd.R_mono (Kd.R_far (Kd.R_types HO166.out BK160.out (by decide)) (fun _ hk=>hk.2) _) (fun _ hk=>hk.1)⟩,⟨by (with_reducible repeat (first|apply kN_|apply kD_|apply kA_));refine blk_far ?_ NB155_160.out _;(with_reducible repeat (first|apply kN_|apply kD_|apply kA_));exact BK155.out⟩,⟨by (with_reducible repeat (first|apply kN_|apply kD_|apply kA_));refine blk_far ?_ NB156_160.out _;(with_reducible repeat (first|apply kN_|apply kD_|apply kA_));exact BK156.out⟩,⟨by (with_reducible repeat (first|apply kN_|apply kD_|apply kA_));refine blk_put (cs:=#[.int .i64 a0_0,.int .i64 a0_1,.int .i64 a1,.int .i64 a2,.slice Ao13 t157.length co13,u161005]) ?_ 5 _ rfl;(with_reducible repeat (first|apply kN_|apply kD_|apply kA_));exact BK160.out⟩,⟨by repeat (first|(with_reducible first|exact HB.out|apply wA_|apply wN_|apply wD_|refine below_set ?_ GE155.out|refine below_set ?_ GE156.out|refine below_set ?_ GE160.out)|exact HB.out)⟩⟩
         ·rw [if_neg c26] at H
          exact absurd H (by simp)
        ·rw [if_neg c25] at H
         exact absurd H (by simp)
       ·rw [if_neg c24] at H
        exact absurd H (by simp)
      ·rw [if_neg c21] at H
       have c21b0:decide (x29_2 < a1)=false:=decide_eq_false c21
       clear c21
       have H':=aM_ H
       clear H
       go_wp2
       go_roundg k2
       case measure=>have:=HK1.out;have:=HK2.out;omega
       case rel=>exact ⟨(wrap64 (x25_1+1)),(x161005_2),(u161005),(by first|rfl|(simp;done)|(simp [*];done)),H',⟨by have:=HK1.out;have:=HK2.out;omega⟩,⟨by (with_reducible repeat (first|apply rA_|apply rN_|apply rD_));exact HO_161004.out⟩,⟨by (with_reducible repeat (first|apply rA_|apply rN_|apply rD_));exact HO_161005.out⟩,⟨by (with_reducible repeat (first|apply kN_|apply kD_|apply kA_));exact BK155.out⟩,⟨by (with_reducible repeat (first|apply kN_|apply kD_|apply kA_));exact BK156.out⟩,⟨by (with_reducible repeat (first|apply kN_|apply kD_|apply kA_));exact BK160.out⟩,⟨by repeat (first|(with_reducible first|exact HB.out|apply wA_|apply wN_|apply wD_|refine below_set ?_ GE155.out|refine below_set ?_ GE156.out|refine below_set ?_ GE160.out)|exact HB.out)⟩⟩
   ·rw [if_neg c20] at H
    have c20b0:decide (x25_1 < a2)=false:=decide_eq_false c20
    clear c20
    simp only [Option.some.injEq,Prod.mk.injEq] at H
    obtain ⟨rfl,rfl,rfl,rfl,rfl,rfl⟩:=H
    have hnb31:=NB160_155.out
    have hnc31:=NB155_160.out
    have hnb32:=NB160_156.out
    have hnc32:=NB156_160.out
    obtain ⟨hcz33_0,hcz33_1,hcz33_2,hcz33_3,hcz33_4,hcz33_5⟩:=bc6 BK160.out
    obtain ⟨hfz33_0,hfz33_1,hfz33_2,hfz33_3,hfz33_4,hfz33_5⟩:=bf6 BK160.out
    have hnb34:=NB156_155.out
    have hnc34:=NB155_156.out
    obtain ⟨hcz35_0,hcz35_1,hcz35_2,hcz35_3,hcz35_4,hcz35_5⟩:=bc6 BK156.out
    obtain ⟨hfz35_0,hfz35_1,hfz35_2,hfz35_3,hfz35_4,hfz35_5⟩:=bf6 BK156.out
    obtain ⟨Ao36,co36,eo36⟩:=Kd.R_slice HO_161005.out
    subst eo36
    go_wp2
    refine bodyPost_ret (results_cell_row rfl _ _ gb156 27 #[.int .i64 a0_0,.int .i64 a0_1,.int .i64 a1,.int .i64 a2,.slice Ao13 t157.length co13,.slice Ao36 x161005_1.length co36] (0,0) _ rfl (by (with_reducible repeat (first|apply kN_|apply kD_|apply kA_));refine blk_put (cs:=#[.int .i64 a0_0,.int .i64 a0_1,.int .i64 a1,.int .i64 a2,.slice Ao13 t157.length co13,.slice none 0 0]) ?_ 5 _ rfl;(with_reducible repeat (first|apply kN_|apply kD_|apply kA_));refine blk_put (cs:=#[.int .i64 a0_0,.int .i64 a0_1,.int .i64 a1,.int .i64 a2,.slice none 0 0,.slice none 0 0]) ?_ 4 _ rfl;(with_reducible repeat (first|apply kN_|apply kD_|apply kA_));refine blk_put (cs:=#[.int .i64 a0_0,.int .i64 a0_1,.int .i64 a1,.int .i64 0,.slice none 0 0,.slice none 0 0]) ?_ 3 _ rfl;(with_reducible repeat (first|apply kN_|apply kD_|apply kA_));refine blk_put (cs:=#[.int .i64 a0_0,.int .i64 a0_1,.int .i64 0,.int .i64 0,.slice none 0 0,.slice none 0 0]) ?_ 2 _ rfl;(with_reducible repeat (first|apply kN_|apply kD_|apply kA_));refine blk_put (cs:=#[.int .i64 a0_0,.int .i64 0,.int .i64 0,.int .i64 0,.slice none 0 0,.slice none 0 0]) ?_ 1 _ rfl;(with_reducible repeat (first|apply kN_|apply kD_|apply kA_));refine blk_put (cs:=#[.int .i64 0,.int .i64 0,.int .i64 0,.int .i64 0,.slice none 0 0,.slice none 0 0]) ?_ 0 _ rfl;(with_reducible repeat (first|apply kN_|apply kD_|apply kA_));exact BK156.out) Try.underlying27 rfl (by kernel_rfl)) rfl ?_
    exact ⟨_,_,by first|rfl|(simp [errW_none,errW_some] <;> rfl)|(simp [*,errW_none,errW_some] <;> rfl),by (with_reducible repeat (first|apply rA_|apply rN_|apply rD_));exact Kd.R_mono (Kd.R_far (Kd.R_far (Kd.R_far (Kd.R_far (Kd.R_far (Kd.R_far (Kd.R_types HO_161004.out BK156.out (by decide)) (fun _ hk=>hk.2) _) (fun _ hk=>hk.2) _) (fun _ hk=>hk.2) _) (fun _ hk=>hk.2) _) (fun _ hk=>hk.2) _) (fun _ hk=>hk.2) _) (fun _ hk=>hk.1),by (with_reducible repeat (first|apply rA_|apply rN_|apply rD_));exact Kd.R_mono (Kd.R_far (Kd.R_far (Kd.R_far (Kd.R_far (Kd.R_far (Kd.R_far (Kd.R_types HO_161005.out BK156.out (by decide)) (fun _ hk=>hk.2) _) (fun _ hk=>hk.2) _) (fun _ hk=>hk.2) _) (fun _ hk=>hk.2) _) (fun _ hk=>hk.2) _) (fun _ hk=>hk.2) _) (fun _ hk=>hk.1),by repeat (first|(with_reducible first|exact HB.out|apply wA_|apply wN_|apply wD_|refine below_set ?_ GE155.out|refine below_set ?_ GE156.out|refine below_set ?_ GE160.out)|exact HB.out)⟩

/-! ### impl_ImageTurn: function 31 -/
def impl_ImageTurn.f (k:Nat) (a0_0:Int) (a0_1:Int) (a0_2:Int) (a0_3:Int) (l0_4:List Int) (l0_5:List Int):Option (Int × Int × Int × Int × List Int × List Int):=(impl_ImageOk.f k a0_0 a0_1 a0_2 a0_3 l0_4 l0_5).bind fun t169=>(if t169=true then ((impl_Image_made.f (fun x y=>some (y,wrap64 (wrap64 (a0_3 - 1) - x))) k a0_0 a0_1 a0_2 a0_3 l0_4 l0_5 a0_3 a0_2).bind fun bt170=>(some (bt170.1,bt170.2.1,bt170.2.2.1,bt170.2.2.2.1,bt170.2.2.2.2.1,bt170.2.2.2.2.2))) else (some (0,0,0,0,([]:List Int),([]:List Int))))
theorem impl_ImageTurn.mono:∀ a0 a1 a2 a3 a4 a5 k,LeO (impl_ImageTurn.f k a0 a1 a2 a3 a4 a5) (impl_ImageTurn.f (k+1) a0 a1 a2 a3 a4 a5):=by
 intro a0 a1 a2 a3 a4 a5 k
 unfold impl_ImageTurn.f
 repeat' first
   | (with_reducible exact impl_ImageOk.mono _ _ _ _ _ _ _)
   | (with_reducible exact impl_Image_made.mono _ _ _ _ _ _ _ _ _ _)
   | (with_reducible exact LeO.refl _)
   | (with_reducible exact LeO.none _)
   | (with_reducible refine LeO.ite ?_ ?_)
   | (with_reducible refine LeO.bind ?_ (fun _=>?_))
set_option maxHeartbeats 8000000 in
set_option maxRecDepth 100000 in
theorem impl_ImageTurn.clo (h:Int) (g:Nat) (x y:Int) (w:World) (hc:w.cell? ⟨g,3,none⟩=some (.int .i64 h)) :
  Calls Try.prog 61 #[.int .i64 x,.int .i64 y,.pointer (some ⟨g,0,none⟩)] w fun e w'=>e=.returned (.tuple #[.int .i64 y,.int .i64 (wrap64 (wrap64 (h - 1) - x))])∧Drawn0 w w':=by
 have hu_:=Try.underlying27
 go_enter Try.func61,Try.ntmps61
 go_wp2
 repeat (go_quiet (fail);try go_wp2)
 go_ret2
 exact ⟨by first|rfl|(simp;done),by repeat (first|exact Drawn0.refl _|apply Drawn0.step)⟩
set_option maxHeartbeats 8000000 in
set_option maxRecDepth 100000 in
theorem impl_ImageTurn.calls (k:Nat) (a0_0:Int) (a0_1:Int) (a0_2:Int) (a0_3:Int) (A0_4:Option Addr) (c0_4:Nat) (l0_4:List Int) (A0_5:Option Addr) (c0_5:Nat) (l0_5:List Int) (r1:Int) (r2:Int) (r3:Int) (r4:Int) (r5:List Int) (r6:List Int) (w:World) (hr0_4:Kd.C (Kd.int .i64) w A0_4 l0_4.length l0_4) (hc0_4:l0_4.length≤c0_4) (hr0_5:Kd.C (Kd.int .i64) w A0_5 l0_5.length l0_5) (hc0_5:l0_5.length≤c0_5) (h:impl_ImageTurn.f k a0_0 a0_1 a0_2 a0_3 l0_4 l0_5=some (r1,r2,r3,r4,r5,r6)) :
  Calls Try.prog 31 #[.agg #[.int .i64 a0_0,.int .i64 a0_1,.int .i64 a0_2,.int .i64 a0_3,.slice A0_4 l0_4.length c0_4,.slice A0_5 l0_5.length c0_5]] w fun e w'=>∃ v4_ v5_:Value,e=.returned (.agg #[.int .i64 r1,.int .i64 r2,.int .i64 r3,.int .i64 r4,v4_,v5_])∧Kd.R (Kd.int .i64) 3 w' w.heap.size (fun k_=>some k_≠(v5_:Value).ownBlock) v4_ r5∧Kd.R (Kd.int .i64) 3 w' w.heap.size (fun k_=>some k_≠(v4_:Value).ownBlock) v5_ r6∧Below w.heap.size w w':=by
 have hmf_:∀ (fn:Fn) (first cap:Array Value) (w:World),(Instr.makeFunc fn first cap).run Try.prog w=.ok (.func fn first cap) w:=fun _ _ _ _=>rfl
 have hu27:=Try.underlying27
 have HR0_4:=aM_ hr0_4
 have HC0_4:=aM_ hc0_4
 clear hr0_4 hc0_4
 have HR0_5:=aM_ hr0_5
 have HC0_5:=aM_ hc0_5
 clear hr0_5 hc0_5
 have HB:=aM_ (Below.refl w.heap.size w)
 have H:((impl_ImageOk.f k a0_0 a0_1 a0_2 a0_3 l0_4 l0_5).bind fun t169=>(if t169=true then ((impl_Image_made.f (fun x y=>some (y,wrap64 (wrap64 (a0_3 - 1) - x))) k a0_0 a0_1 a0_2 a0_3 l0_4 l0_5 a0_3 a0_2).bind fun bt170=>(some (bt170.1,bt170.2.1,bt170.2.2.1,bt170.2.2.2.1,bt170.2.2.2.2.1,bt170.2.2.2.2.2))) else (some (0,0,0,0,([]:List Int),([]:List Int)))))=some (r1,r2,r3,r4,r5,r6):=h
 clear h
 replace H:=Option.bind_eq_some_iff.mp H
 obtain ⟨t169,A20,H⟩:=H
 replace H:(if t169=true then ((impl_Image_made.f (fun x y=>some (y,wrap64 (wrap64 (a0_3 - 1) - x))) k a0_0 a0_1 a0_2 a0_3 l0_4 l0_5 a0_3 a0_2).bind fun bt170=>(some (bt170.1,bt170.2.1,bt170.2.2.1,bt170.2.2.2.1,bt170.2.2.2.2.1,bt170.2.2.2.2.2))) else (some (0,0,0,0,([]:List Int),([]:List Int))))=some (r1,r2,r3,r4,r5,r6):=H
 have A2:=aM_ A20
 clear A20
 by_cases c3:t169=true
 ·subst c3
  have H1:((impl_Image_made.f (fun x y=>some (y,wrap64 (wrap64 (a0_3 - 1) - x))) k a0_0 a0_1 a0_2 a0_3 l0_4 l0_5 a0_3 a0_2).bind fun bt170=>(some (bt170.1,bt170.2.1,bt170.2.2.1,bt170.2.2.2.1,bt170.2.2.2.2.1,bt170.2.2.2.2.2)))=some (r1,r2,r3,r4,r5,r6):=by first|(rw [if_pos rfl] at H;exact H)|rfl
  clear H
  have H:=H1
  clear H1
  replace H:=Option.bind_eq_some_iff.mp H
  obtain ⟨⟨t170,t171,t172,t173,t174,t177⟩,A40,H⟩:=H
  replace H:(some (t170,t171,t172,t173,t174,t177))=some (r1,r2,r3,r4,r5,r6):=H
  have A4:=aM_ A40
  clear A40
  simp only [Option.some.injEq,Prod.mk.injEq] at H
  obtain ⟨rfl,rfl,rfl,rfl,rfl,rfl⟩:=H
  go_enter Try.func31,Try.ntmps31
  go_wp2_with (first|((with_reducible refine gate_dst (N:=1) rfl ?_);refine box_event ?hg (N:=1) ?hd (cs:=#[.int .i64 a0_0,.int .i64 a0_1,.int .i64 a0_2,.int .i64 a0_3,.slice A0_4 l0_4.length c0_4,.slice A0_5 l0_5.length c0_5]) (t:=27) ?hr ?_;(case hd=>rfl);(case hg=>rfl);(case hr=>first|(go_simp;done)|(go_simp;rfl));intro gb167 hg w5 hbox hb;have n0_:=aM_ (below_step (by repeat (first|(with_reducible first|exact HB.out|apply wA_|apply wN_|apply wD_)|exact HB.out)) hb);have n1_:=aM_ (hbox);have n2_:=aM_ ((by rw [hg];exact (below_size (by repeat (first|(with_reducible first|exact HB.out|apply wA_|apply wN_|apply wD_)|exact HB.out))):w.heap.size≤gb167));have n3_:=aM_ ((by rw [hg];exact (below_size (by repeat (first|(with_reducible first|exact HB.out|apply wA_|apply wN_|apply wD_)|exact HB.out))):w.heap.size≤gb167));clear HB;have HB:=n0_;have BK167:=n1_;have GW167:=n2_;have GE167:=n3_;clear n0_ n1_ n2_ n3_;clear hb hbox hg)|((with_reducible refine gate_dst (N:=2) rfl ?_);refine box_event ?hg (N:=2) ?hd (cs:=#[.int .i64 0,.int .i64 0,.int .i64 0,.int .i64 0,.slice none 0 0,.slice none 0 0]) (t:=27) ?hr ?_;(case hd=>rfl);(case hg=>rfl);(case hr=>first|(go_simp;done)|(go_simp;rfl));intro gb168 hg w6 hbox hb;have n0_:=aM_ (blk_below (g:=gb167) (by (with_reducible repeat (first|apply kN_|apply kD_|apply kA_));exact BK167.out) hb);have n1_:=aM_ (below_step (by repeat (first|(with_reducible first|exact HB.out|apply wA_|apply wN_|apply wD_|refine below_set ?_ GE167.out)|exact HB.out)) hb);have n2_:=aM_ (hbox);have n3_:=aM_ ((by rw [hg];exact (below_size (by repeat (first|(with_reducible first|exact HB.out|apply wA_|apply wN_|apply wD_|refine below_set ?_ GE167.out)|exact HB.out))):w.heap.size≤gb168));have n4_:=aM_ ((by rw [hg];exact (below_size (by repeat (first|(with_reducible first|exact HB.out|apply wA_|apply wN_|apply wD_|refine below_set ?_ GE167.out)|exact HB.out))):w.heap.size≤gb168));have n5_:=aM_ ((by rw [hg];exact Nat.ne_of_lt (blk_lt (g:=gb167) (by (with_reducible repeat (first|apply kN_|apply kD_|apply kA_));exact BK167.out)):gb167≠gb168));have n6_:=aM_ n5_.out.symm;clear BK167;clear HB;have BK167:=n0_;have HB:=n1_;have BK168:=n2_;have GW168:=n3_;have GE168:=n4_;have NB167_168:=n5_;have NB168_167:=n6_;clear n0_ n1_ n2_ n3_ n4_ n5_ n6_;clear hb hbox hg;have hnb7:=NB167_168.out;have hnc7:=NB168_167.out;obtain ⟨hcz8_0,hcz8_1,hcz8_2,hcz8_3,hcz8_4,hcz8_5⟩:=bc6 BK167.out;obtain ⟨hfz8_0,hfz8_1,hfz8_2,hfz8_3,hfz8_4,hfz8_5⟩:=bf6 BK167.out)|((with_reducible refine gate_callee (f:=18) rfl ?_);refine goesL_ (some 4) rfl rfl Try.func18 (by kernel_rfl) rfl #[.agg #[.int .i64 a0_0,.int .i64 a0_1,.int .i64 a0_2,.int .i64 a0_3,.slice A0_4 l0_4.length c0_4,.slice A0_5 l0_5.length c0_5]] rfl (by (try simp only [List.map_toArray,List.map_cons,List.map_nil]);first|done|rfl|(simp only [List.length_drop,List.length_take];rfl)) ?_;(with_reducible refine (impl_ImageOk.calls k a0_0 a0_1 a0_2 a0_3 _ _ l0_4 _ _ l0_5 true _ ?side1 ?side2 ?side3 ?side4 A2.out).mono ?_);(case side1=>repeat (first|exact (Kd.C_below HR0_4.out HB.out)|(with_reducible refine Kd.C_alloc ?_ _)|(with_reducible refine Kd.C_drewN ?_ _)|(with_reducible refine Kd.C_drew ?_)));(case side2=>exact HC0_4.out);(case side3=>repeat (first|exact (Kd.C_below HR0_5.out HB.out)|(with_reducible refine Kd.C_alloc ?_ _)|(with_reducible refine Kd.C_drewN ?_ _)|(with_reducible refine Kd.C_drew ?_)));(case side4=>exact HC0_5.out);rintro e w9 ⟨rfl,hb⟩;refine ⟨_,rfl,?_⟩;have n0_:=aM_ (blk_below (g:=gb167) (by (with_reducible repeat (first|apply kN_|apply kD_|apply kA_));exact BK167.out) hb);have n1_:=aM_ (blk_below (g:=gb168) (by (with_reducible repeat (first|apply kN_|apply kD_|apply kA_));exact BK168.out) hb);have n2_:=aM_ (below_step (by repeat (first|(with_reducible first|exact HB.out|apply wA_|apply wN_|apply wD_|refine below_set ?_ GE167.out|refine below_set ?_ GE168.out)|exact HB.out)) hb);clear BK167;clear BK168;clear HB;have BK167:=n0_;have BK168:=n1_;have HB:=n2_;clear n0_ n1_ n2_;(try clear hb);(try clear hb2);(try clear hk);(try clear hi);obtain ⟨hcz10_0,hcz10_1,hcz10_2,hcz10_3,hcz10_4,hcz10_5⟩:=bc6 BK167.out;obtain ⟨hfz10_0,hfz10_1,hfz10_2,hfz10_3,hfz10_4,hfz10_5⟩:=bf6 BK167.out)|((with_reducible refine gate_callee (f:=57) rfl ?_);refine goesL_ (some 13) rfl rfl Try.func57 (by kernel_rfl) rfl #[.agg #[.int .i64 a0_0,.int .i64 a0_1,.int .i64 a0_2,.int .i64 a0_3,.slice A0_4 l0_4.length c0_4,.slice A0_5 l0_5.length c0_5],.int .i64 a0_3,.int .i64 a0_2,.func (.func 61) #[] #[.pointer (some ⟨gb167,0,none⟩)]] rfl (by (try simp only [List.map_toArray,List.map_cons,List.map_nil]);first|done|rfl|(simp only [List.length_drop,List.length_take];rfl)) ?_;(with_reducible refine (impl_Image_made.calls (fun x y=>some (y,wrap64 (wrap64 (a0_3 - 1) - x))) 61 Try.f61 #[.pointer (some ⟨gb167,0,none⟩)] k a0_0 a0_1 a0_2 a0_3 _ _ l0_4 _ _ l0_5 a0_3 a0_2 t170 t171 t172 t173 t174 t177 _ ?side1 ?side2 ?side3 ?side4 Try.func61 (by kernel_rfl) rfl (fun x_ y_ r_ s_ w_ he_ hb_=>by obtain ⟨rfl,rfl⟩:=Prod.mk.inj (Option.some.inj he_);rw [show (#[.int .i64 x_,.int .i64 y_] ++ #[.pointer (some ⟨gb167,0,none⟩)]:Array Value)=#[.int .i64 x_,.int .i64 y_,.pointer (some ⟨gb167,0,none⟩)] from by simp];exact impl_ImageTurn.clo a0_3 gb167 x_ y_ w_ ((blk_cell (blk_below BK167.out hb_) 3).trans rfl)) A4.out).mono ?_);(case side1=>repeat (first|exact (Kd.C_below HR0_4.out HB.out)|(with_reducible refine Kd.C_alloc ?_ _)|(with_reducible refine Kd.C_drewN ?_ _)|(with_reducible refine Kd.C_drew ?_)));(case side2=>exact HC0_4.out);(case side3=>repeat (first|exact (Kd.C_below HR0_5.out HB.out)|(with_reducible refine Kd.C_alloc ?_ _)|(with_reducible refine Kd.C_drewN ?_ _)|(with_reducible refine Kd.C_drew ?_)));(case side4=>exact HC0_5.out);rintro e w11 ⟨v175,v178,rfl,ho0,ho1,hb⟩;refine ⟨_,rfl,?_⟩;have n0_:=aM_ (Kd.R_lower ho0 (below_size (by repeat (first|(with_reducible first|exact HB.out|apply wA_|apply wN_|apply wD_|refine below_set ?_ GE167.out|refine below_set ?_ GE168.out)|exact HB.out))));have n1_:=aM_ (Kd.R_lower ho1 (below_size (by repeat (first|(with_reducible first|exact HB.out|apply wA_|apply wN_|apply wD_|refine below_set ?_ GE167.out|refine below_set ?_ GE168.out)|exact HB.out))));have n2_:=aM_ (blk_below (g:=gb167) (by (with_reducible repeat (first|apply kN_|apply kD_|apply kA_));exact BK167.out) hb);have n3_:=aM_ (blk_below (g:=gb168) (by (with_reducible repeat (first|apply kN_|apply kD_|apply kA_));exact BK168.out) hb);have n4_:=aM_ (below_step (by repeat (first|(with_reducible first|exact HB.out|apply wA_|apply wN_|apply wD_|refine below_set ?_ GE167.out|refine below_set ?_ GE168.out)|exact HB.out)) hb);clear BK167;clear BK168;clear HB;have HO176:=n0_;have HO179:=n1_;have BK167:=n2_;have BK168:=n3_;have HB:=n4_;clear n0_ n1_ n2_ n3_ n4_;(try clear hb);(try clear hb2);(try clear hk);(try clear hi);(try clear ho0);(try clear ho1);obtain ⟨hcz12_0,hcz12_1,hcz12_2,hcz12_3,hcz12_4,hcz12_5⟩:=bc6 BK168.out;obtain ⟨hfz12_0,hfz12_1,hfz12_2,hfz12_3,hfz12_4,hfz12_5⟩:=bf6 BK168.out;obtain ⟨Ao13,co13,eo13⟩:=Kd.R_slice HO176.out;subst eo13;obtain ⟨Ao14,co14,eo14⟩:=Kd.R_slice HO179.out;subst eo14))
  refine bodyPost_ret (results_cell_row rfl _ _ gb168 27 #[.int .i64 t170,.int .i64 t171,.int .i64 t172,.int .i64 t173,.slice Ao13 t174.length co13,.slice Ao14 t177.length co14] (0,0) _ rfl (by (with_reducible repeat (first|apply kN_|apply kD_|apply kA_));refine blk_put (cs:=#[.int .i64 t170,.int .i64 t171,.int .i64 t172,.int .i64 t173,.slice Ao13 t174.length co13,.slice none 0 0]) ?_ 5 _ rfl;(with_reducible repeat (first|apply kN_|apply kD_|apply kA_));refine blk_put (cs:=#[.int .i64 t170,.int .i64 t171,.int .i64 t172,.int .i64 t173,.slice none 0 0,.slice none 0 0]) ?_ 4 _ rfl;(with_reducible repeat (first|apply kN_|apply kD_|apply kA_));refine blk_put (cs:=#[.int .i64 t170,.int .i64 t171,.int .i64 t172,.int .i64 0,.slice none 0 0,.slice none 0 0]) ?_ 3 _ rfl;(with_reducible repeat (first|apply kN_|apply kD_|apply kA_));refine blk_put (cs:=#[.int .i64 t170,.int .i64 t171,.int .i64 0,.int .i64 0,.slice none 0 0,.slice none 0 0]) ?_ 2 _ rfl;(with_reducible repeat (first|apply kN_|apply kD_|apply kA_));refine blk_put (cs:=#[.int .i64 t170,.int .i64 0,.int .i64 0,.int .i64 0,.slice none 0 0,.slice none 0 0]) ?_ 1 _ rfl;(with_reducible repeat (first|apply kN_|apply kD_|apply kA_));refine blk_put (cs:=#[.int .i64 0,.int .i64 0,.int .i64 0,.int .i64 0,.slice none 0 0,.slice none 0 0]) ?_ 0 _ rfl;(with_reducible repeat (first|apply kN_|apply kD_|apply kA_));exact BK168.out) Try.underlying27 rfl (by kernel_rfl)) rfl ?_
  exact ⟨_,_,by first|rfl|(simp [errW_none,errW_some] <;> rfl)|(simp [*,errW_none,errW_some] <;> rfl),by (with_reducible repeat (first|apply rA_|apply rN_|apply rD_));exact Kd.R_mono (Kd.R_far (Kd.R_far (Kd.R_far (Kd.R_far (Kd.R_far (Kd.R_far (Kd.R_types HO176.out BK168.out (by decide)) (fun _ hk=>hk.2) _) (fun _ hk=>hk.2) _) (fun _ hk=>hk.2) _) (fun _ hk=>hk.2) _) (fun _ hk=>hk.2) _) (fun _ hk=>hk.2) _) (fun _ hk=>hk.1),by (with_reducible repeat (first|apply rA_|apply rN_|apply rD_));exact Kd.R_mono (Kd.R_far (Kd.R_far (Kd.R_far (Kd.R_far (Kd.R_far (Kd.R_far (Kd.R_types HO179.out BK168.out (by decide)) (fun _ hk=>hk.2) _) (fun _ hk=>hk.2) _) (fun _ hk=>hk.2) _) (fun _ hk=>hk.2) _) (fun _ hk=>hk.2) _) (fun _ hk=>hk.2) _) (fun _ hk=>hk.1),by repeat (first|(with_reducible first|exact HB.out|apply wA_|apply wN_|apply wD_|refine below_set ?_ GE167.out|refine below_set ?_ GE168.out)|exact HB.out)⟩
 ·replace c3:=Bool.eq_false_iff.mpr c3
  subst c3
  have H1:(some (0,0,0,0,([]:List Int),([]:List Int)))=some (r1,r2,r3,r4,r5,r6):=by first|(rw [if_neg (show ¬ (false=true) by decide)] at H;exact H)|rfl
  clear H
  have H:=H1
  clear H1
  simp only [Option.some.injEq,Prod.mk.injEq] at H
  obtain ⟨rfl,rfl,rfl,rfl,rfl,rfl⟩:=H
  go_enter Try.func31,Try.ntmps31
  go_wp2_with (first|((with_reducible refine gate_dst (N:=1) rfl ?_);refine box_event ?hg (N:=1) ?hd (cs:=#[.int .i64 a0_0,.int .i64 a0_1,.int .i64 a0_2,.int .i64 a0_3,.slice A0_4 l0_4.length c0_4,.slice A0_5 l0_5.length c0_5]) (t:=27) ?hr ?_;(case hd=>rfl);(case hg=>rfl);(case hr=>first|(go_simp;done)|(go_simp;rfl));intro gb167 hg w15 hbox hb;have n0_:=aM_ (below_step (by repeat (first|(with_reducible first|exact HB.out|apply wA_|apply wN_|apply wD_)|exact HB.out)) hb);have n1_:=aM_ (hbox);have n2_:=aM_ ((by rw [hg];exact (below_size (by repeat (first|(with_reducible first|exact HB.out|apply wA_|apply wN_|apply wD_)|exact HB.out))):w.heap.size≤gb167));have n3_:=aM_ ((by rw [hg];exact (below_size (by repeat (first|(with_reducible first|exact HB.out|apply wA_|apply wN_|apply wD_)|exact HB.out))):w.heap.size≤gb167));clear HB;have HB:=n0_;have BK167:=n1_;have GW167:=n2_;have GE167:=n3_;clear n0_ n1_ n2_ n3_;clear hb hbox hg)|((with_reducible refine gate_dst (N:=2) rfl ?_);refine box_event ?hg (N:=2) ?hd (cs:=#[.int .i64 0,.int .i64 0,.int .i64 0,.int .i64 0,.slice none 0 0,.slice none 0 0]) (t:=27) ?hr ?_;(case hd=>rfl);(case hg=>rfl);(case hr=>first|(go_simp;done)|(go_simp;rfl));intro gb168 hg w16 hbox hb;have n0_:=aM_ (blk_below (g:=gb167) (by (with_reducible repeat (first|apply kN_|apply kD_|apply kA_));exact BK167.out) hb);have n1_:=aM_ (below_step (by repeat (first|(with_reducible first|exact HB.out|apply wA_|apply wN_|apply wD_|refine below_set ?_ GE167.out)|exact HB.out)) hb);have n2_:=aM_ (hbox);have n3_:=aM_ ((by rw [hg];exact (below_size (by repeat (first|(with_reducible first|exact HB.out|apply wA_|apply wN_|apply wD_|refine below_set ?_ GE167.out)|exact HB.out))):w.heap.size≤gb168));have n4_:=aM_ ((by rw [hg];exact (below_size (by repeat (first|(with_reducible first|exact HB.out|apply wA_|apply wN_|apply wD_|refine below_set ?_ GE167.out)|exact HB.out))):w.heap.size≤gb168));have n5_:=aM_ ((by rw [hg];exact Nat.ne_of_lt (blk_lt (g:=gb167) (by (with_reducible repeat (first|apply kN_|apply kD_|apply kA_));exact BK167.out)):gb167≠gb168));have n6_:=aM_ n5_.out.symm;clear BK167;clear HB;have BK167:=n0_;have HB:=n1_;have BK168:=n2_;have GW168:=n3_;have GE168:=n4_;have NB167_168:=n5_;have NB168_167:=n6_;clear n0_ n1_ n2_ n3_ n4_ n5_ n6_;clear hb hbox hg;have hnb17:=NB167_168.out;have hnc17:=NB168_167.out;obtain ⟨hcz18_0,hcz18_1,hcz18_2,hcz18_3,hcz18_4,hcz18_5⟩:=bc6 BK167.out;obtain ⟨hfz18_0,hfz18_1,hfz18_2,hfz18_3,hfz18_4,hfz18_5⟩:=bf6 BK167.out)|((with_reducible refine gate_callee (f:=18) rfl ?_);refine goesL_ (some 4) rfl rfl Try.func18 (by kernel_rfl) rfl #[.agg #[.int .i64 a0_0,.int .i64 a0_1,.int .i64 a0_2,.int .i64 a0_3,.slice A0_4 l0_4.length c0_4,.slice A0_5 l0_5.length c0_5]] rfl (by (try simp only [List.map_toArray,List.map_cons,List.map_nil]);first|done|rfl|(simp only [List.length_drop,List.length_take];rfl)) ?_;(with_reducible refine (impl_ImageOk.calls k a0_0 a0_1 a0_2 a0_3 _ _ l0_4 _ _ l0_5 false _ ?side1 ?side2 ?side3 ?side4 A2.out).mono ?_);(case side1=>repeat (first|exact (Kd.C_below HR0_4.out HB.out)|(with_reducible refine Kd.C_alloc ?_ _)|(with_reducible refine Kd.C_drewN ?_ _)|(with_reducible refine Kd.C_drew ?_)));(case side2=>exact HC0_4.out);(case side3=>repeat (first|exact (Kd.C_below HR0_5.out HB.out)|(with_reducible refine Kd.C_alloc ?_ _)|(with_reducible refine Kd.C_drewN ?_ _)|(with_reducible refine Kd.C_drew ?_)));(case side4=>exact HC0_5.out);rintro e w19 ⟨rfl,hb⟩;refine ⟨_,rfl,?_⟩;have n0_:=aM_ (blk_below (g:=gb167) (by (with_reducible repeat (first|apply kN_|apply kD_|apply kA_));exact BK167.out) hb);have n1_:=aM_ (blk_below (g:=gb168) (by (with_reducible repeat (first|apply kN_|apply kD_|apply kA_));exact BK168.out) hb);have n2_:=aM_ (below_step (by repeat (first|(with_reducible first|exact HB.out|apply wA_|apply wN_|apply wD_|refine below_set ?_ GE167.out|refine below_set ?_ GE168.out)|exact HB.out)) hb);clear BK167;clear BK168;clear HB;have BK167:=n0_;have BK168:=n1_;have HB:=n2_;clear n0_ n1_ n2_;(try clear hb);(try clear hb2);(try clear hk);(try clear hi);obtain ⟨hcz20_0,hcz20_1,hcz20_2,hcz20_3,hcz20_4,hcz20_5⟩:=bc6 BK168.out;obtain ⟨hfz20_0,hfz20_1,hfz20_2,hfz20_3,hfz20_4,hfz20_5⟩:=bf6 BK168.out))
  refine bodyPost_ret (results_cell_row rfl _ _ gb168 27 #[.int .i64 0,.int .i64 0,.int .i64 0,.int .i64 0,.slice none 0 0,.slice none 0 0] (0,0) _ rfl (by (with_reducible repeat (first|apply kN_|apply kD_|apply kA_));refine blk_put (cs:=#[.int .i64 0,.int .i64 0,.int .i64 0,.int .i64 0,.slice none 0 0,.slice none 0 0]) ?_ 5 _ rfl;(with_reducible repeat (first|apply kN_|apply kD_|apply kA_));refine blk_put (cs:=#[.int .i64 0,.int .i64 0,.int .i64 0,.int .i64 0,.slice none 0 0,.slice none 0 0]) ?_ 4 _ rfl;(with_reducible repeat (first|apply kN_|apply kD_|apply kA_));refine blk_put (cs:=#[.int .i64 0,.int .i64 0,.int .i64 0,.int .i64 0,.slice none 0 0,.slice none 0 0]) ?_ 3 _ rfl;(with_reducible repeat (first|apply kN_|apply kD_|apply kA_));refine blk_put (cs:=#[.int .i64 0,.int .i64 0,.int .i64 0,.int .i64 0,.slice none 0 0,.slice none 0 0]) ?_ 2 _ rfl;(with_reducible repeat (first|apply kN_|apply kD_|apply kA_));refine blk_put (cs:=#[.int .i64 0,.int .i64 0,.int .i64 0,.int .i64 0,.slice none 0 0,.slice none 0 0]) ?_ 1 _ rfl;(with_reducible repeat (first|apply kN_|apply kD_|apply kA_));refine blk_put (cs:=#[.int .i64 0,.int .i64 0,.int .i64 0,.int .i64 0,.slice none 0 0,.slice none 0 0]) ?_ 0 _ rfl;(with_reducible repeat (first|apply kN_|apply kD_|apply kA_));exact BK168.out) Try.underlying27 rfl (by kernel_rfl)) rfl ?_
  exact ⟨_,_,by first|rfl|(simp [errW_none,errW_some] <;> rfl)|(simp [*,errW_none,errW_some] <;> rfl),by first|exact Kd.R_nil _ _ _ _ _|exact Kd.N_nil _ _ _ _ _|exact Kd.V_nil _ _ _ _ _|exact Kd.Q_nil _ _ _ _ _|exact Kd.S_nil _ _ _ _ _,by first|exact Kd.R_nil _ _ _ _ _|exact Kd.N_nil _ _ _ _ _|exact Kd.V_nil _ _ _ _ _|exact Kd.Q_nil _ _ _ _ _|exact Kd.S_nil _ _ _ _ _,by repeat (first|(with_reducible first|exact HB.out|apply wA_|apply wN_|apply wD_|refine below_set ?_ GE167.out|refine below_set ?_ GE168.out)|exact HB.out)⟩

end Go.Proofs.Ytkjfefiphdloiaa.PFnImageTurn
