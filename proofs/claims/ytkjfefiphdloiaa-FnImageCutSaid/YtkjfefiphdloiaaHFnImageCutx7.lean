/- What the functions that the law comes to compute, as plain functions, and that the machine's calls come to just that: written by a program for this claim, and turned where Lean did not take it. No condition. -/
import Derived.Lib.SliceRun
import Derived.Test.YtkjfefiphdloiaaThClo
import Derived.Test.YtkjfefiphdloiaaHFnImageCutx0
namespace Go.Proofs.Ytkjfefiphdloiaa.PFnImageCut
open Go.RowKit Go.Proofs.YtkjfefiphdloiaaW.PrintWords Go.Proofs.YtkjfefiphdloiaaW.PrintLast Go.Proofs.YtkjfefiphdloiaaW.PrintMore
attribute [local go_sem] max2_int min2_int max_two min_two max_three min_three max_four min_four   -- for this text's walks alone
set_option linter.unusedVariables false
set_option linter.unusedSimpArgs false

/-! ### slices_Clone_int_int: function 73 -/
def slices_Clone_int_int.f (l0:List Int):Option (List Int):=(some (([]:List Int):List Int)).bind fun y160=>(if y160.length+l0.length < 17592186044416 then (some (y160 ++ l0)) else (none))
set_option maxHeartbeats 8000000 in
set_option maxRecDepth 100000 in
theorem slices_Clone_int_int.calls (A0:Option Addr) (c0:Nat) (l0:List Int) (r:List Int) (w:World) (hr0:Kd.C (Kd.int .i64) w A0 l0.length l0) (hc0:l0.length≤c0) (h:slices_Clone_int_int.f l0=some r) :
  Calls Try.prog 73 #[.slice A0 l0.length c0] w fun e w'=>∃ v0_:Value,e=.returned (v0_)∧Kd.R (Kd.int .i64) 3 w' w.heap.size (fun _=>True) v0_ r∧Below w.heap.size w w':=by
 have HR0:=aM_ hr0
 have HC0:=aM_ hc0
 clear hr0 hc0
 have HB:=aM_ (Below.refl w.heap.size w)
 have H:((some (([]:List Int):List Int)).bind fun y160=>(if y160.length+l0.length < 17592186044416 then (some (y160 ++ l0)) else (none)))=some r:=h
 clear h
 obtain ⟨y160,hy160⟩:∃ y_:List Int,y_=(([]:List Int)):=⟨_,rfl⟩
 replace H:(if y160.length+l0.length < 17592186044416 then (some (y160 ++ l0)) else (none))=some r:=by first|(rw [hy160];with_reducible exact H)|(have H2_:=(Option.bind_some _ _).symm.trans H;rw [hy160];with_reducible exact H2_)|(have H2_:=(Option.bind_some _ _).symm.trans H;with_reducible exact H2_)|with_reducible exact H|(rw [hy160];exact H)|exact H
 have Ny160:=aM_ hy160
 clear hy160
 by_cases c2:y160.length+l0.length < 17592186044416
 ·rw [if_pos c2] at H
  have LMc2:=aM_ c2
  clear c2
  obtain ⟨y163,hy163⟩:∃ y_:List Int,y_=(y160 ++ l0):=⟨_,rfl⟩
  replace H:(some y163)=some r:=by first|(rw [hy163];with_reducible exact H)|(have H2_:=(Option.bind_some _ _).symm.trans H;rw [hy163];with_reducible exact H2_)|(have H2_:=(Option.bind_some _ _).symm.trans H;with_reducible exact H2_)|with_reducible exact H|(rw [hy163];exact H)|exact H
  have Ny163:=aM_ hy163
  clear hy163
  obtain rfl:=Option.some.inj H
  have hnil_:=fun (w:World)=>Go.Lib.run_eql_slice_nil (P:=Try.prog) w 22 3 A0 l0.length c0 0 0 Try.underlying22
  cases A0 with
  | none =>
   have hz_:l0=[]:=by
    refine List.eq_nil_of_length_eq_zero (Nat.eq_zero_of_not_pos fun h0_=>?_)
    obtain ⟨ad_,e_,_⟩:=HR0.out.2.2 h0_
    cases e_
   have hy_:y163=[]:=by rw [Ny163.out,Ny160.out,hz_];rfl
   have HY_:=aM_ hy_
   clear hy_ hz_
   go_enter Try.func73,Try.ntmps73
   go_wp2
   go_ret
   exact ⟨_,rfl,by rw [HY_.out];exact Kd.R_nil _ _ _ _ _,HB.out⟩
  | some adn_ =>
  go_enter Try.func73,Try.ntmps73
  go_wp2_with (first|((with_reducible refine gate_dst (N:=5) rfl ?_);refine Kd.R_lit (Kd.int .i64) _ 3 ?hg (N:=5) ?hd (xs:=([]:List Int)) (inner:=[]) (ok:=fun _=>True) (okp:=fun _=>True) ?hr ?hp (fun _ hk=>hk) trivial (Below.refl _ _) (Nat.le_refl _) (by simp) ?_;(case hd=>rfl);(case hg=>rfl);(case hr=>first|(go_simp;done)|(go_simp;rfl));(case hp=>exact (Reps.none _ _));intro v161 w3 ho4 hb hg_ hnew_;clear hg_ hnew_;(first|rw [← Ny160.out] at ho4|(simp only [Int.reduceToNat] at ho4;rw [← Ny160.out] at ho4));have n0_:=aM_ (Kd.R_lower ho4 (below_size (by repeat (first|(with_reducible first|exact HB.out|apply wA_|apply wN_|apply wD_)|exact HB.out))));have n1_:=aM_ (below_step (by repeat (first|(with_reducible first|exact HB.out|apply wA_|apply wN_|apply wD_)|exact HB.out)) hb);clear HB;have HO162:=n0_;have HB:=n1_;clear n0_ n1_;clear hb ho4)|((with_reducible refine gate_builtin (b:=.append) (xs:=#[.tmp 5,.tmp 6]) rfl ?_);at_builtin;refine Kd.R_append_rows (Kd.int .i64) (w0:=w) w.heap.size rfl (.tmp 5) (.tmp 6) 22 3 (.int .i64 0) 8 rfl Try.underlying22 info3 rfl (by decide) (by omega) v161 y160 l0 _ _ _ (fun _=>True) (fun _=>False) rfl rfl ?aO ?aR (fun _ _ h=>h) (fun _ h=>h.elim) ?aF ?aB ?aS ?aL ?_;(case aR=>repeat (first|exact (Kd.C_below HR0.out HB.out)|(with_reducible refine Kd.C_alloc ?_ _)|(with_reducible refine Kd.C_drewN ?_ _)|(with_reducible refine Kd.C_drew ?_)));(case aB=>exact (by repeat (first|(with_reducible first|exact HB.out|apply wA_|apply wN_|apply wD_)|exact HB.out)));(case aF=>exact (fun _ _=>trivial));(case aO=>exact (by (with_reducible repeat (first|apply rA_|apply rN_|apply rD_));exact HO162.out));(case aS=>exact (below_size (by repeat (first|(with_reducible first|exact HB.out|apply wA_|apply wN_|apply wD_)|exact HB.out))));(case aL=>have:=LMc2.out;omega);intro v164 w5 ho hb hg hat;rw [← Ny163.out] at ho;have n0_:=aM_ (hb);have n1_:=aM_ (ho);clear HB;clear HO162;have HB:=n0_;have HO165:=n1_;clear n0_ n1_;clear ho hb hg hat))
  go_ret
  exact ⟨_,by first|rfl|(simp [errW_none,errW_some] <;> rfl)|(simp [*,errW_none,errW_some] <;> rfl),by (with_reducible repeat (first|apply rA_|apply rN_|apply rD_));exact HO165.out,by repeat (first|(with_reducible first|exact HB.out|apply wA_|apply wN_|apply wD_)|exact HB.out)⟩
 ·rw [if_neg c2] at H
  exact absurd H (by simp)

/-! ### impl_Image_made: function 57 -/
mutual
def impl_Image_made.l0 (cl:Int → Int → Option (Int × Int)):Nat → Int → Int → Int → Int → Int → Int → Int → List Int → List Int → Int → Int → Int → Int → List Int → List Int → Option (Int × Int × Int × Int × List Int × List Int)
 | 0,_,_,_,_,_,_,_,_,_,_,_,_,_,_,_=>none
 | k+1,x1,x24,x25,x167000,x167001,x167002,x167003,x167004,x167005,x172000,x172001,x172002,x172003,x172004,x172005=>if x25 < x24 then (impl_Image_made.l1 cl k x1 x25 x24 x25 x1 0 x167000 x167001 x167002 x167003 x167004 x167005 x172000 x172001 x172002 x172003 x172004 x172005) else (some (x172000,x172001,x172002,x172003,x172004,x172005))
def impl_Image_made.l1 (cl:Int → Int → Option (Int × Int)):Nat → Int → Int → Int → Int → Int → Int → Int → Int → Int → Int → List Int → List Int → Int → Int → Int → Int → List Int → List Int → Option (Int × Int × Int × Int × List Int × List Int)
 | 0,_,_,_,_,_,_,_,_,_,_,_,_,_,_,_,_,_,_=>none
 | k+1,x1,x10,x24,x25,x28,x29,x167000,x167001,x167002,x167003,x167004,x167005,x172000,x172001,x172002,x172003,x172004,x172005=>if x29 < x28 then ((cl x29 x10).bind fun bt172=>(if 0≤(wrap64 ((wrap64 (bt172.2 * x167002))+bt172.1)) then (if (wrap64 ((wrap64 (bt172.2 * x167002))+bt172.1)) < (x167005.length:Int) then (if x172005.length < 17592186044416 then (impl_Image_made.l1 cl k x1 x10 x24 x25 x28 (wrap64 (x29+1)) x167000 x167001 x167002 x167003 x167004 x167005 x172000 x172001 x172002 x172003 x172004 (x172005 ++ [rd x167005 (wrap64 ((wrap64 (bt172.2 * x167002))+bt172.1))])) else (none)) else (none)) else (none))) else (impl_Image_made.l0 cl k x1 x24 (wrap64 (x25+1)) x167000 x167001 x167002 x167003 x167004 x167005 x172000 x172001 x172002 x172003 x172004 x172005)
end
def impl_Image_made.f (cl:Int → Int → Option (Int × Int)) (k:Nat) (a0_0:Int) (a0_1:Int) (a0_2:Int) (a0_3:Int) (l0_4:List Int) (l0_5:List Int) (a1:Int) (a2:Int):Option (Int × Int × Int × Int × List Int × List Int):=(slices_Clone_int_int.f l0_4).bind fun t168=>(impl_Image_made.l0 cl k a1 a2 0 a0_0 a0_1 a0_2 a0_3 l0_4 l0_5 a0_0 a0_1 a1 a2 t168 ([]:List Int))
theorem impl_Image_made.mono_l (cl:Int → Int → Option (Int × Int)):∀ k,(∀ y0 y1 y2 y3 y4 y5 y6 y7 y8 y9 y10 y11 y12 y13 y14,LeO (impl_Image_made.l0 cl k y0 y1 y2 y3 y4 y5 y6 y7 y8 y9 y10 y11 y12 y13 y14) (impl_Image_made.l0 cl (k+1) y0 y1 y2 y3 y4 y5 y6 y7 y8 y9 y10 y11 y12 y13 y14))∧(∀ y0 y1 y2 y3 y4 y5 y6 y7 y8 y9 y10 y11 y12 y13 y14 y15 y16 y17,LeO (impl_Image_made.l1 cl k y0 y1 y2 y3 y4 y5 y6 y7 y8 y9 y10 y11 y12 y13 y14 y15 y16 y17) (impl_Image_made.l1 cl (k+1) y0 y1 y2 y3 y4 y5 y6 y7 y8 y9 y10 y11 y12 y13 y14 y15 y16 y17))
 | 0=>⟨fun _ _ _ _ _ _ _ _ _ _ _ _ _ _ _ r h=>by simp [impl_Image_made.l0] at h,fun _ _ _ _ _ _ _ _ _ _ _ _ _ _ _ _ _ _ r h=>by simp [impl_Image_made.l1] at h⟩
 | k+1=>by
  obtain ⟨ih0,ih1⟩:=impl_Image_made.mono_l cl k
  refine ⟨?_,?_⟩
  ·intro y0 y1 y2 y3 y4 y5 y6 y7 y8 y9 y10 y11 y12 y13 y14
   unfold impl_Image_made.l0
   repeat' first
   | (with_reducible exact ih0 _ _ _ _ _ _ _ _ _ _ _ _ _ _ _)
   | (with_reducible exact ih1 _ _ _ _ _ _ _ _ _ _ _ _ _ _ _ _ _ _)
   | (with_reducible exact LeO.refl _)
   | (with_reducible exact LeO.none _)
   | (with_reducible refine LeO.ite ?_ ?_)
   | (with_reducible refine LeO.bind ?_ (fun _=>?_))
  ·intro y0 y1 y2 y3 y4 y5 y6 y7 y8 y9 y10 y11 y12 y13 y14 y15 y16 y17
   unfold impl_Image_made.l1
   repeat' first
   | (with_reducible exact ih0 _ _ _ _ _ _ _ _ _ _ _ _ _ _ _)
   | (with_reducible exact ih1 _ _ _ _ _ _ _ _ _ _ _ _ _ _ _ _ _ _)
   | (with_reducible exact LeO.refl _)
   | (with_reducible exact LeO.none _)
   | (with_reducible refine LeO.ite ?_ ?_)
   | (with_reducible refine LeO.bind ?_ (fun _=>?_))
theorem impl_Image_made.mono (cl:Int → Int → Option (Int × Int)):∀ a0 a1 a2 a3 a4 a5 a6 a7 k,LeO (impl_Image_made.f cl k a0 a1 a2 a3 a4 a5 a6 a7) (impl_Image_made.f cl (k+1) a0 a1 a2 a3 a4 a5 a6 a7):=by
 intro a0 a1 a2 a3 a4 a5 a6 a7 k
 obtain ⟨ih0,ih1⟩:=impl_Image_made.mono_l cl k
 unfold impl_Image_made.f
 repeat' first
   | (with_reducible exact ih0 _ _ _ _ _ _ _ _ _ _ _ _ _ _ _)
   | (with_reducible exact ih1 _ _ _ _ _ _ _ _ _ _ _ _ _ _ _ _ _ _)
   | (with_reducible exact LeO.refl _)
   | (with_reducible exact LeO.none _)
   | (with_reducible refine LeO.ite ?_ ?_)
   | (with_reducible refine LeO.bind ?_ (fun _=>?_))
def impl_Image_made.T1:Bool × List (List Nat × List Nat):=(true,[([],[]),([0],[0]),([],[]),([2],[2]),([],[]),([],[]),([],[]),([6],[6]),([7],[7]),([1,3,4,5,8],[1,3,4,5,8]),([],[]),([10,9,8,0,1,2,3,4,5,6,7,8,9,10],[9,10])])
def impl_Image_made.B1:List Nat:=[0,1,0,4,0,0,0,64,192,511,0,2047]
theorem impl_Image_made.tab1:rtab .any (opsOf Try.f57 1)=impl_Image_made.T1:=by kernel_rfl
theorem impl_Image_made.bits1:waitsOk impl_Image_made.T1.2 impl_Image_made.B1=true:=by kernel_rfl
def impl_Image_made.T9:Bool × List (List Nat × List Nat):=(true,[([],[]),([0],[0]),([],[]),([2],[2]),([],[]),([],[]),([5],[5]),([4,6],[4,6]),([],[]),([7,8],[7,8]),([3,9],[3,9]),([10],[10]),([11],[11]),([1,12],[1,12]),([0,1,2,3,4,5,6,7,8,9,10,11,12,13],[]),([14,13,13,0,1,2,3,4,5,6,7,8,9,10,11,12,13],[13,14])])
def impl_Image_made.B9:List Nat:=[0,1,0,4,0,0,32,112,0,496,1020,2044,4092,8191,16383,32767]
theorem impl_Image_made.tab9:rtab .any (opsOf Try.f57 9)=impl_Image_made.T9:=by kernel_rfl
theorem impl_Image_made.bits9:waitsOk impl_Image_made.T9.2 impl_Image_made.B9=true:=by kernel_rfl
set_option maxHeartbeats 8000000 in
set_option maxRecDepth 100000 in
theorem impl_Image_made.calls (cl : Int → Int → Option (Int × Int)) (F_ : FuncId) (fn_ : Func) (cap_ : Array Value) (k : Nat) (a0_0 : Int) (a0_1 : Int) (a0_2 : Int) (a0_3 : Int) (A0_4 : Option Addr) (c0_4 : Nat) (l0_4 : List Int) (A0_5 : Option Addr) (c0_5 : Nat) (l0_5 : List Int) (a1 : Int) (a2 : Int) (r1 : Int) (r2 : Int) (r3 : Int) (r4 : Int) (r5 : List Int) (r6 : List Int) (w : World) (hr0_4 : Kd.C (Kd.int .i64) w A0_4 l0_4.length l0_4) (hc0_4 : l0_4.length ≤ c0_4) (hr0_5 : Kd.C (Kd.int .i64) w A0_5 l0_5.length l0_5) (hc0_5 : l0_5.length ≤ c0_5) (hfn_ : Try.prog.funcs[F_]? = some fn_) (hnm_ : (fn_.name == "runtime.NumGoroutine") = false) (hbd_ : fn_.body.isSome = true) (hcl_ : ∀ (x y r s : Int) (w' : World), cl x y = some (r, s) → Below w.heap.size w w' → Calls Try.prog F_ (#[.int .i64 x, .int .i64 y] ++ cap_) w' fun e w'' => e = .returned (.tuple #[.int .i64 r, .int .i64 s]) ∧ Drawn0 w' w'') (h : impl_Image_made.f cl k a0_0 a0_1 a0_2 a0_3 l0_4 l0_5 a1 a2 = some (r1, r2, r3, r4, r5, r6)) :
  Calls Try.prog 57 #[.agg #[.int .i64 a0_0,.int .i64 a0_1,.int .i64 a0_2,.int .i64 a0_3,.slice A0_4 l0_4.length c0_4,.slice A0_5 l0_5.length c0_5],.int .i64 a1,.int .i64 a2,.func (.func F_) #[] cap_] w fun e w'=>∃ v4_ v5_:Value,e=.returned (.agg #[.int .i64 r1,.int .i64 r2,.int .i64 r3,.int .i64 r4,v4_,v5_])∧Kd.R (Kd.int .i64) 3 w' w.heap.size (fun k_=>some k_≠(v5_:Value).ownBlock) v4_ r5∧Kd.R (Kd.int .i64) 3 w' w.heap.size (fun k_=>some k_≠(v4_:Value).ownBlock) v5_ r6∧Below w.heap.size w w':=by
 have hu27:=Try.underlying27
 have HFN_:=aM_ hfn_
 have HNM_:=aM_ hnm_
 have HBD_:=aM_ hbd_
 have HCL_:=aM_ hcl_
 clear hfn_ hnm_ hbd_ hcl_
 have HR0_4:=aM_ hr0_4
 have HC0_4:=aM_ hc0_4
 clear hr0_4 hc0_4
 have HR0_5:=aM_ hr0_5
 have HC0_5:=aM_ hc0_5
 clear hr0_5 hc0_5
 have HB:=aM_ (Below.refl w.heap.size w)
 have H:((slices_Clone_int_int.f l0_4).bind fun t168=>(impl_Image_made.l0 cl k a1 a2 0 a0_0 a0_1 a0_2 a0_3 l0_4 l0_5 a0_0 a0_1 a1 a2 t168 ([]:List Int)))=some (r1,r2,r3,r4,r5,r6):=h
 clear h
 replace H:=Option.bind_eq_some_iff.mp H
 obtain ⟨t168,A50,H⟩:=H
 replace H:(impl_Image_made.l0 cl k a1 a2 0 a0_0 a0_1 a0_2 a0_3 l0_4 l0_5 a0_0 a0_1 a1 a2 t168 ([]:List Int))=some (r1,r2,r3,r4,r5,r6):=H
 have A5:=aM_ A50
 clear A50
 have H':=aM_ H
 clear H
 go_enter Try.func57,Try.ntmps57
 try go_wp2_with (first|((with_reducible refine gate_dst (N:=4) rfl ?_);refine box_event ?hg (N:=4) ?hd (cs:=#[.int .i64 a0_0,.int .i64 a0_1,.int .i64 a0_2,.int .i64 a0_3,.slice A0_4 l0_4.length c0_4,.slice A0_5 l0_5.length c0_5]) (t:=27) ?hr ?_;(case hd=>rfl);(case hg=>rfl);(case hr=>first|(go_simp;done)|(go_simp;rfl));intro gb166 hg w6 hbox hb;have n0_:=aM_ (below_step (by repeat (first|(with_reducible first|exact HB.out|apply wA_|apply wN_|apply wD_)|exact HB.out)) hb);have n1_:=aM_ (hbox);have n2_:=aM_ ((by rw [hg];exact (below_size (by repeat (first|(with_reducible first|exact HB.out|apply wA_|apply wN_|apply wD_)|exact HB.out))):w.heap.size≤gb166));have n3_:=aM_ ((by rw [hg];exact (below_size (by repeat (first|(with_reducible first|exact HB.out|apply wA_|apply wN_|apply wD_)|exact HB.out))):w.heap.size≤gb166));clear HB;have HB:=n0_;have BK166:=n1_;have GW166:=n2_;have GE166:=n3_;clear n0_ n1_ n2_ n3_;clear hb hbox hg)|((with_reducible refine gate_dst (N:=8) rfl ?_);refine box_event ?hg (N:=8) ?hd (cs:=#[.int .i64 0,.int .i64 0,.int .i64 0,.int .i64 0,.slice none 0 0,.slice none 0 0]) (t:=27) ?hr ?_;(case hd=>rfl);(case hg=>rfl);(case hr=>first|(go_simp;done)|(go_simp;rfl));intro gb167 hg w7 hbox hb;have n0_:=aM_ (blk_below (g:=gb166) (by (with_reducible repeat (first|apply kN_|apply kD_|apply kA_));exact BK166.out) hb);have n1_:=aM_ (below_step (by repeat (first|(with_reducible first|exact HB.out|apply wA_|apply wN_|apply wD_|refine below_set ?_ GE166.out)|exact HB.out)) hb);have n2_:=aM_ (hbox);have n3_:=aM_ ((by rw [hg];exact (below_size (by repeat (first|(with_reducible first|exact HB.out|apply wA_|apply wN_|apply wD_|refine below_set ?_ GE166.out)|exact HB.out))):w.heap.size≤gb167));have n4_:=aM_ ((by rw [hg];exact (below_size (by repeat (first|(with_reducible first|exact HB.out|apply wA_|apply wN_|apply wD_|refine below_set ?_ GE166.out)|exact HB.out))):w.heap.size≤gb167));have n5_:=aM_ ((by rw [hg];exact Nat.ne_of_lt (blk_lt (g:=gb166) (by (with_reducible repeat (first|apply kN_|apply kD_|apply kA_));exact BK166.out)):gb166≠gb167));have n6_:=aM_ n5_.out.symm;clear BK166;clear HB;have BK166:=n0_;have HB:=n1_;have BK167:=n2_;have GW167:=n3_;have GE167:=n4_;have NB166_167:=n5_;have NB167_166:=n6_;clear n0_ n1_ n2_ n3_ n4_ n5_ n6_;clear hb hbox hg))
 have n0_:=aM_ (kD_ BK166.out)
 have n1_:=aM_ (kD_ BK167.out)
 have n2_:=aM_ (wD_ HB.out)
 clear BK166
 clear BK167
 clear HB
 have BK166:=n0_
 have BK167:=n1_
 have HB:=n2_
 clear n0_ n1_ n2_
 refine start_ (n:=12) (S:=fun w'=>w'.cell? ⟨gb166,0,none⟩=some (.int .i64 a0_0)∧w'.cell? ⟨gb166,1,none⟩=some (.int .i64 a0_1)∧w'.cell? ⟨gb166,2,none⟩=some (.int .i64 a0_2)∧w'.cell? ⟨gb166,3,none⟩=some (.int .i64 a0_3)∧w'.cell? ⟨gb166,4,none⟩=some (.slice A0_4 l0_4.length c0_4)∧w'.cell? ⟨gb166,5,none⟩=some (.slice A0_5 l0_5.length c0_5)) (ds:=[]) #[false,false,false,false,false,false,false,false,false,false,false,false] (by kernel_rfl) rfl rfl (bc6 BK166.out) (fun hHeld=>?_);refine with_tabW impl_Image_made.tab1 impl_Image_made.bits1 (fun HT_ HW_=>?_)
 generalize w7.drew=w8 at BK166 BK167 HB hHeld ⊢
 refine pure_ (i:=0) (N:=some 14) (v:=?_) (a':=?_) #[true,false,false,false,false,false,false,false,false,false,false,false] rfl rfl (any_of HT_.out (by kernel_rfl)) (fun _ _ _ h=>h) (Or.inl ⟨by rfl,?_⟩) ?_ ?_
 rotate_left
 ·intro w'
  go_simp
  with_reducible rfl
 rotate_left
 ·simp only [Act.put,sA_,s0_,s1_,i64_w,i32_w]
  rfl
 refine pure_ (i:=2) (N:=some 16) (v:=?_) (a':=?_) #[true,false,true,false,false,false,false,false,false,false,false,false] rfl rfl (any_of HT_.out (by kernel_rfl)) (fun _ _ _ h=>h) (Or.inl ⟨by rfl,?_⟩) ?_ ?_
 rotate_left
 ·intro w'
  go_simp
  with_reducible rfl
 rotate_left
 ·simp only [Act.put,sA_,s0_,s1_,i64_w,i32_w]
  rfl
 refine pure_ (i:=4) (N:=some 18) (v:=?_) (a':=?_) #[true,false,true,false,true,false,false,false,false,false,false,false] rfl rfl (any_of HT_.out (by kernel_rfl)) (fun _ _ _ h=>h) (Or.inl ⟨by rfl,?_⟩) ?_ ?_
 rotate_left
 ·intro w'
  go_simp
  with_reducible rfl
 rotate_left
 ·simp only [Act.put,sA_,s0_,s1_,i64_w,i32_w]
  rfl
 refine pure_ (i:=5) (N:=some 19) (v:=?_) (a':=?_) #[true,false,true,false,true,true,false,false,false,false,false,false] rfl rfl (any_of HT_.out (by kernel_rfl)) (fun _ _ _ h=>h) (Or.inl ⟨by rfl,?_⟩) ?_ ?_
 rotate_left
 ·intro w'
  go_simp
  with_reducible rfl
 rotate_left
 ·simp only [Act.put,sA_,s0_,s1_,i64_w,i32_w]
  rfl
 refine pure_ (i:=6) (N:=some 20) (v:=?_) (a':=?_) #[true,false,true,false,true,true,true,false,false,false,false,false] rfl rfl (any_of HT_.out (by kernel_rfl)) (fun _ _ _ h=>h) (Or.inl ⟨by rfl,?_⟩) ?_ ?_
 rotate_left
 ·intro w'
  go_simp
  with_reducible rfl
 rotate_left
 ·simp only [Act.put,sA_,s0_,s1_,i64_w,i32_w]
  rfl
 refine take_ (i:=1) (N:=some 15) (v:=?_) (a':=?_) #[true,true,true,false,true,true,true,false,false,false,false,false] rfl rfl (take_ofW HT_.out HW_.out (by kernel_rfl)) (fun _ _ _ h=>h) (Or.inl ⟨by rfl,?_⟩) hHeld ?_ ?_
 rotate_left
 ·rintro w' ⟨s0,s1,s2,s3,s4,s5⟩
  go_simp
  with_reducible rfl
 rotate_left
 ·simp only [Act.put,sA_,s0_,s1_,i64_w,i32_w]
  rfl
 refine take_ (i:=3) (N:=some 17) (v:=?_) (a':=?_) #[true,true,true,true,true,true,true,false,false,false,false,false] rfl rfl (take_ofW HT_.out HW_.out (by kernel_rfl)) (fun _ _ _ h=>h) (Or.inl ⟨by rfl,?_⟩) hHeld ?_ ?_
 rotate_left
 ·rintro w' ⟨s0,s1,s2,s3,s4,s5⟩
  go_simp
  with_reducible rfl
 rotate_left
 ·simp only [Act.put,sA_,s0_,s1_,i64_w,i32_w]
  rfl
 refine take_ (i:=7) (N:=some 21) (v:=?_) (a':=?_) #[true,true,true,true,true,true,true,true,false,false,false,false] rfl rfl (take_ofW HT_.out HW_.out (by kernel_rfl)) (fun _ _ _ h=>h) (Or.inl ⟨by rfl,?_⟩) hHeld ?_ ?_
 rotate_left
 ·rintro w' ⟨s0,s1,s2,s3,s4,s5⟩
  go_simp
  with_reducible rfl
 rotate_left
 ·simp only [Act.put,sA_,s0_,s1_,i64_w,i32_w]
  rfl
 refine join_ (σ:=Value × Nat) 1 #[true,true,true,true,true,true,true,true,true,true,true,false] (fun s_=>[(22,s_.1),(9,.pointer (some ⟨s_.2,0,none⟩)),(23,.agg #[.int .i64 a0_0,.int .i64 a0_1,.int .i64 a1,.int .i64 a2,s_.1,.slice none 0 0])]) (fun s_ w'=>(w'.cell? ⟨gb166,0,none⟩=some (.int .i64 a0_0)∧w'.cell? ⟨gb166,1,none⟩=some (.int .i64 a0_1)∧w'.cell? ⟨gb166,2,none⟩=some (.int .i64 a0_2)∧w'.cell? ⟨gb166,3,none⟩=some (.int .i64 a0_3)∧w'.cell? ⟨gb166,4,none⟩=some (.slice A0_4 l0_4.length c0_4)∧w'.cell? ⟨gb166,5,none⟩=some (.slice A0_5 l0_5.length c0_5))∧(Kd.R (Kd.int .i64) 3 w' w.heap.size (fun _=>True) s_.1 t168)∧(w'.heap[gb166]?=some (.cells #[.int .i64 a0_0,.int .i64 a0_1,.int .i64 a0_2,.int .i64 a0_3,.slice A0_4 l0_4.length c0_4,.slice A0_5 l0_5.length c0_5] 27 (0,0)))∧(w'.heap[gb167]?=some (.cells #[.int .i64 0,.int .i64 0,.int .i64 0,.int .i64 0,.slice none 0 0,.slice none 0 0] 27 (0,0)))∧(w'.heap[s_.2]?=some (.cells #[.int .i64 0,.int .i64 0,.int .i64 0,.int .i64 0,.slice none 0 0,.slice none 0 0] 27 (0,0)))∧(w.heap.size≤s_.2)∧(w.heap.size≤s_.2)∧(gb166≠s_.2)∧(s_.2≠gb166)∧(gb167≠s_.2)∧(s_.2≠gb167)∧(Below w.heap.size w w')) ?_ ?_
 rotate_left
 ·intro hCont
  refine two_ (i:=8) (j:=10) (Ni:=some 22) (Nj:=some 9) #[true,true,true,true,true,true,true,true,true,false,false,false] #[true,true,true,true,true,true,true,true,false,false,true,false] rfl rfl rfl rfl (two_of HT_.out (by kernel_rfl)) (by decide) (by decide) (fun K hK=>?_) (fun K hK=>?_)
  ·skip
   refine goes_ Try.func73 (by kernel_rfl) rfl #[.slice A0_4 l0_4.length c0_4] (by rfl) rfl rfl (by (try simp only [List.map_toArray,List.map_cons,List.map_nil]);first|done|rfl|(simp only [List.length_drop,List.length_take];rfl)) ?_
   with_reducible refine (slices_Clone_int_int.calls _ _ l0_4 t168 _ ?side1 ?side2 A5.out).mono ?_
   (case side1=>repeat (first|exact (Kd.C_below HR0_4.out HB.out)|(with_reducible refine Kd.C_alloc ?_ _)|(with_reducible refine Kd.C_drewN ?_ _)|(with_reducible refine Kd.C_drew ?_)))
   (case side2=>exact HC0_4.out)
   rintro e w9 ⟨v169,rfl,ho0,hb⟩
   refine ⟨_,rfl,?_⟩
   have n0_:=aM_ (Kd.R_lower ho0 (below_size (by repeat (first|(with_reducible first|exact HB.out|apply wA_|apply wN_|apply wD_|refine below_set ?_ GE166.out|refine below_set ?_ GE167.out)|exact HB.out))))
   have n1_:=aM_ (blk_below (g:=gb166) (by (with_reducible repeat (first|apply kN_|apply kD_|apply kA_));exact BK166.out) hb)
   have n2_:=aM_ (blk_below (g:=gb167) (by (with_reducible repeat (first|apply kN_|apply kD_|apply kA_));exact BK167.out) hb)
   have n3_:=aM_ (below_step (by repeat (first|(with_reducible first|exact HB.out|apply wA_|apply wN_|apply wD_|refine below_set ?_ GE166.out|refine below_set ?_ GE167.out)|exact HB.out)) hb)
   clear BK166
   clear BK167
   clear HB
   have HO170:=n0_
   have BK166:=n1_
   have BK167:=n2_
   have HB:=n3_
   clear n0_ n1_ n2_ n3_
   (try clear hb)
   (try clear hb2)
   (try clear hk)
   (try clear hi)
   (try clear ho0)
   obtain ⟨Ao10,co10,eo10⟩:=Kd.R_slice HO170.out
   (first|subst eo10|(injection eo10 with f1_ f2_ f3_;have f4_:=f1_.symm;have f5_:=f3_.symm;clear f1_ f2_ f3_;subst f4_;subst f5_))
   refine hK.out _ _ (bc6 BK166.out) (fun hHeld=>?_)
   clear hK K
   refine norm_ (a':=?_) ?_ ?_
   rotate_left
   ·show Act.put _ (some 22) _=_
    simp only [Act.put,sA_,s0_,s1_,i64_w,i32_w]
    rfl
   refine pure_ (i:=9) (N:=some 23) (v:=?_) (a':=?_) #[true,true,true,true,true,true,true,true,true,true,false,false] rfl rfl (any_of HT_.out (by kernel_rfl)) (fun _ _ _ h=>h) (Or.inl ⟨by rfl,?_⟩) ?_ ?_
   rotate_left
   ·intro w'
    go_simp
    with_reducible rfl
   rotate_left
   ·simp only [Act.put,sA_,s0_,s1_,i64_w,i32_w]
    rfl
   refine one_ (i:=10) (N:=some 9) #[true,true,true,true,true,true,true,true,true,true,true,false] rfl rfl (one_of HT_.out (by kernel_rfl)) (by decide) (fun K hK=>?_)
   refine box_step ?hg (N:=9) ?hd (cs:=#[.int .i64 0,.int .i64 0,.int .i64 0,.int .i64 0,.slice none 0 0,.slice none 0 0]) (t:=27) ?hr ?_;(case hd=>rfl);(case hg=>rfl);(case hr=>first|(go_simp;done)|(go_simp;rfl))
   intro gb171 hg w11 hbox hb
   have n0_:=aM_ (Kd.R_below (by (with_reducible repeat (first|apply rA_|apply rN_|apply rD_));exact HO170.out) hb)
   have n1_:=aM_ (blk_below (g:=gb166) (by (with_reducible repeat (first|apply kN_|apply kD_|apply kA_));exact BK166.out) hb)
   have n2_:=aM_ (blk_below (g:=gb167) (by (with_reducible repeat (first|apply kN_|apply kD_|apply kA_));exact BK167.out) hb)
   have n3_:=aM_ (below_step (by repeat (first|(with_reducible first|exact HB.out|apply wA_|apply wN_|apply wD_|refine below_set ?_ GE166.out|refine below_set ?_ GE167.out)|exact HB.out)) hb)
   have n4_:=aM_ (hbox)
   have n5_:=aM_ ((by rw [hg];exact (below_size (by repeat (first|(with_reducible first|exact HB.out|apply wA_|apply wN_|apply wD_|refine below_set ?_ GE166.out|refine below_set ?_ GE167.out)|exact HB.out))):w.heap.size≤gb171))
   have n6_:=aM_ ((by rw [hg];exact (below_size (by repeat (first|(with_reducible first|exact HB.out|apply wA_|apply wN_|apply wD_|refine below_set ?_ GE166.out|refine below_set ?_ GE167.out)|exact HB.out))):w.heap.size≤gb171))
   have n7_:=aM_ ((by rw [hg];exact Nat.ne_of_lt (blk_lt (g:=gb166) (by (with_reducible repeat (first|apply kN_|apply kD_|apply kA_));exact BK166.out)):gb166≠gb171))
   have n8_:=aM_ ((by rw [hg];exact Nat.ne_of_gt (blk_lt (g:=gb166) (by (with_reducible repeat (first|apply kN_|apply kD_|apply kA_));exact BK166.out)):gb171≠gb166))
   have n9_:=aM_ ((by rw [hg];exact Nat.ne_of_lt (blk_lt (g:=gb167) (by (with_reducible repeat (first|apply kN_|apply kD_|apply kA_));exact BK167.out)):gb167≠gb171))
   have n10_:=aM_ ((by rw [hg];exact Nat.ne_of_gt (blk_lt (g:=gb167) (by (with_reducible repeat (first|apply kN_|apply kD_|apply kA_));exact BK167.out)):gb171≠gb167))
   clear HO170
   clear BK166
   clear BK167
   clear HB
   have HO170:=n0_
   have BK166:=n1_
   have BK167:=n2_
   have HB:=n3_
   have BK171:=n4_
   have GW171:=n5_
   have GE171:=n6_
   have NB166_171:=n7_
   have NB171_166:=n8_
   have NB167_171:=n9_
   have NB171_167:=n10_
   clear n0_ n1_ n2_ n3_ n4_ n5_ n6_ n7_ n8_ n9_ n10_
   clear hb hbox hg
   refine hK.out _ _ (bc6 BK166.out) (fun hHeld=>?_)
   clear hK K
   refine norm_ (a':=?_) ?_ ?_
   rotate_left
   ·show Act.put _ (some 9) _=_
    simp only [Act.put,sA_,s0_,s1_,i64_w,i32_w]
    rfl
   exact norm_ (by simp only [putAll,Act.put,sA_,s0_,s1_]) (hCont (.slice Ao10 t168.length co10,gb171) _ ⟨hHeld,(by (with_reducible repeat (first|apply rA_|apply rN_|apply rD_));exact HO170.out),(by (with_reducible repeat (first|apply kN_|apply kD_|apply kA_));exact BK166.out),(by (with_reducible repeat (first|apply kN_|apply kD_|apply kA_));exact BK167.out),(by (with_reducible repeat (first|apply kN_|apply kD_|apply kA_));exact BK171.out),GW171.out,GE171.out,NB166_171.out,NB171_166.out,NB167_171.out,NB171_167.out,(by repeat (first|(with_reducible first|exact HB.out|apply wA_|apply wN_|apply wD_|refine below_set ?_ GE166.out|refine below_set ?_ GE167.out|refine below_set ?_ GE171.out)|exact HB.out))⟩)
  ·skip
   refine box_step ?hg (N:=9) ?hd (cs:=#[.int .i64 0,.int .i64 0,.int .i64 0,.int .i64 0,.slice none 0 0,.slice none 0 0]) (t:=27) ?hr ?_;(case hd=>rfl);(case hg=>rfl);(case hr=>first|(go_simp;done)|(go_simp;rfl))
   intro gb171 hg w9 hbox hb
   have n0_:=aM_ (blk_below (g:=gb166) (by (with_reducible repeat (first|apply kN_|apply kD_|apply kA_));exact BK166.out) hb)
   have n1_:=aM_ (blk_below (g:=gb167) (by (with_reducible repeat (first|apply kN_|apply kD_|apply kA_));exact BK167.out) hb)
   have n2_:=aM_ (below_step (by repeat (first|(with_reducible first|exact HB.out|apply wA_|apply wN_|apply wD_|refine below_set ?_ GE166.out|refine below_set ?_ GE167.out)|exact HB.out)) hb)
   have n3_:=aM_ (hbox)
   have n4_:=aM_ ((by rw [hg];exact (below_size (by repeat (first|(with_reducible first|exact HB.out|apply wA_|apply wN_|apply wD_|refine below_set ?_ GE166.out|refine below_set ?_ GE167.out)|exact HB.out))):w.heap.size≤gb171))
   have n5_:=aM_ ((by rw [hg];exact (below_size (by repeat (first|(with_reducible first|exact HB.out|apply wA_|apply wN_|apply wD_|refine below_set ?_ GE166.out|refine below_set ?_ GE167.out)|exact HB.out))):w.heap.size≤gb171))
   have n6_:=aM_ ((by rw [hg];exact Nat.ne_of_lt (blk_lt (g:=gb166) (by (with_reducible repeat (first|apply kN_|apply kD_|apply kA_));exact BK166.out)):gb166≠gb171))
   have n7_:=aM_ ((by rw [hg];exact Nat.ne_of_gt (blk_lt (g:=gb166) (by (with_reducible repeat (first|apply kN_|apply kD_|apply kA_));exact BK166.out)):gb171≠gb166))
   have n8_:=aM_ ((by rw [hg];exact Nat.ne_of_lt (blk_lt (g:=gb167) (by (with_reducible repeat (first|apply kN_|apply kD_|apply kA_));exact BK167.out)):gb167≠gb171))
   have n9_:=aM_ ((by rw [hg];exact Nat.ne_of_gt (blk_lt (g:=gb167) (by (with_reducible repeat (first|apply kN_|apply kD_|apply kA_));exact BK167.out)):gb171≠gb167))
   clear BK166
   clear BK167
   clear HB
   have BK166:=n0_
   have BK167:=n1_
   have HB:=n2_
   have BK171:=n3_
   have GW171:=n4_
   have GE171:=n5_
   have NB166_171:=n6_
   have NB171_166:=n7_
   have NB167_171:=n8_
   have NB171_167:=n9_
   clear n0_ n1_ n2_ n3_ n4_ n5_ n6_ n7_ n8_ n9_
   clear hb hbox hg
   refine hK.out _ _ (bc6 BK166.out) (fun hHeld=>?_)
   clear hK K
   refine norm_ (a':=?_) ?_ ?_
   rotate_left
   ·show Act.put _ (some 9) _=_
    simp only [Act.put,sA_,s0_,s1_,i64_w,i32_w]
    rfl
   refine one_ (i:=8) (N:=some 22) #[true,true,true,true,true,true,true,true,true,false,true,false] rfl rfl (one_of HT_.out (by kernel_rfl)) (by decide) (fun K hK=>?_)
   refine goes_ Try.func73 (by kernel_rfl) rfl #[.slice A0_4 l0_4.length c0_4] (by rfl) rfl rfl (by (try simp only [List.map_toArray,List.map_cons,List.map_nil]);first|done|rfl|(simp only [List.length_drop,List.length_take];rfl)) ?_
   with_reducible refine (slices_Clone_int_int.calls _ _ l0_4 t168 _ ?side1 ?side2 A5.out).mono ?_
   (case side1=>repeat (first|exact (Kd.C_below HR0_4.out HB.out)|(with_reducible refine Kd.C_alloc ?_ _)|(with_reducible refine Kd.C_drewN ?_ _)|(with_reducible refine Kd.C_drew ?_)))
   (case side2=>exact HC0_4.out)
   rintro e w10 ⟨v169,rfl,ho0,hb⟩
   refine ⟨_,rfl,?_⟩
   have n0_:=aM_ (Kd.R_lower ho0 (below_size (by repeat (first|(with_reducible first|exact HB.out|apply wA_|apply wN_|apply wD_|refine below_set ?_ GE166.out|refine below_set ?_ GE167.out|refine below_set ?_ GE171.out)|exact HB.out))))
   have n1_:=aM_ (blk_below (g:=gb166) (by (with_reducible repeat (first|apply kN_|apply kD_|apply kA_));exact BK166.out) hb)
   have n2_:=aM_ (blk_below (g:=gb167) (by (with_reducible repeat (first|apply kN_|apply kD_|apply kA_));exact BK167.out) hb)
   have n3_:=aM_ (blk_below (g:=gb171) (by (with_reducible repeat (first|apply kN_|apply kD_|apply kA_));exact BK171.out) hb)
   have n4_:=aM_ (below_step (by repeat (first|(with_reducible first|exact HB.out|apply wA_|apply wN_|apply wD_|refine below_set ?_ GE166.out|refine below_set ?_ GE167.out|refine below_set ?_ GE171.out)|exact HB.out)) hb)
   clear BK166
   clear BK167
   clear BK171
   clear HB
   have HO170:=n0_
   have BK166:=n1_
   have BK167:=n2_
   have BK171:=n3_
   have HB:=n4_
   clear n0_ n1_ n2_ n3_ n4_
   (try clear hb)
   (try clear hb2)
   (try clear hk)
   (try clear hi)
   (try clear ho0)
   obtain ⟨Ao11,co11,eo11⟩:=Kd.R_slice HO170.out
   (first|subst eo11|(injection eo11 with f1_ f2_ f3_;have f4_:=f1_.symm;have f5_:=f3_.symm;clear f1_ f2_ f3_;subst f4_;subst f5_))
   refine hK.out _ _ (bc6 BK166.out) (fun hHeld=>?_)
   clear hK K
   refine norm_ (a':=?_) ?_ ?_
   rotate_left
   ·show Act.put _ (some 22) _=_
    simp only [Act.put,sA_,s0_,s1_,i64_w,i32_w]
    rfl
   refine pure_ (i:=9) (N:=some 23) (v:=?_) (a':=?_) #[true,true,true,true,true,true,true,true,true,true,true,false] rfl rfl (any_of HT_.out (by kernel_rfl)) (fun _ _ _ h=>h) (Or.inl ⟨by rfl,?_⟩) ?_ ?_
   rotate_left
   ·intro w'
    go_simp
    with_reducible rfl
   rotate_left
   ·simp only [Act.put,sA_,s0_,s1_,i64_w,i32_w]
    rfl
   exact norm_ (by simp only [putAll,Act.put,sA_,s0_,s1_]) (hCont (.slice Ao11 t168.length co11,gb171) _ ⟨hHeld,(by (with_reducible repeat (first|apply rA_|apply rN_|apply rD_));exact HO170.out),(by (with_reducible repeat (first|apply kN_|apply kD_|apply kA_));exact BK166.out),(by (with_reducible repeat (first|apply kN_|apply kD_|apply kA_));exact BK167.out),(by (with_reducible repeat (first|apply kN_|apply kD_|apply kA_));exact BK171.out),GW171.out,GE171.out,NB166_171.out,NB171_166.out,NB167_171.out,NB171_167.out,(by repeat (first|(with_reducible first|exact HB.out|apply wA_|apply wN_|apply wD_|refine below_set ?_ GE166.out|refine below_set ?_ GE167.out|refine below_set ?_ GE171.out)|exact HB.out))⟩)
 rintro ⟨v169,gb171⟩ w12 ⟨hS_,h0_,h1_,h2_,h3_,h4_,h5_,h6_,h7_,h8_,h9_,h10_⟩
 have n0_:Aside0 (Kd.R (Kd.int .i64) 3 w12 w.heap.size (fun _=>True) v169 t168):=⟨h0_⟩
 have n1_:Aside0 (w12.heap[gb166]?=some (.cells #[.int .i64 a0_0,.int .i64 a0_1,.int .i64 a0_2,.int .i64 a0_3,.slice A0_4 l0_4.length c0_4,.slice A0_5 l0_5.length c0_5] 27 (0,0))):=⟨h1_⟩
 have n2_:Aside0 (w12.heap[gb167]?=some (.cells #[.int .i64 0,.int .i64 0,.int .i64 0,.int .i64 0,.slice none 0 0,.slice none 0 0] 27 (0,0))):=⟨h2_⟩
 have n3_:Aside0 (w12.heap[gb171]?=some (.cells #[.int .i64 0,.int .i64 0,.int .i64 0,.int .i64 0,.slice none 0 0,.slice none 0 0] 27 (0,0))):=⟨h3_⟩
 have n4_:Aside0 (w.heap.size≤gb171):=⟨h4_⟩
 have n5_:Aside0 (w.heap.size≤gb171):=⟨h5_⟩
 have n6_:Aside0 (gb166≠gb171):=⟨h6_⟩
 have n7_:Aside0 (gb171≠gb166):=⟨h7_⟩
 have n8_:Aside0 (gb167≠gb171):=⟨h8_⟩
 have n9_:Aside0 (gb171≠gb167):=⟨h9_⟩
 have n10_:Aside0 (Below w.heap.size w w12):=⟨h10_⟩
 clear BK166
 clear BK167
 clear HB
 clear h0_ h1_ h2_ h3_ h4_ h5_ h6_ h7_ h8_ h9_ h10_
 have HO170:=n0_
 have BK166:=n1_
 have BK167:=n2_
 have BK171:=n3_
 have GW171:=n4_
 have GE171:=n5_
 have NB166_171:=n6_
 have NB171_166:=n7_
 have NB167_171:=n8_
 have NB171_167:=n9_
 have HB:=n10_
 clear n0_ n1_ n2_ n3_ n4_ n5_ n6_ n7_ n8_ n9_ n10_
 have hHeld:w12.cell? ⟨gb166,0,none⟩=some (.int .i64 a0_0)∧w12.cell? ⟨gb166,1,none⟩=some (.int .i64 a0_1)∧w12.cell? ⟨gb166,2,none⟩=some (.int .i64 a0_2)∧w12.cell? ⟨gb166,3,none⟩=some (.int .i64 a0_3)∧w12.cell? ⟨gb166,4,none⟩=some (.slice A0_4 l0_4.length c0_4)∧w12.cell? ⟨gb166,5,none⟩=some (.slice A0_5 l0_5.length c0_5):=hS_
 obtain ⟨Ao13,co13,eo13⟩:=Kd.R_slice HO170.out
 (first|subst eo13|(injection eo13 with f1_ f2_ f3_;have f4_:=f1_.symm;have f5_:=f3_.symm;clear f1_ f2_ f3_;subst f4_;subst f5_))
 refine norm_ (a':=?_) ?_ ?_
 rotate_left
 ·simp only [putAll,Act.put,sA_,s0_,s1_]
  rfl
 refine one_ (i:=11) (N:=none) #[true,true,true,true,true,true,true,true,true,true,true,true] rfl rfl (one_of HT_.out (by kernel_rfl)) (by decide) (fun K hK=>?_)
 have hs14:w12.cell? ⟨gb171,0,none⟩=some (.int .i64 0):=(blk_cell BK171.out 0).trans rfl
 have hfs14:=blk_frozen BK171.out 0
 have hns14_0:=NB166_171.out
 have hns14_1:=NB167_171.out
 have hms14_0:=NB171_166.out
 have hms14_1:=NB171_167.out
 have hs15:w12.cell? ⟨gb171,1,none⟩=some (.int .i64 0):=(blk_cell BK171.out 1).trans rfl
 have hfs15:=blk_frozen BK171.out 1
 have hns15_0:=NB166_171.out
 have hns15_1:=NB167_171.out
 have hms15_0:=NB171_166.out
 have hms15_1:=NB171_167.out
 have hs16:w12.cell? ⟨gb171,2,none⟩=some (.int .i64 0):=(blk_cell BK171.out 2).trans rfl
 have hfs16:=blk_frozen BK171.out 2
 have hns16_0:=NB166_171.out
 have hns16_1:=NB167_171.out
 have hms16_0:=NB171_166.out
 have hms16_1:=NB171_167.out
 have hs17:w12.cell? ⟨gb171,3,none⟩=some (.int .i64 0):=(blk_cell BK171.out 3).trans rfl
 have hfs17:=blk_frozen BK171.out 3
 have hns17_0:=NB166_171.out
 have hns17_1:=NB167_171.out
 have hms17_0:=NB171_166.out
 have hms17_1:=NB171_167.out
 have hs18:w12.cell? ⟨gb171,4,none⟩=some (.slice none 0 0):=(blk_cell BK171.out 4).trans rfl
 have hfs18:=blk_frozen BK171.out 4
 have hns18_0:=NB166_171.out
 have hns18_1:=NB167_171.out
 have hms18_0:=NB171_166.out
 have hms18_1:=NB171_167.out
 have hs19:w12.cell? ⟨gb171,5,none⟩=some (.slice none 0 0):=(blk_cell BK171.out 5).trans rfl
 have hfs19:=blk_frozen BK171.out 5
 have hns19_0:=NB166_171.out
 have hns19_1:=NB167_171.out
 have hms19_0:=NB171_166.out
 have hms19_1:=NB171_167.out
 refine skip_ (w1:=?_) (by rfl) rfl ?_ ?_
 rotate_left
 ·go_simp
  rfl
 refine hK.out _ _ ⟨((cell_far (p:=⟨gb171,_,none⟩) NB166_171.out _).trans (((cell_far (p:=⟨gb171,_,none⟩) NB166_171.out _).trans (((cell_far (p:=⟨gb171,_,none⟩) NB166_171.out _).trans (((cell_far (p:=⟨gb171,_,none⟩) NB166_171.out _).trans (((cell_far (p:=⟨gb171,_,none⟩) NB166_171.out _).trans (((cell_far (p:=⟨gb171,_,none⟩) NB166_171.out _).trans (hHeld.1)))))))))))),((cell_far (p:=⟨gb171,_,none⟩) NB166_171.out _).trans (((cell_far (p:=⟨gb171,_,none⟩) NB166_171.out _).trans (((cell_far (p:=⟨gb171,_,none⟩) NB166_171.out _).trans (((cell_far (p:=⟨gb171,_,none⟩) NB166_171.out _).trans (((cell_far (p:=⟨gb171,_,none⟩) NB166_171.out _).trans (((cell_far (p:=⟨gb171,_,none⟩) NB166_171.out _).trans (hHeld.2.1)))))))))))),((cell_far (p:=⟨gb171,_,none⟩) NB166_171.out _).trans (((cell_far (p:=⟨gb171,_,none⟩) NB166_171.out _).trans (((cell_far (p:=⟨gb171,_,none⟩) NB166_171.out _).trans (((cell_far (p:=⟨gb171,_,none⟩) NB166_171.out _).trans (((cell_far (p:=⟨gb171,_,none⟩) NB166_171.out _).trans (((cell_far (p:=⟨gb171,_,none⟩) NB166_171.out _).trans (hHeld.2.2.1)))))))))))),((cell_far (p:=⟨gb171,_,none⟩) NB166_171.out _).trans (((cell_far (p:=⟨gb171,_,none⟩) NB166_171.out _).trans (((cell_far (p:=⟨gb171,_,none⟩) NB166_171.out _).trans (((cell_far (p:=⟨gb171,_,none⟩) NB166_171.out _).trans (((cell_far (p:=⟨gb171,_,none⟩) NB166_171.out _).trans (((cell_far (p:=⟨gb171,_,none⟩) NB166_171.out _).trans (hHeld.2.2.2.1)))))))))))),((cell_far (p:=⟨gb171,_,none⟩) NB166_171.out _).trans (((cell_far (p:=⟨gb171,_,none⟩) NB166_171.out _).trans (((cell_far (p:=⟨gb171,_,none⟩) NB166_171.out _).trans (((cell_far (p:=⟨gb171,_,none⟩) NB166_171.out _).trans (((cell_far (p:=⟨gb171,_,none⟩) NB166_171.out _).trans (((cell_far (p:=⟨gb171,_,none⟩) NB166_171.out _).trans (hHeld.2.2.2.2.1)))))))))))),((cell_far (p:=⟨gb171,_,none⟩) NB166_171.out _).trans (((cell_far (p:=⟨gb171,_,none⟩) NB166_171.out _).trans (((cell_far (p:=⟨gb171,_,none⟩) NB166_171.out _).trans (((cell_far (p:=⟨gb171,_,none⟩) NB166_171.out _).trans (((cell_far (p:=⟨gb171,_,none⟩) NB166_171.out _).trans (((cell_far (p:=⟨gb171,_,none⟩) NB166_171.out _).trans (hHeld.2.2.2.2.2))))))))))))⟩ (fun hHeld=>?_)
 clear hK K
 refine done_ (done_of HT_.out (by kernel_rfl)) ?_
 try go_wp2
 go_loopg [25] k (fun kq v25 w'=>∃ (x25_1:Int) (x172005_1:List Int) (u172005:Value),v25=.int .i64 x25_1∧Aside0 (impl_Image_made.l0 cl kq a1 a2 x25_1 a0_0 a0_1 a0_2 a0_3 l0_4 l0_5 a0_0 a0_1 a1 a2 t168 x172005_1=some (r1,r2,r3,r4,r5,r6))∧Aside0 (kq≤k)∧Aside0 (Kd.R (Kd.int .i64) 3 w' w.heap.size (fun k_=>some k_≠(u172005:Value).ownBlock) (.slice Ao13 t168.length co13) t168)∧Aside0 (Kd.R (Kd.int .i64) 3 w' w.heap.size (fun k_=>some k_≠((.slice Ao13 t168.length co13):Value).ownBlock) u172005 x172005_1)∧Aside0 (w'.heap[gb166]?=some (.cells #[.int .i64 a0_0,.int .i64 a0_1,.int .i64 a0_2,.int .i64 a0_3,(.slice A0_4 l0_4.length c0_4),(.slice A0_5 l0_5.length c0_5)] 27 (0,0)))∧Aside0 (w'.heap[gb167]?=some (.cells #[.int .i64 0,.int .i64 0,.int .i64 0,.int .i64 0,(.slice none 0 0),(.slice none 0 0)] 27 (0,0)))∧Aside0 (w'.heap[gb171]?=some (.cells #[.int .i64 a0_0,.int .i64 a0_1,.int .i64 a1,.int .i64 a2,(.slice Ao13 t168.length co13),u172005] 27 (0,0)))∧Aside0 (Below w.heap.size w w'))
 case atStart=>exact ⟨(0),(([]:List Int)),(.slice none 0 0),(by first|rfl|(simp;done)|(simp [*];done)),H',⟨Nat.le_refl _⟩,⟨by (with_reducible repeat (first|apply rA_|apply rN_|apply rD_));exact Kd.R_mono (Kd.R_far (Kd.R_far (Kd.R_far (Kd.R_far (Kd.R_far (Kd.R_far (Kd.R_types HO170.out BK171.out (by decide)) (fun _ hk=>hk.2) _) (fun _ hk=>hk.2) _) (fun _ hk=>hk.2) _) (fun _ hk=>hk.2) _) (fun _ hk=>hk.2) _) (fun _ hk=>hk.2) _) (fun _ hk=>(by simp [Value.ownBlock]))⟩,⟨by first|exact Kd.R_nil _ _ _ _ _|exact Kd.N_nil _ _ _ _ _|exact Kd.V_nil _ _ _ _ _|exact Kd.Q_nil _ _ _ _ _|exact Kd.S_nil _ _ _ _ _⟩,⟨by (with_reducible repeat (first|apply kN_|apply kD_|apply kA_));refine blk_far ?_ NB166_171.out _;(with_reducible repeat (first|apply kN_|apply kD_|apply kA_));refine blk_far ?_ NB166_171.out _;(with_reducible repeat (first|apply kN_|apply kD_|apply kA_));refine blk_far ?_ NB166_171.out _;(with_reducible repeat (first|apply kN_|apply kD_|apply kA_));refine blk_far ?_ NB166_171.out _;(with_reducible repeat (first|apply kN_|apply kD_|apply kA_));refine blk_far ?_ NB166_171.out _;(with_reducible repeat (first|apply kN_|apply kD_|apply kA_));refine blk_far ?_ NB166_171.out _;(with_reducible repeat (first|apply kN_|apply kD_|apply kA_));exact BK166.out⟩,⟨by (with_reducible repeat (first|apply kN_|apply kD_|apply kA_));refine blk_far ?_ NB167_171.out _;(with_reducible repeat (first|apply kN_|apply kD_|apply kA_));refine blk_far ?_ NB167_171.out _;(with_reducible repeat (first|apply kN_|apply kD_|apply kA_));refine blk_far ?_ NB167_171.out _;(with_reducible repeat (first|apply kN_|apply kD_|apply kA_));refine blk_far ?_ NB167_171.out _;(with_reducible repeat (first|apply kN_|apply kD_|apply kA_));refine blk_far ?_ NB167_171.out _;(with_reducible repeat (first|apply kN_|apply kD_|apply kA_));refine blk_far ?_ NB167_171.out _;(with_reducible repeat (first|apply kN_|apply kD_|apply kA_));exact BK167.out⟩,⟨by (with_reducible repeat (first|apply kN_|apply kD_|apply kA_));refine blk_put (cs:=#[.int .i64 a0_0,.int .i64 a0_1,.int .i64 a1,.int .i64 a2,.slice Ao13 t168.length co13,.slice none 0 0]) ?_ 5 _ rfl;(with_reducible repeat (first|apply kN_|apply kD_|apply kA_));refine blk_put (cs:=#[.int .i64 a0_0,.int .i64 a0_1,.int .i64 a1,.int .i64 a2,.slice none 0 0,.slice none 0 0]) ?_ 4 _ rfl;(with_reducible repeat (first|apply kN_|apply kD_|apply kA_));refine blk_put (cs:=#[.int .i64 a0_0,.int .i64 a0_1,.int .i64 a1,.int .i64 0,.slice none 0 0,.slice none 0 0]) ?_ 3 _ rfl;(with_reducible repeat (first|apply kN_|apply kD_|apply kA_));refine blk_put (cs:=#[.int .i64 a0_0,.int .i64 a0_1,.int .i64 0,.int .i64 0,.slice none 0 0,.slice none 0 0]) ?_ 2 _ rfl;(with_reducible repeat (first|apply kN_|apply kD_|apply kA_));refine blk_put (cs:=#[.int .i64 a0_0,.int .i64 0,.int .i64 0,.int .i64 0,.slice none 0 0,.slice none 0 0]) ?_ 1 _ rfl;(with_reducible repeat (first|apply kN_|apply kD_|apply kA_));refine blk_put (cs:=#[.int .i64 0,.int .i64 0,.int .i64 0,.int .i64 0,.slice none 0 0,.slice none 0 0]) ?_ 0 _ rfl;(with_reducible repeat (first|apply kN_|apply kD_|apply kA_));exact BK171.out⟩,⟨by repeat (first|(with_reducible first|exact HB.out|apply wA_|apply wN_|apply wD_|refine below_set ?_ GE166.out|refine below_set ?_ GE167.out|refine below_set ?_ GE171.out)|exact HB.out)⟩⟩
 case round =>
  clear H'
  try clear p2
  try clear c5
  try clear c7
  obtain ⟨x25_1,x172005_1,u172005,rfl,HA,HK1,HO_172004,HO_172005,BK166,BK167,BK171,HB⟩:=hrel
  cases gk with
  | zero=>exact absurd HA.out (by simp [impl_Image_made.l0])
  | succ k1 =>
   have H:=HA.out
   clear HA
   simp only [impl_Image_made.l0] at H
   by_cases c20:x25_1 < a2
   ·rw [if_pos c20] at H
    have c20b0:decide (x25_1 < a2)=true:=decide_eq_true c20
    clear c20
    have H':=aM_ H
    clear H
    go_wp2
    go_loopg [29] k1 (fun kq v29 w'=>∃ (x29_2:Int) (x172005_2:List Int) (u172005:Value),v29=.int .i64 x29_2∧Aside0 (impl_Image_made.l1 cl kq a1 x25_1 a2 x25_1 a1 x29_2 a0_0 a0_1 a0_2 a0_3 l0_4 l0_5 a0_0 a0_1 a1 a2 t168 x172005_2=some (r1,r2,r3,r4,r5,r6))∧Aside0 (kq≤k1)∧Aside0 (Kd.R (Kd.int .i64) 3 w' w.heap.size (fun k_=>some k_≠(u172005:Value).ownBlock) (.slice Ao13 t168.length co13) t168)∧Aside0 (Kd.R (Kd.int .i64) 3 w' w.heap.size (fun k_=>some k_≠((.slice Ao13 t168.length co13):Value).ownBlock) u172005 x172005_2)∧Aside0 (w'.heap[gb166]?=some (.cells #[.int .i64 a0_0,.int .i64 a0_1,.int .i64 a0_2,.int .i64 a0_3,(.slice A0_4 l0_4.length c0_4),(.slice A0_5 l0_5.length c0_5)] 27 (0,0)))∧Aside0 (w'.heap[gb167]?=some (.cells #[.int .i64 0,.int .i64 0,.int .i64 0,.int .i64 0,(.slice none 0 0),(.slice none 0 0)] 27 (0,0)))∧Aside0 (w'.heap[gb171]?=some (.cells #[.int .i64 a0_0,.int .i64 a0_1,.int .i64 a1,.int .i64 a2,(.slice Ao13 t168.length co13),u172005] 27 (0,0)))∧Aside0 (Below w.heap.size w w'))
    case atStart=>exact ⟨(0),(x172005_1),(u172005),(by first|rfl|(simp;done)|(simp [*];done)),H',⟨Nat.le_refl _⟩,⟨by (with_reducible repeat (first|apply rA_|apply rN_|apply rD_));exact HO_172004.out⟩,⟨by (with_reducible repeat (first|apply rA_|apply rN_|apply rD_));exact HO_172005.out⟩,⟨by (with_reducible repeat (first|apply kN_|apply kD_|apply kA_));exact BK166.out⟩,⟨by (with_reducible repeat (first|apply kN_|apply kD_|apply kA_));exact BK167.out⟩,⟨by (with_reducible repeat (first|apply kN_|apply kD_|apply kA_));exact BK171.out⟩,⟨by repeat (first|(with_reducible first|exact HB.out|apply wA_|apply wN_|apply wD_|refine below_set ?_ GE166.out|refine below_set ?_ GE167.out|refine below_set ?_ GE171.out)|exact HB.out)⟩⟩
    case round =>
     clear H'
     try clear c2
     try clear p2
     try clear c5
     try clear c7
     try clear c20
     try clear c20b0
     try clear p2
     obtain ⟨x29_2,x172005_2,u172005,rfl,HA,HK2,HO_172004,HO_172005,BK166,BK167,BK171,HB⟩:=hrel
     cases gk with
     | zero=>exact absurd HA.out (by simp [impl_Image_made.l1])
     | succ k2 =>
      have H:=HA.out
      clear HA
      simp only [impl_Image_made.l1] at H
      by_cases c21:x29_2 < a1
      ·rw [if_pos c21] at H
       have c21b0:decide (x29_2 < a1)=true:=decide_eq_true c21
       clear c21
       replace H:=Option.bind_eq_some_iff.mp H
       obtain ⟨⟨t172,t173⟩,A220,H⟩:=H
       replace H:(if 0≤(wrap64 ((wrap64 (t173 * a0_2))+t172)) then (if (wrap64 ((wrap64 (t173 * a0_2))+t172)) < (l0_5.length:Int) then (if x172005_2.length < 17592186044416 then (impl_Image_made.l1 cl k2 a1 x25_1 a2 x25_1 a1 (wrap64 (x29_2+1)) a0_0 a0_1 a0_2 a0_3 l0_4 l0_5 a0_0 a0_1 a1 a2 t168 (x172005_2 ++ [rd l0_5 (wrap64 ((wrap64 (t173 * a0_2))+t172))])) else (none)) else (none)) else (none))=some (r1,r2,r3,r4,r5,r6):=H
       have A22:=aM_ A220
       clear A220
       obtain ⟨ji23,hji23⟩:∃ j_:Int,(wrap64 ((wrap64 (t173 * a0_2))+t172))=j_:=⟨_,rfl⟩
       replace H:(if 0≤(ji23) then (if (ji23) < (l0_5.length:Int) then (if x172005_2.length < 17592186044416 then (impl_Image_made.l1 cl k2 a1 x25_1 a2 x25_1 a1 (wrap64 (x29_2+1)) a0_0 a0_1 a0_2 a0_3 l0_4 l0_5 a0_0 a0_1 a1 a2 t168 (x172005_2 ++ [rd l0_5 (ji23)])) else (none)) else (none)) else (none))=some (r1,r2,r3,r4,r5,r6):=by first|(rw [hji23] at H;exact H)|(simp only [hji23] at H ⊢;exact H)
       (try rw [hji23] at A22)
       have hji23w:(IntKind.i64.wrap ((wrap64 (t173 * a0_2))+t172))=ji23:=(i64_w _).trans hji23
       by_cases c24:0≤(ji23)
       ·rw [if_pos c24] at H
        have c24b0:decide (0≤(ji23))=true:=decide_eq_true c24
        clear c24
        by_cases c25:(ji23) < (l0_5.length:Int)
        ·rw [if_pos c25] at H
         have c25b0:decide ((ji23) < (l0_5.length:Int))=true:=decide_eq_true c25
         clear c25
         by_cases c26:x172005_2.length < 17592186044416
         ·rw [if_pos c26] at H
          have LMc26:=aM_ c26
          clear c26
          obtain ⟨y175,hy175⟩:∃ y_:List Int,y_=(x172005_2 ++ [rd l0_5 (ji23)]):=⟨_,rfl⟩
          replace H:(impl_Image_made.l1 cl k2 a1 x25_1 a2 x25_1 a1 (wrap64 (x29_2+1)) a0_0 a0_1 a0_2 a0_3 l0_4 l0_5 a0_0 a0_1 a1 a2 t168 y175)=some (r1,r2,r3,r4,r5,r6):=by first|(rw [hy175];with_reducible exact H)|(have H2_:=(Option.bind_some _ _).symm.trans H;rw [hy175];with_reducible exact H2_)|(have H2_:=(Option.bind_some _ _).symm.trans H;with_reducible exact H2_)|with_reducible exact H|(rw [hy175];exact H)|exact H
          have Ny175:=aM_ hy175
          clear hy175
          have H':=aM_ H
          clear H
          try go_wp2_with (first|((with_reducible refine Th.gate_clo (x:=33) rfl ?_);refine Th.goesC_ (some 36) rfl rfl (x:=33) (f:=F_) (fn:=fn_) (cap:=cap_) HFN_.out HNM_.out HBD_.out #[.int .i64 x29_2,.int .i64 x25_1] rfl rfl (by (try simp only [List.map_toArray,List.map_cons,List.map_nil]);first|done|rfl|(simp only [List.length_drop,List.length_take];rfl)) ?_;refine (HCL_.out x29_2 x25_1 t172 t173 _ A22.out (by repeat (first|(with_reducible first|exact HB.out|apply wA_|apply wN_|apply wD_)|exact HB.out))).mono ?_;rintro e w' ⟨rfl,⟨nd,rfl⟩⟩;refine ⟨_,rfl,?_⟩;(try (rw [drewN_self wr];generalize hq_:World.drewN wr _=wr;have n0_:Aside0 (Kd.R (Kd.int .i64) 3 wr w.heap.size (fun k_=>some k_≠(u172005:Value).ownBlock) (.slice Ao13 t168.length co13) t168):=⟨by rw [← hq_];exact (by (with_reducible repeat (first|apply rA_|apply rN_|apply rD_));exact HO_172004.out)⟩;have n1_:Aside0 (Kd.R (Kd.int .i64) 3 wr w.heap.size (fun k_=>some k_≠(.slice Ao13 t168.length co13:Value).ownBlock) u172005 x172005_2):=⟨by rw [← hq_];exact (by (with_reducible repeat (first|apply rA_|apply rN_|apply rD_));exact HO_172005.out)⟩;have n2_:Aside0 (wr.heap[gb166]?=some (.cells #[.int .i64 a0_0,.int .i64 a0_1,.int .i64 a0_2,.int .i64 a0_3,.slice A0_4 l0_4.length c0_4,.slice A0_5 l0_5.length c0_5] 27 (0,0))):=⟨by rw [← hq_];exact (by (with_reducible repeat (first|apply kN_|apply kD_|apply kA_));exact BK166.out)⟩;have n3_:Aside0 (wr.heap[gb167]?=some (.cells #[.int .i64 0,.int .i64 0,.int .i64 0,.int .i64 0,.slice none 0 0,.slice none 0 0] 27 (0,0))):=⟨by rw [← hq_];exact (by (with_reducible repeat (first|apply kN_|apply kD_|apply kA_));exact BK167.out)⟩;have n4_:Aside0 (wr.heap[gb171]?=some (.cells #[.int .i64 a0_0,.int .i64 a0_1,.int .i64 a1,.int .i64 a2,.slice Ao13 t168.length co13,u172005] 27 (0,0))):=⟨by rw [← hq_];exact (by (with_reducible repeat (first|apply kN_|apply kD_|apply kA_));exact BK171.out)⟩;have n5_:Aside0 (Below w.heap.size w wr):=⟨by rw [← hq_];exact (by repeat (first|(with_reducible first|exact HB.out|apply wA_|apply wN_|apply wD_|refine below_set ?_ GE166.out|refine below_set ?_ GE167.out|refine below_set ?_ GE171.out)|exact HB.out))⟩;clear HO_172004 HO_172005 BK166 BK167 BK171 HB hq_;have HO_172004:=n0_;have HO_172005:=n1_;have BK166:=n2_;have BK167:=n3_;have BK171:=n4_;have HB:=n5_;clear n0_ n1_ n2_ n3_ n4_ n5_))))
          have n0_:=aM_ (rD_ HO_172004.out)
          have n1_:=aM_ (rD_ HO_172005.out)
          have n2_:=aM_ (kD_ BK166.out)
          have n3_:=aM_ (kD_ BK167.out)
          have n4_:=aM_ (kD_ BK171.out)
          have n5_:=aM_ (wD_ HB.out)
          clear HO_172004
          clear HO_172005
          clear BK166
          clear BK167
          clear BK171
          clear HB
          have HO_172004:=n0_
          have HO_172005:=n1_
          have BK166:=n2_
          have BK167:=n3_
          have BK171:=n4_
          have HB:=n5_
          clear n0_ n1_ n2_ n3_ n4_ n5_
          have p174:0≤((ji23):Int):=of_decide_eq_true (by first|(with_reducible assumption)|assumption)
          have q174:(ji23) < (l0_5.length:Int):=of_decide_eq_true (by first|(with_reducible assumption)|assumption)
          obtain ⟨ad174,e174,hx174_0⟩:=Kd.at_int HR0_5.out (ji23) p174 q174
          have hw174_0:=hx174_0
          cases e174
          replace hx174_0:=(HB.out.cell (World.block_lt_of_cell? w _ hx174_0)).trans hx174_0
          replace p174:=eq_true p174
          replace q174:=eq_true q174
          refine start_ (n:=16) (S:=fun w'=>w'.cell? ⟨gb171,0,none⟩=some (.int .i64 a0_0)∧w'.cell? ⟨gb171,1,none⟩=some (.int .i64 a0_1)∧w'.cell? ⟨gb171,2,none⟩=some (.int .i64 a1)∧w'.cell? ⟨gb171,3,none⟩=some (.int .i64 a2)∧w'.cell? ⟨gb171,4,none⟩=some (.slice Ao13 t168.length co13)∧w'.cell? ⟨gb171,5,none⟩=some (u172005)∧w'.cell? ⟨gb166,0,none⟩=some (.int .i64 a0_0)∧w'.cell? ⟨gb166,1,none⟩=some (.int .i64 a0_1)∧w'.cell? ⟨gb166,2,none⟩=some (.int .i64 a0_2)∧w'.cell? ⟨gb166,3,none⟩=some (.int .i64 a0_3)∧w'.cell? ⟨gb166,4,none⟩=some (.slice A0_4 l0_4.length c0_4)∧w'.cell? ⟨gb166,5,none⟩=some (.slice (some ad174) l0_5.length c0_5)∧w'.cell? (ad174.add ((ji23)).toNat)=some (.int .i64 (rd l0_5 (ji23)))) (ds:=[15]) #[false,false,false,false,false,false,false,false,false,false,false,false,false,false,false,false] (by kernel_rfl) rfl rfl ⟨(blk_cell BK171.out 0).trans rfl,(blk_cell BK171.out 1).trans rfl,(blk_cell BK171.out 2).trans rfl,(blk_cell BK171.out 3).trans rfl,(blk_cell BK171.out 4).trans rfl,(blk_cell BK171.out 5).trans rfl,(blk_cell BK166.out 0).trans rfl,(blk_cell BK166.out 1).trans rfl,(blk_cell BK166.out 2).trans rfl,(blk_cell BK166.out 3).trans rfl,(blk_cell BK166.out 4).trans rfl,(blk_cell BK166.out 5).trans rfl,((HB.out.cell (World.block_lt_of_cell? w _ hw174_0)).trans hw174_0)⟩ (fun hHeld=>?_);refine with_tabW impl_Image_made.tab9 impl_Image_made.bits9 (fun HT_ HW_=>?_)
          generalize wr.drew=w27 at HO_172004 HO_172005 BK166 BK167 BK171 HB hx174_0 hHeld ⊢
          refine pure_ (i:=0) (N:=some 39) (v:=?_) (a':=?_) #[true,false,false,false,false,false,false,false,false,false,false,false,false,false,false,false] rfl rfl (any_of HT_.out (by kernel_rfl)) (fun _ _ _ h=>h) (Or.inl ⟨by rfl,?_⟩) ?_ ?_
          rotate_left
          ·intro w'
           go_simp
           with_reducible rfl
          rotate_left
          ·simp only [Act.put,sA_,s0_,s1_,i64_w,i32_w]
           rfl
          refine pure_ (i:=2) (N:=some 41) (v:=?_) (a':=?_) #[true,false,true,false,false,false,false,false,false,false,false,false,false,false,false,false] rfl rfl (any_of HT_.out (by kernel_rfl)) (fun _ _ _ h=>h) (Or.inl ⟨by rfl,?_⟩) ?_ ?_
          rotate_left
          ·intro w'
           go_simp
           with_reducible rfl
          rotate_left
          ·simp only [Act.put,sA_,s0_,s1_,i64_w,i32_w]
           rfl
          refine pure_ (i:=4) (N:=some 43) (v:=?_) (a':=?_) #[true,false,true,false,true,false,false,false,false,false,false,false,false,false,false,false] rfl rfl (any_of HT_.out (by kernel_rfl)) (fun _ _ _ h=>h) (Or.inl ⟨by rfl,?_⟩) ?_ ?_
          rotate_left
          ·intro w'
           go_simp
           with_reducible rfl
          rotate_left
          ·simp only [Act.put,sA_,s0_,s1_,i64_w,i32_w]
           rfl
          refine pure_ (i:=5) (N:=some 44) (v:=?_) (a':=?_) #[true,false,true,false,true,true,false,false,false,false,false,false,false,false,false,false] rfl rfl (any_of HT_.out (by kernel_rfl)) (fun _ _ _ h=>h) (Or.inl ⟨by rfl,?_⟩) ?_ ?_
          rotate_left
          ·intro w'
           go_simp
           with_reducible rfl
          rotate_left
          ·simp only [Act.put,sA_,s0_,s1_,i64_w,i32_w]
           rfl
          refine pure_ (i:=8) (N:=some 47) (v:=?_) (a':=?_) #[true,false,true,false,true,true,false,false,true,false,false,false,false,false,false,false] rfl rfl (any_of HT_.out (by kernel_rfl)) (fun _ _ _ h=>h) (Or.inl ⟨by rfl,?_⟩) ?_ ?_
          rotate_left
          ·intro w'
           go_simp
           with_reducible rfl
          rotate_left
          ·simp only [Act.put,sA_,s0_,s1_,i64_w,i32_w]
           rfl
          refine take_ (i:=1) (N:=some 40) (v:=?_) (a':=?_) #[true,true,true,false,true,true,false,false,true,false,false,false,false,false,false,false] rfl rfl (take_ofW HT_.out HW_.out (by kernel_rfl)) (fun _ _ _ h=>h) (Or.inl ⟨by rfl,?_⟩) hHeld ?_ ?_
          rotate_left
          ·rintro w' ⟨s0,s1,s2,s3,s4,s5,s6,s7,s8,s9,s10,s11,s12⟩
           go_simp
           with_reducible rfl
          rotate_left
          ·simp only [Act.put,sA_,s0_,s1_,i64_w,i32_w]
           rfl
          refine take_ (i:=3) (N:=some 42) (v:=?_) (a':=?_) #[true,true,true,true,true,true,false,false,true,false,false,false,false,false,false,false] rfl rfl (take_ofW HT_.out HW_.out (by kernel_rfl)) (fun _ _ _ h=>h) (Or.inl ⟨by rfl,?_⟩) hHeld ?_ ?_
          rotate_left
          ·rintro w' ⟨s0,s1,s2,s3,s4,s5,s6,s7,s8,s9,s10,s11,s12⟩
           go_simp
           with_reducible rfl
          rotate_left
          ·simp only [Act.put,sA_,s0_,s1_,i64_w,i32_w]
           rfl
          refine take_ (i:=6) (N:=some 45) (v:=?_) (a':=?_) #[true,true,true,true,true,true,true,false,true,false,false,false,false,false,false,false] rfl rfl (take_ofW HT_.out HW_.out (by kernel_rfl)) (fun _ _ _ h=>h) (Or.inl ⟨by rfl,?_⟩) hHeld ?_ ?_
          rotate_left
          ·rintro w' ⟨s0,s1,s2,s3,s4,s5,s6,s7,s8,s9,s10,s11,s12⟩
           go_simp
           with_reducible rfl
          rotate_left
          ·simp only [Act.put,sA_,s0_,s1_,i64_w,i32_w]
           rfl
          refine pure_ (i:=7) (N:=some 46) (v:=?_) (a':=?_) #[true,true,true,true,true,true,true,true,true,false,false,false,false,false,false,false] rfl rfl (any_of HT_.out (by kernel_rfl)) (fun _ _ _ h=>h) (Or.inl ⟨by rfl,?_⟩) ?_ ?_
          rotate_left
          ·intro w'
           go_simp
           with_reducible rfl
          rotate_left
          ·simp only [Act.put,sA_,s0_,s1_,i64_w,i32_w]
           rfl
          refine pure_ (i:=9) (N:=some 48) (v:=?_) (a':=?_) #[true,true,true,true,true,true,true,true,true,true,false,false,false,false,false,false] rfl rfl (any_of HT_.out (by kernel_rfl)) (fun _ _ _ h=>h) (Or.inl ⟨by rfl,?_⟩) ?_ ?_
          rotate_left
          ·intro w'
           go_simp
           with_reducible rfl
          rotate_left
          ·simp only [Act.put,sA_,s0_,s1_,i64_w,i32_w]
           rfl
          refine pure_ (i:=10) (N:=some 49) (v:=?_) (a':=?_) #[true,true,true,true,true,true,true,true,true,true,true,false,false,false,false,false] rfl rfl (any_of HT_.out (by kernel_rfl)) (fun _ _ _ h=>h) (Or.inl ⟨by rfl,?_⟩) ?_ ?_
          rotate_left
          ·intro w'
           go_simp
           with_reducible rfl
          rotate_left
          ·simp only [Act.put,sA_,s0_,s1_,i64_w,i32_w]
           rfl
          refine take_ (i:=11) (N:=some 50) (v:=?_) (a':=?_) #[true,true,true,true,true,true,true,true,true,true,true,true,false,false,false,false] rfl rfl (take_ofW HT_.out HW_.out (by kernel_rfl)) (fun _ _ _ h=>h) (Or.inl ⟨by rfl,?_⟩) hHeld ?_ ?_
          rotate_left
          ·rintro w' ⟨s0,s1,s2,s3,s4,s5,s6,s7,s8,s9,s10,s11,s12⟩
           go_simp
           with_reducible rfl
          rotate_left
          ·simp only [Act.put,sA_,s0_,s1_,i64_w,i32_w]
           rfl
          refine one_ (i:=12) (N:=some 51) #[true,true,true,true,true,true,true,true,true,true,true,true,true,false,false,false] rfl rfl (one_of HT_.out (by kernel_rfl)) (by decide) (fun K hK=>?_)
          refine value_ (w1:=?_) (v:=?_) (by rfl) rfl ?_ ?_
          rotate_left 2
          ·go_simp
           constructor
           ·rfl
           ·rfl
          refine hK.out _ _ ⟨(blk_cell (kA_ BK171.out _) 0).trans rfl,(blk_cell (kA_ BK171.out _) 1).trans rfl,(blk_cell (kA_ BK171.out _) 2).trans rfl,(blk_cell (kA_ BK171.out _) 3).trans rfl,(blk_cell (kA_ BK171.out _) 4).trans rfl,(blk_cell (kA_ BK171.out _) 5).trans rfl,(blk_cell (kA_ BK166.out _) 0).trans rfl,(blk_cell (kA_ BK166.out _) 1).trans rfl,(blk_cell (kA_ BK166.out _) 2).trans rfl,(blk_cell (kA_ BK166.out _) 3).trans rfl,(blk_cell (kA_ BK166.out _) 4).trans rfl,(blk_cell (kA_ BK166.out _) 5).trans rfl,(World.cell?_alloc_lt _ _ _ (World.block_lt_of_cell? _ _ (((HB.out.cell (World.block_lt_of_cell? w _ hw174_0)).trans hw174_0)))).trans (((HB.out.cell (World.block_lt_of_cell? w _ hw174_0)).trans hw174_0))⟩ (fun hHeld=>?_)
          clear hK K
          refine norm_ (a':=?_) ?_ ?_
          rotate_left
          ·show Act.put _ (some 51) _=_
           simp only [Act.put,sA_,s0_,s1_,i64_w,i32_w]
           rfl
          refine one_ (i:=13) (N:=some 52) #[true,true,true,true,true,true,true,true,true,true,true,true,true,true,false,false] rfl rfl (one_of HT_.out (by kernel_rfl)) (by decide) (fun K hK=>?_)
          refine Kd.R_append_step (Kd.int .i64) (w0:=w) w.heap.size (by rfl) (.tmp 40) (.tmp 51) 22 3 (.int .i64 0) 8 rfl Try.underlying22 info3 rfl (by decide) (by omega) u172005 x172005_2 (rd l0_5 (ji23)) [.int .i64 (rd l0_5 (ji23))] (fun k_=>some k_≠(.slice Ao13 t168.length co13:Value).ownBlock) (fun _=>False) rfl rfl ?aP (fun _ hk=>hk.elim) ?aF ?aO ?aB ?aS ?aL ?_
          (case aP=>exact rfl)
          (case aB=>exact (by repeat (first|(with_reducible first|exact HB.out|apply wA_|apply wN_|apply wD_|refine below_set ?_ GE166.out|refine below_set ?_ GE167.out|refine below_set ?_ GE171.out)|exact HB.out)))
          (case aF=>exact (fun k_ hk=>Kd.fresh' (Kd.R_lt (by (with_reducible repeat (first|apply rA_|apply rN_|apply rD_));exact HO_172004.out)) k_ hk))
          (case aO=>exact (by (with_reducible repeat (first|apply rA_|apply rN_|apply rD_));exact HO_172005.out))
          (case aS=>exact (below_size (by repeat (first|(with_reducible first|exact HB.out|apply wA_|apply wN_|apply wD_|refine below_set ?_ GE166.out|refine below_set ?_ GE167.out|refine below_set ?_ GE171.out)|exact HB.out))))
          (case aL=>have:=LMc26.out;omega)
          intro v176 w28 ho hb hg hat
          rw [← Ny175.out] at ho
          have n0_:=aM_ (Kd.R_after (ok:=(fun _=>True)) (by (with_reducible repeat (first|apply rA_|apply rN_|apply rD_));exact Kd.R_mono HO_172004.out (fun _ hk=>⟨trivial,hk⟩)) hg hat)
          have n1_:=aM_ (blk_grown (g:=gb166) (o:=.cells #[.int .i64 a0_0,.int .i64 a0_1,.int .i64 a0_2,.int .i64 a0_3,.slice A0_4 l0_4.length c0_4,.slice (some ad174) l0_5.length c0_5] 27 (0,0)) (by (with_reducible repeat (first|apply kN_|apply kD_|apply kA_));exact BK166.out) hg (Kd.R_ne HO_172005.out BK166.out (by decide)))
          have n2_:=aM_ (blk_grown (g:=gb167) (o:=.cells #[.int .i64 0,.int .i64 0,.int .i64 0,.int .i64 0,.slice none 0 0,.slice none 0 0] 27 (0,0)) (by (with_reducible repeat (first|apply kN_|apply kD_|apply kA_));exact BK167.out) hg (Kd.R_ne HO_172005.out BK167.out (by decide)))
          have n3_:=aM_ (blk_grown (g:=gb171) (o:=.cells #[.int .i64 a0_0,.int .i64 a0_1,.int .i64 a1,.int .i64 a2,.slice Ao13 t168.length co13,u172005] 27 (0,0)) (by (with_reducible repeat (first|apply kN_|apply kD_|apply kA_));exact BK171.out) hg (Kd.R_ne HO_172005.out BK171.out (by decide)))
          have n4_:=aM_ (hb)
          have n5_:=aM_ (ho)
          clear HO_172004
          clear BK166
          clear BK167
          clear BK171
          clear HB
          clear HO_172005
          have HO_172004:=n0_
          have BK166:=n1_
          have BK167:=n2_
          have BK171:=n3_
          have HB:=n4_
          have HO177:=n5_
          clear n0_ n1_ n2_ n3_ n4_ n5_
          clear ho hb hg hat
          obtain ⟨Ao29,co29,eo29⟩:=Kd.R_slice HO177.out
          (first|subst eo29|(injection eo29 with f1_ f2_ f3_;have f4_:=f1_.symm;have f5_:=f3_.symm;clear f1_ f2_ f3_;subst f4_;subst f5_))
          refine hK.out _ _ ⟨(blk_cell BK171.out 0).trans rfl,(blk_cell BK171.out 1).trans rfl,(blk_cell BK171.out 2).trans rfl,(blk_cell BK171.out 3).trans rfl,(blk_cell BK171.out 4).trans rfl,(blk_cell BK171.out 5).trans rfl,(blk_cell BK166.out 0).trans rfl,(blk_cell BK166.out 1).trans rfl,(blk_cell BK166.out 2).trans rfl,(blk_cell BK166.out 3).trans rfl,(blk_cell BK166.out 4).trans rfl,(blk_cell BK166.out 5).trans rfl,((HB.out.cell (World.block_lt_of_cell? w _ hw174_0)).trans hw174_0)⟩ (fun hHeld=>?_)
          clear hK K
          refine norm_ (a':=?_) ?_ ?_
          rotate_left
          ·show Act.put _ (some 52) _=_
           simp only [Act.put,sA_,s0_,s1_,i64_w,i32_w]
           rfl
          refine pure_ (i:=14) (N:=some 53) (v:=?_) (a':=?_) #[true,true,true,true,true,true,true,true,true,true,true,true,true,true,true,false] rfl rfl (any_of HT_.out (by kernel_rfl)) (fun _ _ _ h=>h) (Or.inl ⟨by rfl,?_⟩) ?_ ?_
          rotate_left
          ·intro w'
           go_simp
           with_reducible rfl
          rotate_left
          ·simp only [Act.put,sA_,s0_,s1_,i64_w,i32_w]
           rfl
          refine last_ (i:=15) (N:=none) #[true,true,true,true,true,true,true,true,true,true,true,true,true,true,true,true] rfl rfl (one_of HT_.out (by kernel_rfl)) (by decide) (fun K hK=>?_)
          have hs30:w28.cell? ⟨gb171,5,none⟩=some (u172005):=(blk_cell BK171.out 5).trans rfl
          have hfs30:=blk_frozen BK171.out 5
          have hns30_0:=NB166_171.out
          have hns30_1:=NB167_171.out
          have hms30_0:=NB171_166.out
          have hms30_1:=NB171_167.out
          refine skip_ (w1:=?_) (by rfl) rfl ?_ ?_
          rotate_left
          ·go_simp
           rfl
          refine hK.out _ _ ?_
          clear hK K
          refine done_ (done_of HT_.out (by kernel_rfl)) ?_
          try go_wp2
          go_roundg k2
          case measure=>have:=HK1.out;have:=HK2.out;omega
          case rel=>exact ⟨(wrap64 (x29_2+1)),(y175),(.slice Ao29 y175.length co29),(by first|rfl|(simp;done)|(simp [*];done)),H',⟨by have:=HK1.out;have:=HK2.out;omega⟩,⟨by (with_reducible repeat (first|apply rA_|apply rN_|apply rD_));exact Kd.R_mono (Kd.R_far (Kd.R_types HO_172004.out BK171.out (by decide)) (fun _ hk=>hk.2) _) (fun _ hk=>hk.1.2)⟩,⟨by (with_reducible repeat (first|apply rA_|apply rN_|apply rD_));exact Kd.R_mono (Kd.R_far (Kd.R_types HO177.out BK171.out (by decide)) (fun _ hk=>hk.2) _) (fun _ hk=>hk.1)⟩,⟨by (with_reducible repeat (first|apply kN_|apply kD_|apply kA_));refine blk_far ?_ NB166_171.out _;(with_reducible repeat (first|apply kN_|apply kD_|apply kA_));exact BK166.out⟩,⟨by (with_reducible repeat (first|apply kN_|apply kD_|apply kA_));refine blk_far ?_ NB167_171.out _;(with_reducible repeat (first|apply kN_|apply kD_|apply kA_));exact BK167.out⟩,⟨by (with_reducible repeat (first|apply kN_|apply kD_|apply kA_));refine blk_put (cs:=#[.int .i64 a0_0,.int .i64 a0_1,.int .i64 a1,.int .i64 a2,.slice Ao13 t168.length co13,u172005]) ?_ 5 _ rfl;(with_reducible repeat (first|apply kN_|apply kD_|apply kA_));exact BK171.out⟩,⟨by repeat (first|(with_reducible first|exact HB.out|apply wA_|apply wN_|apply wD_|refine below_set ?_ GE166.out|refine below_set ?_ GE167.out|refine below_set ?_ GE171.out)|exact HB.out)⟩⟩
         ·rw [if_neg c26] at H
          exact absurd H (by simp)
        ·rw [if_neg c25] at H
         exact absurd H (by simp)
       ·rw [if_neg c24] at H
        exact absurd H (by simp)
      ·rw [if_neg c21] at H
       have c21b0:decide (x29_2 < a1)=false:=decide_eq_false c21
       clear c21
       have H':=aM_ H
       clear H
       go_wp2
       go_roundg k2
       case measure=>have:=HK1.out;have:=HK2.out;omega
       case rel=>exact ⟨(wrap64 (x25_1+1)),(x172005_2),(u172005),(by first|rfl|(simp;done)|(simp [*];done)),H',⟨by have:=HK1.out;have:=HK2.out;omega⟩,⟨by (with_reducible repeat (first|apply rA_|apply rN_|apply rD_));exact HO_172004.out⟩,⟨by (with_reducible repeat (first|apply rA_|apply rN_|apply rD_));exact HO_172005.out⟩,⟨by (with_reducible repeat (first|apply kN_|apply kD_|apply kA_));exact BK166.out⟩,⟨by (with_reducible repeat (first|apply kN_|apply kD_|apply kA_));exact BK167.out⟩,⟨by (with_reducible repeat (first|apply kN_|apply kD_|apply kA_));exact BK171.out⟩,⟨by repeat (first|(with_reducible first|exact HB.out|apply wA_|apply wN_|apply wD_|refine below_set ?_ GE166.out|refine below_set ?_ GE167.out|refine below_set ?_ GE171.out)|exact HB.out)⟩⟩
   ·rw [if_neg c20] at H
    have c20b0:decide (x25_1 < a2)=false:=decide_eq_false c20
    clear c20
    simp only [Option.some.injEq,Prod.mk.injEq] at H
    obtain ⟨rfl,rfl,rfl,rfl,rfl,rfl⟩:=H
    have hnb31:=NB171_166.out
    have hnc31:=NB166_171.out
    have hnb32:=NB171_167.out
    have hnc32:=NB167_171.out
    obtain ⟨hcz33_0,hcz33_1,hcz33_2,hcz33_3,hcz33_4,hcz33_5⟩:=bc6 BK171.out
    obtain ⟨hfz33_0,hfz33_1,hfz33_2,hfz33_3,hfz33_4,hfz33_5⟩:=bf6 BK171.out
    have hnb34:=NB167_166.out
    have hnc34:=NB166_167.out
    obtain ⟨hcz35_0,hcz35_1,hcz35_2,hcz35_3,hcz35_4,hcz35_5⟩:=bc6 BK167.out
    obtain ⟨hfz35_0,hfz35_1,hfz35_2,hfz35_3,hfz35_4,hfz35_5⟩:=bf6 BK167.out
    obtain ⟨Ao36,co36,eo36⟩:=Kd.R_slice HO_172005.out
    subst eo36
    go_wp2
    refine bodyPost_ret (results_cell_row rfl _ _ gb167 27 #[.int .i64 a0_0,.int .i64 a0_1,.int .i64 a1,.int .i64 a2,.slice Ao13 t168.length co13,.slice Ao36 x172005_1.length co36] (0,0) _ rfl (by (with_reducible repeat (first|apply kN_|apply kD_|apply kA_));refine blk_put (cs:=#[.int .i64 a0_0,.int .i64 a0_1,.int .i64 a1,.int .i64 a2,.slice Ao13 t168.length co13,.slice none 0 0]) ?_ 5 _ rfl;(with_reducible repeat (first|apply kN_|apply kD_|apply kA_));refine blk_put (cs:=#[.int .i64 a0_0,.int .i64 a0_1,.int .i64 a1,.int .i64 a2,.slice none 0 0,.slice none 0 0]) ?_ 4 _ rfl;(with_reducible repeat (first|apply kN_|apply kD_|apply kA_));refine blk_put (cs:=#[.int .i64 a0_0,.int .i64 a0_1,.int .i64 a1,.int .i64 0,.slice none 0 0,.slice none 0 0]) ?_ 3 _ rfl;(with_reducible repeat (first|apply kN_|apply kD_|apply kA_));refine blk_put (cs:=#[.int .i64 a0_0,.int .i64 a0_1,.int .i64 0,.int .i64 0,.slice none 0 0,.slice none 0 0]) ?_ 2 _ rfl;(with_reducible repeat (first|apply kN_|apply kD_|apply kA_));refine blk_put (cs:=#[.int .i64 a0_0,.int .i64 0,.int .i64 0,.int .i64 0,.slice none 0 0,.slice none 0 0]) ?_ 1 _ rfl;(with_reducible repeat (first|apply kN_|apply kD_|apply kA_));refine blk_put (cs:=#[.int .i64 0,.int .i64 0,.int .i64 0,.int .i64 0,.slice none 0 0,.slice none 0 0]) ?_ 0 _ rfl;(with_reducible repeat (first|apply kN_|apply kD_|apply kA_));exact BK167.out) Try.underlying27 rfl (by kernel_rfl)) rfl ?_
    exact ⟨_,_,by first|rfl|(simp [errW_none,errW_some] <;> rfl)|(simp [*,errW_none,errW_some] <;> rfl),by (with_reducible repeat (first|apply rA_|apply rN_|apply rD_));exact Kd.R_mono (Kd.R_far (Kd.R_far (Kd.R_far (Kd.R_far (Kd.R_far (Kd.R_far (Kd.R_types HO_172004.out BK167.out (by decide)) (fun _ hk=>hk.2) _) (fun _ hk=>hk.2) _) (fun _ hk=>hk.2) _) (fun _ hk=>hk.2) _) (fun _ hk=>hk.2) _) (fun _ hk=>hk.2) _) (fun _ hk=>hk.1),by (with_reducible repeat (first|apply rA_|apply rN_|apply rD_));exact Kd.R_mono (Kd.R_far (Kd.R_far (Kd.R_far (Kd.R_far (Kd.R_far (Kd.R_far (Kd.R_types HO_172005.out BK167.out (by decide)) (fun _ hk=>hk.2) _) (fun _ hk=>hk.2) _) (fun _ hk=>hk.2) _) (fun _ hk=>hk.2) _) (fun _ hk=>hk.2) _) (fun _ hk=>hk.2) _) (fun _ hk=>hk.1),by repeat (first|(with_reducible first|exact HB.out|apply wA_|apply wN_|apply wD_|refine below_set ?_ GE166.out|refine below_set ?_ GE167.out|refine below_set ?_ GE171.out)|exact HB.out)⟩

end Go.Proofs.Ytkjfefiphdloiaa.PFnImageCut
