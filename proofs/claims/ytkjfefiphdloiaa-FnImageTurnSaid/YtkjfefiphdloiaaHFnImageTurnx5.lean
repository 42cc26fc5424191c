/- What the functions that the law comes to compute, as plain functions, and that the machine's calls come to just that: written by a program for this claim, and turned where Lean did not take it. No condition. -/
import Derived.Lib.SliceRun
import Derived.Test.YtkjfefiphdloiaaHFnImageTurnx0
import Derived.Test.YtkjfefiphdloiaaHFnImageTurnx2
namespace Go.Proofs.Ytkjfefiphdloiaa.PFnImageTurn
open Go.RowKit Go.Proofs.YtkjfefiphdloiaaW.PrintWords Go.Proofs.YtkjfefiphdloiaaW.PrintLast Go.Proofs.YtkjfefiphdloiaaW.PrintMore
attribute [local go_sem] max2_int min2_int max_two min_two max_three min_three max_four min_four   -- for this text's walks alone
set_option linter.unusedVariables false
set_option linter.unusedSimpArgs false

/-! ### spec_l8Blank: function 56 -/
def spec_l8Blank.f (a0_0:Int) (a0_1:Int) (a0_2:Int) (a0_3:Int) (l0_4:List Int) (l0_5:List Int) (a1:Int) (a2:Int):Option (Int × Int × Int × Int × List Int × List Int):=(some (([]:List Int):List Int)).bind fun y125=>(if y125.length+l0_4.length < 17592186044416 then (some (a0_0,a0_1,a1,a2,(y125 ++ l0_4),([]:List Int))) else (none))
def spec_l8Blank.T1:Bool × List (List Nat × List Nat):=(true,[([],[]),([0],[0]),([],[]),([2],[2]),([],[]),([],[]),([],[]),([],[]),([7],[7]),([6,8],[6,8]),([1,3,4,5,9],[1,3,4,5,9]),([10,9,0,1,2,3,4,5,6,7,8,9,10],[10])])
def spec_l8Blank.B1:List Nat:=[0,1,0,4,0,0,0,0,128,448,1023,2047]
theorem spec_l8Blank.tab1:rtab .any (opsOf Try.f56 1)=spec_l8Blank.T1:=by kernel_rfl
theorem spec_l8Blank.bits1:waitsOk spec_l8Blank.T1.2 spec_l8Blank.B1=true:=by kernel_rfl
set_option maxHeartbeats 8000000 in
set_option maxRecDepth 100000 in
theorem spec_l8Blank.calls (a0_0:Int) (a0_1:Int) (a0_2:Int) (a0_3:Int) (A0_4:Option Addr) (c0_4:Nat) (l0_4:List Int) (A0_5:Option Addr) (c0_5:Nat) (l0_5:List Int) (a1:Int) (a2:Int) (r1:Int) (r2:Int) (r3:Int) (r4:Int) (r5:List Int) (r6:List Int) (w:World) (hr0_4:Kd.C (Kd.int .i64) w A0_4 l0_4.length l0_4) (hc0_4:l0_4.length≤c0_4) (hr0_5:Kd.C (Kd.int .i64) w A0_5 l0_5.length l0_5) (hc0_5:l0_5.length≤c0_5) (h:spec_l8Blank.f a0_0 a0_1 a0_2 a0_3 l0_4 l0_5 a1 a2=some (r1,r2,r3,r4,r5,r6)) :
  Calls Try.prog 56 #[.agg #[.int .i64 a0_0,.int .i64 a0_1,.int .i64 a0_2,.int .i64 a0_3,.slice A0_4 l0_4.length c0_4,.slice A0_5 l0_5.length c0_5],.int .i64 a1,.int .i64 a2] w fun e w'=>∃ v4_ v5_:Value,e=.returned (.agg #[.int .i64 r1,.int .i64 r2,.int .i64 r3,.int .i64 r4,v4_,v5_])∧Kd.R (Kd.int .i64) 3 w' w.heap.size (fun k_=>some k_≠(v5_:Value).ownBlock) v4_ r5∧Kd.R (Kd.int .i64) 3 w' w.heap.size (fun k_=>some k_≠(v4_:Value).ownBlock) v5_ r6∧Below w.heap.size w w':=by
 have hu27:=Try.underlying27
 have HR0_4:=aM_ hr0_4
 have HC0_4:=aM_ hc0_4
 clear hr0_4 hc0_4
 have HR0_5:=aM_ hr0_5
 have HC0_5:=aM_ hc0_5
 clear hr0_5 hc0_5
 have HB:=aM_ (Below.refl w.heap.size w)
 have H:((some (([]:List Int):List Int)).bind fun y125=>(if y125.length+l0_4.length < 17592186044416 then (some (a0_0,a0_1,a1,a2,(y125 ++ l0_4),([]:List Int))) else (none)))=some (r1,r2,r3,r4,r5,r6):=h
 clear h
 obtain ⟨y125,hy125⟩:∃ y_:List Int,y_=(([]:List Int)):=⟨_,rfl⟩
 replace H:(if y125.length+l0_4.length < 17592186044416 then (some (a0_0,a0_1,a1,a2,(y125 ++ l0_4),([]:List Int))) else (none))=some (r1,r2,r3,r4,r5,r6):=by first|(rw [hy125];with_reducible exact H)|(have H2_:=(Option.bind_some _ _).symm.trans H;rw [hy125];with_reducible exact H2_)|(have H2_:=(Option.bind_some _ _).symm.trans H;with_reducible exact H2_)|with_reducible exact H|(rw [hy125];exact H)|exact H
 have Ny125:=aM_ hy125
 clear hy125
 by_cases c4:y125.length+l0_4.length < 17592186044416
 ·rw [if_pos c4] at H
  have LMc4:=aM_ c4
  clear c4
  obtain ⟨y128,hy128⟩:∃ y_:List Int,y_=(y125 ++ l0_4):=⟨_,rfl⟩
  replace H:(some (a0_0,a0_1,a1,a2,y128,([]:List Int)))=some (r1,r2,r3,r4,r5,r6):=by first|(rw [hy128];with_reducible exact H)|(have H2_:=(Option.bind_some _ _).symm.trans H;rw [hy128];with_reducible exact H2_)|(have H2_:=(Option.bind_some _ _).symm.trans H;with_reducible exact H2_)|with_reducible exact H|(rw [hy128];exact H)|exact H
  have Ny128:=aM_ hy128
  clear hy128
  simp only [Option.some.injEq,Prod.mk.injEq] at H
  obtain ⟨rfl,rfl,rfl,rfl,rfl,rfl⟩:=H
  go_enter Try.func56,Try.ntmps56
  try go_wp2_with (first|((with_reducible refine gate_dst (N:=3) rfl ?_);refine box_event ?hg (N:=3) ?hd (cs:=#[.int .i64 a0_0,.int .i64 a0_1,.int .i64 a0_2,.int .i64 a0_3,.slice A0_4 l0_4.length c0_4,.slice A0_5 l0_5.length c0_5]) (t:=27) ?hr ?_;(case hd=>rfl);(case hg=>rfl);(case hr=>first|(go_simp;done)|(go_simp;rfl));intro gb123 hg w5 hbox hb;have n0_:=aM_ (below_step (by repeat (first|(with_reducible first|exact HB.out|apply wA_|apply wN_|apply wD_)|exact HB.out)) hb);have n1_:=aM_ (hbox);have n2_:=aM_ ((by rw [hg];exact (below_size (by repeat (first|(with_reducible first|exact HB.out|apply wA_|apply wN_|apply wD_)|exact HB.out))):w.heap.size≤gb123));have n3_:=aM_ ((by rw [hg];exact (below_size (by repeat (first|(with_reducible first|exact HB.out|apply wA_|apply wN_|apply wD_)|exact HB.out))):w.heap.size≤gb123));clear HB;have HB:=n0_;have BK123:=n1_;have GW123:=n2_;have GE123:=n3_;clear n0_ n1_ n2_ n3_;clear hb hbox hg)|((with_reducible refine gate_dst (N:=6) rfl ?_);refine box_event ?hg (N:=6) ?hd (cs:=#[.int .i64 0,.int .i64 0,.int .i64 0,.int .i64 0,.slice none 0 0,.slice none 0 0]) (t:=27) ?hr ?_;(case hd=>rfl);(case hg=>rfl);(case hr=>first|(go_simp;done)|(go_simp;rfl));intro gb124 hg w6 hbox hb;have n0_:=aM_ (blk_below (g:=gb123) (by (with_reducible repeat (first|apply kN_|apply kD_|apply kA_));exact BK123.out) hb);have n1_:=aM_ (below_step (by repeat (first|(with_reducible first|exact HB.out|apply wA_|apply wN_|apply wD_|refine below_set ?_ GE123.out)|exact HB.out)) hb);have n2_:=aM_ (hbox);have n3_:=aM_ ((by rw [hg];exact (below_size (by repeat (first|(with_reducible first|exact HB.out|apply wA_|apply wN_|apply wD_|refine below_set ?_ GE123.out)|exact HB.out))):w.heap.size≤gb124));have n4_:=aM_ ((by rw [hg];exact (below_size (by repeat (first|(with_reducible first|exact HB.out|apply wA_|apply wN_|apply wD_|refine below_set ?_ GE123.out)|exact HB.out))):w.heap.size≤gb124));have n5_:=aM_ ((by rw [hg];exact Nat.ne_of_lt (blk_lt (g:=gb123) (by (with_reducible repeat (first|apply kN_|apply kD_|apply kA_));exact BK123.out)):gb123≠gb124));have n6_:=aM_ n5_.out.symm;clear BK123;clear HB;have BK123:=n0_;have HB:=n1_;have BK124:=n2_;have GW124:=n3_;have GE124:=n4_;have NB123_124:=n5_;have NB124_123:=n6_;clear n0_ n1_ n2_ n3_ n4_ n5_ n6_;clear hb hbox hg))
  have n0_:=aM_ (kD_ BK123.out)
  have n1_:=aM_ (kD_ BK124.out)
  have n2_:=aM_ (wD_ HB.out)
  clear BK123
  clear BK124
  clear HB
  have BK123:=n0_
  have BK124:=n1_
  have HB:=n2_
  clear n0_ n1_ n2_
  refine start_ (n:=12) (S:=fun w'=>w'.cell? ⟨gb123,0,none⟩=some (.int .i64 a0_0)∧w'.cell? ⟨gb123,1,none⟩=some (.int .i64 a0_1)∧w'.cell? ⟨gb123,2,none⟩=some (.int .i64 a0_2)∧w'.cell? ⟨gb123,3,none⟩=some (.int .i64 a0_3)∧w'.cell? ⟨gb123,4,none⟩=some (.slice A0_4 l0_4.length c0_4)∧w'.cell? ⟨gb123,5,none⟩=some (.slice A0_5 l0_5.length c0_5)) (ds:=[]) #[false,false,false,false,false,false,false,false,false,false,false,false] (by kernel_rfl) rfl rfl (bc6 BK123.out) (fun hHeld=>?_);refine with_tabW spec_l8Blank.tab1 spec_l8Blank.bits1 (fun HT_ HW_=>?_)
  generalize w6.drew=w7 at BK123 BK124 HB hHeld ⊢
  refine pure_ (i:=0) (N:=some 7) (v:=?_) (a':=?_) #[true,false,false,false,false,false,false,false,false,false,false,false] rfl rfl (any_of HT_.out (by kernel_rfl)) (fun _ _ _ h=>h) (Or.inl ⟨by rfl,?_⟩) ?_ ?_
  rotate_left
  ·intro w'
   go_simp
   with_reducible rfl
  rotate_left
  ·simp only [Act.put,sA_,s0_,s1_,i64_w,i32_w]
   rfl
  refine pure_ (i:=2) (N:=some 9) (v:=?_) (a':=?_) #[true,false,true,false,false,false,false,false,false,false,false,false] rfl rfl (any_of HT_.out (by kernel_rfl)) (fun _ _ _ h=>h) (Or.inl ⟨by rfl,?_⟩) ?_ ?_
  rotate_left
  ·intro w'
   go_simp
   with_reducible rfl
  rotate_left
  ·simp only [Act.put,sA_,s0_,s1_,i64_w,i32_w]
   rfl
  refine pure_ (i:=4) (N:=some 11) (v:=?_) (a':=?_) #[true,false,true,false,true,false,false,false,false,false,false,false] rfl rfl (any_of HT_.out (by kernel_rfl)) (fun _ _ _ h=>h) (Or.inl ⟨by rfl,?_⟩) ?_ ?_
  rotate_left
  ·intro w'
   go_simp
   with_reducible rfl
  rotate_left
  ·simp only [Act.put,sA_,s0_,s1_,i64_w,i32_w]
   rfl
  refine pure_ (i:=5) (N:=some 12) (v:=?_) (a':=?_) #[true,false,true,false,true,true,false,false,false,false,false,false] rfl rfl (any_of HT_.out (by kernel_rfl)) (fun _ _ _ h=>h) (Or.inl ⟨by rfl,?_⟩) ?_ ?_
  rotate_left
  ·intro w'
   go_simp
   with_reducible rfl
  rotate_left
  ·simp only [Act.put,sA_,s0_,s1_,i64_w,i32_w]
   rfl
  refine pure_ (i:=7) (N:=some 14) (v:=?_) (a':=?_) #[true,false,true,false,true,true,false,true,false,false,false,false] rfl rfl (any_of HT_.out (by kernel_rfl)) (fun _ _ _ h=>h) (Or.inl ⟨by rfl,?_⟩) ?_ ?_
  rotate_left
  ·intro w'
   go_simp
   with_reducible rfl
  rotate_left
  ·simp only [Act.put,sA_,s0_,s1_,i64_w,i32_w]
   rfl
  refine take_ (i:=1) (N:=some 8) (v:=?_) (a':=?_) #[true,true,true,false,true,true,false,true,false,false,false,false] rfl rfl (take_ofW HT_.out HW_.out (by kernel_rfl)) (fun _ _ _ h=>h) (Or.inl ⟨by rfl,?_⟩) hHeld ?_ ?_
  rotate_left
  ·rintro w' ⟨s0,s1,s2,s3,s4,s5⟩
   go_simp
   with_reducible rfl
  rotate_left
  ·simp only [Act.put,sA_,s0_,s1_,i64_w,i32_w]
   rfl
  refine take_ (i:=3) (N:=some 10) (v:=?_) (a':=?_) #[true,true,true,true,true,true,false,true,false,false,false,false] rfl rfl (take_ofW HT_.out HW_.out (by kernel_rfl)) (fun _ _ _ h=>h) (Or.inl ⟨by rfl,?_⟩) hHeld ?_ ?_
  rotate_left
  ·rintro w' ⟨s0,s1,s2,s3,s4,s5⟩
   go_simp
   with_reducible rfl
  rotate_left
  ·simp only [Act.put,sA_,s0_,s1_,i64_w,i32_w]
   rfl
  refine take_ (i:=8) (N:=some 15) (v:=?_) (a':=?_) #[true,true,true,true,true,true,false,true,true,false,false,false] rfl rfl (take_ofW HT_.out HW_.out (by kernel_rfl)) (fun _ _ _ h=>h) (Or.inl ⟨by rfl,?_⟩) hHeld ?_ ?_
  rotate_left
  ·rintro w' ⟨s0,s1,s2,s3,s4,s5⟩
   go_simp
   with_reducible rfl
  rotate_left
  ·simp only [Act.put,sA_,s0_,s1_,i64_w,i32_w]
   rfl
  refine one_ (i:=6) (N:=some 13) #[true,true,true,true,true,true,true,true,true,false,false,false] rfl rfl (one_of HT_.out (by kernel_rfl)) (by decide) (fun K hK=>?_)
  refine Kd.R_lit_step (Kd.int .i64) _ 3 ?hg (N:=13) ?hd (xs:=([]:List Int)) (inner:=[]) (ok:=fun _=>True) (okp:=fun _=>True) ?hr ?hp (fun _ hk=>hk) trivial (Below.refl _ _) (Nat.le_refl _) (by simp) ?_;(case hd=>rfl);(case hg=>rfl);(case hr=>first|(go_simp;done)|(go_simp;rfl));(case hp=>exact (Reps.none _ _))
  intro v126 w8 ho9 hb hg_ hnew_
  clear hg_ hnew_
  (first|rw [← Ny125.out] at ho9|(simp only [Int.reduceToNat] at ho9;rw [← Ny125.out] at ho9))
  have n0_:=aM_ (Kd.R_lower ho9 (below_size (by repeat (first|(with_reducible first|exact HB.out|apply wA_|apply wN_|apply wD_|refine below_set ?_ GE123.out|refine below_set ?_ GE124.out)|exact HB.out))))
  have n1_:=aM_ (blk_below (g:=gb123) (by (with_reducible repeat (first|apply kN_|apply kD_|apply kA_));exact BK123.out) hb)
  have n2_:=aM_ (blk_below (g:=gb124) (by (with_reducible repeat (first|apply kN_|apply kD_|apply kA_));exact BK124.out) hb)
  have n3_:=aM_ (below_step (by repeat (first|(with_reducible first|exact HB.out|apply wA_|apply wN_|apply wD_|refine below_set ?_ GE123.out|refine below_set ?_ GE124.out)|exact HB.out)) hb)
  clear BK123
  clear BK124
  clear HB
  have HO127:=n0_
  have BK123:=n1_
  have BK124:=n2_
  have HB:=n3_
  clear n0_ n1_ n2_ n3_
  clear hb ho9
  refine hK.out _ _ (bc6 BK123.out) (fun hHeld=>?_)
  clear hK K
  refine norm_ (a':=?_) ?_ ?_
  rotate_left
  ·show Act.put _ (some 13) _=_
   simp only [Act.put,sA_,s0_,s1_,i64_w,i32_w]
   rfl
  refine one_ (i:=9) (N:=some 16) #[true,true,true,true,true,true,true,true,true,true,false,false] rfl rfl (one_of HT_.out (by kernel_rfl)) (by decide) (fun K hK=>?_)
  refine Kd.R_append_rows_step (Kd.int .i64) (w0:=w) w.heap.size (by rfl) (.tmp 13) (.tmp 15) 22 3 (.int .i64 0) 8 rfl Try.underlying22 info3 rfl (by decide) (by omega) v126 y125 l0_4 _ _ _ (fun _=>True) (fun _=>False) rfl rfl ?aO ?aR (fun _ _ h=>h) (fun _ h=>h.elim) ?aF ?aB ?aS ?aL ?_
  (case aR=>repeat (first|exact (Kd.C_below HR0_4.out HB.out)|(with_reducible refine Kd.C_alloc ?_ _)|(with_reducible refine Kd.C_drewN ?_ _)|(with_reducible refine Kd.C_drew ?_)))
  (case aB=>exact (by repeat (first|(with_reducible first|exact HB.out|apply wA_|apply wN_|apply wD_|refine below_set ?_ GE123.out|refine below_set ?_ GE124.out)|exact HB.out)))
  (case aF=>exact (fun _ _=>trivial))
  (case aO=>exact (by (with_reducible repeat (first|apply rA_|apply rN_|apply rD_));exact HO127.out))
  (case aS=>exact (below_size (by repeat (first|(with_reducible first|exact HB.out|apply wA_|apply wN_|apply wD_|refine below_set ?_ GE123.out|refine below_set ?_ GE124.out)|exact HB.out))))
  (case aL=>have:=LMc4.out;omega)
  intro v129 w10 ho hb hg hat
  rw [← Ny128.out] at ho
  have n0_:=aM_ (blk_grown (g:=gb123) (o:=.cells #[.int .i64 a0_0,.int .i64 a0_1,.int .i64 a0_2,.int .i64 a0_3,.slice A0_4 l0_4.length c0_4,.slice A0_5 l0_5.length c0_5] 27 (0,0)) (by (with_reducible repeat (first|apply kN_|apply kD_|apply kA_));exact BK123.out) hg (Kd.R_ne HO127.out BK123.out (by decide)))
  have n1_:=aM_ (blk_grown (g:=gb124) (o:=.cells #[.int .i64 0,.int .i64 0,.int .i64 0,.int .i64 0,.slice none 0 0,.slice none 0 0] 27 (0,0)) (by (with_reducible repeat (first|apply kN_|apply kD_|apply kA_));exact BK124.out) hg (Kd.R_ne HO127.out BK124.out (by decide)))
  have n2_:=aM_ (hb)
  have n3_:=aM_ (ho)
  clear BK123
  clear BK124
  clear HB
  clear HO127
  have BK123:=n0_
  have BK124:=n1_
  have HB:=n2_
  have HO130:=n3_
  clear n0_ n1_ n2_ n3_
  clear ho hb hg hat
  obtain ⟨Ao11,co11,eo11⟩:=Kd.R_slice HO130.out
  (first|subst eo11|(injection eo11 with f1_ f2_ f3_;have f4_:=f1_.symm;have f5_:=f3_.symm;clear f1_ f2_ f3_;subst f4_;subst f5_))
  refine hK.out _ _ (bc6 BK123.out) (fun hHeld=>?_)
  clear hK K
  refine norm_ (a':=?_) ?_ ?_
  rotate_left
  ·show Act.put _ (some 16) _=_
   simp only [Act.put,sA_,s0_,s1_,i64_w,i32_w]
   rfl
  refine pure_ (i:=10) (N:=some 17) (v:=?_) (a':=?_) #[true,true,true,true,true,true,true,true,true,true,true,false] rfl rfl (any_of HT_.out (by kernel_rfl)) (fun _ _ _ h=>h) (Or.inl ⟨by rfl,?_⟩) ?_ ?_
  rotate_left
  ·intro w'
   go_simp
   with_reducible rfl
  rotate_left
  ·simp only [Act.put,sA_,s0_,s1_,i64_w,i32_w]
   rfl
  refine one_ (i:=11) (N:=none) #[true,true,true,true,true,true,true,true,true,true,true,true] rfl rfl (one_of HT_.out (by kernel_rfl)) (by decide) (fun K hK=>?_)
  have hs12:w10.cell? ⟨gb124,0,none⟩=some (.int .i64 0):=(blk_cell BK124.out 0).trans rfl
  have hfs12:=blk_frozen BK124.out 0
  have hns12_0:=NB123_124.out
  have hms12_0:=NB124_123.out
  have hs13:w10.cell? ⟨gb124,1,none⟩=some (.int .i64 0):=(blk_cell BK124.out 1).trans rfl
  have hfs13:=blk_frozen BK124.out 1
  have hns13_0:=NB123_124.out
  have hms13_0:=NB124_123.out
  have hs14:w10.cell? ⟨gb124,2,none⟩=some (.int .i64 0):=(blk_cell BK124.out 2).trans rfl
  have hfs14:=blk_frozen BK124.out 2
  have hns14_0:=NB123_124.out
  have hms14_0:=NB124_123.out
  have hs15:w10.cell? ⟨gb124,3,none⟩=some (.int .i64 0):=(blk_cell BK124.out 3).trans rfl
  have hfs15:=blk_frozen BK124.out 3
  have hns15_0:=NB123_124.out
  have hms15_0:=NB124_123.out
  have hs16:w10.cell? ⟨gb124,4,none⟩=some (.slice none 0 0):=(blk_cell BK124.out 4).trans rfl
  have hfs16:=blk_frozen BK124.out 4
  have hns16_0:=NB123_124.out
  have hms16_0:=NB124_123.out
  have hs17:w10.cell? ⟨gb124,5,none⟩=some (.slice none 0 0):=(blk_cell BK124.out 5).trans rfl
  have hfs17:=blk_frozen BK124.out 5
  have hns17_0:=NB123_124.out
  have hms17_0:=NB124_123.out
  refine skip_ (w1:=?_) (by rfl) rfl ?_ ?_
  rotate_left
  ·go_simp
   rfl
  refine hK.out _ _ ⟨((cell_far (p:=⟨gb124,_,none⟩) NB123_124.out _).trans (((cell_far (p:=⟨gb124,_,none⟩) NB123_124.out _).trans (((cell_far (p:=⟨gb124,_,none⟩) NB123_124.out _).trans (((cell_far (p:=⟨gb124,_,none⟩) NB123_124.out _).trans (((cell_far (p:=⟨gb124,_,none⟩) NB123_124.out _).trans (((cell_far (p:=⟨gb124,_,none⟩) NB123_124.out _).trans (hHeld.1)))))))))))),((cell_far (p:=⟨gb124,_,none⟩) NB123_124.out _).trans (((cell_far (p:=⟨gb124,_,none⟩) NB123_124.out _).trans (((cell_far (p:=⟨gb124,_,none⟩) NB123_124.out _).trans (((cell_far (p:=⟨gb124,_,none⟩) NB123_124.out _).trans (((cell_far (p:=⟨gb124,_,none⟩) NB123_124.out _).trans (((cell_far (p:=⟨gb124,_,none⟩) NB123_124.out _).trans (hHeld.2.1)))))))))))),((cell_far (p:=⟨gb124,_,none⟩) NB123_124.out _).trans (((cell_far (p:=⟨gb124,_,none⟩) NB123_124.out _).trans (((cell_far (p:=⟨gb124,_,none⟩) NB123_124.out _).trans (((cell_far (p:=⟨gb124,_,none⟩) NB123_124.out _).trans (((cell_far (p:=⟨gb124,_,none⟩) NB123_124.out _).trans (((cell_far (p:=⟨gb124,_,none⟩) NB123_124.out _).trans (hHeld.2.2.1)))))))))))),((cell_far (p:=⟨gb124,_,none⟩) NB123_124.out _).trans (((cell_far (p:=⟨gb124,_,none⟩) NB123_124.out _).trans (((cell_far (p:=⟨gb124,_,none⟩) NB123_124.out _).trans (((cell_far (p:=⟨gb124,_,none⟩) NB123_124.out _).trans (((cell_far (p:=⟨gb124,_,none⟩) NB123_124.out _).trans (((cell_far (p:=⟨gb124,_,none⟩) NB123_124.out _).trans (hHeld.2.2.2.1)))))))))))),((cell_far (p:=⟨gb124,_,none⟩) NB123_124.out _).trans (((cell_far (p:=⟨gb124,_,none⟩) NB123_124.out _).trans (((cell_far (p:=⟨gb124,_,none⟩) NB123_124.out _).trans (((cell_far (p:=⟨gb124,_,none⟩) NB123_124.out _).trans (((cell_far (p:=⟨gb124,_,none⟩) NB123_124.out _).trans (((cell_far (p:=⟨gb124,_,none⟩) NB123_124.out _).trans (hHeld.2.2.2.2.1)))))))))))),((cell_far (p:=⟨gb124,_,none⟩) NB123_124.out _).trans (((cell_far (p:=⟨gb124,_,none⟩) NB123_124.out _).trans (((cell_far (p:=⟨gb124,_,none⟩) NB123_124.out _).trans (((cell_far (p:=⟨gb124,_,none⟩) NB123_124.out _).trans (((cell_far (p:=⟨gb124,_,none⟩) NB123_124.out _).trans (((cell_far (p:=⟨gb124,_,none⟩) NB123_124.out _).trans (hHeld.2.2.2.2.2))))))))))))⟩ (fun hHeld=>?_)
  clear hK K
  refine done_ (done_of HT_.out (by kernel_rfl)) ?_
  try go_wp2
  refine bodyPost_ret (results_cell_row rfl _ _ gb124 27 #[.int .i64 a0_0,.int .i64 a0_1,.int .i64 a1,.int .i64 a2,.slice Ao11 y128.length co11,.slice none 0 0] (0,0) _ rfl (by (with_reducible repeat (first|apply kN_|apply kD_|apply kA_));refine blk_put (cs:=#[.int .i64 a0_0,.int .i64 a0_1,.int .i64 a1,.int .i64 a2,.slice Ao11 y128.length co11,.slice none 0 0]) ?_ 5 _ rfl;(with_reducible repeat (first|apply kN_|apply kD_|apply kA_));refine blk_put (cs:=#[.int .i64 a0_0,.int .i64 a0_1,.int .i64 a1,.int .i64 a2,.slice none 0 0,.slice none 0 0]) ?_ 4 _ rfl;(with_reducible repeat (first|apply kN_|apply kD_|apply kA_));refine blk_put (cs:=#[.int .i64 a0_0,.int .i64 a0_1,.int .i64 a1,.int .i64 0,.slice none 0 0,.slice none 0 0]) ?_ 3 _ rfl;(with_reducible repeat (first|apply kN_|apply kD_|apply kA_));refine blk_put (cs:=#[.int .i64 a0_0,.int .i64 a0_1,.int .i64 0,.int .i64 0,.slice none 0 0,.slice none 0 0]) ?_ 2 _ rfl;(with_reducible repeat (first|apply kN_|apply kD_|apply kA_));refine blk_put (cs:=#[.int .i64 a0_0,.int .i64 0,.int .i64 0,.int .i64 0,.slice none 0 0,.slice none 0 0]) ?_ 1 _ rfl;(with_reducible repeat (first|apply kN_|apply kD_|apply kA_));refine blk_put (cs:=#[.int .i64 0,.int .i64 0,.int .i64 0,.int .i64 0,.slice none 0 0,.slice none 0 0]) ?_ 0 _ rfl;(with_reducible repeat (first|apply kN_|apply kD_|apply kA_));exact BK124.out) Try.underlying27 rfl (by kernel_rfl)) rfl ?_
  exact ⟨_,_,by first|rfl|(simp [errW_none,errW_some] <;> rfl)|(simp [*,errW_none,errW_some] <;> rfl),by (with_reducible repeat (first|apply rA_|apply rN_|apply rD_));exact Kd.R_mono (Kd.R_far (Kd.R_far (Kd.R_far (Kd.R_far (Kd.R_far (Kd.R_far (Kd.R_types HO130.out BK124.out (by decide)) (fun _ hk=>hk.2) _) (fun _ hk=>hk.2) _) (fun _ hk=>hk.2) _) (fun _ hk=>hk.2) _) (fun _ hk=>hk.2) _) (fun _ hk=>hk.2) _) (fun _ hk=>(by simp [Value.ownBlock])),by first|exact Kd.R_nil _ _ _ _ _|exact Kd.N_nil _ _ _ _ _|exact Kd.V_nil _ _ _ _ _|exact Kd.Q_nil _ _ _ _ _|exact Kd.S_nil _ _ _ _ _,by repeat (first|(with_reducible first|exact HB.out|apply wA_|apply wN_|apply wD_|refine below_set ?_ GE123.out|refine below_set ?_ GE124.out)|exact HB.out)⟩
 ·rw [if_neg c4] at H
  exact absurd H (by simp)

/-! ### spec_ImageTurn: function 30 -/
mutual
def spec_ImageTurn.l0:Nat → Int → Int → Int → Int → Int → List Int → List Int → Int → Int → Int → Int → List Int → List Int → Option (Int × Int × Int × Int × List Int × List Int)
 | 0,_,_,_,_,_,_,_,_,_,_,_,_,_=>none
 | k+1,x4,x132000,x132001,x132002,x132003,x132004,x132005,x145000,x145001,x145002,x145003,x145004,x145005=>if x4 < x132002 then (spec_ImageTurn.l1 k x4 (wrap64 (x132003 - 1)) x132000 x132001 x132002 x132003 x132004 x132005 x145000 x145001 x145002 x145003 x145004 x145005) else (some (x145000,x145001,x145002,x145003,x145004,x145005))
def spec_ImageTurn.l1:Nat → Int → Int → Int → Int → Int → Int → List Int → List Int → Int → Int → Int → Int → List Int → List Int → Option (Int × Int × Int × Int × List Int × List Int)
 | 0,_,_,_,_,_,_,_,_,_,_,_,_,_,_=>none
 | k+1,x4,x5,x132000,x132001,x132002,x132003,x132004,x132005,x145000,x145001,x145002,x145003,x145004,x145005=>if x5 ≥ 0 then (if 0≤(wrap64 ((wrap64 (x5 * x132002))+x4)) then (if (wrap64 ((wrap64 (x5 * x132002))+x4)) < (x132005.length:Int) then (if x145005.length < 17592186044416 then (spec_ImageTurn.l1 k x4 (wrap64 (x5 - 1)) x132000 x132001 x132002 x132003 x132004 x132005 x145000 x145001 x145002 x145003 x145004 (x145005 ++ [rd x132005 (wrap64 ((wrap64 (x5 * x132002))+x4))])) else (none)) else (none)) else (none)) else (spec_ImageTurn.l0 k (wrap64 (x4+1)) x132000 x132001 x132002 x132003 x132004 x132005 x145000 x145001 x145002 x145003 x145004 x145005)
end
def spec_ImageTurn.f (k:Nat) (a0_0:Int) (a0_1:Int) (a0_2:Int) (a0_3:Int) (l0_4:List Int) (l0_5:List Int):Option (Int × Int × Int × Int × List Int × List Int):=(spec_ImageOk.f k a0_0 a0_1 a0_2 a0_3 l0_4 l0_5).bind fun t133=>(if t133=true then ((spec_l8Blank.f a0_0 a0_1 a0_2 a0_3 l0_4 l0_5 a0_3 a0_2).bind fun bt134=>(spec_ImageTurn.l0 k 0 a0_0 a0_1 a0_2 a0_3 l0_4 l0_5 bt134.1 bt134.2.1 bt134.2.2.1 bt134.2.2.2.1 bt134.2.2.2.2.1 bt134.2.2.2.2.2)) else (some (0,0,0,0,([]:List Int),([]:List Int))))
theorem spec_ImageTurn.mono_l:∀ k,(∀ y0 y1 y2 y3 y4 y5 y6 y7 y8 y9 y10 y11 y12,LeO (spec_ImageTurn.l0 k y0 y1 y2 y3 y4 y5 y6 y7 y8 y9 y10 y11 y12) (spec_ImageTurn.l0 (k+1) y0 y1 y2 y3 y4 y5 y6 y7 y8 y9 y10 y11 y12))∧(∀ y0 y1 y2 y3 y4 y5 y6 y7 y8 y9 y10 y11 y12 y13,LeO (spec_ImageTurn.l1 k y0 y1 y2 y3 y4 y5 y6 y7 y8 y9 y10 y11 y12 y13) (spec_ImageTurn.l1 (k+1) y0 y1 y2 y3 y4 y5 y6 y7 y8 y9 y10 y11 y12 y13))
 | 0=>⟨fun _ _ _ _ _ _ _ _ _ _ _ _ _ r h=>by simp [spec_ImageTurn.l0] at h,fun _ _ _ _ _ _ _ _ _ _ _ _ _ _ r h=>by simp [spec_ImageTurn.l1] at h⟩
 | k+1=>by
  obtain ⟨ih0,ih1⟩:=spec_ImageTurn.mono_l k
  refine ⟨?_,?_⟩
  ·intro y0 y1 y2 y3 y4 y5 y6 y7 y8 y9 y10 y11 y12
   unfold spec_ImageTurn.l0
   repeat' first
   | (with_reducible exact ih0 _ _ _ _ _ _ _ _ _ _ _ _ _)
   | (with_reducible exact ih1 _ _ _ _ _ _ _ _ _ _ _ _ _ _)
   | (with_reducible exact spec_ImageOk.mono _ _ _ _ _ _ _)
   | (with_reducible exact LeO.refl _)
   | (with_reducible exact LeO.none _)
   | (with_reducible refine LeO.ite ?_ ?_)
   | (with_reducible refine LeO.bind ?_ (fun _=>?_))
  ·intro y0 y1 y2 y3 y4 y5 y6 y7 y8 y9 y10 y11 y12 y13
   unfold spec_ImageTurn.l1
   repeat' first
   | (with_reducible exact ih0 _ _ _ _ _ _ _ _ _ _ _ _ _)
   | (with_reducible exact ih1 _ _ _ _ _ _ _ _ _ _ _ _ _ _)
   | (with_reducible exact spec_ImageOk.mono _ _ _ _ _ _ _)
   | (with_reducible exact LeO.refl _)
   | (with_reducible exact LeO.none _)
   | (with_reducible refine LeO.ite ?_ ?_)
   | (with_reducible refine LeO.bind ?_ (fun _=>?_))
theorem spec_ImageTurn.mono:∀ a0 a1 a2 a3 a4 a5 k,LeO (spec_ImageTurn.f k a0 a1 a2 a3 a4 a5) (spec_ImageTurn.f (k+1) a0 a1 a2 a3 a4 a5):=by
 intro a0 a1 a2 a3 a4 a5 k
 obtain ⟨ih0,ih1⟩:=spec_ImageTurn.mono_l k
 unfold spec_ImageTurn.f
 repeat' first
   | (with_reducible exact ih0 _ _ _ _ _ _ _ _ _ _ _ _ _)
   | (with_reducible exact ih1 _ _ _ _ _ _ _ _ _ _ _ _ _ _)
   | (with_reducible exact spec_ImageOk.mono _ _ _ _ _ _ _)
   | (with_reducible exact LeO.refl _)
   | (with_reducible exact LeO.none _)
   | (with_reducible refine LeO.ite ?_ ?_)
   | (with_reducible refine LeO.bind ?_ (fun _=>?_))
def spec_ImageTurn.T10:Bool × List (List Nat × List Nat):=(true,[([],[]),([0],[0]),([],[]),([2],[2]),([],[]),([],[]),([5],[5]),([4,6],[4,6]),([],[]),([7,8],[7,8]),([3,9],[3,9]),([10],[10]),([11],[11]),([1,12],[1,12]),([0,1,2,3,4,5,6,7,8,9,10,11,12,13],[]),([14,13,13,0,1,2,3,4,5,6,7,8,9,10,11,12,13],[13,14])])
def spec_ImageTurn.B10:List Nat:=[0,1,0,4,0,0,32,112,0,496,1020,2044,4092,8191,16383,32767]
theorem spec_ImageTurn.tab10:rtab .any (opsOf Try.f30 10)=spec_ImageTurn.T10:=by kernel_rfl
theorem spec_ImageTurn.bits10:waitsOk spec_ImageTurn.T10.2 spec_ImageTurn.B10=true:=by kernel_rfl
set_option maxHeartbeats 8000000 in
set_option maxRecDepth 100000 in
theorem spec_ImageTurn.calls (k:Nat) (a0_0:Int) (a0_1:Int) (a0_2:Int) (a0_3:Int) (A0_4:Option Addr) (c0_4:Nat) (l0_4:List Int) (A0_5:Option Addr) (c0_5:Nat) (l0_5:List Int) (r1:Int) (r2:Int) (r3:Int) (r4:Int) (r5:List Int) (r6:List Int) (w:World) (hr0_4:Kd.C (Kd.int .i64) w A0_4 l0_4.length l0_4) (hc0_4:l0_4.length≤c0_4) (hr0_5:Kd.C (Kd.int .i64) w A0_5 l0_5.length l0_5) (hc0_5:l0_5.length≤c0_5) (h:spec_ImageTurn.f k a0_0 a0_1 a0_2 a0_3 l0_4 l0_5=some (r1,r2,r3,r4,r5,r6)) :
  Calls Try.prog 30 #[.agg #[.int .i64 a0_0,.int .i64 a0_1,.int .i64 a0_2,.int .i64 a0_3,.slice A0_4 l0_4.length c0_4,.slice A0_5 l0_5.length c0_5]] w fun e w'=>∃ v4_ v5_:Value,e=.returned (.agg #[.int .i64 r1,.int .i64 r2,.int .i64 r3,.int .i64 r4,v4_,v5_])∧Kd.R (Kd.int .i64) 3 w' w.heap.size (fun k_=>some k_≠(v5_:Value).ownBlock) v4_ r5∧Kd.R (Kd.int .i64) 3 w' w.heap.size (fun k_=>some k_≠(v4_:Value).ownBlock) v5_ r6∧Below w.heap.size w w':=by
 have hu27:=Try.underlying27
 have HR0_4:=aM_ hr0_4
 have HC0_4:=aM_ hc0_4
 clear hr0_4 hc0_4
 have HR0_5:=aM_ hr0_5
 have HC0_5:=aM_ hc0_5
 clear hr0_5 hc0_5
 have HB:=aM_ (Below.refl w.heap.size w)
 have H:((spec_ImageOk.f k a0_0 a0_1 a0_2 a0_3 l0_4 l0_5).bind fun t133=>(if t133=true then ((spec_l8Blank.f a0_0 a0_1 a0_2 a0_3 l0_4 l0_5 a0_3 a0_2).bind fun bt134=>(spec_ImageTurn.l0 k 0 a0_0 a0_1 a0_2 a0_3 l0_4 l0_5 bt134.1 bt134.2.1 bt134.2.2.1 bt134.2.2.2.1 bt134.2.2.2.2.1 bt134.2.2.2.2.2)) else (some (0,0,0,0,([]:List Int),([]:List Int)))))=some (r1,r2,r3,r4,r5,r6):=h
 clear h
 replace H:=Option.bind_eq_some_iff.mp H
 obtain ⟨t133,A20,H⟩:=H
 replace H:(if t133=true then ((spec_l8Blank.f a0_0 a0_1 a0_2 a0_3 l0_4 l0_5 a0_3 a0_2).bind fun bt134=>(spec_ImageTurn.l0 k 0 a0_0 a0_1 a0_2 a0_3 l0_4 l0_5 bt134.1 bt134.2.1 bt134.2.2.1 bt134.2.2.2.1 bt134.2.2.2.2.1 bt134.2.2.2.2.2)) else (some (0,0,0,0,([]:List Int),([]:List Int))))=some (r1,r2,r3,r4,r5,r6):=H
 have A2:=aM_ A20
 clear A20
 by_cases c3:t133=true
 ·subst c3
  have H1:((spec_l8Blank.f a0_0 a0_1 a0_2 a0_3 l0_4 l0_5 a0_3 a0_2).bind fun bt134=>(spec_ImageTurn.l0 k 0 a0_0 a0_1 a0_2 a0_3 l0_4 l0_5 bt134.1 bt134.2.1 bt134.2.2.1 bt134.2.2.2.1 bt134.2.2.2.2.1 bt134.2.2.2.2.2))=some (r1,r2,r3,r4,r5,r6):=by first|(rw [if_pos rfl] at H;exact H)|rfl
  clear H
  have H:=H1
  clear H1
  replace H:=Option.bind_eq_some_iff.mp H
  obtain ⟨⟨t134,t135,t136,t137,t138,t141⟩,A40,H⟩:=H
  replace H:(spec_ImageTurn.l0 k 0 a0_0 a0_1 a0_2 a0_3 l0_4 l0_5 t134 t135 t136 t137 t138 t141)=some (r1,r2,r3,r4,r5,r6):=H
  have A4:=aM_ A40
  clear A40
  have H':=aM_ H
  clear H
  go_enter Try.func30,Try.ntmps30
  go_wp2_with (first|((with_reducible refine gate_dst (N:=1) rfl ?_);refine box_event ?hg (N:=1) ?hd (cs:=#[.int .i64 a0_0,.int .i64 a0_1,.int .i64 a0_2,.int .i64 a0_3,.slice A0_4 l0_4.length c0_4,.slice A0_5 l0_5.length c0_5]) (t:=27) ?hr ?_;(case hd=>rfl);(case hg=>rfl);(case hr=>first|(go_simp;done)|(go_simp;rfl));intro gb131 hg w5 hbox hb;have n0_:=aM_ (below_step (by repeat (first|(with_reducible first|exact HB.out|apply wA_|apply wN_|apply wD_)|exact HB.out)) hb);have n1_:=aM_ (hbox);have n2_:=aM_ ((by rw [hg];exact (below_size (by repeat (first|(with_reducible first|exact HB.out|apply wA_|apply wN_|apply wD_)|exact HB.out))):w.heap.size≤gb131));have n3_:=aM_ ((by rw [hg];exact (below_size (by repeat (first|(with_reducible first|exact HB.out|apply wA_|apply wN_|apply wD_)|exact HB.out))):w.heap.size≤gb131));clear HB;have HB:=n0_;have BK131:=n1_;have GW131:=n2_;have GE131:=n3_;clear n0_ n1_ n2_ n3_;clear hb hbox hg)|((with_reducible refine gate_dst (N:=2) rfl ?_);refine box_event ?hg (N:=2) ?hd (cs:=#[.int .i64 0,.int .i64 0,.int .i64 0,.int .i64 0,.slice none 0 0,.slice none 0 0]) (t:=27) ?hr ?_;(case hd=>rfl);(case hg=>rfl);(case hr=>first|(go_simp;done)|(go_simp;rfl));intro gb132 hg w6 hbox hb;have n0_:=aM_ (blk_below (g:=gb131) (by (with_reducible repeat (first|apply kN_|apply kD_|apply kA_));exact BK131.out) hb);have n1_:=aM_ (below_step (by repeat (first|(with_reducible first|exact HB.out|apply wA_|apply wN_|apply wD_|refine below_set ?_ GE131.out)|exact HB.out)) hb);have n2_:=aM_ (hbox);have n3_:=aM_ ((by rw [hg];exact (below_size (by repeat (first|(with_reducible first|exact HB.out|apply wA_|apply wN_|apply wD_|refine below_set ?_ GE131.out)|exact HB.out))):w.heap.size≤gb132));have n4_:=aM_ ((by rw [hg];exact (below_size (by repeat (first|(with_reducible first|exact HB.out|apply wA_|apply wN_|apply wD_|refine below_set ?_ GE131.out)|exact HB.out))):w.heap.size≤gb132));have n5_:=aM_ ((by rw [hg];exact Nat.ne_of_lt (blk_lt (g:=gb131) (by (with_reducible repeat (first|apply kN_|apply kD_|apply kA_));exact BK131.out)):gb131≠gb132));have n6_:=aM_ n5_.out.symm;clear BK131;clear HB;have BK131:=n0_;have HB:=n1_;have BK132:=n2_;have GW132:=n3_;have GE132:=n4_;have NB131_132:=n5_;have NB132_131:=n6_;clear n0_ n1_ n2_ n3_ n4_ n5_ n6_;clear hb hbox hg;have hnb7:=NB131_132.out;have hnc7:=NB132_131.out;obtain ⟨hcz8_0,hcz8_1,hcz8_2,hcz8_3,hcz8_4,hcz8_5⟩:=bc6 BK131.out;obtain ⟨hfz8_0,hfz8_1,hfz8_2,hfz8_3,hfz8_4,hfz8_5⟩:=bf6 BK131.out)|((with_reducible refine gate_callee (f:=16) rfl ?_);refine goesL_ (some 7) rfl rfl Try.func16 (by kernel_rfl) rfl #[.agg #[.int .i64 a0_0,.int .i64 a0_1,.int .i64 a0_2,.int .i64 a0_3,.slice A0_4 l0_4.length c0_4,.slice A0_5 l0_5.length c0_5]] rfl (by (try simp only [List.map_toArray,List.map_cons,List.map_nil]);first|done|rfl|(simp only [List.length_drop,List.length_take];rfl)) ?_;(with_reducible refine (spec_ImageOk.calls k a0_0 a0_1 a0_2 a0_3 _ _ l0_4 _ _ l0_5 true _ ?side1 ?side2 ?side3 ?side4 A2.out).mono ?_);(case side1=>repeat (first|exact (Kd.C_below HR0_4.out HB.out)|(with_reducible refine Kd.C_alloc ?_ _)|(with_reducible refine Kd.C_drewN ?_ _)|(with_reducible refine Kd.C_drew ?_)));(case side2=>exact HC0_4.out);(case side3=>repeat (first|exact (Kd.C_below HR0_5.out HB.out)|(with_reducible refine Kd.C_alloc ?_ _)|(with_reducible refine Kd.C_drewN ?_ _)|(with_reducible refine Kd.C_drew ?_)));(case side4=>exact HC0_5.out);rintro e w9 ⟨rfl,hb⟩;refine ⟨_,rfl,?_⟩;have n0_:=aM_ (blk_below (g:=gb131) (by (with_reducible repeat (first|apply kN_|apply kD_|apply kA_));exact BK131.out) hb);have n1_:=aM_ (blk_below (g:=gb132) (by (with_reducible repeat (first|apply kN_|apply kD_|apply kA_));exact BK132.out) hb);have n2_:=aM_ (below_step (by repeat (first|(with_reducible first|exact HB.out|apply wA_|apply wN_|apply wD_|refine below_set ?_ GE131.out|refine below_set ?_ GE132.out)|exact HB.out)) hb);clear BK131;clear BK132;clear HB;have BK131:=n0_;have BK132:=n1_;have HB:=n2_;clear n0_ n1_ n2_;(try clear hb);(try clear hb2);(try clear hk);(try clear hi);obtain ⟨hcz10_0,hcz10_1,hcz10_2,hcz10_3,hcz10_4,hcz10_5⟩:=bc6 BK131.out;obtain ⟨hfz10_0,hfz10_1,hfz10_2,hfz10_3,hfz10_4,hfz10_5⟩:=bf6 BK131.out)|((with_reducible refine gate_callee (f:=56) rfl ?_);refine goesL_ (some 15) rfl rfl Try.func56 (by kernel_rfl) rfl #[.agg #[.int .i64 a0_0,.int .i64 a0_1,.int .i64 a0_2,.int .i64 a0_3,.slice A0_4 l0_4.length c0_4,.slice A0_5 l0_5.length c0_5],.int .i64 a0_3,.int .i64 a0_2] rfl (by (try simp only [List.map_toArray,List.map_cons,List.map_nil]);first|done|rfl|(simp only [List.length_drop,List.length_take];rfl)) ?_;(with_reducible refine (spec_l8Blank.calls a0_0 a0_1 a0_2 a0_3 _ _ l0_4 _ _ l0_5 a0_3 a0_2 t134 t135 t136 t137 t138 t141 _ ?side1 ?side2 ?side3 ?side4 A4.out).mono ?_);(case side1=>repeat (first|exact (Kd.C_below HR0_4.out HB.out)|(with_reducible refine Kd.C_alloc ?_ _)|(with_reducible refine Kd.C_drewN ?_ _)|(with_reducible refine Kd.C_drew ?_)));(case side2=>exact HC0_4.out);(case side3=>repeat (first|exact (Kd.C_below HR0_5.out HB.out)|(with_reducible refine Kd.C_alloc ?_ _)|(with_reducible refine Kd.C_drewN ?_ _)|(with_reducible refine Kd.C_drew ?_)));(case side4=>exact HC0_5.out);rintro e w11 ⟨v139,v142,rfl,ho0,ho1,hb⟩;refine ⟨_,rfl,?_⟩;have n0_:=aM_ (Kd.R_lower ho0 (below_size (by repeat (first|(with_reducible first|exact HB.out|apply wA_|apply wN_|apply wD_|refine below_set ?_ GE131.out|refine below_set ?_ GE132.out)|exact HB.out))));have n1_:=aM_ (Kd.R_lower ho1 (below_size (by repeat (first|(with_reducible first|exact HB.out|apply wA_|apply wN_|apply wD_|refine below_set ?_ GE131.out|refine below_set ?_ GE132.out)|exact HB.out))));have n2_:=aM_ (blk_below (g:=gb131) (by (with_reducible repeat (first|apply kN_|apply kD_|apply kA_));exact BK131.out) hb);have n3_:=aM_ (blk_below (g:=gb132) (by (with_reducible repeat (first|apply kN_|apply kD_|apply kA_));exact BK132.out) hb);have n4_:=aM_ (below_step (by repeat (first|(with_reducible first|exact HB.out|apply wA_|apply wN_|apply wD_|refine below_set ?_ GE131.out|refine below_set ?_ GE132.out)|exact HB.out)) hb);clear BK131;clear BK132;clear HB;have HO140:=n0_;have HO143:=n1_;have BK131:=n2_;have BK132:=n3_;have HB:=n4_;clear n0_ n1_ n2_ n3_ n4_;(try clear hb);(try clear hb2);(try clear hk);(try clear hi);(try clear ho0);(try clear ho1))|((with_reducible refine gate_dst (N:=3) rfl ?_);refine box_event ?hg (N:=3) ?hd (cs:=#[.int .i64 0,.int .i64 0,.int .i64 0,.int .i64 0,.slice none 0 0,.slice none 0 0]) (t:=27) ?hr ?_;(case hd=>rfl);(case hg=>rfl);(case hr=>first|(go_simp;done)|(go_simp;rfl));intro gb144 hg w12 hbox hb;have n0_:=aM_ (Kd.R_below (by (with_reducible repeat (first|apply rA_|apply rN_|apply rD_));exact HO140.out) hb);have n1_:=aM_ (Kd.R_below (by (with_reducible repeat (first|apply rA_|apply rN_|apply rD_));exact HO143.out) hb);have n2_:=aM_ (blk_below (g:=gb131) (by (with_reducible repeat (first|apply kN_|apply kD_|apply kA_));exact BK131.out) hb);have n3_:=aM_ (blk_below (g:=gb132) (by (with_reducible repeat (first|apply kN_|apply kD_|apply kA_));exact BK132.out) hb);have n4_:=aM_ (below_step (by repeat (first|(with_reducible first|exact HB.out|apply wA_|apply wN_|apply wD_|refine below_set ?_ GE131.out|refine below_set ?_ GE132.out)|exact HB.out)) hb);have n5_:=aM_ (hbox);have n6_:=aM_ ((by rw [hg];exact (below_size (by repeat (first|(with_reducible first|exact HB.out|apply wA_|apply wN_|apply wD_|refine below_set ?_ GE131.out|refine below_set ?_ GE132.out)|exact HB.out))):w.heap.size≤gb144));have n7_:=aM_ ((by rw [hg];exact (below_size (by repeat (first|(with_reducible first|exact HB.out|apply wA_|apply wN_|apply wD_|refine below_set ?_ GE131.out|refine below_set ?_ GE132.out)|exact HB.out))):w.heap.size≤gb144));have n8_:=aM_ ((by rw [hg];exact Nat.ne_of_lt (blk_lt (g:=gb131) (by (with_reducible repeat (first|apply kN_|apply kD_|apply kA_));exact BK131.out)):gb131≠gb144));have n9_:=aM_ n8_.out.symm;have n10_:=aM_ ((by rw [hg];exact Nat.ne_of_lt (blk_lt (g:=gb132) (by (with_reducible repeat (first|apply kN_|apply kD_|apply kA_));exact BK132.out)):gb132≠gb144));have n11_:=aM_ n10_.out.symm;clear HO140;clear HO143;clear BK131;clear BK132;clear HB;have HO140:=n0_;have HO143:=n1_;have BK131:=n2_;have BK132:=n3_;have HB:=n4_;have BK144:=n5_;have GW144:=n6_;have GE144:=n7_;have NB131_144:=n8_;have NB144_131:=n9_;have NB132_144:=n10_;have NB144_132:=n11_;clear n0_ n1_ n2_ n3_ n4_ n5_ n6_ n7_ n8_ n9_ n10_ n11_;clear hb hbox hg;have hnb13:=NB144_131.out;have hnc13:=NB131_144.out;have hnb14:=NB144_132.out;have hnc14:=NB132_144.out;obtain ⟨hcz15_0,hcz15_1,hcz15_2,hcz15_3,hcz15_4,hcz15_5⟩:=bc6 BK144.out;obtain ⟨hfz15_0,hfz15_1,hfz15_2,hfz15_3,hfz15_4,hfz15_5⟩:=bf6 BK144.out;obtain ⟨Ao16,co16,eo16⟩:=Kd.R_slice HO140.out;subst eo16;obtain ⟨Ao17,co17,eo17⟩:=Kd.R_slice HO143.out;subst eo17))
  go_loopg [4] k (fun kq v4 w'=>∃ (x4_1:Int) (x145005_1:List Int) (u145005:Value),v4=.int .i64 x4_1∧Aside0 (spec_ImageTurn.l0 kq x4_1 a0_0 a0_1 a0_2 a0_3 l0_4 l0_5 t134 t135 t136 t137 t138 x145005_1=some (r1,r2,r3,r4,r5,r6))∧Aside0 (kq≤k)∧Aside0 (Kd.R (Kd.int .i64) 3 w' w.heap.size (fun k_=>some k_≠(u145005:Value).ownBlock) (.slice Ao16 t138.length co16) t138)∧Aside0 (Kd.R (Kd.int .i64) 3 w' w.heap.size (fun k_=>some k_≠((.slice Ao16 t138.length co16):Value).ownBlock) u145005 x145005_1)∧Aside0 (w'.heap[gb131]?=some (.cells #[.int .i64 a0_0,.int .i64 a0_1,.int .i64 a0_2,.int .i64 a0_3,(.slice A0_4 l0_4.length c0_4),(.slice A0_5 l0_5.length c0_5)] 27 (0,0)))∧Aside0 (w'.heap[gb132]?=some (.cells #[.int .i64 0,.int .i64 0,.int .i64 0,.int .i64 0,(.slice none 0 0),(.slice none 0 0)] 27 (0,0)))∧Aside0 (w'.heap[gb144]?=some (.cells #[.int .i64 t134,.int .i64 t135,.int .i64 t136,.int .i64 t137,(.slice Ao16 t138.length co16),u145005] 27 (0,0)))∧Aside0 (Below w.heap.size w w'))
  case atStart=>exact ⟨(0),(t141),(.slice Ao17 t141.length co17),(by first|rfl|(simp;done)|(simp [*];done)),H',⟨Nat.le_refl _⟩,⟨by (with_reducible repeat (first|apply rA_|apply rN_|apply rD_));exact Kd.R_mono (Kd.R_far (Kd.R_far (Kd.R_far (Kd.R_far (Kd.R_far (Kd.R_far (Kd.R_types HO140.out BK144.out (by decide)) (fun _ hk=>hk.2) _) (fun _ hk=>hk.2) _) (fun _ hk=>hk.2) _) (fun _ hk=>hk.2) _) (fun _ hk=>hk.2) _) (fun _ hk=>hk.2) _) (fun _ hk=>hk.1)⟩,⟨by (with_reducible repeat (first|apply rA_|apply rN_|apply rD_));exact Kd.R_mono (Kd.R_far (Kd.R_far (Kd.R_far (Kd.R_far (Kd.R_far (Kd.R_far (Kd.R_types HO143.out BK144.out (by decide)) (fun _ hk=>hk.2) _) (fun _ hk=>hk.2) _) (fun _ hk=>hk.2) _) (fun _ hk=>hk.2) _) (fun _ hk=>hk.2) _) (fun _ hk=>hk.2) _) (fun _ hk=>hk.1)⟩,⟨by (with_reducible repeat (first|apply kN_|apply kD_|apply kA_));refine blk_far ?_ NB131_144.out _;(with_reducible repeat (first|apply kN_|apply kD_|apply kA_));refine blk_far ?_ NB131_144.out _;(with_reducible repeat (first|apply kN_|apply kD_|apply kA_));refine blk_far ?_ NB131_144.out _;(with_reducible repeat (first|apply kN_|apply kD_|apply kA_));refine blk_far ?_ NB131_144.out _;(with_reducible repeat (first|apply kN_|apply kD_|apply kA_));refine blk_far ?_ NB131_144.out _;(with_reducible repeat (first|apply kN_|apply kD_|apply kA_));refine blk_far ?_ NB131_144.out _;(with_reducible repeat (first|apply kN_|apply kD_|apply kA_));exact BK131.out⟩,⟨by (with_reducible repeat (first|apply kN_|apply kD_|apply kA_));refine blk_far ?_ NB132_144.out _;(with_reducible repeat (first|apply kN_|apply kD_|apply kA_));refine blk_far ?_ NB132_144.out _;(with_reducible repeat (first|apply kN_|apply kD_|apply kA_));refine blk_far ?_ NB132_144.out _;(with_reducible repeat (first|apply kN_|apply kD_|apply kA_));refine blk_far ?_ NB132_144.out _;(with_reducible repeat (first|apply kN_|apply kD_|apply kA_));refine blk_far ?_ NB132_144.out _;(with_reducible repeat (first|apply kN_|apply kD_|apply kA_));refine blk_far ?_ NB132_144.out _;(with_reducible repeat (first|apply kN_|apply kD_|apply kA_));exact BK132.out⟩,⟨by (with_reducible repeat (first|apply kN_|apply kD_|apply kA_));refine blk_put (cs:=#[.int .i64 t134,.int .i64 t135,.int .i64 t136,.int .i64 t137,.slice Ao16 t138.length co16,.slice none 0 0]) ?_ 5 _ rfl;(with_reducible repeat (first|apply kN_|apply kD_|apply kA_));refine blk_put (cs:=#[.int .i64 t134,.int .i64 t135,.int .i64 t136,.int .i64 t137,.slice none 0 0,.slice none 0 0]) ?_ 4 _ rfl;(with_reducible repeat (first|apply kN_|apply kD_|apply kA_));refine blk_put (cs:=#[.int .i64 t134,.int .i64 t135,.int .i64 t136,.int .i64 0,.slice none 0 0,.slice none 0 0]) ?_ 3 _ rfl;(with_reducible repeat (first|apply kN_|apply kD_|apply kA_));refine blk_put (cs:=#[.int .i64 t134,.int .i64 t135,.int .i64 0,.int .i64 0,.slice none 0 0,.slice none 0 0]) ?_ 2 _ rfl;(with_reducible repeat (first|apply kN_|apply kD_|apply kA_));refine blk_put (cs:=#[.int .i64 t134,.int .i64 0,.int .i64 0,.int .i64 0,.slice none 0 0,.slice none 0 0]) ?_ 1 _ rfl;(with_reducible repeat (first|apply kN_|apply kD_|apply kA_));refine blk_put (cs:=#[.int .i64 0,.int .i64 0,.int .i64 0,.int .i64 0,.slice none 0 0,.slice none 0 0]) ?_ 0 _ rfl;(with_reducible repeat (first|apply kN_|apply kD_|apply kA_));exact BK144.out⟩,⟨by repeat (first|(with_reducible first|exact HB.out|apply wA_|apply wN_|apply wD_|refine below_set ?_ GE131.out|refine below_set ?_ GE132.out|refine below_set ?_ GE144.out)|exact HB.out)⟩⟩
  case round =>
   clear H'
   try clear c1
   try clear p2
   try clear c3
   try clear c5
   try clear c7
   try clear c13
   try clear c14
   try clear c16
   try clear hcz10_0 hcz10_1 hcz10_2 hcz10_3 hcz10_4 hcz10_5
   try clear hcz15_0 hcz15_1 hcz15_2 hcz15_3 hcz15_4 hcz15_5
   try clear hcz8_0 hcz8_1 hcz8_2 hcz8_3 hcz8_4 hcz8_5
   try clear hfz10_0 hfz10_1 hfz10_2 hfz10_3 hfz10_4 hfz10_5
   try clear hfz15_0 hfz15_1 hfz15_2 hfz15_3 hfz15_4 hfz15_5
   try clear hfz8_0 hfz8_1 hfz8_2 hfz8_3 hfz8_4 hfz8_5
   obtain ⟨x4_1,x145005_1,u145005,rfl,HA,HK1,HO_145004,HO_145005,BK131,BK132,BK144,HB⟩:=hrel
   cases gk with
   | zero=>exact absurd HA.out (by simp [spec_ImageTurn.l0])
   | succ k1 =>
    have H:=HA.out
    clear HA
    simp only [spec_ImageTurn.l0] at H
    by_cases c18:x4_1 < a0_2
    ·rw [if_pos c18] at H
     have c18b0:decide (x4_1 < a0_2)=true:=decide_eq_true c18
     clear c18
     have H':=aM_ H
     clear H
     have hnb19:=NB131_132.out
     have hnc19:=NB132_131.out
     have hnb20:=NB131_144.out
     have hnc20:=NB144_131.out
     obtain ⟨hcz21_0,hcz21_1,hcz21_2,hcz21_3,hcz21_4,hcz21_5⟩:=bc6 BK131.out
     obtain ⟨hfz21_0,hfz21_1,hfz21_2,hfz21_3,hfz21_4,hfz21_5⟩:=bf6 BK131.out
     go_wp2
     go_loopg [5] k1 (fun kq v5 w'=>∃ (x5_2:Int) (x145005_2:List Int) (u145005:Value),v5=.int .i64 x5_2∧Aside0 (spec_ImageTurn.l1 kq x4_1 x5_2 a0_0 a0_1 a0_2 a0_3 l0_4 l0_5 t134 t135 t136 t137 t138 x145005_2=some (r1,r2,r3,r4,r5,r6))∧Aside0 (kq≤k1)∧Aside0 (Kd.R (Kd.int .i64) 3 w' w.heap.size (fun k_=>some k_≠(u145005:Value).ownBlock) (.slice Ao16 t138.length co16) t138)∧Aside0 (Kd.R (Kd.int .i64) 3 w' w.heap.size (fun k_=>some k_≠((.slice Ao16 t138.length co16):Value).ownBlock) u145005 x145005_2)∧Aside0 (w'.heap[gb131]?=some (.cells #[.int .i64 a0_0,.int .i64 a0_1,.int .i64 a0_2,.int .i64 a0_3,(.slice A0_4 l0_4.length c0_4),(.slice A0_5 l0_5.length c0_5)] 27 (0,0)))∧Aside0 (w'.heap[gb132]?=some (.cells #[.int .i64 0,.int .i64 0,.int .i64 0,.int .i64 0,(.slice none 0 0),(.slice none 0 0)] 27 (0,0)))∧Aside0 (w'.heap[gb144]?=some (.cells #[.int .i64 t134,.int .i64 t135,.int .i64 t136,.int .i64 t137,(.slice Ao16 t138.length co16),u145005] 27 (0,0)))∧Aside0 (Below w.heap.size w w'))
     case atStart=>exact ⟨(wrap64 (a0_3 - 1)),(x145005_1),(u145005),(by first|rfl|(simp;done)|(simp [*];done)),H',⟨Nat.le_refl _⟩,⟨by (with_reducible repeat (first|apply rA_|apply rN_|apply rD_));exact HO_145004.out⟩,⟨by (with_reducible repeat (first|apply rA_|apply rN_|apply rD_));exact HO_145005.out⟩,⟨by (with_reducible repeat (first|apply kN_|apply kD_|apply kA_));exact BK131.out⟩,⟨by (with_reducible repeat (first|apply kN_|apply kD_|apply kA_));exact BK132.out⟩,⟨by (with_reducible repeat (first|apply kN_|apply kD_|apply kA_));exact BK144.out⟩,⟨by repeat (first|(with_reducible first|exact HB.out|apply wA_|apply wN_|apply wD_|refine below_set ?_ GE131.out|refine below_set ?_ GE132.out|refine below_set ?_ GE144.out)|exact HB.out)⟩⟩
     case round =>
      clear H'
      try clear c1
      try clear c2
      try clear p2
      try clear c3
      try clear c5
      try clear p6
      try clear c7
      try clear c13
      try clear c14
      try clear c16
      try clear c18
      try clear c18b0
      try clear c19
      try clear c20
      try clear hcz10_0 hcz10_1 hcz10_2 hcz10_3 hcz10_4 hcz10_5
      try clear hcz15_0 hcz15_1 hcz15_2 hcz15_3 hcz15_4 hcz15_5
      try clear hcz21_0 hcz21_1 hcz21_2 hcz21_3 hcz21_4 hcz21_5
      try clear hcz8_0 hcz8_1 hcz8_2 hcz8_3 hcz8_4 hcz8_5
      try clear hfz10_0 hfz10_1 hfz10_2 hfz10_3 hfz10_4 hfz10_5
      try clear hfz15_0 hfz15_1 hfz15_2 hfz15_3 hfz15_4 hfz15_5
      try clear hfz21_0 hfz21_1 hfz21_2 hfz21_3 hfz21_4 hfz21_5
      try clear hfz8_0 hfz8_1 hfz8_2 hfz8_3 hfz8_4 hfz8_5
      try clear p2
      obtain ⟨x5_2,x145005_2,u145005,rfl,HA,HK2,HO_145004,HO_145005,BK131,BK132,BK144,HB⟩:=hrel
      cases gk with
      | zero=>exact absurd HA.out (by simp [spec_ImageTurn.l1])
      | succ k2 =>
       have H:=HA.out
       clear HA
       simp only [spec_ImageTurn.l1] at H
       by_cases c22:x5_2 ≥ 0
       ·rw [if_pos c22] at H
        have c22b0:decide (0≤x5_2)=true:=decide_eq_true c22
        clear c22
        obtain ⟨ji23,hji23⟩:∃ j_:Int,(wrap64 ((wrap64 (x5_2 * a0_2))+x4_1))=j_:=⟨_,rfl⟩
        replace H:(if 0≤(ji23) then (if (ji23) < (l0_5.length:Int) then (if x145005_2.length < 17592186044416 then (spec_ImageTurn.l1 k2 x4_1 (wrap64 (x5_2 - 1)) a0_0 a0_1 a0_2 a0_3 l0_4 l0_5 t134 t135 t136 t137 t138 (x145005_2 ++ [rd l0_5 (ji23)])) else (none)) else (none)) else (none))=some (r1,r2,r3,r4,r5,r6):=by first|(rw [hji23] at H;exact H)|(simp only [hji23] at H ⊢;exact H)
        have hji23w:(IntKind.i64.wrap ((wrap64 (x5_2 * a0_2))+x4_1))=ji23:=(i64_w _).trans hji23
        by_cases c24:0≤(ji23)
        ·rw [if_pos c24] at H
         have c24b0:decide (0≤(ji23))=true:=decide_eq_true c24
         clear c24
         by_cases c25:(ji23) < (l0_5.length:Int)
         ·rw [if_pos c25] at H
          have c25b0:decide ((ji23) < (l0_5.length:Int))=true:=decide_eq_true c25
          clear c25
          by_cases c26:x145005_2.length < 17592186044416
          ·rw [if_pos c26] at H
           have LMc26:=aM_ c26
           clear c26
           obtain ⟨y146,hy146⟩:∃ y_:List Int,y_=(x145005_2 ++ [rd l0_5 (ji23)]):=⟨_,rfl⟩
           replace H:(spec_ImageTurn.l1 k2 x4_1 (wrap64 (x5_2 - 1)) a0_0 a0_1 a0_2 a0_3 l0_4 l0_5 t134 t135 t136 t137 t138 y146)=some (r1,r2,r3,r4,r5,r6):=by first|(rw [hy146];with_reducible exact H)|(have H2_:=(Option.bind_some _ _).symm.trans H;rw [hy146];with_reducible exact H2_)|(have H2_:=(Option.bind_some _ _).symm.trans H;with_reducible exact H2_)|with_reducible exact H|(rw [hy146];exact H)|exact H
           have Ny146:=aM_ hy146
           clear hy146
           have H':=aM_ H
           clear H
           try go_wp2
           have n0_:=aM_ (rD_ HO_145004.out)
           have n1_:=aM_ (rD_ HO_145005.out)
           have n2_:=aM_ (kD_ BK131.out)
           have n3_:=aM_ (kD_ BK132.out)
           have n4_:=aM_ (kD_ BK144.out)
           have n5_:=aM_ (wD_ HB.out)
           clear HO_145004
           clear HO_145005
           clear BK131
           clear BK132
           clear BK144
           clear HB
           have HO_145004:=n0_
           have HO_145005:=n1_
           have BK131:=n2_
           have BK132:=n3_
           have BK144:=n4_
           have HB:=n5_
           clear n0_ n1_ n2_ n3_ n4_ n5_
           have p145:0≤((ji23):Int):=of_decide_eq_true (by first|(with_reducible assumption)|assumption)
           have q145:(ji23) < (l0_5.length:Int):=of_decide_eq_true (by first|(with_reducible assumption)|assumption)
           obtain ⟨ad145,e145,hx145_0⟩:=Kd.at_int HR0_5.out (ji23) p145 q145
           have hw145_0:=hx145_0
           cases e145
           replace hx145_0:=(HB.out.cell (World.block_lt_of_cell? w _ hx145_0)).trans hx145_0
           replace p145:=eq_true p145
           replace q145:=eq_true q145
           refine start_ (n:=16) (S:=fun w'=>w'.cell? ⟨gb144,0,none⟩=some (.int .i64 t134)∧w'.cell? ⟨gb144,1,none⟩=some (.int .i64 t135)∧w'.cell? ⟨gb144,2,none⟩=some (.int .i64 t136)∧w'.cell? ⟨gb144,3,none⟩=some (.int .i64 t137)∧w'.cell? ⟨gb144,4,none⟩=some (.slice Ao16 t138.length co16)∧w'.cell? ⟨gb144,5,none⟩=some (u145005)∧w'.cell? ⟨gb131,0,none⟩=some (.int .i64 a0_0)∧w'.cell? ⟨gb131,1,none⟩=some (.int .i64 a0_1)∧w'.cell? ⟨gb131,2,none⟩=some (.int .i64 a0_2)∧w'.cell? ⟨gb131,3,none⟩=some (.int .i64 a0_3)∧w'.cell? ⟨gb131,4,none⟩=some (.slice A0_4 l0_4.length c0_4)∧w'.cell? ⟨gb131,5,none⟩=some (.slice (some ad145) l0_5.length c0_5)∧w'.cell? (ad145.add ((ji23)).toNat)=some (.int .i64 (rd l0_5 (ji23)))) (ds:=[15]) #[false,false,false,false,false,false,false,false,false,false,false,false,false,false,false,false] (by kernel_rfl) rfl rfl ⟨(blk_cell BK144.out 0).trans rfl,(blk_cell BK144.out 1).trans rfl,(blk_cell BK144.out 2).trans rfl,(blk_cell BK144.out 3).trans rfl,(blk_cell BK144.out 4).trans rfl,(blk_cell BK144.out 5).trans rfl,(blk_cell BK131.out 0).trans rfl,(blk_cell BK131.out 1).trans rfl,(blk_cell BK131.out 2).trans rfl,(blk_cell BK131.out 3).trans rfl,(blk_cell BK131.out 4).trans rfl,(blk_cell BK131.out 5).trans rfl,((HB.out.cell (World.block_lt_of_cell? w _ hw145_0)).trans hw145_0)⟩ (fun hHeld=>?_);refine with_tabW spec_ImageTurn.tab10 spec_ImageTurn.bits10 (fun HT_ HW_=>?_)
           generalize wr.drew=w27 at HO_145004 HO_145005 BK131 BK132 BK144 HB hx145_0 hHeld ⊢
           refine pure_ (i:=0) (N:=some 29) (v:=?_) (a':=?_) #[true,false,false,false,false,false,false,false,false,false,false,false,false,false,false,false] rfl rfl (any_of HT_.out (by kernel_rfl)) (fun _ _ _ h=>h) (Or.inl ⟨by rfl,?_⟩) ?_ ?_
           rotate_left
           ·intro w'
            go_simp
            with_reducible rfl
           rotate_left
           ·simp only [Act.put,sA_,s0_,s1_,i64_w,i32_w]
            rfl
           refine pure_ (i:=2) (N:=some 31) (v:=?_) (a':=?_) #[true,false,true,false,false,false,false,false,false,false,false,false,false,false,false,false] rfl rfl (any_of HT_.out (by kernel_rfl)) (fun _ _ _ h=>h) (Or.inl ⟨by rfl,?_⟩) ?_ ?_
           rotate_left
           ·intro w'
            go_simp
            with_reducible rfl
           rotate_left
           ·simp only [Act.put,sA_,s0_,s1_,i64_w,i32_w]
            rfl
           refine pure_ (i:=4) (N:=some 33) (v:=?_) (a':=?_) #[true,false,true,false,true,false,false,false,false,false,false,false,false,false,false,false] rfl rfl (any_of HT_.out (by kernel_rfl)) (fun _ _ _ h=>h) (Or.inl ⟨by rfl,?_⟩) ?_ ?_
           rotate_left
           ·intro w'
            go_simp
            with_reducible rfl
           rotate_left
           ·simp only [Act.put,sA_,s0_,s1_,i64_w,i32_w]
            rfl
           refine pure_ (i:=5) (N:=some 34) (v:=?_) (a':=?_) #[true,false,true,false,true,true,false,false,false,false,false,false,false,false,false,false] rfl rfl (any_of HT_.out (by kernel_rfl)) (fun _ _ _ h=>h) (Or.inl ⟨by rfl,?_⟩) ?_ ?_
           rotate_left
           ·intro w'
            go_simp
            with_reducible rfl
           rotate_left
           ·simp only [Act.put,sA_,s0_,s1_,i64_w,i32_w]
            rfl
           refine pure_ (i:=8) (N:=some 37) (v:=?_) (a':=?_) #[true,false,true,false,true,true,false,false,true,false,false,false,false,false,false,false] rfl rfl (any_of HT_.out (by kernel_rfl)) (fun _ _ _ h=>h) (Or.inl ⟨by rfl,?_⟩) ?_ ?_
           rotate_left
           ·intro w'
            go_simp
            with_reducible rfl
           rotate_left
           ·simp only [Act.put,sA_,s0_,s1_,i64_w,i32_w]
            rfl
           refine take_ (i:=1) (N:=some 30) (v:=?_) (a':=?_) #[true,true,true,false,true,true,false,false,true,false,false,false,false,false,false,false] rfl rfl (take_ofW HT_.out HW_.out (by kernel_rfl)) (fun _ _ _ h=>h) (Or.inl ⟨by rfl,?_⟩) hHeld ?_ ?_
           rotate_left
           ·rintro w' ⟨s0,s1,s2,s3,s4,s5,s6,s7,s8,s9,s10,s11,s12⟩
            go_simp
            with_reducible rfl
           rotate_left
           ·simp only [Act.put,sA_,s0_,s1_,i64_w,i32_w]
            rfl
           refine take_ (i:=3) (N:=some 32) (v:=?_) (a':=?_) #[true,true,true,true,true,true,false,false,true,false,false,false,false,false,false,false] rfl rfl (take_ofW HT_.out HW_.out (by kernel_rfl)) (fun _ _ _ h=>h) (Or.inl ⟨by rfl,?_⟩) hHeld ?_ ?_
           rotate_left
           ·rintro w' ⟨s0,s1,s2,s3,s4,s5,s6,s7,s8,s9,s10,s11,s12⟩
            go_simp
            with_reducible rfl
           rotate_left
           ·simp only [Act.put,sA_,s0_,s1_,i64_w,i32_w]
            rfl
           refine take_ (i:=6) (N:=some 35) (v:=?_) (a':=?_) #[true,true,true,true,true,true,true,false,true,false,false,false,false,false,false,false] rfl rfl (take_ofW HT_.out HW_.out (by kernel_rfl)) (fun _ _ _ h=>h) (Or.inl ⟨by rfl,?_⟩) hHeld ?_ ?_
           rotate_left
           ·rintro w' ⟨s0,s1,s2,s3,s4,s5,s6,s7,s8,s9,s10,s11,s12⟩
            go_simp
            with_reducible rfl
           rotate_left
           ·simp only [Act.put,sA_,s0_,s1_,i64_w,i32_w]
            rfl
           refine pure_ (i:=7) (N:=some 36) (v:=?_) (a':=?_) #[true,true,true,true,true,true,true,true,true,false,false,false,false,false,false,false] rfl rfl (any_of HT_.out (by kernel_rfl)) (fun _ _ _ h=>h) (Or.inl ⟨by rfl,?_⟩) ?_ ?_
           rotate_left
           ·intro w'
            go_simp
            with_reducible rfl
           rotate_left
           ·simp only [Act.put,sA_,s0_,s1_,i64_w,i32_w]
            rfl
           refine pure_ (i:=9) (N:=some 38) (v:=?_) (a':=?_) #[true,true,true,true,true,true,true,true,true,true,false,false,false,false,false,false] rfl rfl (any_of HT_.out (by kernel_rfl)) (fun _ _ _ h=>h) (Or.inl ⟨by rfl,?_⟩) ?_ ?_
           rotate_left
           ·intro w'
            go_simp
            with_reducible rfl
           rotate_left
           ·simp only [Act.put,sA_,s0_,s1_,i64_w,i32_w]
            rfl
           refine pure_ (i:=10) (N:=some 39) (v:=?_) (a':=?_) #[true,true,true,true,true,true,true,true,true,true,true,false,false,false,false,false] rfl rfl (any_of HT_.out (by kernel_rfl)) (fun _ _ _ h=>h) (Or.inl ⟨by rfl,?_⟩) ?_ ?_
           rotate_left
           ·intro w'
            go_simp
            with_reducible rfl
           rotate_left
           ·simp only [Act.put,sA_,s0_,s1_,i64_w,i32_w]
            rfl
           refine take_ (i:=11) (N:=some 40) (v:=?_) (a':=?_) #[true,true,true,true,true,true,true,true,true,true,true,true,false,false,false,false] rfl rfl (take_ofW HT_.out HW_.out (by kernel_rfl)) (fun _ _ _ h=>h) (Or.inl ⟨by rfl,?_⟩) hHeld ?_ ?_
           rotate_left
           ·rintro w' ⟨s0,s1,s2,s3,s4,s5,s6,s7,s8,s9,s10,s11,s12⟩
            go_simp
            with_reducible rfl
           rotate_left
           ·simp only [Act.put,sA_,s0_,s1_,i64_w,i32_w]
            rfl
           refine one_ (i:=12) (N:=some 41) #[true,true,true,true,true,true,true,true,true,true,true,true,true,false,false,false] rfl rfl (one_of HT_.out (by kernel_rfl)) (by decide) (fun K hK=>?_)
           refine value_ (w1:=?_) (v:=?_) (by rfl) rfl ?_ ?_
           rotate_left 2
           ·go_simp
            constructor
            ·rfl
            ·rfl
           refine hK.out _ _ ⟨(blk_cell (kA_ BK144.out _) 0).trans rfl,(blk_cell (kA_ BK144.out _) 1).trans rfl,(blk_cell (kA_ BK144.out _) 2).trans rfl,(blk_cell (kA_ BK144.out _) 3).trans rfl,(blk_cell (kA_ BK144.out _) 4).trans rfl,(blk_cell (kA_ BK144.out _) 5).trans rfl,(blk_cell (kA_ BK131.out _) 0).trans rfl,(blk_cell (kA_ BK131.out _) 1).trans rfl,(blk_cell (kA_ BK131.out _) 2).trans rfl,(blk_cell (kA_ BK131.out _) 3).trans rfl,(blk_cell (kA_ BK131.out _) 4).trans rfl,(blk_cell (kA_ BK131.out _) 5).trans rfl,(World.cell?_alloc_lt _ _ _ (World.block_lt_of_cell? _ _ (((HB.out.cell (World.block_lt_of_cell? w _ hw145_0)).trans hw145_0)))).trans (((HB.out.cell (World.block_lt_of_cell? w _ hw145_0)).trans hw145_0))⟩ (fun hHeld=>?_)
           clear hK K
           refine norm_ (a':=?_) ?_ ?_
           rotate_left
           ·show Act.put _ (some 41) _=_
            simp only [Act.put,sA_,s0_,s1_,i64_w,i32_w]
            rfl
           refine one_ (i:=13) (N:=some 42) #[true,true,true,true,true,true,true,true,true,true,true,true,true,true,false,false] rfl rfl (one_of HT_.out (by kernel_rfl)) (by decide) (fun K hK=>?_)
           refine Kd.R_append_step (Kd.int .i64) (w0:=w) w.heap.size (by rfl) (.tmp 30) (.tmp 41) 22 3 (.int .i64 0) 8 rfl Try.underlying22 info3 rfl (by decide) (by omega) u145005 x145005_2 (rd l0_5 (ji23)) [.int .i64 (rd l0_5 (ji23))] (fun k_=>some k_≠(.slice Ao16 t138.length co16:Value).ownBlock) (fun _=>False) rfl rfl ?aP (fun _ hk=>hk.elim) ?aF ?aO ?aB ?aS ?aL ?_
           (case aP=>exact rfl)
           (case aB=>exact (by repeat (first|(with_reducible first|exact HB.out|apply wA_|apply wN_|apply wD_|refine below_set ?_ GE131.out|refine below_set ?_ GE132.out|refine below_set ?_ GE144.out)|exact HB.out)))
           (case aF=>exact (fun k_ hk=>Kd.fresh' (Kd.R_lt (by (with_reducible repeat (first|apply rA_|apply rN_|apply rD_));exact HO_145004.out)) k_ hk))
           (case aO=>exact (by (with_reducible repeat (first|apply rA_|apply rN_|apply rD_));exact HO_145005.out))
           (case aS=>exact (below_size (by repeat (first|(with_reducible first|exact HB.out|apply wA_|apply wN_|apply wD_|refine below_set ?_ GE131.out|refine below_set ?_ GE132.out|refine below_set ?_ GE144.out)|exact HB.out))))
           (case aL=>have:=LMc26.out;omega)
           intro v147 w28 ho hb hg hat
           rw [← Ny146.out] at ho
           have n0_:=aM_ (Kd.R_after (ok:=(fun _=>True)) (by (with_reducible repeat (first|apply rA_|apply rN_|apply rD_));exact Kd.R_mono HO_145004.out (fun _ hk=>⟨trivial,hk⟩)) hg hat)
           have n1_:=aM_ (blk_grown (g:=gb131) (o:=.cells #[.int .i64 a0_0,.int .i64 a0_1,.int .i64 a0_2,.int .i64 a0_3,.slice A0_4 l0_4.length c0_4,.slice (some ad145) l0_5.length c0_5] 27 (0,0)) (by (with_reducible repeat (first|apply kN_|apply kD_|apply kA_));exact BK131.out) hg (Kd.R_ne HO_145005.out BK131.out (by decide)))
           have n2_:=aM_ (blk_grown (g:=gb132) (o:=.cells #[.int .i64 0,.int .i64 0,.int .i64 0,.int .i64 0,.slice none 0 0,.slice none 0 0] 27 (0,0)) (by (with_reducible repeat (first|apply kN_|apply kD_|apply kA_));exact BK132.out) hg (Kd.R_ne HO_145005.out BK132.out (by decide)))
           have n3_:=aM_ (blk_grown (g:=gb144) (o:=.cells #[.int .i64 t134,.int .i64 t135,.int .i64 t136,.int .i64 t137,.slice Ao16 t138.length co16,u145005] 27 (0,0)) (by (with_reducible repeat (first|apply kN_|apply kD_|apply kA_));exact BK144.out) hg (Kd.R_ne HO_145005.out BK144.out (by decide)))
           have n4_:=aM_ (hb)
           have n5_:=aM_ (ho)
           clear HO_145004
           clear BK131
           clear BK132
           clear BK144
           clear HB
           clear HO_145005
           have HO_145004:=n0_
           have BK131:=n1_
           have BK132:=n2_
           have BK144:=n3_
           have HB:=n4_
           have HO148:=n5_
           clear n0_ n1_ n2_ n3_ n4_ n5_
           clear ho hb hg hat
           obtain ⟨Ao29,co29,eo29⟩:=Kd.R_slice HO148.out
           (first|subst eo29|(injection eo29 with f1_ f2_ f3_;have f4_:=f1_.symm;have f5_:=f3_.symm;clear f1_ f2_ f3_;subst f4_;subst f5_))
           refine hK.out _ _ ⟨(blk_cell BK144.out 0).trans rfl,(blk_cell BK144.out 1).trans rfl,(blk_cell BK144.out 2).trans rfl,(blk_cell BK144.out 3).trans rfl,(blk_cell BK144.out 4).trans rfl,(blk_cell BK144.out 5).trans rfl,(blk_cell BK131.out 0).trans rfl,(blk_cell BK131.out 1).trans rfl,(blk_cell BK131.out 2).trans rfl,(blk_cell BK131.out 3).trans rfl,(blk_cell BK131.out 4).trans rfl,(blk_cell BK131.out 5).trans rfl,((HB.out.cell (World.block_lt_of_cell? w _ hw145_0)).trans hw145_0)⟩ (fun hHeld=>?_)
           clear hK K
           refine norm_ (a':=?_) ?_ ?_
           rotate_left
           ·show Act.put _ (some 42) _=_
            simp only [Act.put,sA_,s0_,s1_,i64_w,i32_w]
            rfl
           refine pure_ (i:=14) (N:=some 43) (v:=?_) (a':=?_) #[true,true,true,true,true,true,true,true,true,true,true,true,true,true,true,false] rfl rfl (any_of HT_.out (by kernel_rfl)) (fun _ _ _ h=>h) (Or.inl ⟨by rfl,?_⟩) ?_ ?_
           rotate_left
           ·intro w'
            go_simp
            with_reducible rfl
           rotate_left
           ·simp only [Act.put,sA_,s0_,s1_,i64_w,i32_w]
            rfl
           refine last_ (i:=15) (N:=none) #[true,true,true,true,true,true,true,true,true,true,true,true,true,true,true,true] rfl rfl (one_of HT_.out (by kernel_rfl)) (by decide) (fun K hK=>?_)
           have hs30:w28.cell? ⟨gb144,5,none⟩=some (u145005):=(blk_cell BK144.out 5).trans rfl
           have hfs30:=blk_frozen BK144.out 5
           have hns30_0:=NB131_144.out
           have hns30_1:=NB132_144.out
           have hms30_0:=NB144_131.out
           have hms30_1:=NB144_132.out
           refine skip_ (w1:=?_) (by rfl) rfl ?_ ?_
           rotate_left
           ·go_simp
            rfl
           refine hK.out _ _ ?_
           clear hK K
           refine done_ (done_of HT_.out (by kernel_rfl)) ?_
           try go_wp2
           go_roundg k2
           case measure=>have:=HK1.out;have:=HK2.out;omega
           case rel=>exact ⟨(wrap64 (x5_2 - 1)),(y146),(.slice Ao29 y146.length co29),(by first|rfl|(simp;done)|(simp [*];done)),H',⟨by have:=HK1.out;have:=HK2.out;omega⟩,⟨by (with_reducible repeat (first|apply rA_|apply rN_|apply rD_));exact Kd.R_mono (Kd.R_far (Kd.R_types HO_145004.out BK144.out (by decide)) (fun _ hk=>hk.2) _) (fun _ hk=>hk.1.2)⟩,⟨by (with_reducible repeat (first|apply rA_|apply rN_|apply rD_));exact Kd.R_mono (Kd.R_far (Kd.R_types HO148.out BK144.out (by decide)) (fun _ hk=>hk.2) _) (fun _ hk=>hk.1)⟩,⟨by (with_reducible repeat (first|apply kN_|apply kD_|apply kA_));refine blk_far ?_ NB131_144.out _;(with_reducible repeat (first|apply kN_|apply kD_|apply kA_));exact BK131.out⟩,⟨by (with_reducible repeat (first|apply kN_|apply kD_|apply kA_));refine blk_far ?_ NB132_144.out _;(with_reducible repeat (first|apply kN_|apply kD_|apply kA_));exact BK132.out⟩,⟨by (with_reducible repeat (first|apply kN_|apply kD_|apply kA_));refine blk_put (cs:=#[.int .i64 t134,.int .i64 t135,.int .i64 t136,.int .i64 t137,.slice Ao16 t138.length co16,u145005]) ?_ 5 _ rfl;(with_reducible repeat (first|apply kN_|apply kD_|apply kA_));exact BK144.out⟩,⟨by repeat (first|(with_reducible first|exact HB.out|apply wA_|apply wN_|apply wD_|refine below_set ?_ GE131.out|refine below_set ?_ GE132.out|refine below_set ?_ GE144.out)|exact HB.out)⟩⟩
          ·rw [if_neg c26] at H
           exact absurd H (by simp)
         ·rw [if_neg c25] at H
          exact absurd H (by simp)
        ·rw [if_neg c24] at H
         exact absurd H (by simp)
       ·rw [if_neg c22] at H
        have c22b0:decide (0≤x5_2)=false:=decide_eq_false c22
        clear c22
        have H':=aM_ H
        clear H
        go_wp2
        go_roundg k2
        case measure=>have:=HK1.out;have:=HK2.out;omega
        case rel=>exact ⟨(wrap64 (x4_1+1)),(x145005_2),(u145005),(by first|rfl|(simp;done)|(simp [*];done)),H',⟨by have:=HK1.out;have:=HK2.out;omega⟩,⟨by (with_reducible repeat (first|apply rA_|apply rN_|apply rD_));exact HO_145004.out⟩,⟨by (with_reducible repeat (first|apply rA_|apply rN_|apply rD_));exact HO_145005.out⟩,⟨by (with_reducible repeat (first|apply kN_|apply kD_|apply kA_));exact BK131.out⟩,⟨by (with_reducible repeat (first|apply kN_|apply kD_|apply kA_));exact BK132.out⟩,⟨by (with_reducible repeat (first|apply kN_|apply kD_|apply kA_));exact BK144.out⟩,⟨by repeat (first|(with_reducible first|exact HB.out|apply wA_|apply wN_|apply wD_|refine below_set ?_ GE131.out|refine below_set ?_ GE132.out|refine below_set ?_ GE144.out)|exact HB.out)⟩⟩
    ·rw [if_neg c18] at H
     have c18b0:decide (x4_1 < a0_2)=false:=decide_eq_false c18
     clear c18
     simp only [Option.some.injEq,Prod.mk.injEq] at H
     obtain ⟨rfl,rfl,rfl,rfl,rfl,rfl⟩:=H
     have hnb31:=NB131_132.out
     have hnc31:=NB132_131.out
     have hnb32:=NB131_144.out
     have hnc32:=NB144_131.out
     obtain ⟨hcz33_0,hcz33_1,hcz33_2,hcz33_3,hcz33_4,hcz33_5⟩:=bc6 BK131.out
     obtain ⟨hfz33_0,hfz33_1,hfz33_2,hfz33_3,hfz33_4,hfz33_5⟩:=bf6 BK131.out
     have hnb34:=NB144_132.out
     have hnc34:=NB132_144.out
     obtain ⟨hcz35_0,hcz35_1,hcz35_2,hcz35_3,hcz35_4,hcz35_5⟩:=bc6 BK144.out
     obtain ⟨hfz35_0,hfz35_1,hfz35_2,hfz35_3,hfz35_4,hfz35_5⟩:=bf6 BK144.out
     obtain ⟨hcz36_0,hcz36_1,hcz36_2,hcz36_3,hcz36_4,hcz36_5⟩:=bc6 BK132.out
     obtain ⟨hfz36_0,hfz36_1,hfz36_2,hfz36_3,hfz36_4,hfz36_5⟩:=bf6 BK132.out
     obtain ⟨Ao37,co37,eo37⟩:=Kd.R_slice HO_145005.out
     subst eo37
     go_wp2
     refine bodyPost_ret (results_cell_row rfl _ _ gb132 27 #[.int .i64 t134,.int .i64 t135,.int .i64 t136,.int .i64 t137,.slice Ao16 t138.length co16,.slice Ao37 x145005_1.length co37] (0,0) _ rfl (by (with_reducible repeat (first|apply kN_|apply kD_|apply kA_));refine blk_put (cs:=#[.int .i64 t134,.int .i64 t135,.int .i64 t136,.int .i64 t137,.slice Ao16 t138.length co16,.slice none 0 0]) ?_ 5 _ rfl;(with_reducible repeat (first|apply kN_|apply kD_|apply kA_));refine blk_put (cs:=#[.int .i64 t134,.int .i64 t135,.int .i64 t136,.int .i64 t137,.slice none 0 0,.slice none 0 0]) ?_ 4 _ rfl;(with_reducible repeat (first|apply kN_|apply kD_|apply kA_));refine blk_put (cs:=#[.int .i64 t134,.int .i64 t135,.int .i64 t136,.int .i64 0,.slice none 0 0,.slice none 0 0]) ?_ 3 _ rfl;(with_reducible repeat (first|apply kN_|apply kD_|apply kA_));refine blk_put (cs:=#[.int .i64 t134,.int .i64 t135,.int .i64 0,.int .i64 0,.slice none 0 0,.slice none 0 0]) ?_ 2 _ rfl;(with_reducible repeat (first|apply kN_|apply kD_|apply kA_));refine blk_put (cs:=#[.int .i64 t134,.int .i64 0,.int .i64 0,.int .i64 0,.slice none 0 0,.slice none 0 0]) ?_ 1 _ rfl;(with_reducible repeat (first|apply kN_|apply kD_|apply kA_));refine blk_put (cs:=#[.int .i64 0,.int .i64 0,.int .i64 0,.int .i64 0,.slice none 0 0,.slice none 0 0]) ?_ 0 _ rfl;(with_reducible repeat (first|apply kN_|apply kD_|apply kA_));exact BK132.out) Try.underlying27 rfl (by kernel_rfl)) rfl ?_
     exact ⟨_,_,by first|rfl|(simp [errW_none,errW_some] <;> rfl)|(simp [*,errW_none,errW_some] <;> rfl),by (with_reducible repeat (first|apply rA_|apply rN_|apply rD_));exact Kd.R_mono (Kd.R_far (Kd.R_far (Kd.R_far (Kd.R_far (Kd.R_far (Kd.R_far (Kd.R_types HO_145004.out BK132.out (by decide)) (fun _ hk=>hk.2) _) (fun _ hk=>hk.2) _) (fun _ hk=>hk.2) _) (fun _ hk=>hk.2) _) (fun _ hk=>hk.2) _) (fun _ hk=>hk.2) _) (fun _ hk=>hk.1),by (with_reducible repeat (first|apply rA_|apply rN_|apply rD_));exact Kd.R_mono (Kd.R_far (Kd.R_far (Kd.R_far (Kd.R_far (Kd.R_far (Kd.R_far (Kd.R_types HO_145005.out BK132.out (by decide)) (fun _ hk=>hk.2) _) (fun _ hk=>hk.2) _) (fun _ hk=>hk.2) _) (fun _ hk=>hk.2) _) (fun _ hk=>hk.2) _) (fun _ hk=>hk.2) _) (fun _ hk=>hk.1),by repeat (first|(with_reducible first|exact HB.out|apply wA_|apply wN_|apply wD_|refine below_set ?_ GE131.out|refine below_set ?_ GE132.out|refine below_set ?_ GE144.out)|exact HB.out)⟩
 ·replace c3:=Bool.eq_false_iff.mpr c3
  subst c3
  have H1:(some (0,0,0,0,([]:List Int),([]:List Int)))=some (r1,r2,r3,r4,r5,r6):=by first|(rw [if_neg (show ¬ (false=true) by decide)] at H;exact H)|rfl
  clear H
  have H:=H1
  clear H1
  simp only [Option.some.injEq,Prod.mk.injEq] at H
  obtain ⟨rfl,rfl,rfl,rfl,rfl,rfl⟩:=H
  go_enter Try.func30,Try.ntmps30
  go_wp2_with (first|((with_reducible refine gate_dst (N:=1) rfl ?_);refine box_event ?hg (N:=1) ?hd (cs:=#[.int .i64 a0_0,.int .i64 a0_1,.int .i64 a0_2,.int .i64 a0_3,.slice A0_4 l0_4.length c0_4,.slice A0_5 l0_5.length c0_5]) (t:=27) ?hr ?_;(case hd=>rfl);(case hg=>rfl);(case hr=>first|(go_simp;done)|(go_simp;rfl));intro gb131 hg w38 hbox hb;have n0_:=aM_ (below_step (by repeat (first|(with_reducible first|exact HB.out|apply wA_|apply wN_|apply wD_)|exact HB.out)) hb);have n1_:=aM_ (hbox);have n2_:=aM_ ((by rw [hg];exact (below_size (by repeat (first|(with_reducible first|exact HB.out|apply wA_|apply wN_|apply wD_)|exact HB.out))):w.heap.size≤gb131));have n3_:=aM_ ((by rw [hg];exact (below_size (by repeat (first|(with_reducible first|exact HB.out|apply wA_|apply wN_|apply wD_)|exact HB.out))):w.heap.size≤gb131));clear HB;have HB:=n0_;have BK131:=n1_;have GW131:=n2_;have GE131:=n3_;clear n0_ n1_ n2_ n3_;clear hb hbox hg)|((with_reducible refine gate_dst (N:=2) rfl ?_);refine box_event ?hg (N:=2) ?hd (cs:=#[.int .i64 0,.int .i64 0,.int .i64 0,.int .i64 0,.slice none 0 0,.slice none 0 0]) (t:=27) ?hr ?_;(case hd=>rfl);(case hg=>rfl);(case hr=>first|(go_simp;done)|(go_simp;rfl));intro gb132 hg w39 hbox hb;have n0_:=aM_ (blk_below (g:=gb131) (by (with_reducible repeat (first|apply kN_|apply kD_|apply kA_));exact BK131.out) hb);have n1_:=aM_ (below_step (by repeat (first|(with_reducible first|exact HB.out|apply wA_|apply wN_|apply wD_|refine below_set ?_ GE131.out)|exact HB.out)) hb);have n2_:=aM_ (hbox);have n3_:=aM_ ((by rw [hg];exact (below_size (by repeat (first|(with_reducible first|exact HB.out|apply wA_|apply wN_|apply wD_|refine below_set ?_ GE131.out)|exact HB.out))):w.heap.size≤gb132));have n4_:=aM_ ((by rw [hg];exact (below_size (by repeat (first|(with_reducible first|exact HB.out|apply wA_|apply wN_|apply wD_|refine below_set ?_ GE131.out)|exact HB.out))):w.heap.size≤gb132));have n5_:=aM_ ((by rw [hg];exact Nat.ne_of_lt (blk_lt (g:=gb131) (by (with_reducible repeat (first|apply kN_|apply kD_|apply kA_));exact BK131.out)):gb131≠gb132));have n6_:=aM_ n5_.out.symm;clear BK131;clear HB;have BK131:=n0_;have HB:=n1_;have BK132:=n2_;have GW132:=n3_;have GE132:=n4_;have NB131_132:=n5_;have NB132_131:=n6_;clear n0_ n1_ n2_ n3_ n4_ n5_ n6_;clear hb hbox hg;have hnb40:=NB131_132.out;have hnc40:=NB132_131.out;obtain ⟨hcz41_0,hcz41_1,hcz41_2,hcz41_3,hcz41_4,hcz41_5⟩:=bc6 BK131.out;obtain ⟨hfz41_0,hfz41_1,hfz41_2,hfz41_3,hfz41_4,hfz41_5⟩:=bf6 BK131.out)|((with_reducible refine gate_callee (f:=16) rfl ?_);refine goesL_ (some 7) rfl rfl Try.func16 (by kernel_rfl) rfl #[.agg #[.int .i64 a0_0,.int .i64 a0_1,.int .i64 a0_2,.int .i64 a0_3,.slice A0_4 l0_4.length c0_4,.slice A0_5 l0_5.length c0_5]] rfl (by (try simp only [List.map_toArray,List.map_cons,List.map_nil]);first|done|rfl|(simp only [List.length_drop,List.length_take];rfl)) ?_;(with_reducible refine (spec_ImageOk.calls k a0_0 a0_1 a0_2 a0_3 _ _ l0_4 _ _ l0_5 false _ ?side1 ?side2 ?side3 ?side4 A2.out).mono ?_);(case side1=>repeat (first|exact (Kd.C_below HR0_4.out HB.out)|(with_reducible refine Kd.C_alloc ?_ _)|(with_reducible refine Kd.C_drewN ?_ _)|(with_reducible refine Kd.C_drew ?_)));(case side2=>exact HC0_4.out);(case side3=>repeat (first|exact (Kd.C_below HR0_5.out HB.out)|(with_reducible refine Kd.C_alloc ?_ _)|(with_reducible refine Kd.C_drewN ?_ _)|(with_reducible refine Kd.C_drew ?_)));(case side4=>exact HC0_5.out);rintro e w42 ⟨rfl,hb⟩;refine ⟨_,rfl,?_⟩;have n0_:=aM_ (blk_below (g:=gb131) (by (with_reducible repeat (first|apply kN_|apply kD_|apply kA_));exact BK131.out) hb);have n1_:=aM_ (blk_below (g:=gb132) (by (with_reducible repeat (first|apply kN_|apply kD_|apply kA_));exact BK132.out) hb);have n2_:=aM_ (below_step (by repeat (first|(with_reducible first|exact HB.out|apply wA_|apply wN_|apply wD_|refine below_set ?_ GE131.out|refine below_set ?_ GE132.out)|exact HB.out)) hb);clear BK131;clear BK132;clear HB;have BK131:=n0_;have BK132:=n1_;have HB:=n2_;clear n0_ n1_ n2_;(try clear hb);(try clear hb2);(try clear hk);(try clear hi);obtain ⟨hcz43_0,hcz43_1,hcz43_2,hcz43_3,hcz43_4,hcz43_5⟩:=bc6 BK132.out;obtain ⟨hfz43_0,hfz43_1,hfz43_2,hfz43_3,hfz43_4,hfz43_5⟩:=bf6 BK132.out))
  refine bodyPost_ret (results_cell_row rfl _ _ gb132 27 #[.int .i64 0,.int .i64 0,.int .i64 0,.int .i64 0,.slice none 0 0,.slice none 0 0] (0,0) _ rfl (by (with_reducible repeat (first|apply kN_|apply kD_|apply kA_));refine blk_put (cs:=#[.int .i64 0,.int .i64 0,.int .i64 0,.int .i64 0,.slice none 0 0,.slice none 0 0]) ?_ 5 _ rfl;(with_reducible repeat (first|apply kN_|apply kD_|apply kA_));refine blk_put (cs:=#[.int .i64 0,.int .i64 0,.int .i64 0,.int .i64 0,.slice none 0 0,.slice none 0 0]) ?_ 4 _ rfl;(with_reducible repeat (first|apply kN_|apply kD_|apply kA_));refine blk_put (cs:=#[.int .i64 0,.int .i64 0,.int .i64 0,.int .i64 0,.slice none 0 0,.slice none 0 0]) ?_ 3 _ rfl;(with_reducible repeat (first|apply kN_|apply kD_|apply kA_));refine blk_put (cs:=#[.int .i64 0,.int .i64 0,.int .i64 0,.int .i64 0,.slice none 0 0,.slice none 0 0]) ?_ 2 _ rfl;(with_reducible repeat (first|apply kN_|apply kD_|apply kA_));refine blk_put (cs:=#[.int .i64 0,.int .i64 0,.int .i64 0,.int .i64 0,.slice none 0 0,.slice none 0 0]) ?_ 1 _ rfl;(with_reducible repeat (first|apply kN_|apply kD_|apply kA_));refine blk_put (cs:=#[.int .i64 0,.int .i64 0,.int .i64 0,.int .i64 0,.slice none 0 0,.slice none 0 0]) ?_ 0 _ rfl;(with_reducible repeat (first|apply kN_|apply kD_|apply kA_));exact BK132.out) Try.underlying27 rfl (by kernel_rfl)) rfl ?_
  exact ⟨_,_,by first|rfl|(simp [errW_none,errW_some] <;> rfl)|(simp [*,errW_none,errW_some] <;> rfl),by first|exact Kd.R_nil _ _ _ _ _|exact Kd.N_nil _ _ _ _ _|exact Kd.V_nil _ _ _ _ _|exact Kd.Q_nil _ _ _ _ _|exact Kd.S_nil _ _ _ _ _,by first|exact Kd.R_nil _ _ _ _ _|exact Kd.N_nil _ _ _ _ _|exact Kd.V_nil _ _ _ _ _|exact Kd.Q_nil _ _ _ _ _|exact Kd.S_nil _ _ _ _ _,by repeat (first|(with_reducible first|exact HB.out|apply wA_|apply wN_|apply wD_|refine below_set ?_ GE131.out|refine below_set ?_ GE132.out)|exact HB.out)⟩

/-! ### slices_Clone_int_int: function 73 -/
def slices_Clone_int_int.f (l0:List Int):Option (List Int):=(some (([]:List Int):List Int)).bind fun y149=>(if y149.length+l0.length < 17592186044416 then (some (y149 ++ l0)) else (none))
set_option maxHeartbeats 8000000 in
set_option maxRecDepth 100000 in
theorem slices_Clone_int_int.calls (A0:Option Addr) (c0:Nat) (l0:List Int) (r:List Int) (w:World) (hr0:Kd.C (Kd.int .i64) w A0 l0.length l0) (hc0:l0.length≤c0) (h:slices_Clone_int_int.f l0=some r) :
  Calls Try.prog 73 #[.slice A0 l0.length c0] w fun e w'=>∃ v0_:Value,e=.returned (v0_)∧Kd.R (Kd.int .i64) 3 w' w.heap.size (fun _=>True) v0_ r∧Below w.heap.size w w':=by
 have HR0:=aM_ hr0
 have HC0:=aM_ hc0
 clear hr0 hc0
 have HB:=aM_ (Below.refl w.heap.size w)
 have H:((some (([]:List Int):List Int)).bind fun y149=>(if y149.length+l0.length < 17592186044416 then (some (y149 ++ l0)) else (none)))=some r:=h
 clear h
 obtain ⟨y149,hy149⟩:∃ y_:List Int,y_=(([]:List Int)):=⟨_,rfl⟩
 replace H:(if y149.length+l0.length < 17592186044416 then (some (y149 ++ l0)) else (none))=some r:=by first|(rw [hy149];with_reducible exact H)|(have H2_:=(Option.bind_some _ _).symm.trans H;rw [hy149];with_reducible exact H2_)|(have H2_:=(Option.bind_some _ _).symm.trans H;with_reducible exact H2_)|with_reducible exact H|(rw [hy149];exact H)|exact H
 have Ny149:=aM_ hy149
 clear hy149
 by_cases c2:y149.length+l0.length < 17592186044416
 ·rw [if_pos c2] at H
  have LMc2:=aM_ c2
  clear c2
  obtain ⟨y152,hy152⟩:∃ y_:List Int,y_=(y149 ++ l0):=⟨_,rfl⟩
  replace H:(some y152)=some r:=by first|(rw [hy152];with_reducible exact H)|(have H2_:=(Option.bind_some _ _).symm.trans H;rw [hy152];with_reducible exact H2_)|(have H2_:=(Option.bind_some _ _).symm.trans H;with_reducible exact H2_)|with_reducible exact H|(rw [hy152];exact H)|exact H
  have Ny152:=aM_ hy152
  clear hy152
  obtain rfl:=Option.some.inj H
  have hnil_:=fun (w:World)=>Go.Lib.run_eql_slice_nil (P:=Try.prog) w 22 3 A0 l0.length c0 0 0 Try.underlying22
  cases A0 with
  | none =>
   have hz_:l0=[]:=by
    refine List.eq_nil_of_length_eq_zero (Nat.eq_zero_of_not_pos fun h0_=>?_)
    obtain ⟨ad_,e_,_⟩:=HR0.out.2.2 h0_
    cases e_
   have hy_:y152=[]:=by rw [Ny152.out,Ny149.out,hz_];rfl
   have HY_:=aM_ hy_
   clear hy_ hz_
   go_enter Try.func73,Try.ntmps73
   go_wp2
   go_ret
   exact ⟨_,rfl,by rw [HY_.out];exact Kd.R_nil _ _ _ _ _,HB.out⟩
  | some adn_ =>
  go_enter Try.func73,Try.ntmps73
  go_wp2_with (first|((with_reducible refine gate_dst (N:=5) rfl ?_);refine Kd.R_lit (Kd.int .i64) _ 3 ?hg (N:=5) ?hd (xs:=([]:List Int)) (inner:=[]) (ok:=fun _=>True) (okp:=fun _=>True) ?hr ?hp (fun _ hk=>hk) trivial (Below.refl _ _) (Nat.le_refl _) (by simp) ?_;(case hd=>rfl);(case hg=>rfl);(case hr=>first|(go_simp;done)|(go_simp;rfl));(case hp=>exact (Reps.none _ _));intro v150 w3 ho4 hb hg_ hnew_;clear hg_ hnew_;(first|rw [← Ny149.out] at ho4|(simp only [Int.reduceToNat] at ho4;rw [← Ny149.out] at ho4));have n0_:=aM_ (Kd.R_lower ho4 (below_size (by repeat (first|(with_reducible first|exact HB.out|apply wA_|apply wN_|apply wD_)|exact HB.out))));have n1_:=aM_ (below_step (by repeat (first|(with_reducible first|exact HB.out|apply wA_|apply wN_|apply wD_)|exact HB.out)) hb);clear HB;have HO151:=n0_;have HB:=n1_;clear n0_ n1_;clear hb ho4)|((with_reducible refine gate_builtin (b:=.append) (xs:=#[.tmp 5,.tmp 6]) rfl ?_);at_builtin;refine Kd.R_append_rows (Kd.int .i64) (w0:=w) w.heap.size rfl (.tmp 5) (.tmp 6) 22 3 (.int .i64 0) 8 rfl Try.underlying22 info3 rfl (by decide) (by omega) v150 y149 l0 _ _ _ (fun _=>True) (fun _=>False) rfl rfl ?aO ?aR (fun _ _ h=>h) (fun _ h=>h.elim) ?aF ?aB ?aS ?aL ?_;(case aR=>repeat (first|exact (Kd.C_below HR0.out HB.out)|(with_reducible refine Kd.C_alloc ?_ _)|(with_reducible refine Kd.C_drewN ?_ _)|(with_reducible refine Kd.C_drew ?_)));(case aB=>exact (by repeat (first|(with_reducible first|exact HB.out|apply wA_|apply wN_|apply wD_)|exact HB.out)));(case aF=>exact (fun _ _=>trivial));(case aO=>exact (by (with_reducible repeat (first|apply rA_|apply rN_|apply rD_));exact HO151.out));(case aS=>exact (below_size (by repeat (first|(with_reducible first|exact HB.out|apply wA_|apply wN_|apply wD_)|exact HB.out))));(case aL=>have:=LMc2.out;omega);intro v153 w5 ho hb hg hat;rw [← Ny152.out] at ho;have n0_:=aM_ (hb);have n1_:=aM_ (ho);clear HB;clear HO151;have HB:=n0_;have HO154:=n1_;clear n0_ n1_;clear ho hb hg hat))
  go_ret
  exact ⟨_,by first|rfl|(simp [errW_none,errW_some] <;> rfl)|(simp [*,errW_none,errW_some] <;> rfl),by (with_reducible repeat (first|apply rA_|apply rN_|apply rD_));exact HO154.out,by repeat (first|(with_reducible first|exact HB.out|apply wA_|apply wN_|apply wD_)|exact HB.out)⟩
 ·rw [if_neg c2] at H
  exact absurd H (by simp)

end Go.Proofs.Ytkjfefiphdloiaa.PFnImageTurn
