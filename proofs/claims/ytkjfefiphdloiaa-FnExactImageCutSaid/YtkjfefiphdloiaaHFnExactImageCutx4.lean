/- What the functions that the law comes to compute, as plain functions, and that the machine's calls come to just that: written by a program for this claim, and turned where Lean did not take it. No condition. -/
import Derived.Test.YtkjfefiphdloiaaHFnExactImageCutx0
namespace Go.Proofs.Ytkjfefiphdloiaa.PFnExactImageCut
open Go.RowKit Go.Proofs.YtkjfefiphdloiaaW.PrintWords Go.Proofs.YtkjfefiphdloiaaW.PrintLast Go.Proofs.YtkjfefiphdloiaaW.PrintMore
attribute [local go_sem] max2_int min2_int max_two min_two max_three min_three max_four min_four   -- for this text's walks alone
set_option linter.unusedVariables false
set_option linter.unusedSimpArgs false

/-! ### spec_l8Blank: function 56 -/
def spec_l8Blank.f (a0_0:Int) (a0_1:Int) (a0_2:Int) (a0_3:Int) (l0_4:List Int) (l0_5:List Int) (a1:Int) (a2:Int):Option (Int × Int × Int × Int × List Int × List Int):=(some (([]:List Int):List Int)).bind fun y149=>(if y149.length+l0_4.length < 17592186044416 then (some (a0_0,a0_1,a1,a2,(y149 ++ l0_4),([]:List Int))) else (none))
def spec_l8Blank.T1:Bool × List (List Nat × List Nat):=(true,[([],[]),([0],[0]),([],[]),([2],[2]),([],[]),([],[]),([],[]),([],[]),([7],[7]),([6,8],[6,8]),([1,3,4,5,9],[1,3,4,5,9]),([10,9,0,1,2,3,4,5,6,7,8,9,10],[10])])
def spec_l8Blank.B1:List Nat:=[0,1,0,4,0,0,0,0,128,448,1023,2047]
theorem spec_l8Blank.tab1:rtab .any (opsOf Try.f56 1)=spec_l8Blank.T1:=by kernel_rfl
theorem spec_l8Blank.bits1:waitsOk spec_l8Blank.T1.2 spec_l8Blank.B1=true:=by kernel_rfl
set_option maxHeartbeats 8000000 in
set_option maxRecDepth 100000 in
theorem spec_l8Blank.calls (a0_0:Int) (a0_1:Int) (a0_2:Int) (a0_3:Int) (A0_4:Option Addr) (c0_4:Nat) (l0_4:List Int) (A0_5:Option Addr) (c0_5:Nat) (l0_5:List Int) (a1:Int) (a2:Int) (r1:Int) (r2:Int) (r3:Int) (r4:Int) (r5:List Int) (r6:List Int) (w:World) (hr0_4:Kd.C (Kd.int .i64) w A0_4 l0_4.length l0_4) (hc0_4:l0_4.length≤c0_4) (hr0_5:Kd.C (Kd.int .i64) w A0_5 l0_5.length l0_5) (hc0_5:l0_5.length≤c0_5) (h:spec_l8Blank.f a0_0 a0_1 a0_2 a0_3 l0_4 l0_5 a1 a2=some (r1,r2,r3,r4,r5,r6)) :
  Calls Try.prog 56 #[.agg #[.int .i64 a0_0,.int .i64 a0_1,.int .i64 a0_2,.int .i64 a0_3,.slice A0_4 l0_4.length c0_4,.slice A0_5 l0_5.length c0_5],.int .i64 a1,.int .i64 a2] w fun e w'=>∃ v4_ v5_:Value,e=.returned (.agg #[.int .i64 r1,.int .i64 r2,.int .i64 r3,.int .i64 r4,v4_,v5_])∧Kd.R (Kd.int .i64) 3 w' w.heap.size (fun k_=>some k_≠(v5_:Value).ownBlock) v4_ r5∧Kd.R (Kd.int .i64) 3 w' w.heap.size (fun k_=>some k_≠(v4_:Value).ownBlock) v5_ r6∧Below w.heap.size w w':=by
 have hu27:=Try.underlying27
 have HR0_4:=aM_ hr0_4
 have HC0_4:=aM_ hc0_4
 clear hr0_4 hc0_4
 have HR0_5:=aM_ hr0_5
 have HC0_5:=aM_ hc0_5
 clear hr0_5 hc0_5
 have HB:=aM_ (Below.refl w.heap.size w)
 have H:((some (([]:List Int):List Int)).bind fun y149=>(if y149.length+l0_4.length < 17592186044416 then (some (a0_0,a0_1,a1,a2,(y149 ++ l0_4),([]:List Int))) else (none)))=some (r1,r2,r3,r4,r5,r6):=h
 clear h
 obtain ⟨y149,hy149⟩:∃ y_:List Int,y_=(([]:List Int)):=⟨_,rfl⟩
 replace H:(if y149.length+l0_4.length < 17592186044416 then (some (a0_0,a0_1,a1,a2,(y149 ++ l0_4),([]:List Int))) else (none))=some (r1,r2,r3,r4,r5,r6):=by first|(rw [hy149];with_reducible exact H)|(have H2_:=(Option.bind_some _ _).symm.trans H;rw [hy149];with_reducible exact H2_)|(have H2_:=(Option.bind_some _ _).symm.trans H;with_reducible exact H2_)|with_reducible exact H|(rw [hy149];exact H)|exact H
 have Ny149:=aM_ hy149
 clear hy149
 by_cases c4:y149.length+l0_4.length < 17592186044416
 ·rw [if_pos c4] at H
  have LMc4:=aM_ c4
  clear c4
  obtain ⟨y152,hy152⟩:∃ y_:List Int,y_=(y149 ++ l0_4):=⟨_,rfl⟩
  replace H:(some (a0_0,a0_1,a1,a2,y152,([]:List Int)))=some (r1,r2,r3,r4,r5,r6):=by first|(rw [hy152];with_reducible exact H)|(have H2_:=(Option.bind_some _ _).symm.trans H;rw [hy152];with_reducible exact H2_)|(have H2_:=(Option.bind_some _ _).symm.trans H;with_reducible exact H2_)|with_reducible exact H|(rw [hy152];exact H)|exact H
  have Ny152:=aM_ hy152
  clear hy152
  simp only [Option.some.injEq,Prod.mk.injEq] at H
  obtain ⟨rfl,rfl,rfl,rfl,rfl,rfl⟩:=H
  go_enter Try.func56,Try.ntmps56
  try go_wp2_with (first|((with_reducible refine gate_dst (N:=3) rfl ?_);refine box_event ?hg (N:=3) ?hd (cs:=#[.int .i64 a0_0,.int .i64 a0_1,.int .i64 a0_2,.int .i64 a0_3,.slice A0_4 l0_4.length c0_4,.slice A0_5 l0_5.length c0_5]) (t:=27) ?hr ?_;(case hd=>rfl);(case hg=>rfl);(case hr=>first|(go_simp;done)|(go_simp;rfl));intro gb147 hg w5 hbox hb;have n0_:=aM_ (below_step (by repeat (first|(with_reducible first|exact HB.out|apply wA_|apply wN_|apply wD_)|exact HB.out)) hb);have n1_:=aM_ (hbox);have n2_:=aM_ ((by rw [hg];exact (below_size (by repeat (first|(with_reducible first|exact HB.out|apply wA_|apply wN_|apply wD_)|exact HB.out))):w.heap.size≤gb147));have n3_:=aM_ ((by rw [hg];exact (below_size (by repeat (first|(with_reducible first|exact HB.out|apply wA_|apply wN_|apply wD_)|exact HB.out))):w.heap.size≤gb147));clear HB;have HB:=n0_;have BK147:=n1_;have GW147:=n2_;have GE147:=n3_;clear n0_ n1_ n2_ n3_;clear hb hbox hg)|((with_reducible refine gate_dst (N:=6) rfl ?_);refine box_event ?hg (N:=6) ?hd (cs:=#[.int .i64 0,.int .i64 0,.int .i64 0,.int .i64 0,.slice none 0 0,.slice none 0 0]) (t:=27) ?hr ?_;(case hd=>rfl);(case hg=>rfl);(case hr=>first|(go_simp;done)|(go_simp;rfl));intro gb148 hg w6 hbox hb;have n0_:=aM_ (blk_below (g:=gb147) (by (with_reducible repeat (first|apply kN_|apply kD_|apply kA_));exact BK147.out) hb);have n1_:=aM_ (below_step (by repeat (first|(with_reducible first|exact HB.out|apply wA_|apply wN_|apply wD_|refine below_set ?_ GE147.out)|exact HB.out)) hb);have n2_:=aM_ (hbox);have n3_:=aM_ ((by rw [hg];exact (below_size (by repeat (first|(with_reducible first|exact HB.out|apply wA_|apply wN_|apply wD_|refine below_set ?_ GE147.out)|exact HB.out))):w.heap.size≤gb148));have n4_:=aM_ ((by rw [hg];exact (below_size (by repeat (first|(with_reducible first|exact HB.out|apply wA_|apply wN_|apply wD_|refine below_set ?_ GE147.out)|exact HB.out))):w.heap.size≤gb148));have n5_:=aM_ ((by rw [hg];exact Nat.ne_of_lt (blk_lt (g:=gb147) (by (with_reducible repeat (first|apply kN_|apply kD_|apply kA_));exact BK147.out)):gb147≠gb148));have n6_:=aM_ n5_.out.symm;clear BK147;clear HB;have BK147:=n0_;have HB:=n1_;have BK148:=n2_;have GW148:=n3_;have GE148:=n4_;have NB147_148:=n5_;have NB148_147:=n6_;clear n0_ n1_ n2_ n3_ n4_ n5_ n6_;clear hb hbox hg))
  have n0_:=aM_ (kD_ BK147.out)
  have n1_:=aM_ (kD_ BK148.out)
  have n2_:=aM_ (wD_ HB.out)
  clear BK147
  clear BK148
  clear HB
  have BK147:=n0_
  have BK148:=n1_
  have HB:=n2_
  clear n0_ n1_ n2_
  refine start_ (n:=12) (S:=fun w'=>w'.cell? ⟨gb147,0,none⟩=some (.int .i64 a0_0)∧w'.cell? ⟨gb147,1,none⟩=some (.int .i64 a0_1)∧w'.cell? ⟨gb147,2,none⟩=some (.int .i64 a0_2)∧w'.cell? ⟨gb147,3,none⟩=some (.int .i64 a0_3)∧w'.cell? ⟨gb147,4,none⟩=some (.slice A0_4 l0_4.length c0_4)∧w'.cell? ⟨gb147,5,none⟩=some (.slice A0_5 l0_5.length c0_5)) (ds:=[]) #[false,false,false,false,false,false,false,false,false,false,false,false] (by kernel_rfl) rfl rfl (bc6 BK147.out) (fun hHeld=>?_);refine with_tabW spec_l8Blank.tab1 spec_l8Blank.bits1 (fun HT_ HW_=>?_)
  generalize w6.drew=w7 at BK147 BK148 HB hHeld ⊢
  refine pure_ (i:=0) (N:=some 7) (v:=?_) (a':=?_) #[true,false,false,false,false,false,false,false,false,false,false,false] rfl rfl (any_of HT_.out (by kernel_rfl)) (fun _ _ _ h=>h) (Or.inl ⟨by rfl,?_⟩) ?_ ?_
  rotate_left
  ·intro w'
   go_simp
   with_reducible rfl
  rotate_left
  ·simp only [Act.put,sA_,s0_,s1_,i64_w,i32_w]
   rfl
  refine pure_ (i:=2) (N:=some 9) (v:=?_) (a':=?_) #[true,false,true,false,false,false,false,false,false,false,false,false] rfl rfl (any_of HT_.out (by kernel_rfl)) (fun _ _ _ h=>h) (Or.inl ⟨by rfl,?_⟩) ?_ ?_
  rotate_left
  ·intro w'
   go_simp
   with_reducible rfl
  rotate_left
  ·simp only [Act.put,sA_,s0_,s1_,i64_w,i32_w]
   rfl
  refine pure_ (i:=4) (N:=some 11) (v:=?_) (a':=?_) #[true,false,true,false,true,false,false,false,false,false,false,false] rfl rfl (any_of HT_.out (by kernel_rfl)) (fun _ _ _ h=>h) (Or.inl ⟨by rfl,?_⟩) ?_ ?_
  rotate_left
  ·intro w'
   go_simp
   with_reducible rfl
  rotate_left
  ·simp only [Act.put,sA_,s0_,s1_,i64_w,i32_w]
   rfl
  refine pure_ (i:=5) (N:=some 12) (v:=?_) (a':=?_) #[true,false,true,false,true,true,false,false,false,false,false,false] rfl rfl (any_of HT_.out (by kernel_rfl)) (fun _ _ _ h=>h) (Or.inl ⟨by rfl,?_⟩) ?_ ?_
  rotate_left
  ·intro w'
   go_simp
   with_reducible rfl
  rotate_left
  ·simp only [Act.put,sA_,s0_,s1_,i64_w,i32_w]
   rfl
  refine pure_ (i:=7) (N:=some 14) (v:=?_) (a':=?_) #[true,false,true,false,true,true,false,true,false,false,false,false] rfl rfl (any_of HT_.out (by kernel_rfl)) (fun _ _ _ h=>h) (Or.inl ⟨by rfl,?_⟩) ?_ ?_
  rotate_left
  ·intro w'
   go_simp
   with_reducible rfl
  rotate_left
  ·simp only [Act.put,sA_,s0_,s1_,i64_w,i32_w]
   rfl
  refine take_ (i:=1) (N:=some 8) (v:=?_) (a':=?_) #[true,true,true,false,true,true,false,true,false,false,false,false] rfl rfl (take_ofW HT_.out HW_.out (by kernel_rfl)) (fun _ _ _ h=>h) (Or.inl ⟨by rfl,?_⟩) hHeld ?_ ?_
  rotate_left
  ·rintro w' ⟨s0,s1,s2,s3,s4,s5⟩
   go_simp
   with_reducible rfl
  rotate_left
  ·simp only [Act.put,sA_,s0_,s1_,i64_w,i32_w]
   rfl
  refine take_ (i:=3) (N:=some 10) (v:=?_) (a':=?_) #[true,true,true,true,true,true,false,true,false,false,false,false] rfl rfl (take_ofW HT_.out HW_.out (by kernel_rfl)) (fun _ _ _ h=>h) (Or.inl ⟨by rfl,?_⟩) hHeld ?_ ?_
  rotate_left
  ·rintro w' ⟨s0,s1,s2,s3,s4,s5⟩
   go_simp
   with_reducible rfl
  rotate_left
  ·simp only [Act.put,sA_,s0_,s1_,i64_w,i32_w]
   rfl
  refine take_ (i:=8) (N:=some 15) (v:=?_) (a':=?_) #[true,true,true,true,true,true,false,true,true,false,false,false] rfl rfl (take_ofW HT_.out HW_.out (by kernel_rfl)) (fun _ _ _ h=>h) (Or.inl ⟨by rfl,?_⟩) hHeld ?_ ?_
  rotate_left
  ·rintro w' ⟨s0,s1,s2,s3,s4,s5⟩
   go_simp
   with_reducible rfl
  rotate_left
  ·simp only [Act.put,sA_,s0_,s1_,i64_w,i32_w]
   rfl
  refine one_ (i:=6) (N:=some 13) #[true,true,true,true,true,true,true,true,true,false,false,false] rfl rfl (one_of HT_.out (by kernel_rfl)) (by decide) (fun K hK=>?_)
  refine Kd.R_lit_step (Kd.int .i64) _ 3 ?hg (N:=13) ?hd (xs:=([]:List Int)) (inner:=[]) (ok:=fun _=>True) (okp:=fun _=>True) ?hr ?hp (fun _ hk=>hk) trivial (Below.refl _ _) (Nat.le_refl _) (by simp) ?_;(case hd=>rfl);(case hg=>rfl);(case hr=>first|(go_simp;done)|(go_simp;rfl));(case hp=>exact (Reps.none _ _))
  intro v150 w8 ho9 hb hg_ hnew_
  clear hg_ hnew_
  (first|rw [← Ny149.out] at ho9|(simp only [Int.reduceToNat] at ho9;rw [← Ny149.out] at ho9))
  have n0_:=aM_ (Kd.R_lower ho9 (below_size (by repeat (first|(with_reducible first|exact HB.out|apply wA_|apply wN_|apply wD_|refine below_set ?_ GE147.out|refine below_set ?_ GE148.out)|exact HB.out))))
  have n1_:=aM_ (blk_below (g:=gb147) (by (with_reducible repeat (first|apply kN_|apply kD_|apply kA_));exact BK147.out) hb)
  have n2_:=aM_ (blk_below (g:=gb148) (by (with_reducible repeat (first|apply kN_|apply kD_|apply kA_));exact BK148.out) hb)
  have n3_:=aM_ (below_step (by repeat (first|(with_reducible first|exact HB.out|apply wA_|apply wN_|apply wD_|refine below_set ?_ GE147.out|refine below_set ?_ GE148.out)|exact HB.out)) hb)
  clear BK147
  clear BK148
  clear HB
  have HO151:=n0_
  have BK147:=n1_
  have BK148:=n2_
  have HB:=n3_
  clear n0_ n1_ n2_ n3_
  clear hb ho9
  refine hK.out _ _ (bc6 BK147.out) (fun hHeld=>?_)
  clear hK K
  refine norm_ (a':=?_) ?_ ?_
  rotate_left
  ·show Act.put _ (some 13) _=_
   simp only [Act.put,sA_,s0_,s1_,i64_w,i32_w]
   rfl
  refine one_ (i:=9) (N:=some 16) #[true,true,true,true,true,true,true,true,true,true,false,false] rfl rfl (one_of HT_.out (by kernel_rfl)) (by decide) (fun K hK=>?_)
  refine Kd.R_append_rows_step (Kd.int .i64) (w0:=w) w.heap.size (by rfl) (.tmp 13) (.tmp 15) 22 3 (.int .i64 0) 8 rfl Try.underlying22 info3 rfl (by decide) (by omega) v150 y149 l0_4 _ _ _ (fun _=>True) (fun _=>False) rfl rfl ?aO ?aR (fun _ _ h=>h) (fun _ h=>h.elim) ?aF ?aB ?aS ?aL ?_
  (case aR=>repeat (first|exact (Kd.C_below HR0_4.out HB.out)|(with_reducible refine Kd.C_alloc ?_ _)|(with_reducible refine Kd.C_drewN ?_ _)|(with_reducible refine Kd.C_drew ?_)))
  (case aB=>exact (by repeat (first|(with_reducible first|exact HB.out|apply wA_|apply wN_|apply wD_|refine below_set ?_ GE147.out|refine below_set ?_ GE148.out)|exact HB.out)))
  (case aF=>exact (fun _ _=>trivial))
  (case aO=>exact (by (with_reducible repeat (first|apply rA_|apply rN_|apply rD_));exact HO151.out))
  (case aS=>exact (below_size (by repeat (first|(with_reducible first|exact HB.out|apply wA_|apply wN_|apply wD_|refine below_set ?_ GE147.out|refine below_set ?_ GE148.out)|exact HB.out))))
  (case aL=>have:=LMc4.out;omega)
  intro v153 w10 ho hb hg hat
  rw [← Ny152.out] at ho
  have n0_:=aM_ (blk_grown (g:=gb147) (o:=.cells #[.int .i64 a0_0,.int .i64 a0_1,.int .i64 a0_2,.int .i64 a0_3,.slice A0_4 l0_4.length c0_4,.slice A0_5 l0_5.length c0_5] 27 (0,0)) (by (with_reducible repeat (first|apply kN_|apply kD_|apply kA_));exact BK147.out) hg (Kd.R_ne HO151.out BK147.out (by decide)))
  have n1_:=aM_ (blk_grown (g:=gb148) (o:=.cells #[.int .i64 0,.int .i64 0,.int .i64 0,.int .i64 0,.slice none 0 0,.slice none 0 0] 27 (0,0)) (by (with_reducible repeat (first|apply kN_|apply kD_|apply kA_));exact BK148.out) hg (Kd.R_ne HO151.out BK148.out (by decide)))
  have n2_:=aM_ (hb)
  have n3_:=aM_ (ho)
  clear BK147
  clear BK148
  clear HB
  clear HO151
  have BK147:=n0_
  have BK148:=n1_
  have HB:=n2_
  have HO154:=n3_
  clear n0_ n1_ n2_ n3_
  clear ho hb hg hat
  obtain ⟨Ao11,co11,eo11⟩:=Kd.R_slice HO154.out
  (first|subst eo11|(injection eo11 with f1_ f2_ f3_;have f4_:=f1_.symm;have f5_:=f3_.symm;clear f1_ f2_ f3_;subst f4_;subst f5_))
  refine hK.out _ _ (bc6 BK147.out) (fun hHeld=>?_)
  clear hK K
  refine norm_ (a':=?_) ?_ ?_
  rotate_left
  ·show Act.put _ (some 16) _=_
   simp only [Act.put,sA_,s0_,s1_,i64_w,i32_w]
   rfl
  refine pure_ (i:=10) (N:=some 17) (v:=?_) (a':=?_) #[true,true,true,true,true,true,true,true,true,true,true,false] rfl rfl (any_of HT_.out (by kernel_rfl)) (fun _ _ _ h=>h) (Or.inl ⟨by rfl,?_⟩) ?_ ?_
  rotate_left
  ·intro w'
   go_simp
   with_reducible rfl
  rotate_left
  ·simp only [Act.put,sA_,s0_,s1_,i64_w,i32_w]
   rfl
  refine one_ (i:=11) (N:=none) #[true,true,true,true,true,true,true,true,true,true,true,true] rfl rfl (one_of HT_.out (by kernel_rfl)) (by decide) (fun K hK=>?_)
  have hs12:w10.cell? ⟨gb148,0,none⟩=some (.int .i64 0):=(blk_cell BK148.out 0).trans rfl
  have hfs12:=blk_frozen BK148.out 0
  have hns12_0:=NB147_148.out
  have hms12_0:=NB148_147.out
  have hs13:w10.cell? ⟨gb148,1,none⟩=some (.int .i64 0):=(blk_cell BK148.out 1).trans rfl
  have hfs13:=blk_frozen BK148.out 1
  have hns13_0:=NB147_148.out
  have hms13_0:=NB148_147.out
  have hs14:w10.cell? ⟨gb148,2,none⟩=some (.int .i64 0):=(blk_cell BK148.out 2).trans rfl
  have hfs14:=blk_frozen BK148.out 2
  have hns14_0:=NB147_148.out
  have hms14_0:=NB148_147.out
  have hs15:w10.cell? ⟨gb148,3,none⟩=some (.int .i64 0):=(blk_cell BK148.out 3).trans rfl
  have hfs15:=blk_frozen BK148.out 3
  have hns15_0:=NB147_148.out
  have hms15_0:=NB148_147.out
  have hs16:w10.cell? ⟨gb148,4,none⟩=some (.slice none 0 0):=(blk_cell BK148.out 4).trans rfl
  have hfs16:=blk_frozen BK148.out 4
  have hns16_0:=NB147_148.out
  have hms16_0:=NB148_147.out
  have hs17:w10.cell? ⟨gb148,5,none⟩=some (.slice none 0 0):=(blk_cell BK148.out 5).trans rfl
  have hfs17:=blk_frozen BK148.out 5
  have hns17_0:=NB147_148.out
  have hms17_0:=NB148_147.out
  refine skip_ (w1:=?_) (by rfl) rfl ?_ ?_
  rotate_left
  ·go_simp
   rfl
  refine hK.out _ _ ⟨((cell_far (p:=⟨gb148,_,none⟩) NB147_148.out _).trans (((cell_far (p:=⟨gb148,_,none⟩) NB147_148.out _).trans (((cell_far (p:=⟨gb148,_,none⟩) NB147_148.out _).trans (((cell_far (p:=⟨gb148,_,none⟩) NB147_148.out _).trans (((cell_far (p:=⟨gb148,_,none⟩) NB147_148.out _).trans (((cell_far (p:=⟨gb148,_,none⟩) NB147_148.out _).trans (hHeld.1)))))))))))),((cell_far (p:=⟨gb148,_,none⟩) NB147_148.out _).trans (((cell_far (p:=⟨gb148,_,none⟩) NB147_148.out _).trans (((cell_far (p:=⟨gb148,_,none⟩) NB147_148.out _).trans (((cell_far (p:=⟨gb148,_,none⟩) NB147_148.out _).trans (((cell_far (p:=⟨gb148,_,none⟩) NB147_148.out _).trans (((cell_far (p:=⟨gb148,_,none⟩) NB147_148.out _).trans (hHeld.2.1)))))))))))),((cell_far (p:=⟨gb148,_,none⟩) NB147_148.out _).trans (((cell_far (p:=⟨gb148,_,none⟩) NB147_148.out _).trans (((cell_far (p:=⟨gb148,_,none⟩) NB147_148.out _).trans (((cell_far (p:=⟨gb148,_,none⟩) NB147_148.out _).trans (((cell_far (p:=⟨gb148,_,none⟩) NB147_148.out _).trans (((cell_far (p:=⟨gb148,_,none⟩) NB147_148.out _).trans (hHeld.2.2.1)))))))))))),((cell_far (p:=⟨gb148,_,none⟩) NB147_148.out _).trans (((cell_far (p:=⟨gb148,_,none⟩) NB147_148.out _).trans (((cell_far (p:=⟨gb148,_,none⟩) NB147_148.out _).trans (((cell_far (p:=⟨gb148,_,none⟩) NB147_148.out _).trans (((cell_far (p:=⟨gb148,_,none⟩) NB147_148.out _).trans (((cell_far (p:=⟨gb148,_,none⟩) NB147_148.out _).trans (hHeld.2.2.2.1)))))))))))),((cell_far (p:=⟨gb148,_,none⟩) NB147_148.out _).trans (((cell_far (p:=⟨gb148,_,none⟩) NB147_148.out _).trans (((cell_far (p:=⟨gb148,_,none⟩) NB147_148.out _).trans (((cell_far (p:=⟨gb148,_,none⟩) NB147_148.out _).trans (((cell_far (p:=⟨gb148,_,none⟩) NB147_148.out _).trans (((cell_far (p:=⟨gb148,_,none⟩) NB147_148.out _).trans (hHeld.2.2.2.2.1)))))))))))),((cell_far (p:=⟨gb148,_,none⟩) NB147_148.out _).trans (((cell_far (p:=⟨gb148,_,none⟩) NB147_148.out _).trans (((cell_far (p:=⟨gb148,_,none⟩) NB147_148.out _).trans (((cell_far (p:=⟨gb148,_,none⟩) NB147_148.out _).trans (((cell_far (p:=⟨gb148,_,none⟩) NB147_148.out _).trans (((cell_far (p:=⟨gb148,_,none⟩) NB147_148.out _).trans (hHeld.2.2.2.2.2))))))))))))⟩ (fun hHeld=>?_)
  clear hK K
  refine done_ (done_of HT_.out (by kernel_rfl)) ?_
  try go_wp2
  refine bodyPost_ret (results_cell_row rfl _ _ gb148 27 #[.int .i64 a0_0,.int .i64 a0_1,.int .i64 a1,.int .i64 a2,.slice Ao11 y152.length co11,.slice none 0 0] (0,0) _ rfl (by (with_reducible repeat (first|apply kN_|apply kD_|apply kA_));refine blk_put (cs:=#[.int .i64 a0_0,.int .i64 a0_1,.int .i64 a1,.int .i64 a2,.slice Ao11 y152.length co11,.slice none 0 0]) ?_ 5 _ rfl;(with_reducible repeat (first|apply kN_|apply kD_|apply kA_));refine blk_put (cs:=#[.int .i64 a0_0,.int .i64 a0_1,.int .i64 a1,.int .i64 a2,.slice none 0 0,.slice none 0 0]) ?_ 4 _ rfl;(with_reducible repeat (first|apply kN_|apply kD_|apply kA_));refine blk_put (cs:=#[.int .i64 a0_0,.int .i64 a0_1,.int .i64 a1,.int .i64 0,.slice none 0 0,.slice none 0 0]) ?_ 3 _ rfl;(with_reducible repeat (first|apply kN_|apply kD_|apply kA_));refine blk_put (cs:=#[.int .i64 a0_0,.int .i64 a0_1,.int .i64 0,.int .i64 0,.slice none 0 0,.slice none 0 0]) ?_ 2 _ rfl;(with_reducible repeat (first|apply kN_|apply kD_|apply kA_));refine blk_put (cs:=#[.int .i64 a0_0,.int .i64 0,.int .i64 0,.int .i64 0,.slice none 0 0,.slice none 0 0]) ?_ 1 _ rfl;(with_reducible repeat (first|apply kN_|apply kD_|apply kA_));refine blk_put (cs:=#[.int .i64 0,.int .i64 0,.int .i64 0,.int .i64 0,.slice none 0 0,.slice none 0 0]) ?_ 0 _ rfl;(with_reducible repeat (first|apply kN_|apply kD_|apply kA_));exact BK148.out) Try.underlying27 rfl (by kernel_rfl)) rfl ?_
  exact ⟨_,_,by first|rfl|(simp [errW_none,errW_some] <;> rfl)|(simp [*,errW_none,errW_some] <;> rfl),by (with_reducible repeat (first|apply rA_|apply rN_|apply rD_));exact Kd.R_mono (Kd.R_far (Kd.R_far (Kd.R_far (Kd.R_far (Kd.R_far (Kd.R_far (Kd.R_types HO154.out BK148.out (by decide)) (fun _ hk=>hk.2) _) (fun _ hk=>hk.2) _) (fun _ hk=>hk.2) _) (fun _ hk=>hk.2) _) (fun _ hk=>hk.2) _) (fun _ hk=>hk.2) _) (fun _ hk=>(by simp [Value.ownBlock])),by first|exact Kd.R_nil _ _ _ _ _|exact Kd.N_nil _ _ _ _ _|exact Kd.V_nil _ _ _ _ _|exact Kd.Q_nil _ _ _ _ _|exact Kd.S_nil _ _ _ _ _,by repeat (first|(with_reducible first|exact HB.out|apply wA_|apply wN_|apply wD_|refine below_set ?_ GE147.out|refine below_set ?_ GE148.out)|exact HB.out)⟩
 ·rw [if_neg c4] at H
  exact absurd H (by simp)

end Go.Proofs.Ytkjfefiphdloiaa.PFnExactImageCut
