/- What the functions that the law comes to compute, as plain functions, and that the machine's calls come to just that: written by a program for this claim, and turned where Lean did not take it. No condition. -/
import Derived.Test.YtkjfefiphdloiaaHFnImageCutx0
import Derived.Test.YtkjfefiphdloiaaHFnImageCutx8
import Derived.Test.YtkjfefiphdloiaaHFnImageCutx9
import Derived.Test.YtkjfefiphdloiaaHFnImageCutx11
namespace Go.Proofs.Ytkjfefiphdloiaa.PFnImageCut
open Go.RowKit Go.Proofs.YtkjfefiphdloiaaW.PrintWords Go.Proofs.YtkjfefiphdloiaaW.PrintLast Go.Proofs.YtkjfefiphdloiaaW.PrintMore
attribute [local go_sem] max2_int min2_int max_two min_two max_three min_three max_four min_four   -- for this text's walks alone
set_option linter.unusedVariables false
set_option linter.unusedSimpArgs false

/-! ### spec_l14Any: function 65 -/
def spec_l14Any.f (k:Nat) (s0_0:List Int) (s0_1:Int):Option (Int × Int × Int × Int × List Int × List Int × Int):=(spec_l14Image.f k s0_0 s0_1).bind fun bt331=>((spec_l1Rd_pick.f k s0_0 bt331.2.2.2.2.2.2 14).bind fun bt343=>(if bt343.1=0 then ((spec_l14Spoil.f k s0_0 bt343.2 bt331.1 bt331.2.1 bt331.2.2.1 bt331.2.2.2.1 bt331.2.2.2.2.1 bt331.2.2.2.2.2.1).bind fun bt345=>(some (bt345.1,bt345.2.1,bt345.2.2.1,bt345.2.2.2.1,bt345.2.2.2.2.1,bt345.2.2.2.2.2.1,bt345.2.2.2.2.2.2))) else (some (bt331.1,bt331.2.1,bt331.2.2.1,bt331.2.2.2.1,bt331.2.2.2.2.1,bt331.2.2.2.2.2.1,bt343.2))))
theorem spec_l14Any.mono:∀ a0 a1 k,LeO (spec_l14Any.f k a0 a1) (spec_l14Any.f (k+1) a0 a1):=by
 intro a0 a1 k
 unfold spec_l14Any.f
 repeat' first
   | (with_reducible exact spec_l14Image.mono _ _ _)
   | (with_reducible exact spec_l14Spoil.mono _ _ _ _ _ _ _ _ _)
   | (with_reducible exact spec_l1Rd_pick.mono _ _ _ _)
   | (with_reducible exact LeO.refl _)
   | (with_reducible exact LeO.none _)
   | (with_reducible refine LeO.ite ?_ ?_)
   | (with_reducible refine LeO.bind ?_ (fun _=>?_))
set_option maxHeartbeats 8000000 in
set_option maxRecDepth 100000 in
theorem spec_l14Any.calls (k:Nat) (g:Nat) (s0_0:List Int) (s0_1:Int) (r1:Int) (r2:Int) (r3:Int) (r4:Int) (r5:List Int) (r6:List Int) (r7:Int) (w0 w:World) (hI:IsS65 w0 w g s0_0 s0_1) (hB:Below w0.heap.size w0 w) (h:spec_l14Any.f k s0_0 s0_1=some (r1,r2,r3,r4,r5,r6,r7)) :
  Calls Try.prog 65 #[.pointer (some ⟨g,0,none⟩)] w fun e w'=>∃ v4_ v5_:Value,e=.returned (.agg #[.int .i64 r1,.int .i64 r2,.int .i64 r3,.int .i64 r4,v4_,v5_])∧Kd.R (Kd.int .i64) 3 w' w.heap.size (fun k_=>some k_≠(v5_:Value).ownBlock) v4_ r5∧Kd.Q (Kd.int .i64) 3 w' w.heap.size (fun k_=>some k_≠(v4_:Value).ownBlock) v5_ r6∧IsS65 w0 w' g s0_0 r7∧Below w0.heap.size w0 w'∧KeepBut w w' g none:=by
 have hu27:=Try.underlying27
 have HI0:=aM_ hI
 have HK:=aM_ (KeepBut.refl w g none)
 have HL:=aM_ hB.size
 clear hI
 have HW0:=aM_ hB.size
 have HB:=aM_ hB
 clear hB
 have H:((spec_l14Image.f k s0_0 s0_1).bind fun bt331=>((spec_l1Rd_pick.f k s0_0 bt331.2.2.2.2.2.2 14).bind fun bt343=>(if bt343.1=0 then ((spec_l14Spoil.f k s0_0 bt343.2 bt331.1 bt331.2.1 bt331.2.2.1 bt331.2.2.2.1 bt331.2.2.2.2.1 bt331.2.2.2.2.2.1).bind fun bt345=>(some (bt345.1,bt345.2.1,bt345.2.2.1,bt345.2.2.2.1,bt345.2.2.2.2.1,bt345.2.2.2.2.2.1,bt345.2.2.2.2.2.2))) else (some (bt331.1,bt331.2.1,bt331.2.2.1,bt331.2.2.2.1,bt331.2.2.2.2.1,bt331.2.2.2.2.2.1,bt343.2)))))=some (r1,r2,r3,r4,r5,r6,r7):=h
 clear h
 replace H:=Option.bind_eq_some_iff.mp H
 obtain ⟨⟨t331,t332,t333,t334,t335,t338,t341⟩,A20,H⟩:=H
 replace H:((spec_l1Rd_pick.f k s0_0 t341 14).bind fun bt343=>(if bt343.1=0 then ((spec_l14Spoil.f k s0_0 bt343.2 t331 t332 t333 t334 t335 t338).bind fun bt345=>(some (bt345.1,bt345.2.1,bt345.2.2.1,bt345.2.2.2.1,bt345.2.2.2.2.1,bt345.2.2.2.2.2.1,bt345.2.2.2.2.2.2))) else (some (t331,t332,t333,t334,t335,t338,bt343.2))))=some (r1,r2,r3,r4,r5,r6,r7):=H
 have A2:=aM_ A20
 clear A20
 replace H:=Option.bind_eq_some_iff.mp H
 obtain ⟨⟨t343,t344⟩,A30,H⟩:=H
 replace H:(if t343=0 then ((spec_l14Spoil.f k s0_0 t344 t331 t332 t333 t334 t335 t338).bind fun bt345=>(some (bt345.1,bt345.2.1,bt345.2.2.1,bt345.2.2.2.1,bt345.2.2.2.2.1,bt345.2.2.2.2.2.1,bt345.2.2.2.2.2.2))) else (some (t331,t332,t333,t334,t335,t338,t344)))=some (r1,r2,r3,r4,r5,r6,r7):=H
 have A3:=aM_ A30
 clear A30
 by_cases c4:t343=0
 ·rw [if_pos c4] at H
  have c4b0:(t343 == 0)=true:=beq_iff_eq.mpr c4
  have c4b1:(t343 != 0)=false:=bne_eq_false_iff_eq.mpr c4
  clear c4
  replace H:=Option.bind_eq_some_iff.mp H
  obtain ⟨⟨t345,t346,t347,t348,t349,t352,t355⟩,A50,H⟩:=H
  replace H:(some (t345,t346,t347,t348,t349,t352,t355))=some (r1,r2,r3,r4,r5,r6,r7):=H
  have A5:=aM_ A50
  clear A50
  simp only [Option.some.injEq,Prod.mk.injEq] at H
  obtain ⟨rfl,rfl,rfl,rfl,rfl,rfl,rfl⟩:=H
  go_enter Try.func65,Try.ntmps65
  go_wp2_with (first|((with_reducible refine gate_dst (N:=2) rfl ?_);refine box_event ?hg (N:=2) ?hd (cs:=#[.int .i64 0,.int .i64 0,.int .i64 0,.int .i64 0,.slice none 0 0,.slice none 0 0]) (t:=27) ?hr ?_;(case hd=>rfl);(case hg=>rfl);(case hr=>first|(go_simp;done)|(go_simp;rfl));intro gb330 hg w6 hbox hb;have n0_:=aM_ (IsS65.below (by repeat (first|(with_reducible first|exact HI0.out|apply IsS65.alloc|apply IsS65.drewN|apply IsS65.drew|apply IsS65.set_1)|exact HI0.out)) hb);have n1_:=aM_ (KeepBut.trans (by repeat (first|(with_reducible first|exact HK.out|apply pS_|apply pN_|apply pD_|apply pA_)|exact HK.out)) (KeepBut.of_below hb g none) (.inl rfl));have n2_:=aM_ (below_step (by repeat (first|(with_reducible first|exact HB.out|apply wA_|apply wN_|apply wD_|refine below_set ?_ (IsS65.ge HI0.out))|exact HB.out)) hb);have n3_:=aM_ (hbox);have n4_:=aM_ ((by rw [hg];exact (keep_size (w:=w) (g:=g) (row:=none) (by repeat (first|(with_reducible first|exact HK.out|apply pS_|apply pN_|apply pD_|apply pA_)|exact HK.out))):w.heap.size≤gb330));have n5_:=aM_ ((Nat.le_trans HW0.out (by rw [hg];exact (keep_size (w:=w) (g:=g) (row:=none) (by repeat (first|(with_reducible first|exact HK.out|apply pS_|apply pN_|apply pD_|apply pA_)|exact HK.out))):w.heap.size≤gb330):w0.heap.size≤gb330));have n6_:=aM_ ((by rw [hg];exact Nat.ne_of_lt (IsS65.lt (show IsS65 w0 _ g s0_0 s0_1 from by repeat (first|(with_reducible first|exact HI0.out|apply IsS65.alloc|apply IsS65.drewN|apply IsS65.drew|apply IsS65.set_1)|exact HI0.out))):g≠gb330));have n7_:=aM_ n6_.out.symm;clear HI0;clear HK;clear HB;have HI0:=n0_;have HK:=n1_;have HB:=n2_;have BK330:=n3_;have GW330:=n4_;have GE330:=n5_;have NB0_330:=n6_;have NB330_0:=n7_;clear n0_ n1_ n2_ n3_ n4_ n5_ n6_ n7_;clear hb hbox hg)|((with_reducible refine gate_callee (f:=74) rfl ?_);refine goesL_ (some 5) rfl rfl Try.func74 (by kernel_rfl) rfl #[.pointer (some ⟨g,0,none⟩)] rfl (by (try simp only [List.map_toArray,List.map_cons,List.map_nil]);first|done|rfl|(simp only [List.length_drop,List.length_take];rfl)) ?_;(with_reducible refine (spec_l14Image.calls k g s0_0 s0_1 t331 t332 t333 t334 t335 t338 t341 w0 _ ?side1 ?side2 A2.out).mono ?_);(case side1=>repeat (first|(with_reducible first|exact HI0.out|apply IsS65.alloc|apply IsS65.drewN|apply IsS65.drew|apply IsS65.set_1|refine IsS65.far ?_ NB0_330.out _)|exact HI0.out));(case side2=>repeat (first|(with_reducible first|exact HB.out|apply wA_|apply wN_|apply wD_|refine below_set ?_ (IsS65.ge HI0.out)|refine below_set ?_ GE330.out)|exact HB.out));rintro e w7 ⟨v336,v339,rfl,ho0,ho1,hi,hb,hk⟩;refine ⟨_,rfl,?_⟩;have n0_:=aM_ (KeepBut.blk hk (g':=gb330) (o:=.cells #[.int .i64 0,.int .i64 0,.int .i64 0,.int .i64 0,.slice none 0 0,.slice none 0 0] 27 (0,0)) (by (with_reducible repeat (first|apply kN_|apply kD_|apply kA_));exact BK330.out) NB330_0.out (by simp));have n1_:=aM_ (Kd.R_lower ho0 (keep_size (w:=w) (g:=g) (row:=none) (by repeat (first|(with_reducible first|exact HK.out|apply pS_|apply pN_|apply pD_|apply pA_|refine keep_far ?_ GW330.out _)|exact HK.out))));have n2_:=aM_ (Kd.R_lower ho1 (keep_size (w:=w) (g:=g) (row:=none) (by repeat (first|(with_reducible first|exact HK.out|apply pS_|apply pN_|apply pD_|apply pA_|refine keep_far ?_ GW330.out _)|exact HK.out))));have n3_:=aM_ (KeepBut.trans (by repeat (first|(with_reducible first|exact HK.out|apply pS_|apply pN_|apply pD_|apply pA_|refine keep_far ?_ GW330.out _)|exact HK.out)) hk (.inl rfl));have n4_:=aM_ (hb);have n5_:=aM_ (hi);clear BK330;clear HK;clear HB;clear HI0;have BK330:=n0_;have HO337:=n1_;have HO340:=n2_;have HK:=n3_;have HB:=n4_;have HI0:=n5_;clear n0_ n1_ n2_ n3_ n4_ n5_;(try clear hb);(try clear hb2);(try clear hk);(try clear hi);(try clear ho0);(try clear ho1))|((with_reducible refine gate_dst (N:=3) rfl ?_);refine box_event ?hg (N:=3) ?hd (cs:=#[.int .i64 0,.int .i64 0,.int .i64 0,.int .i64 0,.slice none 0 0,.slice none 0 0]) (t:=27) ?hr ?_;(case hd=>rfl);(case hg=>rfl);(case hr=>first|(go_simp;done)|(go_simp;rfl));intro gb342 hg w8 hbox hb;have n0_:=aM_ (Kd.R_below (by (with_reducible repeat (first|apply rA_|apply rN_|apply rD_));exact HO337.out) hb);have n1_:=aM_ (Kd.R_below (by (with_reducible repeat (first|apply rA_|apply rN_|apply rD_));exact HO340.out) hb);have n2_:=aM_ (IsS65.below (by repeat (first|(with_reducible first|exact HI0.out|apply IsS65.alloc|apply IsS65.drewN|apply IsS65.drew|apply IsS65.set_1|refine IsS65.far ?_ NB0_330.out _)|exact HI0.out)) hb);have n3_:=aM_ (blk_below (g:=gb330) (by (with_reducible repeat (first|apply kN_|apply kD_|apply kA_));exact BK330.out) hb);have n4_:=aM_ (KeepBut.trans (by repeat (first|(with_reducible first|exact HK.out|apply pS_|apply pN_|apply pD_|apply pA_|refine keep_far ?_ GW330.out _)|exact HK.out)) (KeepBut.of_below hb g none) (.inl rfl));have n5_:=aM_ (below_step (by repeat (first|(with_reducible first|exact HB.out|apply wA_|apply wN_|apply wD_|refine below_set ?_ (IsS65.ge HI0.out)|refine below_set ?_ GE330.out)|exact HB.out)) hb);have n6_:=aM_ (hbox);have n7_:=aM_ ((by rw [hg];exact (keep_size (w:=w) (g:=g) (row:=none) (by repeat (first|(with_reducible first|exact HK.out|apply pS_|apply pN_|apply pD_|apply pA_|refine keep_far ?_ GW330.out _)|exact HK.out))):w.heap.size≤gb342));have n8_:=aM_ ((Nat.le_trans HW0.out (by rw [hg];exact (keep_size (w:=w) (g:=g) (row:=none) (by repeat (first|(with_reducible first|exact HK.out|apply pS_|apply pN_|apply pD_|apply pA_|refine keep_far ?_ GW330.out _)|exact HK.out))):w.heap.size≤gb342):w0.heap.size≤gb342));have n9_:=aM_ ((by rw [hg];exact Nat.ne_of_lt (blk_lt (g:=gb330) (by (with_reducible repeat (first|apply kN_|apply kD_|apply kA_));exact BK330.out)):gb330≠gb342));have n10_:=aM_ n9_.out.symm;have n11_:=aM_ ((by rw [hg];exact Nat.ne_of_lt (IsS65.lt (show IsS65 w0 _ g s0_0 t341 from by repeat (first|(with_reducible first|exact HI0.out|apply IsS65.alloc|apply IsS65.drewN|apply IsS65.drew|apply IsS65.set_1|refine IsS65.far ?_ NB0_330.out _)|exact HI0.out))):g≠gb342));have n12_:=aM_ n11_.out.symm;clear HO337;clear HO340;clear HI0;clear BK330;clear HK;clear HB;have HO337:=n0_;have HO340:=n1_;have HI0:=n2_;have BK330:=n3_;have HK:=n4_;have HB:=n5_;have BK342:=n6_;have GW342:=n7_;have GE342:=n8_;have NB330_342:=n9_;have NB342_330:=n10_;have NB0_342:=n11_;have NB342_0:=n12_;clear n0_ n1_ n2_ n3_ n4_ n5_ n6_ n7_ n8_ n9_ n10_ n11_ n12_;clear hb hbox hg;have hnb9:=NB342_330.out;have hnc9:=NB330_342.out;have hnb10:=NB342_0.out;have hnc10:=NB0_342.out;obtain ⟨hcz11_0,hcz11_1,hcz11_2,hcz11_3,hcz11_4,hcz11_5⟩:=bc6 BK342.out;obtain ⟨hfz11_0,hfz11_1,hfz11_2,hfz11_3,hfz11_4,hfz11_5⟩:=bf6 BK342.out;obtain ⟨Ao12,co12,eo12⟩:=Kd.R_slice HO337.out;subst eo12;obtain ⟨Ao13,co13,eo13⟩:=Kd.R_slice HO340.out;subst eo13)|((with_reducible refine gate_callee (f:=68) rfl ?_);refine goesL_ (some 7) rfl rfl Try.func68 (by kernel_rfl) rfl #[.pointer (some ⟨g,0,none⟩),.int .i64 14] rfl (by (try simp only [List.map_toArray,List.map_cons,List.map_nil]);first|done|rfl|(simp only [List.length_drop,List.length_take];rfl)) ?_;(with_reducible refine (spec_l1Rd_pick.calls k g s0_0 t341 14 t343 t344 w0 _ ?side1 ?side2 A3.out).mono ?_);(case side1=>repeat (first|(with_reducible first|exact HI0.out|apply IsS65.alloc|apply IsS65.drewN|apply IsS65.drew|apply IsS65.set_1|refine IsS65.far ?_ NB0_330.out _|refine IsS65.far ?_ NB0_342.out _)|exact HI0.out));(case side2=>repeat (first|(with_reducible first|exact HB.out|apply wA_|apply wN_|apply wD_|refine below_set ?_ (IsS65.ge HI0.out)|refine below_set ?_ GE330.out|refine below_set ?_ GE342.out)|exact HB.out));rintro e w14 ⟨rfl,hi,hb,hk⟩;refine ⟨_,rfl,?_⟩;have n0_:=aM_ (KeepBut.blk hk (g':=gb330) (o:=.cells #[.int .i64 0,.int .i64 0,.int .i64 0,.int .i64 0,.slice none 0 0,.slice none 0 0] 27 (0,0)) (by (with_reducible repeat (first|apply kN_|apply kD_|apply kA_));refine blk_far ?_ NB330_342.out _;(with_reducible repeat (first|apply kN_|apply kD_|apply kA_));refine blk_far ?_ NB330_342.out _;(with_reducible repeat (first|apply kN_|apply kD_|apply kA_));refine blk_far ?_ NB330_342.out _;(with_reducible repeat (first|apply kN_|apply kD_|apply kA_));refine blk_far ?_ NB330_342.out _;(with_reducible repeat (first|apply kN_|apply kD_|apply kA_));refine blk_far ?_ NB330_342.out _;(with_reducible repeat (first|apply kN_|apply kD_|apply kA_));refine blk_far ?_ NB330_342.out _;(with_reducible repeat (first|apply kN_|apply kD_|apply kA_));exact BK330.out) NB330_0.out (by simp));have n1_:=aM_ (Kd.R_mono (Kd.R_keep (IsS65.apart (show IsS65 w0 _ g s0_0 t341 from by repeat (first|(with_reducible first|exact HI0.out|apply IsS65.alloc|apply IsS65.drewN|apply IsS65.drew|apply IsS65.set_1|refine IsS65.far ?_ NB0_330.out _|refine IsS65.far ?_ NB0_342.out _)|exact HI0.out)) (by (with_reducible repeat (first|apply rA_|apply rN_|apply rD_));exact (Kd.R_mono (Kd.R_far (Kd.R_far (Kd.R_far (Kd.R_far (Kd.R_far (Kd.R_far (Kd.R_types HO337.out BK342.out (by decide)) (fun _ hk=>hk.2) _) (fun _ hk=>hk.2) _) (fun _ hk=>hk.2) _) (fun _ hk=>hk.2) _) (fun _ hk=>hk.2) _) (fun _ hk=>hk.2) _) (fun _ h_=>h_.1))) (by decide)) hk (fun _ h=>h.2)) (fun _ h=>h.1));have n2_:=aM_ (Kd.R_mono (Kd.R_keep (IsS65.apart (show IsS65 w0 _ g s0_0 t341 from by repeat (first|(with_reducible first|exact HI0.out|apply IsS65.alloc|apply IsS65.drewN|apply IsS65.drew|apply IsS65.set_1|refine IsS65.far ?_ NB0_330.out _|refine IsS65.far ?_ NB0_342.out _)|exact HI0.out)) (by (with_reducible repeat (first|apply rA_|apply rN_|apply rD_));exact (Kd.R_mono (Kd.R_far (Kd.R_far (Kd.R_far (Kd.R_far (Kd.R_far (Kd.R_far (Kd.R_types HO340.out BK342.out (by decide)) (fun _ hk=>hk.2) _) (fun _ hk=>hk.2) _) (fun _ hk=>hk.2) _) (fun _ hk=>hk.2) _) (fun _ hk=>hk.2) _) (fun _ hk=>hk.2) _) (fun _ h_=>h_.1))) (by decide)) hk (fun _ h=>h.2)) (fun _ h=>h.1));have n3_:=aM_ (KeepBut.blk hk (g':=gb342) (o:=.cells #[.int .i64 t331,.int .i64 t332,.int .i64 t333,.int .i64 t334,.slice Ao12 t335.length co12,.slice Ao13 t338.length co13] 27 (0,0)) (by (with_reducible repeat (first|apply kN_|apply kD_|apply kA_));refine blk_put (cs:=#[.int .i64 t331,.int .i64 t332,.int .i64 t333,.int .i64 t334,.slice Ao12 t335.length co12,.slice none 0 0]) ?_ 5 _ rfl;(with_reducible repeat (first|apply kN_|apply kD_|apply kA_));refine blk_put (cs:=#[.int .i64 t331,.int .i64 t332,.int .i64 t333,.int .i64 t334,.slice none 0 0,.slice none 0 0]) ?_ 4 _ rfl;(with_reducible repeat (first|apply kN_|apply kD_|apply kA_));refine blk_put (cs:=#[.int .i64 t331,.int .i64 t332,.int .i64 t333,.int .i64 0,.slice none 0 0,.slice none 0 0]) ?_ 3 _ rfl;(with_reducible repeat (first|apply kN_|apply kD_|apply kA_));refine blk_put (cs:=#[.int .i64 t331,.int .i64 t332,.int .i64 0,.int .i64 0,.slice none 0 0,.slice none 0 0]) ?_ 2 _ rfl;(with_reducible repeat (first|apply kN_|apply kD_|apply kA_));refine blk_put (cs:=#[.int .i64 t331,.int .i64 0,.int .i64 0,.int .i64 0,.slice none 0 0,.slice none 0 0]) ?_ 1 _ rfl;(with_reducible repeat (first|apply kN_|apply kD_|apply kA_));refine blk_put (cs:=#[.int .i64 0,.int .i64 0,.int .i64 0,.int .i64 0,.slice none 0 0,.slice none 0 0]) ?_ 0 _ rfl;(with_reducible repeat (first|apply kN_|apply kD_|apply kA_));exact BK342.out) NB342_0.out (by simp));have n4_:=aM_ (KeepBut.trans (by repeat (first|(with_reducible first|exact HK.out|apply pS_|apply pN_|apply pD_|apply pA_|refine keep_far ?_ GW330.out _|refine keep_far ?_ GW342.out _)|exact HK.out)) hk (.inl rfl));have n5_:=aM_ (hb);have n6_:=aM_ (hi);clear BK330;clear HO337;clear HO340;clear BK342;clear HK;clear HB;clear HI0;have BK330:=n0_;have HO337:=n1_;have HO340:=n2_;have BK342:=n3_;have HK:=n4_;have HB:=n5_;have HI0:=n6_;clear n0_ n1_ n2_ n3_ n4_ n5_ n6_;(try clear hb);(try clear hb2);(try clear hk);(try clear hi);obtain ⟨hcz15_0,hcz15_1,hcz15_2,hcz15_3,hcz15_4,hcz15_5⟩:=bc6 BK342.out;obtain ⟨hfz15_0,hfz15_1,hfz15_2,hfz15_3,hfz15_4,hfz15_5⟩:=bf6 BK342.out)|((with_reducible refine gate_callee (f:=75) rfl ?_);refine goesL_ (some 11) rfl rfl Try.func75 (by kernel_rfl) rfl #[.pointer (some ⟨g,0,none⟩),.agg #[.int .i64 t331,.int .i64 t332,.int .i64 t333,.int .i64 t334,.slice Ao12 t335.length co12,.slice Ao13 t338.length co13]] rfl (by (try simp only [List.map_toArray,List.map_cons,List.map_nil]);first|done|rfl|(simp only [List.length_drop,List.length_take];rfl)) ?_;(with_reducible refine (spec_l14Spoil.calls k g s0_0 t344 t331 t332 t333 t334 _ _ t335 _ _ t338 t345 t346 t347 t348 t349 t352 t355 w0 _ ?side1 ?side2 ?side3 ?side4 ?side5 ?side6 ?side7 ?side8 A5.out).mono ?_);(case side1=>repeat (first|(with_reducible first|exact HI0.out|apply IsS65.alloc|apply IsS65.drewN|apply IsS65.drew|apply IsS65.set_1|refine IsS65.far ?_ NB0_330.out _|refine IsS65.far ?_ NB0_342.out _)|exact HI0.out));(case side2=>repeat (first|(with_reducible first|exact HB.out|apply wA_|apply wN_|apply wD_|refine below_set ?_ (IsS65.ge HI0.out)|refine below_set ?_ GE330.out|refine below_set ?_ GE342.out)|exact HB.out));(case side3=>repeat (first|exact (Kd.R_reads' HO337.out).2.2|(with_reducible refine Kd.C_alloc ?_ _)|(with_reducible refine Kd.C_drewN ?_ _)|(with_reducible refine Kd.C_drew ?_)));(case side4=>exact (Kd.R_reads' HO337.out).2.1);(case side5=>exact far_slice (IsS65.own_ne HI0.out HO337.out (by decide)));(case side6=>repeat (first|exact (Kd.R_reads' HO340.out).2.2|(with_reducible refine Kd.C_alloc ?_ _)|(with_reducible refine Kd.C_drewN ?_ _)|(with_reducible refine Kd.C_drew ?_)));(case side7=>exact (Kd.R_reads' HO340.out).2.1);(case side8=>exact far_slice (IsS65.own_ne HI0.out HO340.out (by decide)));rintro e w16 ⟨v350,v353,rfl,ho0,ho1,hi,hb,hk⟩;refine ⟨_,rfl,?_⟩;have n0_:=aM_ (KeepBut.blk hk (g':=gb330) (o:=.cells #[.int .i64 0,.int .i64 0,.int .i64 0,.int .i64 0,.slice none 0 0,.slice none 0 0] 27 (0,0)) (by (with_reducible repeat (first|apply kN_|apply kD_|apply kA_));exact BK330.out) NB330_0.out (by simp));have n1_:=aM_ (Kd.R_mono (Kd.R_told (Kd.R_told (Kd.R_oldK (IsS65.apart (show IsS65 w0 _ g s0_0 t344 from by repeat (first|(with_reducible first|exact HI0.out|apply IsS65.alloc|apply IsS65.drewN|apply IsS65.drew|apply IsS65.set_1|refine IsS65.far ?_ NB0_330.out _|refine IsS65.far ?_ NB0_342.out _)|exact HI0.out)) (by (with_reducible repeat (first|apply rA_|apply rN_|apply rD_));exact HO337.out) (by decide)) hk) (Kd.R_base ho0)) (Kd.Q_base ho1)) (fun _ h_=>h_.1));have n2_:=aM_ (Kd.R_mono (Kd.R_told (Kd.R_told (Kd.R_oldK (IsS65.apart (show IsS65 w0 _ g s0_0 t344 from by repeat (first|(with_reducible first|exact HI0.out|apply IsS65.alloc|apply IsS65.drewN|apply IsS65.drew|apply IsS65.set_1|refine IsS65.far ?_ NB0_330.out _|refine IsS65.far ?_ NB0_342.out _)|exact HI0.out)) (by (with_reducible repeat (first|apply rA_|apply rN_|apply rD_));exact HO340.out) (by decide)) hk) (Kd.R_base ho0)) (Kd.Q_base ho1)) (fun _ h_=>h_.1));have n3_:=aM_ (KeepBut.blk hk (g':=gb342) (o:=.cells #[.int .i64 t331,.int .i64 t332,.int .i64 t333,.int .i64 t334,.slice Ao12 t335.length co12,.slice Ao13 t338.length co13] 27 (0,0)) (by (with_reducible repeat (first|apply kN_|apply kD_|apply kA_));exact BK342.out) NB342_0.out (by simp));have n4_:=aM_ (Kd.R_lower (Kd.R_new' (Kd.R_new' ho0 (Kd.R_lt (by (with_reducible repeat (first|apply rA_|apply rN_|apply rD_));exact HO337.out))) (Kd.R_lt (by (with_reducible repeat (first|apply rA_|apply rN_|apply rD_));exact HO340.out))) (keep_size (w:=w) (g:=g) (row:=none) (by repeat (first|(with_reducible first|exact HK.out|apply pS_|apply pN_|apply pD_|apply pA_|refine keep_far ?_ GW330.out _|refine keep_far ?_ GW342.out _)|exact HK.out))));have n5_:=aM_ (Kd.Q_lower (Kd.Q_new' (Kd.Q_new' ho1 (Kd.R_lt (by (with_reducible repeat (first|apply rA_|apply rN_|apply rD_));exact HO337.out))) (Kd.R_lt (by (with_reducible repeat (first|apply rA_|apply rN_|apply rD_));exact HO340.out))) (keep_size (w:=w) (g:=g) (row:=none) (by repeat (first|(with_reducible first|exact HK.out|apply pS_|apply pN_|apply pD_|apply pA_|refine keep_far ?_ GW330.out _|refine keep_far ?_ GW342.out _)|exact HK.out))));have n6_:=aM_ (KeepBut.trans (by repeat (first|(with_reducible first|exact HK.out|apply pS_|apply pN_|apply pD_|apply pA_|refine keep_far ?_ GW330.out _|refine keep_far ?_ GW342.out _)|exact HK.out)) hk (.inl rfl));have n7_:=aM_ (hb);have n8_:=aM_ (hi);clear BK330;clear HO337;clear HO340;clear BK342;clear HK;clear HB;clear HI0;have BK330:=n0_;have HO337:=n1_;have HO340:=n2_;have BK342:=n3_;have HO351:=n4_;have HO354:=n5_;have HK:=n6_;have HB:=n7_;have HI0:=n8_;clear n0_ n1_ n2_ n3_ n4_ n5_ n6_ n7_ n8_;(try clear hb);(try clear hb2);(try clear hk);(try clear hi);(try clear ho0);(try clear ho1);have hnb17:=NB330_0.out;have hnc17:=NB0_330.out;obtain ⟨hcz18_0,hcz18_1,hcz18_2,hcz18_3,hcz18_4,hcz18_5⟩:=bc6 BK330.out;obtain ⟨hfz18_0,hfz18_1,hfz18_2,hfz18_3,hfz18_4,hfz18_5⟩:=bf6 BK330.out;obtain ⟨Ao19,co19,eo19⟩:=Kd.R_slice HO351.out;subst eo19;obtain ⟨Ao20,co20,eo20,_⟩:=Kd.Q_slice HO354.out;subst eo20))
  refine bodyPost_ret (results_cell_row rfl _ _ gb330 27 #[.int .i64 t345,.int .i64 t346,.int .i64 t347,.int .i64 t348,.slice Ao19 t349.length co19,.slice Ao20 t352.length co20] (0,0) _ rfl (by (with_reducible repeat (first|apply kN_|apply kD_|apply kA_));refine blk_put (cs:=#[.int .i64 t345,.int .i64 t346,.int .i64 t347,.int .i64 t348,.slice Ao19 t349.length co19,.slice none 0 0]) ?_ 5 _ rfl;(with_reducible repeat (first|apply kN_|apply kD_|apply kA_));refine blk_put (cs:=#[.int .i64 t345,.int .i64 t346,.int .i64 t347,.int .i64 t348,.slice none 0 0,.slice none 0 0]) ?_ 4 _ rfl;(with_reducible repeat (first|apply kN_|apply kD_|apply kA_));refine blk_put (cs:=#[.int .i64 t345,.int .i64 t346,.int .i64 t347,.int .i64 0,.slice none 0 0,.slice none 0 0]) ?_ 3 _ rfl;(with_reducible repeat (first|apply kN_|apply kD_|apply kA_));refine blk_put (cs:=#[.int .i64 t345,.int .i64 t346,.int .i64 0,.int .i64 0,.slice none 0 0,.slice none 0 0]) ?_ 2 _ rfl;(with_reducible repeat (first|apply kN_|apply kD_|apply kA_));refine blk_put (cs:=#[.int .i64 t345,.int .i64 0,.int .i64 0,.int .i64 0,.slice none 0 0,.slice none 0 0]) ?_ 1 _ rfl;(with_reducible repeat (first|apply kN_|apply kD_|apply kA_));refine blk_put (cs:=#[.int .i64 0,.int .i64 0,.int .i64 0,.int .i64 0,.slice none 0 0,.slice none 0 0]) ?_ 0 _ rfl;(with_reducible repeat (first|apply kN_|apply kD_|apply kA_));exact BK330.out) Try.underlying27 rfl (by kernel_rfl)) rfl ?_
  exact ⟨_,_,by first|rfl|(simp [errW_none,errW_some] <;> rfl)|(simp [*,errW_none,errW_some] <;> rfl),by (with_reducible repeat (first|apply rA_|apply rN_|apply rD_));exact Kd.R_mono (Kd.R_far (Kd.R_far (Kd.R_far (Kd.R_far (Kd.R_far (Kd.R_far (Kd.R_types HO351.out BK330.out (by decide)) (fun _ hk=>hk.2) _) (fun _ hk=>hk.2) _) (fun _ hk=>hk.2) _) (fun _ hk=>hk.2) _) (fun _ hk=>hk.2) _) (fun _ hk=>hk.2) _) (fun _ hk=>hk.1.1.1),by (with_reducible repeat (first|apply Kd.Q_alloc|apply Kd.Q_drewN|apply Kd.Q_drew));exact Kd.Q_mono (Kd.Q_far (Kd.Q_far (Kd.Q_far (Kd.Q_far (Kd.Q_far (Kd.Q_far (Kd.Q_types HO354.out BK330.out (by decide)) (fun _ hk=>hk.2) _) (fun _ hk=>hk.2) _) (fun _ hk=>hk.2) _) (fun _ hk=>hk.2) _) (fun _ hk=>hk.2) _) (fun _ hk=>hk.2) _) (fun _ hk=>hk.1.1.1),by repeat (first|(with_reducible first|exact HI0.out|apply IsS65.alloc|apply IsS65.drewN|apply IsS65.drew|apply IsS65.set_1|refine IsS65.far ?_ NB0_330.out _|refine IsS65.far ?_ NB0_342.out _)|exact HI0.out),by repeat (first|(with_reducible first|exact HB.out|apply wA_|apply wN_|apply wD_|refine below_set ?_ (IsS65.ge HI0.out)|refine below_set ?_ GE330.out|refine below_set ?_ GE342.out)|exact HB.out),by repeat (first|(with_reducible first|exact HK.out|apply pS_|apply pN_|apply pD_|apply pA_|refine keep_far ?_ GW330.out _|refine keep_far ?_ GW342.out _)|exact HK.out)⟩
 ·rw [if_neg c4] at H
  have c4b0:(t343 == 0)=false:=beq_eq_false_iff_ne.mpr c4
  have c4b1:(t343 != 0)=true:=bne_iff_ne.mpr c4
  simp only [Option.some.injEq,Prod.mk.injEq] at H
  obtain ⟨rfl,rfl,rfl,rfl,rfl,rfl,rfl⟩:=H
  go_enter Try.func65,Try.ntmps65
  go_wp2_with (first|((with_reducible refine gate_dst (N:=2) rfl ?_);refine box_event ?hg (N:=2) ?hd (cs:=#[.int .i64 0,.int .i64 0,.int .i64 0,.int .i64 0,.slice none 0 0,.slice none 0 0]) (t:=27) ?hr ?_;(case hd=>rfl);(case hg=>rfl);(case hr=>first|(go_simp;done)|(go_simp;rfl));intro gb330 hg w21 hbox hb;have n0_:=aM_ (IsS65.below (by repeat (first|(with_reducible first|exact HI0.out|apply IsS65.alloc|apply IsS65.drewN|apply IsS65.drew|apply IsS65.set_1)|exact HI0.out)) hb);have n1_:=aM_ (KeepBut.trans (by repeat (first|(with_reducible first|exact HK.out|apply pS_|apply pN_|apply pD_|apply pA_)|exact HK.out)) (KeepBut.of_below hb g none) (.inl rfl));have n2_:=aM_ (below_step (by repeat (first|(with_reducible first|exact HB.out|apply wA_|apply wN_|apply wD_|refine below_set ?_ (IsS65.ge HI0.out))|exact HB.out)) hb);have n3_:=aM_ (hbox);have n4_:=aM_ ((by rw [hg];exact (keep_size (w:=w) (g:=g) (row:=none) (by repeat (first|(with_reducible first|exact HK.out|apply pS_|apply pN_|apply pD_|apply pA_)|exact HK.out))):w.heap.size≤gb330));have n5_:=aM_ ((Nat.le_trans HW0.out (by rw [hg];exact (keep_size (w:=w) (g:=g) (row:=none) (by repeat (first|(with_reducible first|exact HK.out|apply pS_|apply pN_|apply pD_|apply pA_)|exact HK.out))):w.heap.size≤gb330):w0.heap.size≤gb330));have n6_:=aM_ ((by rw [hg];exact Nat.ne_of_lt (IsS65.lt (show IsS65 w0 _ g s0_0 s0_1 from by repeat (first|(with_reducible first|exact HI0.out|apply IsS65.alloc|apply IsS65.drewN|apply IsS65.drew|apply IsS65.set_1)|exact HI0.out))):g≠gb330));have n7_:=aM_ n6_.out.symm;clear HI0;clear HK;clear HB;have HI0:=n0_;have HK:=n1_;have HB:=n2_;have BK330:=n3_;have GW330:=n4_;have GE330:=n5_;have NB0_330:=n6_;have NB330_0:=n7_;clear n0_ n1_ n2_ n3_ n4_ n5_ n6_ n7_;clear hb hbox hg)|((with_reducible refine gate_callee (f:=74) rfl ?_);refine goesL_ (some 5) rfl rfl Try.func74 (by kernel_rfl) rfl #[.pointer (some ⟨g,0,none⟩)] rfl (by (try simp only [List.map_toArray,List.map_cons,List.map_nil]);first|done|rfl|(simp only [List.length_drop,List.length_take];rfl)) ?_;(with_reducible refine (spec_l14Image.calls k g s0_0 s0_1 t331 t332 t333 t334 t335 t338 t341 w0 _ ?side1 ?side2 A2.out).mono ?_);(case side1=>repeat (first|(with_reducible first|exact HI0.out|apply IsS65.alloc|apply IsS65.drewN|apply IsS65.drew|apply IsS65.set_1|refine IsS65.far ?_ NB0_330.out _)|exact HI0.out));(case side2=>repeat (first|(with_reducible first|exact HB.out|apply wA_|apply wN_|apply wD_|refine below_set ?_ (IsS65.ge HI0.out)|refine below_set ?_ GE330.out)|exact HB.out));rintro e w22 ⟨v336,v339,rfl,ho0,ho1,hi,hb,hk⟩;refine ⟨_,rfl,?_⟩;have n0_:=aM_ (KeepBut.blk hk (g':=gb330) (o:=.cells #[.int .i64 0,.int .i64 0,.int .i64 0,.int .i64 0,.slice none 0 0,.slice none 0 0] 27 (0,0)) (by (with_reducible repeat (first|apply kN_|apply kD_|apply kA_));exact BK330.out) NB330_0.out (by simp));have n1_:=aM_ (Kd.R_lower ho0 (keep_size (w:=w) (g:=g) (row:=none) (by repeat (first|(with_reducible first|exact HK.out|apply pS_|apply pN_|apply pD_|apply pA_|refine keep_far ?_ GW330.out _)|exact HK.out))));have n2_:=aM_ (Kd.R_lower ho1 (keep_size (w:=w) (g:=g) (row:=none) (by repeat (first|(with_reducible first|exact HK.out|apply pS_|apply pN_|apply pD_|apply pA_|refine keep_far ?_ GW330.out _)|exact HK.out))));have n3_:=aM_ (KeepBut.trans (by repeat (first|(with_reducible first|exact HK.out|apply pS_|apply pN_|apply pD_|apply pA_|refine keep_far ?_ GW330.out _)|exact HK.out)) hk (.inl rfl));have n4_:=aM_ (hb);have n5_:=aM_ (hi);clear BK330;clear HK;clear HB;clear HI0;have BK330:=n0_;have HO337:=n1_;have HO340:=n2_;have HK:=n3_;have HB:=n4_;have HI0:=n5_;clear n0_ n1_ n2_ n3_ n4_ n5_;(try clear hb);(try clear hb2);(try clear hk);(try clear hi);(try clear ho0);(try clear ho1))|((with_reducible refine gate_dst (N:=3) rfl ?_);refine box_event ?hg (N:=3) ?hd (cs:=#[.int .i64 0,.int .i64 0,.int .i64 0,.int .i64 0,.slice none 0 0,.slice none 0 0]) (t:=27) ?hr ?_;(case hd=>rfl);(case hg=>rfl);(case hr=>first|(go_simp;done)|(go_simp;rfl));intro gb342 hg w23 hbox hb;have n0_:=aM_ (Kd.R_below (by (with_reducible repeat (first|apply rA_|apply rN_|apply rD_));exact HO337.out) hb);have n1_:=aM_ (Kd.R_below (by (with_reducible repeat (first|apply rA_|apply rN_|apply rD_));exact HO340.out) hb);have n2_:=aM_ (IsS65.below (by repeat (first|(with_reducible first|exact HI0.out|apply IsS65.alloc|apply IsS65.drewN|apply IsS65.drew|apply IsS65.set_1|refine IsS65.far ?_ NB0_330.out _)|exact HI0.out)) hb);have n3_:=aM_ (blk_below (g:=gb330) (by (with_reducible repeat (first|apply kN_|apply kD_|apply kA_));exact BK330.out) hb);have n4_:=aM_ (KeepBut.trans (by repeat (first|(with_reducible first|exact HK.out|apply pS_|apply pN_|apply pD_|apply pA_|refine keep_far ?_ GW330.out _)|exact HK.out)) (KeepBut.of_below hb g none) (.inl rfl));have n5_:=aM_ (below_step (by repeat (first|(with_reducible first|exact HB.out|apply wA_|apply wN_|apply wD_|refine below_set ?_ (IsS65.ge HI0.out)|refine below_set ?_ GE330.out)|exact HB.out)) hb);have n6_:=aM_ (hbox);have n7_:=aM_ ((by rw [hg];exact (keep_size (w:=w) (g:=g) (row:=none) (by repeat (first|(with_reducible first|exact HK.out|apply pS_|apply pN_|apply pD_|apply pA_|refine keep_far ?_ GW330.out _)|exact HK.out))):w.heap.size≤gb342));have n8_:=aM_ ((Nat.le_trans HW0.out (by rw [hg];exact (keep_size (w:=w) (g:=g) (row:=none) (by repeat (first|(with_reducible first|exact HK.out|apply pS_|apply pN_|apply pD_|apply pA_|refine keep_far ?_ GW330.out _)|exact HK.out))):w.heap.size≤gb342):w0.heap.size≤gb342));have n9_:=aM_ ((by rw [hg];exact Nat.ne_of_lt (blk_lt (g:=gb330) (by (with_reducible repeat (first|apply kN_|apply kD_|apply kA_));exact BK330.out)):gb330≠gb342));have n10_:=aM_ n9_.out.symm;have n11_:=aM_ ((by rw [hg];exact Nat.ne_of_lt (IsS65.lt (show IsS65 w0 _ g s0_0 t341 from by repeat (first|(with_reducible first|exact HI0.out|apply IsS65.alloc|apply IsS65.drewN|apply IsS65.drew|apply IsS65.set_1|refine IsS65.far ?_ NB0_330.out _)|exact HI0.out))):g≠gb342));have n12_:=aM_ n11_.out.symm;clear HO337;clear HO340;clear HI0;clear BK330;clear HK;clear HB;have HO337:=n0_;have HO340:=n1_;have HI0:=n2_;have BK330:=n3_;have HK:=n4_;have HB:=n5_;have BK342:=n6_;have GW342:=n7_;have GE342:=n8_;have NB330_342:=n9_;have NB342_330:=n10_;have NB0_342:=n11_;have NB342_0:=n12_;clear n0_ n1_ n2_ n3_ n4_ n5_ n6_ n7_ n8_ n9_ n10_ n11_ n12_;clear hb hbox hg;have hnb24:=NB342_330.out;have hnc24:=NB330_342.out;have hnb25:=NB342_0.out;have hnc25:=NB0_342.out;obtain ⟨hcz26_0,hcz26_1,hcz26_2,hcz26_3,hcz26_4,hcz26_5⟩:=bc6 BK342.out;obtain ⟨hfz26_0,hfz26_1,hfz26_2,hfz26_3,hfz26_4,hfz26_5⟩:=bf6 BK342.out;obtain ⟨Ao27,co27,eo27⟩:=Kd.R_slice HO337.out;subst eo27;obtain ⟨Ao28,co28,eo28⟩:=Kd.R_slice HO340.out;subst eo28)|((with_reducible refine gate_callee (f:=68) rfl ?_);refine goesL_ (some 7) rfl rfl Try.func68 (by kernel_rfl) rfl #[.pointer (some ⟨g,0,none⟩),.int .i64 14] rfl (by (try simp only [List.map_toArray,List.map_cons,List.map_nil]);first|done|rfl|(simp only [List.length_drop,List.length_take];rfl)) ?_;(with_reducible refine (spec_l1Rd_pick.calls k g s0_0 t341 14 t343 t344 w0 _ ?side1 ?side2 A3.out).mono ?_);(case side1=>repeat (first|(with_reducible first|exact HI0.out|apply IsS65.alloc|apply IsS65.drewN|apply IsS65.drew|apply IsS65.set_1|refine IsS65.far ?_ NB0_330.out _|refine IsS65.far ?_ NB0_342.out _)|exact HI0.out));(case side2=>repeat (first|(with_reducible first|exact HB.out|apply wA_|apply wN_|apply wD_|refine below_set ?_ (IsS65.ge HI0.out)|refine below_set ?_ GE330.out|refine below_set ?_ GE342.out)|exact HB.out));rintro e w29 ⟨rfl,hi,hb,hk⟩;refine ⟨_,rfl,?_⟩;have n0_:=aM_ (KeepBut.blk hk (g':=gb330) (o:=.cells #[.int .i64 0,.int .i64 0,.int .i64 0,.int .i64 0,.slice none 0 0,.slice none 0 0] 27 (0,0)) (by (with_reducible repeat (first|apply kN_|apply kD_|apply kA_));refine blk_far ?_ NB330_342.out _;(with_reducible repeat (first|apply kN_|apply kD_|apply kA_));refine blk_far ?_ NB330_342.out _;(with_reducible repeat (first|apply kN_|apply kD_|apply kA_));refine blk_far ?_ NB330_342.out _;(with_reducible repeat (first|apply kN_|apply kD_|apply kA_));refine blk_far ?_ NB330_342.out _;(with_reducible repeat (first|apply kN_|apply kD_|apply kA_));refine blk_far ?_ NB330_342.out _;(with_reducible repeat (first|apply kN_|apply kD_|apply kA_));refine blk_far ?_ NB330_342.out _;(with_reducible repeat (first|apply kN_|apply kD_|apply kA_));exact BK330.out) NB330_0.out (by simp));have n1_:=aM_ (Kd.R_mono (Kd.R_keep (IsS65.apart (show IsS65 w0 _ g s0_0 t341 from by repeat (first|(with_reducible first|exact HI0.out|apply IsS65.alloc|apply IsS65.drewN|apply IsS65.drew|apply IsS65.set_1|refine IsS65.far ?_ NB0_330.out _|refine IsS65.far ?_ NB0_342.out _)|exact HI0.out)) (by (with_reducible repeat (first|apply rA_|apply rN_|apply rD_));exact (Kd.R_mono (Kd.R_far (Kd.R_far (Kd.R_far (Kd.R_far (Kd.R_far (Kd.R_far (Kd.R_types HO337.out BK342.out (by decide)) (fun _ hk=>hk.2) _) (fun _ hk=>hk.2) _) (fun _ hk=>hk.2) _) (fun _ hk=>hk.2) _) (fun _ hk=>hk.2) _) (fun _ hk=>hk.2) _) (fun _ h_=>h_.1))) (by decide)) hk (fun _ h=>h.2)) (fun _ h=>h.1));have n2_:=aM_ (Kd.R_mono (Kd.R_keep (IsS65.apart (show IsS65 w0 _ g s0_0 t341 from by repeat (first|(with_reducible first|exact HI0.out|apply IsS65.alloc|apply IsS65.drewN|apply IsS65.drew|apply IsS65.set_1|refine IsS65.far ?_ NB0_330.out _|refine IsS65.far ?_ NB0_342.out _)|exact HI0.out)) (by (with_reducible repeat (first|apply rA_|apply rN_|apply rD_));exact (Kd.R_mono (Kd.R_far (Kd.R_far (Kd.R_far (Kd.R_far (Kd.R_far (Kd.R_far (Kd.R_types HO340.out BK342.out (by decide)) (fun _ hk=>hk.2) _) (fun _ hk=>hk.2) _) (fun _ hk=>hk.2) _) (fun _ hk=>hk.2) _) (fun _ hk=>hk.2) _) (fun _ hk=>hk.2) _) (fun _ h_=>h_.1))) (by decide)) hk (fun _ h=>h.2)) (fun _ h=>h.1));have n3_:=aM_ (KeepBut.blk hk (g':=gb342) (o:=.cells #[.int .i64 t331,.int .i64 t332,.int .i64 t333,.int .i64 t334,.slice Ao27 t335.length co27,.slice Ao28 t338.length co28] 27 (0,0)) (by (with_reducible repeat (first|apply kN_|apply kD_|apply kA_));refine blk_put (cs:=#[.int .i64 t331,.int .i64 t332,.int .i64 t333,.int .i64 t334,.slice Ao27 t335.length co27,.slice none 0 0]) ?_ 5 _ rfl;(with_reducible repeat (first|apply kN_|apply kD_|apply kA_));refine blk_put (cs:=#[.int .i64 t331,.int .i64 t332,.int .i64 t333,.int .i64 t334,.slice none 0 0,.slice none 0 0]) ?_ 4 _ rfl;(with_reducible repeat (first|apply kN_|apply kD_|apply kA_));refine blk_put (cs:=#[.int .i64 t331,.int .i64 t332,.int .i64 t333,.int .i64 0,.slice none 0 0,.slice none 0 0]) ?_ 3 _ rfl;(with_reducible repeat (first|apply kN_|apply kD_|apply kA_));refine blk_put (cs:=#[.int .i64 t331,.int .i64 t332,.int .i64 0,.int .i64 0,.slice none 0 0,.slice none 0 0]) ?_ 2 _ rfl;(with_reducible repeat (first|apply kN_|apply kD_|apply kA_));refine blk_put (cs:=#[.int .i64 t331,.int .i64 0,.int .i64 0,.int .i64 0,.slice none 0 0,.slice none 0 0]) ?_ 1 _ rfl;(with_reducible repeat (first|apply kN_|apply kD_|apply kA_));refine blk_put (cs:=#[.int .i64 0,.int .i64 0,.int .i64 0,.int .i64 0,.slice none 0 0,.slice none 0 0]) ?_ 0 _ rfl;(with_reducible repeat (first|apply kN_|apply kD_|apply kA_));exact BK342.out) NB342_0.out (by simp));have n4_:=aM_ (KeepBut.trans (by repeat (first|(with_reducible first|exact HK.out|apply pS_|apply pN_|apply pD_|apply pA_|refine keep_far ?_ GW330.out _|refine keep_far ?_ GW342.out _)|exact HK.out)) hk (.inl rfl));have n5_:=aM_ (hb);have n6_:=aM_ (hi);clear BK330;clear HO337;clear HO340;clear BK342;clear HK;clear HB;clear HI0;have BK330:=n0_;have HO337:=n1_;have HO340:=n2_;have BK342:=n3_;have HK:=n4_;have HB:=n5_;have HI0:=n6_;clear n0_ n1_ n2_ n3_ n4_ n5_ n6_;(try clear hb);(try clear hb2);(try clear hk);(try clear hi);obtain ⟨hcz30_0,hcz30_1,hcz30_2,hcz30_3,hcz30_4,hcz30_5⟩:=bc6 BK342.out;obtain ⟨hfz30_0,hfz30_1,hfz30_2,hfz30_3,hfz30_4,hfz30_5⟩:=bf6 BK342.out;have hnb31:=NB330_0.out;have hnc31:=NB0_330.out;obtain ⟨hcz32_0,hcz32_1,hcz32_2,hcz32_3,hcz32_4,hcz32_5⟩:=bc6 BK330.out;obtain ⟨hfz32_0,hfz32_1,hfz32_2,hfz32_3,hfz32_4,hfz32_5⟩:=bf6 BK330.out))
  refine bodyPost_ret (results_cell_row rfl _ _ gb330 27 #[.int .i64 t331,.int .i64 t332,.int .i64 t333,.int .i64 t334,.slice Ao27 t335.length co27,.slice Ao28 t338.length co28] (0,0) _ rfl (by (with_reducible repeat (first|apply kN_|apply kD_|apply kA_));refine blk_put (cs:=#[.int .i64 t331,.int .i64 t332,.int .i64 t333,.int .i64 t334,.slice Ao27 t335.length co27,.slice none 0 0]) ?_ 5 _ rfl;(with_reducible repeat (first|apply kN_|apply kD_|apply kA_));refine blk_put (cs:=#[.int .i64 t331,.int .i64 t332,.int .i64 t333,.int .i64 t334,.slice none 0 0,.slice none 0 0]) ?_ 4 _ rfl;(with_reducible repeat (first|apply kN_|apply kD_|apply kA_));refine blk_put (cs:=#[.int .i64 t331,.int .i64 t332,.int .i64 t333,.int .i64 0,.slice none 0 0,.slice none 0 0]) ?_ 3 _ rfl;(with_reducible repeat (first|apply kN_|apply kD_|apply kA_));refine blk_put (cs:=#[.int .i64 t331,.int .i64 t332,.int .i64 0,.int .i64 0,.slice none 0 0,.slice none 0 0]) ?_ 2 _ rfl;(with_reducible repeat (first|apply kN_|apply kD_|apply kA_));refine blk_put (cs:=#[.int .i64 t331,.int .i64 0,.int .i64 0,.int .i64 0,.slice none 0 0,.slice none 0 0]) ?_ 1 _ rfl;(with_reducible repeat (first|apply kN_|apply kD_|apply kA_));refine blk_put (cs:=#[.int .i64 0,.int .i64 0,.int .i64 0,.int .i64 0,.slice none 0 0,.slice none 0 0]) ?_ 0 _ rfl;(with_reducible repeat (first|apply kN_|apply kD_|apply kA_));exact BK330.out) Try.underlying27 rfl (by kernel_rfl)) rfl ?_
  exact ⟨_,_,by first|rfl|(simp [errW_none,errW_some] <;> rfl)|(simp [*,errW_none,errW_some] <;> rfl),by (with_reducible repeat (first|apply rA_|apply rN_|apply rD_));exact Kd.R_mono (Kd.R_far (Kd.R_far (Kd.R_far (Kd.R_far (Kd.R_far (Kd.R_far (Kd.R_types HO337.out BK330.out (by decide)) (fun _ hk=>hk.2) _) (fun _ hk=>hk.2) _) (fun _ hk=>hk.2) _) (fun _ hk=>hk.2) _) (fun _ hk=>hk.2) _) (fun _ hk=>hk.2) _) (fun _ hk=>hk.1),Kd.Q_of_R (by (with_reducible repeat (first|apply rA_|apply rN_|apply rD_));exact Kd.R_mono (Kd.R_far (Kd.R_far (Kd.R_far (Kd.R_far (Kd.R_far (Kd.R_far (Kd.R_types HO340.out BK330.out (by decide)) (fun _ hk=>hk.2) _) (fun _ hk=>hk.2) _) (fun _ hk=>hk.2) _) (fun _ hk=>hk.2) _) (fun _ hk=>hk.2) _) (fun _ hk=>hk.2) _) (fun _ hk=>hk.1)),by repeat (first|(with_reducible first|exact HI0.out|apply IsS65.alloc|apply IsS65.drewN|apply IsS65.drew|apply IsS65.set_1|refine IsS65.far ?_ NB0_330.out _|refine IsS65.far ?_ NB0_342.out _)|exact HI0.out),by repeat (first|(with_reducible first|exact HB.out|apply wA_|apply wN_|apply wD_|refine below_set ?_ (IsS65.ge HI0.out)|refine below_set ?_ GE330.out|refine below_set ?_ GE342.out)|exact HB.out),by repeat (first|(with_reducible first|exact HK.out|apply pS_|apply pN_|apply pD_|apply pA_|refine keep_far ?_ GW330.out _|refine keep_far ?_ GW342.out _)|exact HK.out)⟩

/-! ### spec_l1Open: function 66 -/
def spec_l1Open.f (l0:List Int):Option (List Int × Int):=if (l0.length:Int) > 2000 then (if 2000≤(l0.length:Int) then (some (l0.take 2000,0)) else (none)) else (some (l0,0))
set_option maxHeartbeats 8000000 in
set_option maxRecDepth 100000 in
theorem spec_l1Open.calls (A0:Option Addr) (c0:Nat) (l0:List Int) (r1:List Int) (r2:Int) (w0 w:World) (hB:Below w0.heap.size w0 w) (hr0:Kd.C (Kd.int .u8) w0 A0 l0.length l0) (hc0:l0.length≤c0) (h:spec_l1Open.f l0=some (r1,r2)) :
  Calls Try.prog 66 #[.slice A0 l0.length c0] w fun e w'=>∃ g_:Nat,e=.returned (.pointer (some ⟨g_,0,none⟩))∧IsS65 w0 w' g_ r1 r2∧Below w0.heap.size w0 w'∧Below w.heap.size w w':=by
 have hu65:=Try.underlying65
 have HR0:=aM_ hr0
 have HC0:=aM_ hc0
 clear hr0 hc0
 have HBW:=aM_ (Below.refl w.heap.size w)
 have HW0:=aM_ hB.size
 have HB:=aM_ hB
 clear hB
 have H:(if (l0.length:Int) > 2000 then (if 2000≤(l0.length:Int) then (some (l0.take 2000,0)) else (none)) else (some (l0,0)))=some (r1,r2):=h
 clear h
 by_cases c2:(l0.length:Int) > 2000
 ·rw [if_pos c2] at H
  have c2b0:decide (2000 < (l0.length:Int))=true:=decide_eq_true c2
  have c2b1:decide (2000 < l0.length)=true:=decide_eq_true (by omega)
  clear c2
  by_cases c3:2000≤(l0.length:Int)
  ·rw [if_pos c3] at H
   have c3b0:=eq_true c3
   have c3b1:decide (2000≤(l0.length:Int))=true:=decide_eq_true c3
   clear c3
   simp only [Option.some.injEq,Prod.mk.injEq] at H
   obtain ⟨rfl,rfl⟩:=H
   obtain ⟨i04,hi04,_,hsz4,_⟩:=info_parts info5
   obtain ⟨hcut4,hA4,hC4⟩:=print_take_of (P:=Try.prog) (Value.int .u8) 0 41 5 .i64 Try.underlying41 hi04 hsz4 A0 c0 l0 2000 (by omega) (of_decide_eq_true (by first|(with_reducible assumption)|assumption)) HC0.out
   have HR356:=aM_ (Kd.C_of_reads (h1:=fun _=>rfl) (hA4 _ (Kd.reads_of_C HR0.out)))
   have HC356:=aM_ hC4
   clear hA4 hC4 hi04 hsz4
   go_enter Try.func66,Try.ntmps66
   go_wp2_with (first|((with_reducible refine gate_dst (N:=10) rfl ?_);refine box_event ?hg (N:=10) ?hd (cs:=#[.slice A0 (l0.take 2000).length c0,.int .i64 0]) (t:=65) ?hr ?_;(case hd=>rfl);(case hg=>rfl);(case hr=>first|(go_simp;done)|(go_simp;rfl));intro gb357 hg w5 hbox hb;have n0_:=aM_ (below_step HBW.out hb);have n1_:=aM_ (below_step (by repeat (first|(with_reducible first|exact HB.out|apply wA_|apply wN_|apply wD_)|exact HB.out)) hb);have n2_:=aM_ (hbox);have n3_:=aM_ ((by rw [hg];exact (below_size (by repeat (first|(with_reducible first|exact HBW.out|apply wA_|apply wN_|apply wD_)|exact HBW.out))):w.heap.size≤gb357));have n4_:=aM_ ((Nat.le_trans HW0.out (by rw [hg];exact (below_size (by repeat (first|(with_reducible first|exact HBW.out|apply wA_|apply wN_|apply wD_)|exact HBW.out))):w.heap.size≤gb357):w0.heap.size≤gb357));clear HBW;clear HB;have HBW:=n0_;have HB:=n1_;have BK357:=n2_;have GW357:=n3_;have GE357:=n4_;clear n0_ n1_ n2_ n3_ n4_;clear hb hbox hg))
   go_ret
   exact ⟨_,rfl,(show IsS65 w0 _ gb357 (l0.take 2000) 0 from ⟨_,_,by (with_reducible repeat (first|apply kN_|apply kD_|apply kA_));exact BK357.out,GE357.out,HR356.out⟩),by repeat (first|(with_reducible first|exact HB.out|apply wA_|apply wN_|apply wD_|refine below_set ?_ GE357.out)|exact HB.out),by repeat (first|(with_reducible first|exact HBW.out|apply wA_|apply wN_|apply wD_|refine below_set ?_ GW357.out)|exact HBW.out)⟩
  ·rw [if_neg c3] at H
   exact absurd H (by simp)
 ·rw [if_neg c2] at H
  have c2b0:decide (2000 < (l0.length:Int))=false:=decide_eq_false c2
  have c2b1:decide (2000 < l0.length)=false:=decide_eq_false (by omega)
  clear c2
  simp only [Option.some.injEq,Prod.mk.injEq] at H
  obtain ⟨rfl,rfl⟩:=H
  go_enter Try.func66,Try.ntmps66
  go_wp2_with (first|((with_reducible refine gate_dst (N:=10) rfl ?_);refine box_event ?hg (N:=10) ?hd (cs:=#[.slice A0 l0.length c0,.int .i64 0]) (t:=65) ?hr ?_;(case hd=>rfl);(case hg=>rfl);(case hr=>first|(go_simp;done)|(go_simp;rfl));intro gb358 hg w6 hbox hb;have n0_:=aM_ (below_step HBW.out hb);have n1_:=aM_ (below_step (by repeat (first|(with_reducible first|exact HB.out|apply wA_|apply wN_|apply wD_)|exact HB.out)) hb);have n2_:=aM_ (hbox);have n3_:=aM_ ((by rw [hg];exact (below_size (by repeat (first|(with_reducible first|exact HBW.out|apply wA_|apply wN_|apply wD_)|exact HBW.out))):w.heap.size≤gb358));have n4_:=aM_ ((Nat.le_trans HW0.out (by rw [hg];exact (below_size (by repeat (first|(with_reducible first|exact HBW.out|apply wA_|apply wN_|apply wD_)|exact HBW.out))):w.heap.size≤gb358):w0.heap.size≤gb358));clear HBW;clear HB;have HBW:=n0_;have HB:=n1_;have BK358:=n2_;have GW358:=n3_;have GE358:=n4_;clear n0_ n1_ n2_ n3_ n4_;clear hb hbox hg))
  go_ret
  exact ⟨_,rfl,(show IsS65 w0 _ gb358 l0 0 from ⟨_,_,by (with_reducible repeat (first|apply kN_|apply kD_|apply kA_));exact BK358.out,GE358.out,HR0.out⟩),by repeat (first|(with_reducible first|exact HB.out|apply wA_|apply wN_|apply wD_|refine below_set ?_ GE358.out)|exact HB.out),by repeat (first|(with_reducible first|exact HBW.out|apply wA_|apply wN_|apply wD_|refine below_set ?_ GW358.out)|exact HBW.out)⟩

/-! ### spec_l1Least: function 69 -/
def spec_l1Least.f (a0:Int):Option (Int):=if a0 < 0 then (some 0) else (if a0 > 40 then (some 40) else (some a0))
set_option maxHeartbeats 8000000 in
set_option maxRecDepth 100000 in
theorem spec_l1Least.calls (a0:Int) (r:Int) (w:World) (h:spec_l1Least.f a0=some r) :
  Calls Try.prog 69 #[.int .i64 a0] w fun e w'=>e=.returned (.int .i64 r)∧Drawn0 w w':=by
 have H:(if a0 < 0 then (some 0) else (if a0 > 40 then (some 40) else (some a0)))=some r:=h
 clear h
 by_cases c2:a0 < 0
 ·rw [if_pos c2] at H
  have c2b0:decide (a0 < 0)=true:=decide_eq_true c2
  clear c2
  obtain rfl:=Option.some.inj H
  go_enter Try.func69,Try.ntmps69
  go_wp2
  go_ret
  exact ⟨by first|rfl|(simp;done)|(simp [*];done),by repeat (first|exact Drawn0.refl _|apply Drawn0.step)⟩
 ·rw [if_neg c2] at H
  have c2b0:decide (a0 < 0)=false:=decide_eq_false c2
  clear c2
  by_cases c3:a0 > 40
  ·rw [if_pos c3] at H
   have c3b0:decide (40 < a0)=true:=decide_eq_true c3
   clear c3
   obtain rfl:=Option.some.inj H
   go_enter Try.func69,Try.ntmps69
   go_wp2
   go_ret
   exact ⟨by first|rfl|(simp;done)|(simp [*];done),by repeat (first|exact Drawn0.refl _|apply Drawn0.step)⟩
  ·rw [if_neg c3] at H
   have c3b0:decide (40 < a0)=false:=decide_eq_false c3
   clear c3
   obtain rfl:=Option.some.inj H
   go_enter Try.func69,Try.ntmps69
   go_wp2
   go_ret
   exact ⟨by first|rfl|(simp;done)|(simp [*];done),by repeat (first|exact Drawn0.refl _|apply Drawn0.step)⟩

/-! ### spec_DrawImageCut: function 41 -/
def spec_DrawImageCut.f (k:Nat) (l0:List Int):Option (Int × Int × Int × Int × List Int × List Int × Int × Int × Int × Int):=(spec_l1Open.f l0).bind fun bt360=>((spec_l14Any.f k bt360.1 bt360.2).bind fun bt363=>((spec_l1Least.f bt363.2.2.1).bind fun t375=>((spec_l1Rd_pick.f k bt360.1 bt363.2.2.2.2.2.2 (wrap64 (t375+1))).bind fun bt376=>((spec_l1Least.f bt363.2.2.2.1).bind fun t378=>((spec_l1Rd_pick.f k bt360.1 bt376.2 (wrap64 (t378+1))).bind fun bt379=>((spec_l1Least.f bt363.2.2.1).bind fun t381=>((spec_l1Rd_pick.f k bt360.1 bt379.2 (wrap64 ((wrap64 (t381 - bt376.1))+2))).bind fun bt382=>((spec_l1Least.f bt363.2.2.2.1).bind fun t384=>((spec_l1Rd_pick.f k bt360.1 bt382.2 (wrap64 ((wrap64 (t384 - bt379.1))+2))).bind fun bt385=>(some (bt363.1,bt363.2.1,bt363.2.2.1,bt363.2.2.2.1,bt363.2.2.2.2.1,bt363.2.2.2.2.2.1,bt376.1,bt379.1,bt382.1,bt385.1)))))))))))
theorem spec_DrawImageCut.mono:∀ a0 k,LeO (spec_DrawImageCut.f k a0) (spec_DrawImageCut.f (k+1) a0):=by
 intro a0 k
 unfold spec_DrawImageCut.f
 repeat' first
   | (with_reducible exact spec_l14Any.mono _ _ _)
   | (with_reducible exact spec_l1Rd_pick.mono _ _ _ _)
   | (with_reducible exact LeO.refl _)
   | (with_reducible exact LeO.none _)
   | (with_reducible refine LeO.ite ?_ ?_)
   | (with_reducible refine LeO.bind ?_ (fun _=>?_))
def spec_DrawImageCut.T5:Bool × List (List Nat × List Nat):=(true,[([],[]),([],[]),([],[]),([],[]),([],[]),([4],[4]),([5],[5]),([],[]),([6,7],[6,7]),([8],[8]),([3,9,6],[3,9]),([],[]),([],[]),([12],[12]),([13,10],[13]),([],[]),([14,15],[14,15]),([16],[16]),([11,17,14],[11,17]),([0,18,0],[0]),([1,19,0,1,19],[1]),([2,20,0,1,2,19,20],[2]),([10,21,0,1,2,3,4,5,6,7,8,9,10,19,20,21],[10]),([18,22,0,1,2,3,4,5,6,7,8,9,10,11,12,13,14,15,16,17,18,19,20,21,22],[18])])
def spec_DrawImageCut.B5:List Nat:=[0,0,0,0,0,16,48,0,240,496,1016,0,0,4096,14328,0,63480,129016,262136,524281,1048571,2097151,4194303,8388607]
theorem spec_DrawImageCut.tab5:rtab .any (opsOf Try.f41 5)=spec_DrawImageCut.T5:=by kernel_rfl
theorem spec_DrawImageCut.bits5:waitsOk spec_DrawImageCut.T5.2 spec_DrawImageCut.B5=true:=by kernel_rfl
set_option maxHeartbeats 8000000 in
set_option maxRecDepth 100000 in
theorem spec_DrawImageCut.calls (k:Nat) (A0:Option Addr) (c0:Nat) (l0:List Int) (r1:Int) (r2:Int) (r3:Int) (r4:Int) (r5:List Int) (r6:List Int) (r7:Int) (r8:Int) (r9:Int) (r10:Int) (w:World) (hr0:Kd.C (Kd.int .u8) w A0 l0.length l0) (hc0:l0.length≤c0) (h:spec_DrawImageCut.f k l0=some (r1,r2,r3,r4,r5,r6,r7,r8,r9,r10)) :
  Calls Try.prog 41 #[.slice A0 l0.length c0] w fun e w'=>∃ v4_ v5_:Value,e=.returned (.tuple #[.agg #[.int .i64 r1,.int .i64 r2,.int .i64 r3,.int .i64 r4,v4_,v5_],.int .i64 r7,.int .i64 r8,.int .i64 r9,.int .i64 r10])∧Kd.R (Kd.int .i64) 3 w' w.heap.size (fun k_=>some k_≠(v5_:Value).ownBlock) v4_ r5∧Kd.Q (Kd.int .i64) 3 w' w.heap.size (fun k_=>some k_≠(v4_:Value).ownBlock) v5_ r6∧Below w.heap.size w w':=by
 have hu27:=Try.underlying27
 have HR0:=aM_ hr0
 have HC0:=aM_ hc0
 clear hr0 hc0
 have HB:=aM_ (Below.refl w.heap.size w)
 have H:((spec_l1Open.f l0).bind fun bt360=>((spec_l14Any.f k bt360.1 bt360.2).bind fun bt363=>((spec_l1Least.f bt363.2.2.1).bind fun t375=>((spec_l1Rd_pick.f k bt360.1 bt363.2.2.2.2.2.2 (wrap64 (t375+1))).bind fun bt376=>((spec_l1Least.f bt363.2.2.2.1).bind fun t378=>((spec_l1Rd_pick.f k bt360.1 bt376.2 (wrap64 (t378+1))).bind fun bt379=>((spec_l1Least.f bt363.2.2.1).bind fun t381=>((spec_l1Rd_pick.f k bt360.1 bt379.2 (wrap64 ((wrap64 (t381 - bt376.1))+2))).bind fun bt382=>((spec_l1Least.f bt363.2.2.2.1).bind fun t384=>((spec_l1Rd_pick.f k bt360.1 bt382.2 (wrap64 ((wrap64 (t384 - bt379.1))+2))).bind fun bt385=>(some (bt363.1,bt363.2.1,bt363.2.2.1,bt363.2.2.2.1,bt363.2.2.2.2.1,bt363.2.2.2.2.2.1,bt376.1,bt379.1,bt382.1,bt385.1))))))))))))=some (r1,r2,r3,r4,r5,r6,r7,r8,r9,r10):=h
 clear h
 replace H:=Option.bind_eq_some_iff.mp H
 obtain ⟨⟨t360,t361⟩,A20,H⟩:=H
 replace H:((spec_l14Any.f k t360 t361).bind fun bt363=>((spec_l1Least.f bt363.2.2.1).bind fun t375=>((spec_l1Rd_pick.f k t360 bt363.2.2.2.2.2.2 (wrap64 (t375+1))).bind fun bt376=>((spec_l1Least.f bt363.2.2.2.1).bind fun t378=>((spec_l1Rd_pick.f k t360 bt376.2 (wrap64 (t378+1))).bind fun bt379=>((spec_l1Least.f bt363.2.2.1).bind fun t381=>((spec_l1Rd_pick.f k t360 bt379.2 (wrap64 ((wrap64 (t381 - bt376.1))+2))).bind fun bt382=>((spec_l1Least.f bt363.2.2.2.1).bind fun t384=>((spec_l1Rd_pick.f k t360 bt382.2 (wrap64 ((wrap64 (t384 - bt379.1))+2))).bind fun bt385=>(some (bt363.1,bt363.2.1,bt363.2.2.1,bt363.2.2.2.1,bt363.2.2.2.2.1,bt363.2.2.2.2.2.1,bt376.1,bt379.1,bt382.1,bt385.1)))))))))))=some (r1,r2,r3,r4,r5,r6,r7,r8,r9,r10):=H
 have A2:=aM_ A20
 clear A20
 replace H:=Option.bind_eq_some_iff.mp H
 obtain ⟨⟨t363,t364,t365,t366,t367,t370,t373⟩,A30,H⟩:=H
 replace H:((spec_l1Least.f t365).bind fun t375=>((spec_l1Rd_pick.f k t360 t373 (wrap64 (t375+1))).bind fun bt376=>((spec_l1Least.f t366).bind fun t378=>((spec_l1Rd_pick.f k t360 bt376.2 (wrap64 (t378+1))).bind fun bt379=>((spec_l1Least.f t365).bind fun t381=>((spec_l1Rd_pick.f k t360 bt379.2 (wrap64 ((wrap64 (t381 - bt376.1))+2))).bind fun bt382=>((spec_l1Least.f t366).bind fun t384=>((spec_l1Rd_pick.f k t360 bt382.2 (wrap64 ((wrap64 (t384 - bt379.1))+2))).bind fun bt385=>(some (t363,t364,t365,t366,t367,t370,bt376.1,bt379.1,bt382.1,bt385.1))))))))))=some (r1,r2,r3,r4,r5,r6,r7,r8,r9,r10):=H
 have A3:=aM_ A30
 clear A30
 replace H:=Option.bind_eq_some_iff.mp H
 obtain ⟨t375,A40,H⟩:=H
 replace H:((spec_l1Rd_pick.f k t360 t373 (wrap64 (t375+1))).bind fun bt376=>((spec_l1Least.f t366).bind fun t378=>((spec_l1Rd_pick.f k t360 bt376.2 (wrap64 (t378+1))).bind fun bt379=>((spec_l1Least.f t365).bind fun t381=>((spec_l1Rd_pick.f k t360 bt379.2 (wrap64 ((wrap64 (t381 - bt376.1))+2))).bind fun bt382=>((spec_l1Least.f t366).bind fun t384=>((spec_l1Rd_pick.f k t360 bt382.2 (wrap64 ((wrap64 (t384 - bt379.1))+2))).bind fun bt385=>(some (t363,t364,t365,t366,t367,t370,bt376.1,bt379.1,bt382.1,bt385.1)))))))))=some (r1,r2,r3,r4,r5,r6,r7,r8,r9,r10):=H
 have A4:=aM_ A40
 clear A40
 replace H:=Option.bind_eq_some_iff.mp H
 obtain ⟨⟨t376,t377⟩,A50,H⟩:=H
 replace H:((spec_l1Least.f t366).bind fun t378=>((spec_l1Rd_pick.f k t360 t377 (wrap64 (t378+1))).bind fun bt379=>((spec_l1Least.f t365).bind fun t381=>((spec_l1Rd_pick.f k t360 bt379.2 (wrap64 ((wrap64 (t381 - t376))+2))).bind fun bt382=>((spec_l1Least.f t366).bind fun t384=>((spec_l1Rd_pick.f k t360 bt382.2 (wrap64 ((wrap64 (t384 - bt379.1))+2))).bind fun bt385=>(some (t363,t364,t365,t366,t367,t370,t376,bt379.1,bt382.1,bt385.1))))))))=some (r1,r2,r3,r4,r5,r6,r7,r8,r9,r10):=H
 have A5:=aM_ A50
 clear A50
 replace H:=Option.bind_eq_some_iff.mp H
 obtain ⟨t378,A60,H⟩:=H
 replace H:((spec_l1Rd_pick.f k t360 t377 (wrap64 (t378+1))).bind fun bt379=>((spec_l1Least.f t365).bind fun t381=>((spec_l1Rd_pick.f k t360 bt379.2 (wrap64 ((wrap64 (t381 - t376))+2))).bind fun bt382=>((spec_l1Least.f t366).bind fun t384=>((spec_l1Rd_pick.f k t360 bt382.2 (wrap64 ((wrap64 (t384 - bt379.1))+2))).bind fun bt385=>(some (t363,t364,t365,t366,t367,t370,t376,bt379.1,bt382.1,bt385.1)))))))=some (r1,r2,r3,r4,r5,r6,r7,r8,r9,r10):=H
 have A6:=aM_ A60
 clear A60
 replace H:=Option.bind_eq_some_iff.mp H
 obtain ⟨⟨t379,t380⟩,A70,H⟩:=H
 replace H:((spec_l1Least.f t365).bind fun t381=>((spec_l1Rd_pick.f k t360 t380 (wrap64 ((wrap64 (t381 - t376))+2))).bind fun bt382=>((spec_l1Least.f t366).bind fun t384=>((spec_l1Rd_pick.f k t360 bt382.2 (wrap64 ((wrap64 (t384 - t379))+2))).bind fun bt385=>(some (t363,t364,t365,t366,t367,t370,t376,t379,bt382.1,bt385.1))))))=some (r1,r2,r3,r4,r5,r6,r7,r8,r9,r10):=H
 have A7:=aM_ A70
 clear A70
 replace H:=Option.bind_eq_some_iff.mp H
 obtain ⟨t381,A80,H⟩:=H
 replace H:((spec_l1Rd_pick.f k t360 t380 (wrap64 ((wrap64 (t381 - t376))+2))).bind fun bt382=>((spec_l1Least.f t366).bind fun t384=>((spec_l1Rd_pick.f k t360 bt382.2 (wrap64 ((wrap64 (t384 - t379))+2))).bind fun bt385=>(some (t363,t364,t365,t366,t367,t370,t376,t379,bt382.1,bt385.1)))))=some (r1,r2,r3,r4,r5,r6,r7,r8,r9,r10):=H
 have A8:=aM_ A80
 clear A80
 replace H:=Option.bind_eq_some_iff.mp H
 obtain ⟨⟨t382,t383⟩,A90,H⟩:=H
 replace H:((spec_l1Least.f t366).bind fun t384=>((spec_l1Rd_pick.f k t360 t383 (wrap64 ((wrap64 (t384 - t379))+2))).bind fun bt385=>(some (t363,t364,t365,t366,t367,t370,t376,t379,t382,bt385.1))))=some (r1,r2,r3,r4,r5,r6,r7,r8,r9,r10):=H
 have A9:=aM_ A90
 clear A90
 replace H:=Option.bind_eq_some_iff.mp H
 obtain ⟨t384,A100,H⟩:=H
 replace H:((spec_l1Rd_pick.f k t360 t383 (wrap64 ((wrap64 (t384 - t379))+2))).bind fun bt385=>(some (t363,t364,t365,t366,t367,t370,t376,t379,t382,bt385.1)))=some (r1,r2,r3,r4,r5,r6,r7,r8,r9,r10):=H
 have A10:=aM_ A100
 clear A100
 replace H:=Option.bind_eq_some_iff.mp H
 obtain ⟨⟨t385,t386⟩,A110,H⟩:=H
 replace H:(some (t363,t364,t365,t366,t367,t370,t376,t379,t382,t385))=some (r1,r2,r3,r4,r5,r6,r7,r8,r9,r10):=H
 have A11:=aM_ A110
 clear A110
 simp only [Option.some.injEq,Prod.mk.injEq] at H
 obtain ⟨rfl,rfl,rfl,rfl,rfl,rfl,rfl,rfl,rfl,rfl⟩:=H
 go_enter Try.func41,Try.ntmps41
 try go_wp2_with (first|((with_reducible refine gate_dst (N:=2) rfl ?_);refine box_event ?hg (N:=2) ?hd (cs:=#[.int .i64 0,.int .i64 0,.int .i64 0,.int .i64 0,.slice none 0 0,.slice none 0 0]) (t:=27) ?hr ?_;(case hd=>rfl);(case hg=>rfl);(case hr=>first|(go_simp;done)|(go_simp;rfl));intro gb359 hg w12 hbox hb;have n0_:=aM_ (below_step (by repeat (first|(with_reducible first|exact HB.out|apply wA_|apply wN_|apply wD_)|exact HB.out)) hb);have n1_:=aM_ (hbox);have n2_:=aM_ ((by rw [hg];exact (below_size (by repeat (first|(with_reducible first|exact HB.out|apply wA_|apply wN_|apply wD_)|exact HB.out))):w.heap.size≤gb359));have n3_:=aM_ ((by rw [hg];exact (below_size (by repeat (first|(with_reducible first|exact HB.out|apply wA_|apply wN_|apply wD_)|exact HB.out))):w.heap.size≤gb359));clear HB;have HB:=n0_;have BK359:=n1_;have GW359:=n2_;have GE359:=n3_;clear n0_ n1_ n2_ n3_;clear hb hbox hg)|((with_reducible refine gate_callee (f:=66) rfl ?_);refine goesL_ (some 12) rfl rfl Try.func66 (by kernel_rfl) rfl #[.slice A0 l0.length c0] rfl (by (try simp only [List.map_toArray,List.map_cons,List.map_nil]);first|done|rfl|(simp only [List.length_drop,List.length_take];rfl)) ?_;(with_reducible refine (spec_l1Open.calls _ _ l0 t360 t361 w _ ?side1 ?side2 ?side3 A2.out).mono ?_);(case side1=>repeat (first|(with_reducible first|exact HB.out|apply wA_|apply wN_|apply wD_|refine below_set ?_ GE359.out)|exact HB.out));(case side2=>exact HR0.out);(case side3=>exact HC0.out);rintro e w13 ⟨g362,rfl,hi,hb,hb2⟩;refine ⟨_,rfl,?_⟩;have n0_:=aM_ (blk_below (g:=gb359) (by (with_reducible repeat (first|apply kN_|apply kD_|apply kA_));exact BK359.out) hb2);have n1_:=aM_ (hb);have n2_:=aM_ (hi);have n3_:=aM_ (IsS65.ne_blk hi (blk_below (g:=gb359) (by (with_reducible repeat (first|apply kN_|apply kD_|apply kA_));exact BK359.out) hb2) (by decide));have n4_:=aM_ (Ne.symm (IsS65.ne_blk hi (blk_below (g:=gb359) (by (with_reducible repeat (first|apply kN_|apply kD_|apply kA_));exact BK359.out) hb2) (by decide)));clear BK359;clear HB;have BK359:=n0_;have HB:=n1_;have HI362:=n2_;have NB362_359:=n3_;have NB359_362:=n4_;clear n0_ n1_ n2_ n3_ n4_;(try clear hb);(try clear hb2);(try clear hk);(try clear hi))|((with_reducible refine gate_callee (f:=65) rfl ?_);refine goesL_ (some 14) rfl rfl Try.func65 (by kernel_rfl) rfl #[.pointer (some ⟨g362,0,none⟩)] rfl (by (try simp only [List.map_toArray,List.map_cons,List.map_nil]);first|done|rfl|(simp only [List.length_drop,List.length_take];rfl)) ?_;(with_reducible refine (spec_l14Any.calls k g362 t360 t361 t363 t364 t365 t366 t367 t370 t373 w _ ?side1 ?side2 A3.out).mono ?_);(case side1=>repeat (first|(with_reducible first|exact HI362.out|apply IsS65.alloc|apply IsS65.drewN|apply IsS65.drew|apply IsS65.set_1|refine IsS65.far ?_ NB362_359.out _)|exact HI362.out));(case side2=>repeat (first|(with_reducible first|exact HB.out|apply wA_|apply wN_|apply wD_|refine below_set ?_ (IsS65.ge HI362.out)|refine below_set ?_ GE359.out)|exact HB.out));rintro e w14 ⟨v368,v371,rfl,ho0,ho1,hi,hb,hk⟩;refine ⟨_,rfl,?_⟩;have n0_:=aM_ (KeepBut.blk hk (g':=gb359) (o:=.cells #[.int .i64 0,.int .i64 0,.int .i64 0,.int .i64 0,.slice none 0 0,.slice none 0 0] 27 (0,0)) (by (with_reducible repeat (first|apply kN_|apply kD_|apply kA_));exact BK359.out) NB359_362.out (by simp));have n1_:=aM_ (Kd.R_lower ho0 (below_size (by repeat (first|(with_reducible first|exact HB.out|apply wA_|apply wN_|apply wD_|refine below_set ?_ (IsS65.ge HI362.out)|refine below_set ?_ GE359.out)|exact HB.out))));have n2_:=aM_ (Kd.Q_lower ho1 (below_size (by repeat (first|(with_reducible first|exact HB.out|apply wA_|apply wN_|apply wD_|refine below_set ?_ (IsS65.ge HI362.out)|refine below_set ?_ GE359.out)|exact HB.out))));have n3_:=aM_ (hb);have n4_:=aM_ (hi);clear BK359;clear HB;clear HI362;have BK359:=n0_;have HO369:=n1_;have HO372:=n2_;have HB:=n3_;have HI362:=n4_;clear n0_ n1_ n2_ n3_ n4_;(try clear hb);(try clear hb2);(try clear hk);(try clear hi);(try clear ho0);(try clear ho1))|((with_reducible refine gate_dst (N:=8) rfl ?_);refine box_event ?hg (N:=8) ?hd (cs:=#[.int .i64 0,.int .i64 0,.int .i64 0,.int .i64 0,.slice none 0 0,.slice none 0 0]) (t:=27) ?hr ?_;(case hd=>rfl);(case hg=>rfl);(case hr=>first|(go_simp;done)|(go_simp;rfl));intro gb374 hg w15 hbox hb;have n0_:=aM_ (Kd.R_below (by (with_reducible repeat (first|apply rA_|apply rN_|apply rD_));exact HO369.out) hb);have n1_:=aM_ (Kd.Q_below (by (with_reducible repeat (first|apply Kd.Q_alloc|apply Kd.Q_drewN|apply Kd.Q_drew));exact HO372.out) hb);have n2_:=aM_ (blk_below (g:=gb359) (by (with_reducible repeat (first|apply kN_|apply kD_|apply kA_));exact BK359.out) hb);have n3_:=aM_ (IsS65.below (by repeat (first|(with_reducible first|exact HI362.out|apply IsS65.alloc|apply IsS65.drewN|apply IsS65.drew|apply IsS65.set_1|refine IsS65.far ?_ NB362_359.out _)|exact HI362.out)) hb);have n4_:=aM_ (below_step (by repeat (first|(with_reducible first|exact HB.out|apply wA_|apply wN_|apply wD_|refine below_set ?_ (IsS65.ge HI362.out)|refine below_set ?_ GE359.out)|exact HB.out)) hb);have n5_:=aM_ (hbox);have n6_:=aM_ ((by rw [hg];exact (below_size (by repeat (first|(with_reducible first|exact HB.out|apply wA_|apply wN_|apply wD_|refine below_set ?_ (IsS65.ge HI362.out)|refine below_set ?_ GE359.out)|exact HB.out))):w.heap.size≤gb374));have n7_:=aM_ ((by rw [hg];exact (below_size (by repeat (first|(with_reducible first|exact HB.out|apply wA_|apply wN_|apply wD_|refine below_set ?_ (IsS65.ge HI362.out)|refine below_set ?_ GE359.out)|exact HB.out))):w.heap.size≤gb374));have n8_:=aM_ ((by rw [hg];exact Nat.ne_of_lt (blk_lt (g:=gb359) (by (with_reducible repeat (first|apply kN_|apply kD_|apply kA_));exact BK359.out)):gb359≠gb374));have n9_:=aM_ n8_.out.symm;have n10_:=aM_ ((by rw [hg];exact Nat.ne_of_lt (IsS65.lt (show IsS65 w _ g362 t360 t373 from by repeat (first|(with_reducible first|exact HI362.out|apply IsS65.alloc|apply IsS65.drewN|apply IsS65.drew|apply IsS65.set_1|refine IsS65.far ?_ NB362_359.out _)|exact HI362.out))):g362≠gb374));have n11_:=aM_ n10_.out.symm;clear HO369;clear HO372;clear BK359;clear HI362;clear HB;have HO369:=n0_;have HO372:=n1_;have BK359:=n2_;have HI362:=n3_;have HB:=n4_;have BK374:=n5_;have GW374:=n6_;have GE374:=n7_;have NB359_374:=n8_;have NB374_359:=n9_;have NB362_374:=n10_;have NB374_362:=n11_;clear n0_ n1_ n2_ n3_ n4_ n5_ n6_ n7_ n8_ n9_ n10_ n11_;clear hb hbox hg;have hnb16:=NB374_359.out;have hnc16:=NB359_374.out;have hnb17:=NB374_362.out;have hnc17:=NB362_374.out;obtain ⟨hcz18_0,hcz18_1,hcz18_2,hcz18_3,hcz18_4,hcz18_5⟩:=bc6 BK374.out;obtain ⟨hfz18_0,hfz18_1,hfz18_2,hfz18_3,hfz18_4,hfz18_5⟩:=bf6 BK374.out;obtain ⟨Ao19,co19,eo19⟩:=Kd.R_slice HO369.out;subst eo19;obtain ⟨Ao20,co20,eo20,_⟩:=Kd.Q_slice HO372.out;subst eo20)|((with_reducible refine gate_callee (f:=69) rfl ?_);refine goesL_ (some 18) rfl rfl Try.func69 (by kernel_rfl) rfl #[.int .i64 t365] rfl (by (try simp only [List.map_toArray,List.map_cons,List.map_nil]);first|done|rfl|(simp only [List.length_drop,List.length_take];rfl)) ?_;(with_reducible refine (spec_l1Least.calls t365 t375 _ A4.out).mono ?_);rintro e w' ⟨rfl,⟨nd,rfl⟩⟩;refine ⟨_,rfl,?_⟩)|((with_reducible refine gate_callee (f:=68) rfl ?_);refine goesL_ (some 20) rfl rfl Try.func68 (by kernel_rfl) rfl #[.pointer (some ⟨g362,0,none⟩),.int .i64 (wrap64 (t375+1))] rfl (by (try simp only [List.map_toArray,List.map_cons,List.map_nil]);first|done|rfl|(simp only [List.length_drop,List.length_take];rfl)) ?_;(with_reducible refine (spec_l1Rd_pick.calls k g362 t360 t373 (wrap64 (t375+1)) t376 t377 w _ ?side1 ?side2 A5.out).mono ?_);(case side1=>repeat (first|(with_reducible first|exact HI362.out|apply IsS65.alloc|apply IsS65.drewN|apply IsS65.drew|apply IsS65.set_1|refine IsS65.far ?_ NB362_359.out _|refine IsS65.far ?_ NB362_374.out _)|exact HI362.out));(case side2=>repeat (first|(with_reducible first|exact HB.out|apply wA_|apply wN_|apply wD_|refine below_set ?_ (IsS65.ge HI362.out)|refine below_set ?_ GE359.out|refine below_set ?_ GE374.out)|exact HB.out));rintro e w21 ⟨rfl,hi,hb,hk⟩;refine ⟨_,rfl,?_⟩;have n0_:=aM_ (KeepBut.blk hk (g':=gb359) (o:=.cells #[.int .i64 0,.int .i64 0,.int .i64 0,.int .i64 0,.slice none 0 0,.slice none 0 0] 27 (0,0)) (by (with_reducible repeat (first|apply kN_|apply kD_|apply kA_));refine blk_far ?_ NB359_374.out _;(with_reducible repeat (first|apply kN_|apply kD_|apply kA_));refine blk_far ?_ NB359_374.out _;(with_reducible repeat (first|apply kN_|apply kD_|apply kA_));refine blk_far ?_ NB359_374.out _;(with_reducible repeat (first|apply kN_|apply kD_|apply kA_));refine blk_far ?_ NB359_374.out _;(with_reducible repeat (first|apply kN_|apply kD_|apply kA_));refine blk_far ?_ NB359_374.out _;(with_reducible repeat (first|apply kN_|apply kD_|apply kA_));refine blk_far ?_ NB359_374.out _;(with_reducible repeat (first|apply kN_|apply kD_|apply kA_));exact BK359.out) NB359_362.out (by simp));have n1_:=aM_ (Kd.R_mono (Kd.R_keep (IsS65.apart (show IsS65 w _ g362 t360 t373 from by repeat (first|(with_reducible first|exact HI362.out|apply IsS65.alloc|apply IsS65.drewN|apply IsS65.drew|apply IsS65.set_1|refine IsS65.far ?_ NB362_359.out _|refine IsS65.far ?_ NB362_374.out _)|exact HI362.out)) (by (with_reducible repeat (first|apply rA_|apply rN_|apply rD_));exact (Kd.R_mono (Kd.R_far (Kd.R_far (Kd.R_far (Kd.R_far (Kd.R_far (Kd.R_far (Kd.R_types HO369.out BK374.out (by decide)) (fun _ hk=>hk.2) _) (fun _ hk=>hk.2) _) (fun _ hk=>hk.2) _) (fun _ hk=>hk.2) _) (fun _ hk=>hk.2) _) (fun _ hk=>hk.2) _) (fun _ h_=>h_.1))) (by decide)) hk (fun _ h=>h.2)) (fun _ h=>h.1));have n2_:=aM_ (Kd.Q_mono (Kd.Q_keep (IsS65.apartQ (show IsS65 w _ g362 t360 t373 from by repeat (first|(with_reducible first|exact HI362.out|apply IsS65.alloc|apply IsS65.drewN|apply IsS65.drew|apply IsS65.set_1|refine IsS65.far ?_ NB362_359.out _|refine IsS65.far ?_ NB362_374.out _)|exact HI362.out)) (by (with_reducible repeat (first|apply Kd.Q_alloc|apply Kd.Q_drewN|apply Kd.Q_drew));exact (Kd.Q_mono (Kd.Q_far (Kd.Q_far (Kd.Q_far (Kd.Q_far (Kd.Q_far (Kd.Q_far (Kd.Q_types HO372.out BK374.out (by decide)) (fun _ hk=>hk.2) _) (fun _ hk=>hk.2) _) (fun _ hk=>hk.2) _) (fun _ hk=>hk.2) _) (fun _ hk=>hk.2) _) (fun _ hk=>hk.2) _) (fun _ h_=>h_.1))) (by decide)) hk (fun _ h=>h.2)) (fun _ h=>h.1));have n3_:=aM_ (KeepBut.blk hk (g':=gb374) (o:=.cells #[.int .i64 t363,.int .i64 t364,.int .i64 t365,.int .i64 t366,.slice Ao19 t367.length co19,.slice Ao20 t370.length co20] 27 (0,0)) (by (with_reducible repeat (first|apply kN_|apply kD_|apply kA_));refine blk_put (cs:=#[.int .i64 t363,.int .i64 t364,.int .i64 t365,.int .i64 t366,.slice Ao19 t367.length co19,.slice none 0 0]) ?_ 5 _ rfl;(with_reducible repeat (first|apply kN_|apply kD_|apply kA_));refine blk_put (cs:=#[.int .i64 t363,.int .i64 t364,.int .i64 t365,.int .i64 t366,.slice none 0 0,.slice none 0 0]) ?_ 4 _ rfl;(with_reducible repeat (first|apply kN_|apply kD_|apply kA_));refine blk_put (cs:=#[.int .i64 t363,.int .i64 t364,.int .i64 t365,.int .i64 0,.slice none 0 0,.slice none 0 0]) ?_ 3 _ rfl;(with_reducible repeat (first|apply kN_|apply kD_|apply kA_));refine blk_put (cs:=#[.int .i64 t363,.int .i64 t364,.int .i64 0,.int .i64 0,.slice none 0 0,.slice none 0 0]) ?_ 2 _ rfl;(with_reducible repeat (first|apply kN_|apply kD_|apply kA_));refine blk_put (cs:=#[.int .i64 t363,.int .i64 0,.int .i64 0,.int .i64 0,.slice none 0 0,.slice none 0 0]) ?_ 1 _ rfl;(with_reducible repeat (first|apply kN_|apply kD_|apply kA_));refine blk_put (cs:=#[.int .i64 0,.int .i64 0,.int .i64 0,.int .i64 0,.slice none 0 0,.slice none 0 0]) ?_ 0 _ rfl;(with_reducible repeat (first|apply kN_|apply kD_|apply kA_));exact BK374.out) NB374_362.out (by simp));have n4_:=aM_ (hb);have n5_:=aM_ (hi);clear BK359;clear HO369;clear HO372;clear BK374;clear HB;clear HI362;have BK359:=n0_;have HO369:=n1_;have HO372:=n2_;have BK374:=n3_;have HB:=n4_;have HI362:=n5_;clear n0_ n1_ n2_ n3_ n4_ n5_;(try clear hb);(try clear hb2);(try clear hk);(try clear hi);obtain ⟨hcz22_0,hcz22_1,hcz22_2,hcz22_3,hcz22_4,hcz22_5⟩:=bc6 BK374.out;obtain ⟨hfz22_0,hfz22_1,hfz22_2,hfz22_3,hfz22_4,hfz22_5⟩:=bf6 BK374.out)|((with_reducible refine gate_callee (f:=69) rfl ?_);refine goesL_ (some 24) rfl rfl Try.func69 (by kernel_rfl) rfl #[.int .i64 t366] rfl (by (try simp only [List.map_toArray,List.map_cons,List.map_nil]);first|done|rfl|(simp only [List.length_drop,List.length_take];rfl)) ?_;(with_reducible refine (spec_l1Least.calls t366 t378 _ A6.out).mono ?_);rintro e w' ⟨rfl,⟨nd,rfl⟩⟩;refine ⟨_,rfl,?_⟩;(try (rw [drewN_self w21];generalize hq_:World.drewN w21 _=w21;have n0_:Aside0 (Kd.R (Kd.int .i64) 3 w21 w.heap.size (fun k_=>some k_≠(.slice Ao20 t370.length co20:Value).ownBlock) (.slice Ao19 t367.length co19) t367):=⟨by rw [← hq_];exact (by (with_reducible repeat (first|apply rA_|apply rN_|apply rD_));exact HO369.out)⟩;have n1_:Aside0 (Kd.Q (Kd.int .i64) 3 w21 w.heap.size (fun k_=>some k_≠(.slice Ao19 t367.length co19:Value).ownBlock) (.slice Ao20 t370.length co20) t370):=⟨by rw [← hq_];exact (by (with_reducible repeat (first|apply Kd.Q_alloc|apply Kd.Q_drewN|apply Kd.Q_drew));exact HO372.out)⟩;have n2_:Aside0 (w21.heap[gb359]?=some (.cells #[.int .i64 0,.int .i64 0,.int .i64 0,.int .i64 0,.slice none 0 0,.slice none 0 0] 27 (0,0))):=⟨by rw [← hq_];exact (by (with_reducible repeat (first|apply kN_|apply kD_|apply kA_));exact BK359.out)⟩;have n3_:Aside0 (w21.heap[gb374]?=some (.cells #[.int .i64 t363,.int .i64 t364,.int .i64 t365,.int .i64 t366,.slice Ao19 t367.length co19,.slice Ao20 t370.length co20] 27 (0,0))):=⟨by rw [← hq_];exact (by (with_reducible repeat (first|apply kN_|apply kD_|apply kA_));exact BK374.out)⟩;have n4_:Aside0 (IsS65 w w21 g362 t360 t377):=⟨by rw [← hq_];exact (by repeat (first|(with_reducible first|exact HI362.out|apply IsS65.alloc|apply IsS65.drewN|apply IsS65.drew|apply IsS65.set_1|refine IsS65.far ?_ NB362_359.out _|refine IsS65.far ?_ NB362_374.out _)|exact HI362.out))⟩;have n5_:Aside0 (Below w.heap.size w w21):=⟨by rw [← hq_];exact (by repeat (first|(with_reducible first|exact HB.out|apply wA_|apply wN_|apply wD_|refine below_set ?_ (IsS65.ge HI362.out)|refine below_set ?_ GE359.out|refine below_set ?_ GE374.out)|exact HB.out))⟩;clear HO369 HO372 BK359 BK374 HI362 HB hq_;have HO369:=n0_;have HO372:=n1_;have BK359:=n2_;have BK374:=n3_;have HI362:=n4_;have HB:=n5_;clear n0_ n1_ n2_ n3_ n4_ n5_)))|((with_reducible refine gate_callee (f:=68) rfl ?_);refine goesL_ (some 26) rfl rfl Try.func68 (by kernel_rfl) rfl #[.pointer (some ⟨g362,0,none⟩),.int .i64 (wrap64 (t378+1))] rfl (by (try simp only [List.map_toArray,List.map_cons,List.map_nil]);first|done|rfl|(simp only [List.length_drop,List.length_take];rfl)) ?_;(with_reducible refine (spec_l1Rd_pick.calls k g362 t360 t377 (wrap64 (t378+1)) t379 t380 w _ ?side1 ?side2 A7.out).mono ?_);(case side1=>repeat (first|(with_reducible first|exact HI362.out|apply IsS65.alloc|apply IsS65.drewN|apply IsS65.drew|apply IsS65.set_1|refine IsS65.far ?_ NB362_359.out _|refine IsS65.far ?_ NB362_374.out _)|exact HI362.out));(case side2=>repeat (first|(with_reducible first|exact HB.out|apply wA_|apply wN_|apply wD_|refine below_set ?_ (IsS65.ge HI362.out)|refine below_set ?_ GE359.out|refine below_set ?_ GE374.out)|exact HB.out));rintro e w23 ⟨rfl,hi,hb,hk⟩;refine ⟨_,rfl,?_⟩;have n0_:=aM_ (KeepBut.blk hk (g':=gb359) (o:=.cells #[.int .i64 0,.int .i64 0,.int .i64 0,.int .i64 0,.slice none 0 0,.slice none 0 0] 27 (0,0)) (by (with_reducible repeat (first|apply kN_|apply kD_|apply kA_));exact BK359.out) NB359_362.out (by simp));have n1_:=aM_ (Kd.R_mono (Kd.R_keep (IsS65.apart (show IsS65 w _ g362 t360 t377 from by repeat (first|(with_reducible first|exact HI362.out|apply IsS65.alloc|apply IsS65.drewN|apply IsS65.drew|apply IsS65.set_1|refine IsS65.far ?_ NB362_359.out _|refine IsS65.far ?_ NB362_374.out _)|exact HI362.out)) (by (with_reducible repeat (first|apply rA_|apply rN_|apply rD_));exact HO369.out) (by decide)) hk (fun _ h=>h.2)) (fun _ h=>h.1));have n2_:=aM_ (Kd.Q_mono (Kd.Q_keep (IsS65.apartQ (show IsS65 w _ g362 t360 t377 from by repeat (first|(with_reducible first|exact HI362.out|apply IsS65.alloc|apply IsS65.drewN|apply IsS65.drew|apply IsS65.set_1|refine IsS65.far ?_ NB362_359.out _|refine IsS65.far ?_ NB362_374.out _)|exact HI362.out)) (by (with_reducible repeat (first|apply Kd.Q_alloc|apply Kd.Q_drewN|apply Kd.Q_drew));exact HO372.out) (by decide)) hk (fun _ h=>h.2)) (fun _ h=>h.1));have n3_:=aM_ (KeepBut.blk hk (g':=gb374) (o:=.cells #[.int .i64 t363,.int .i64 t364,.int .i64 t365,.int .i64 t366,.slice Ao19 t367.length co19,.slice Ao20 t370.length co20] 27 (0,0)) (by (with_reducible repeat (first|apply kN_|apply kD_|apply kA_));exact BK374.out) NB374_362.out (by simp));have n4_:=aM_ (hb);have n5_:=aM_ (hi);clear BK359;clear HO369;clear HO372;clear BK374;clear HB;clear HI362;have BK359:=n0_;have HO369:=n1_;have HO372:=n2_;have BK374:=n3_;have HB:=n4_;have HI362:=n5_;clear n0_ n1_ n2_ n3_ n4_ n5_;(try clear hb);(try clear hb2);(try clear hk);(try clear hi)))
 have n0_:=aM_ (rD_ HO369.out)
 have n1_:=aM_ (Kd.Q_drew HO372.out)
 have n2_:=aM_ (kD_ BK359.out)
 have n3_:=aM_ (kD_ BK374.out)
 have n4_:=aM_ (IsS65.drew HI362.out)
 have n5_:=aM_ (wD_ HB.out)
 clear HO369
 clear HO372
 clear BK359
 clear BK374
 clear HI362
 clear HB
 have HO369:=n0_
 have HO372:=n1_
 have BK359:=n2_
 have BK374:=n3_
 have HI362:=n4_
 have HB:=n5_
 clear n0_ n1_ n2_ n3_ n4_ n5_
 refine start_ (n:=24) (S:=fun w'=>w'.cell? ⟨gb374,0,none⟩=some (.int .i64 t363)∧w'.cell? ⟨gb374,1,none⟩=some (.int .i64 t364)∧w'.cell? ⟨gb374,2,none⟩=some (.int .i64 t365)∧w'.cell? ⟨gb374,3,none⟩=some (.int .i64 t366)∧w'.cell? ⟨gb374,4,none⟩=some (.slice Ao19 t367.length co19)∧w'.cell? ⟨gb374,5,none⟩=some (.slice Ao20 t370.length co20)) (ds:=[]) #[false,false,false,false,false,false,false,false,false,false,false,false,false,false,false,false,false,false,false,false,false,false,false,false] (by kernel_rfl) rfl rfl (bc6 BK374.out) (fun hHeld=>?_);refine with_tabW spec_DrawImageCut.tab5 spec_DrawImageCut.bits5 (fun HT_ HW_=>?_)
 generalize w23.drew=w24 at HO369 HO372 BK359 BK374 HI362 HB hHeld ⊢
 refine pure_ (i:=1) (N:=some 28) (v:=?_) (a':=?_) #[false,true,false,false,false,false,false,false,false,false,false,false,false,false,false,false,false,false,false,false,false,false,false,false] rfl rfl (any_of HT_.out (by kernel_rfl)) (fun _ _ _ h=>h) (Or.inl ⟨by rfl,?_⟩) ?_ ?_
 rotate_left
 ·intro w'
  go_simp
  with_reducible rfl
 rotate_left
 ·simp only [Act.put,sA_,s0_,s1_,i64_w,i32_w]
  rfl
 refine pure_ (i:=2) (N:=some 29) (v:=?_) (a':=?_) #[false,true,true,false,false,false,false,false,false,false,false,false,false,false,false,false,false,false,false,false,false,false,false,false] rfl rfl (any_of HT_.out (by kernel_rfl)) (fun _ _ _ h=>h) (Or.inl ⟨by rfl,?_⟩) ?_ ?_
 rotate_left
 ·intro w'
  go_simp
  with_reducible rfl
 rotate_left
 ·simp only [Act.put,sA_,s0_,s1_,i64_w,i32_w]
  rfl
 refine pure_ (i:=3) (N:=some 30) (v:=?_) (a':=?_) #[false,true,true,true,false,false,false,false,false,false,false,false,false,false,false,false,false,false,false,false,false,false,false,false] rfl rfl (any_of HT_.out (by kernel_rfl)) (fun _ _ _ h=>h) (Or.inl ⟨by rfl,?_⟩) ?_ ?_
 rotate_left
 ·intro w'
  go_simp
  with_reducible rfl
 rotate_left
 ·simp only [Act.put,sA_,s0_,s1_,i64_w,i32_w]
  rfl
 refine pure_ (i:=4) (N:=some 31) (v:=?_) (a':=?_) #[false,true,true,true,true,false,false,false,false,false,false,false,false,false,false,false,false,false,false,false,false,false,false,false] rfl rfl (any_of HT_.out (by kernel_rfl)) (fun _ _ _ h=>h) (Or.inl ⟨by rfl,?_⟩) ?_ ?_
 rotate_left
 ·intro w'
  go_simp
  with_reducible rfl
 rotate_left
 ·simp only [Act.put,sA_,s0_,s1_,i64_w,i32_w]
  rfl
 refine pure_ (i:=7) (N:=some 34) (v:=?_) (a':=?_) #[false,true,true,true,true,false,false,true,false,false,false,false,false,false,false,false,false,false,false,false,false,false,false,false] rfl rfl (any_of HT_.out (by kernel_rfl)) (fun _ _ _ h=>h) (Or.inl ⟨by rfl,?_⟩) ?_ ?_
 rotate_left
 ·intro w'
  go_simp
  with_reducible rfl
 rotate_left
 ·simp only [Act.put,sA_,s0_,s1_,i64_w,i32_w]
  rfl
 refine pure_ (i:=11) (N:=some 38) (v:=?_) (a':=?_) #[false,true,true,true,true,false,false,true,false,false,false,true,false,false,false,false,false,false,false,false,false,false,false,false] rfl rfl (any_of HT_.out (by kernel_rfl)) (fun _ _ _ h=>h) (Or.inl ⟨by rfl,?_⟩) ?_ ?_
 rotate_left
 ·intro w'
  go_simp
  with_reducible rfl
 rotate_left
 ·simp only [Act.put,sA_,s0_,s1_,i64_w,i32_w]
  rfl
 refine pure_ (i:=12) (N:=some 39) (v:=?_) (a':=?_) #[false,true,true,true,true,false,false,true,false,false,false,true,true,false,false,false,false,false,false,false,false,false,false,false] rfl rfl (any_of HT_.out (by kernel_rfl)) (fun _ _ _ h=>h) (Or.inl ⟨by rfl,?_⟩) ?_ ?_
 rotate_left
 ·intro w'
  go_simp
  with_reducible rfl
 rotate_left
 ·simp only [Act.put,sA_,s0_,s1_,i64_w,i32_w]
  rfl
 refine pure_ (i:=15) (N:=some 42) (v:=?_) (a':=?_) #[false,true,true,true,true,false,false,true,false,false,false,true,true,false,false,true,false,false,false,false,false,false,false,false] rfl rfl (any_of HT_.out (by kernel_rfl)) (fun _ _ _ h=>h) (Or.inl ⟨by rfl,?_⟩) ?_ ?_
 rotate_left
 ·intro w'
  go_simp
  with_reducible rfl
 rotate_left
 ·simp only [Act.put,sA_,s0_,s1_,i64_w,i32_w]
  rfl
 refine take_ (i:=0) (N:=some 27) (v:=?_) (a':=?_) #[true,true,true,true,true,false,false,true,false,false,false,true,true,false,false,true,false,false,false,false,false,false,false,false] rfl rfl (take_ofW HT_.out HW_.out (by kernel_rfl)) (fun _ _ _ h=>h) (Or.inl ⟨by rfl,?_⟩) hHeld ?_ ?_
 rotate_left
 ·rintro w' ⟨s0,s1,s2,s3,s4,s5⟩
  go_simp
  with_reducible rfl
 rotate_left
 ·simp only [Act.put,sA_,s0_,s1_,i64_w,i32_w]
  rfl
 refine take_ (i:=5) (N:=some 32) (v:=?_) (a':=?_) #[true,true,true,true,true,true,false,true,false,false,false,true,true,false,false,true,false,false,false,false,false,false,false,false] rfl rfl (take_ofW HT_.out HW_.out (by kernel_rfl)) (fun _ _ _ h=>h) (Or.inl ⟨by rfl,?_⟩) hHeld ?_ ?_
 rotate_left
 ·rintro w' ⟨s0,s1,s2,s3,s4,s5⟩
  go_simp
  with_reducible rfl
 rotate_left
 ·simp only [Act.put,sA_,s0_,s1_,i64_w,i32_w]
  rfl
 refine take_ (i:=13) (N:=some 40) (v:=?_) (a':=?_) #[true,true,true,true,true,true,false,true,false,false,false,true,true,true,false,true,false,false,false,false,false,false,false,false] rfl rfl (take_ofW HT_.out HW_.out (by kernel_rfl)) (fun _ _ _ h=>h) (Or.inl ⟨by rfl,?_⟩) hHeld ?_ ?_
 rotate_left
 ·rintro w' ⟨s0,s1,s2,s3,s4,s5⟩
  go_simp
  with_reducible rfl
 rotate_left
 ·simp only [Act.put,sA_,s0_,s1_,i64_w,i32_w]
  rfl
 refine one_ (i:=6) (N:=some 33) #[true,true,true,true,true,true,true,true,false,false,false,true,true,true,false,true,false,false,false,false,false,false,false,false] rfl rfl (one_of HT_.out (by kernel_rfl)) (by decide) (fun K hK=>?_)
 refine goes_ Try.func69 (by kernel_rfl) rfl #[.int .i64 t365] (by rfl) rfl rfl (by (try simp only [List.map_toArray,List.map_cons,List.map_nil]);first|done|rfl|(simp only [List.length_drop,List.length_take];rfl)) ?_
 with_reducible refine (spec_l1Least.calls t365 t381 _ A8.out).mono ?_
 rintro e w' ⟨rfl,⟨nd,rfl⟩⟩
 refine ⟨_,rfl,?_⟩
 refine hK.out _ _ (bc6 BK374.out) (fun hHeld=>?_)
 clear hK K
 refine norm_ (a':=?_) ?_ ?_
 rotate_left
 ·show Act.put _ (some 33) _=_
  simp only [Act.put,sA_,s0_,s1_,i64_w,i32_w]
  rfl
 refine pure_ (i:=8) (N:=some 35) (v:=?_) (a':=?_) #[true,true,true,true,true,true,true,true,true,false,false,true,true,true,false,true,false,false,false,false,false,false,false,false] rfl rfl (any_of HT_.out (by kernel_rfl)) (fun _ _ _ h=>h) (Or.inl ⟨by rfl,?_⟩) ?_ ?_
 rotate_left
 ·intro w'
  go_simp
  with_reducible rfl
 rotate_left
 ·simp only [Act.put,sA_,s0_,s1_,i64_w,i32_w]
  rfl
 refine pure_ (i:=9) (N:=some 36) (v:=?_) (a':=?_) #[true,true,true,true,true,true,true,true,true,true,false,true,true,true,false,true,false,false,false,false,false,false,false,false] rfl rfl (any_of HT_.out (by kernel_rfl)) (fun _ _ _ h=>h) (Or.inl ⟨by rfl,?_⟩) ?_ ?_
 rotate_left
 ·intro w'
  go_simp
  with_reducible rfl
 rotate_left
 ·simp only [Act.put,sA_,s0_,s1_,i64_w,i32_w]
  rfl
 refine one_ (i:=10) (N:=some 37) #[true,true,true,true,true,true,true,true,true,true,true,true,true,true,false,true,false,false,false,false,false,false,false,false] rfl rfl (one_of HT_.out (by kernel_rfl)) (by decide) (fun K hK=>?_)
 refine goes_ Try.func68 (by kernel_rfl) rfl #[.pointer (some ⟨g362,0,none⟩),.int .i64 (wrap64 ((wrap64 (t381 - t376))+2))] (by rfl) rfl rfl (by (try simp only [List.map_toArray,List.map_cons,List.map_nil]);first|done|rfl|(simp only [List.length_drop,List.length_take];rfl)) ?_
 with_reducible refine (spec_l1Rd_pick.calls k g362 t360 t380 (wrap64 ((wrap64 (t381 - t376))+2)) t382 t383 w _ ?side1 ?side2 A9.out).mono ?_
 (case side1=>repeat (first|(with_reducible first|exact HI362.out|apply IsS65.alloc|apply IsS65.drewN|apply IsS65.drew|apply IsS65.set_1|refine IsS65.far ?_ NB362_359.out _|refine IsS65.far ?_ NB362_374.out _)|exact HI362.out))
 (case side2=>repeat (first|(with_reducible first|exact HB.out|apply wA_|apply wN_|apply wD_|refine below_set ?_ (IsS65.ge HI362.out)|refine below_set ?_ GE359.out|refine below_set ?_ GE374.out)|exact HB.out))
 rintro e w25 ⟨rfl,hi,hb,hk⟩
 refine ⟨_,rfl,?_⟩
 have n0_:=aM_ (KeepBut.blk hk (g':=gb359) (o:=.cells #[.int .i64 0,.int .i64 0,.int .i64 0,.int .i64 0,.slice none 0 0,.slice none 0 0] 27 (0,0)) (by (with_reducible repeat (first|apply kN_|apply kD_|apply kA_));exact BK359.out) NB359_362.out (by simp))
 have n1_:=aM_ (Kd.R_mono (Kd.R_keep (IsS65.apart (show IsS65 w _ g362 t360 t380 from by repeat (first|(with_reducible first|exact HI362.out|apply IsS65.alloc|apply IsS65.drewN|apply IsS65.drew|apply IsS65.set_1|refine IsS65.far ?_ NB362_359.out _|refine IsS65.far ?_ NB362_374.out _)|exact HI362.out)) (by (with_reducible repeat (first|apply rA_|apply rN_|apply rD_));exact HO369.out) (by decide)) hk (fun _ h=>h.2)) (fun _ h=>h.1))
 have n2_:=aM_ (Kd.Q_mono (Kd.Q_keep (IsS65.apartQ (show IsS65 w _ g362 t360 t380 from by repeat (first|(with_reducible first|exact HI362.out|apply IsS65.alloc|apply IsS65.drewN|apply IsS65.drew|apply IsS65.set_1|refine IsS65.far ?_ NB362_359.out _|refine IsS65.far ?_ NB362_374.out _)|exact HI362.out)) (by (with_reducible repeat (first|apply Kd.Q_alloc|apply Kd.Q_drewN|apply Kd.Q_drew));exact HO372.out) (by decide)) hk (fun _ h=>h.2)) (fun _ h=>h.1))
 have n3_:=aM_ (KeepBut.blk hk (g':=gb374) (o:=.cells #[.int .i64 t363,.int .i64 t364,.int .i64 t365,.int .i64 t366,.slice Ao19 t367.length co19,.slice Ao20 t370.length co20] 27 (0,0)) (by (with_reducible repeat (first|apply kN_|apply kD_|apply kA_));exact BK374.out) NB374_362.out (by simp))
 have n4_:=aM_ (hb)
 have n5_:=aM_ (hi)
 clear BK359
 clear HO369
 clear HO372
 clear BK374
 clear HB
 clear HI362
 have BK359:=n0_
 have HO369:=n1_
 have HO372:=n2_
 have BK374:=n3_
 have HB:=n4_
 have HI362:=n5_
 clear n0_ n1_ n2_ n3_ n4_ n5_
 (try clear hb)
 (try clear hb2)
 (try clear hk)
 (try clear hi)
 refine hK.out _ _ (bc6 BK374.out) (fun hHeld=>?_)
 clear hK K
 refine norm_ (a':=?_) ?_ ?_
 rotate_left
 ·show Act.put _ (some 37) _=_
  simp only [Act.put,sA_,s0_,s1_,i64_w,i32_w]
  rfl
 refine one_ (i:=14) (N:=some 41) #[true,true,true,true,true,true,true,true,true,true,true,true,true,true,true,true,false,false,false,false,false,false,false,false] rfl rfl (one_of HT_.out (by kernel_rfl)) (by decide) (fun K hK=>?_)
 refine goes_ Try.func69 (by kernel_rfl) rfl #[.int .i64 t366] (by rfl) rfl rfl (by (try simp only [List.map_toArray,List.map_cons,List.map_nil]);first|done|rfl|(simp only [List.length_drop,List.length_take];rfl)) ?_
 with_reducible refine (spec_l1Least.calls t366 t384 _ A10.out).mono ?_
 rintro e w' ⟨rfl,⟨nd,rfl⟩⟩
 refine ⟨_,rfl,?_⟩
 refine hK.out _ _ (bc6 BK374.out) (fun hHeld=>?_)
 clear hK K
 refine norm_ (a':=?_) ?_ ?_
 rotate_left
 ·show Act.put _ (some 41) _=_
  simp only [Act.put,sA_,s0_,s1_,i64_w,i32_w]
  rfl
 refine pure_ (i:=16) (N:=some 43) (v:=?_) (a':=?_) #[true,true,true,true,true,true,true,true,true,true,true,true,true,true,true,true,true,false,false,false,false,false,false,false] rfl rfl (any_of HT_.out (by kernel_rfl)) (fun _ _ _ h=>h) (Or.inl ⟨by rfl,?_⟩) ?_ ?_
 rotate_left
 ·intro w'
  go_simp
  with_reducible rfl
 rotate_left
 ·simp only [Act.put,sA_,s0_,s1_,i64_w,i32_w]
  rfl
 refine pure_ (i:=17) (N:=some 44) (v:=?_) (a':=?_) #[true,true,true,true,true,true,true,true,true,true,true,true,true,true,true,true,true,true,false,false,false,false,false,false] rfl rfl (any_of HT_.out (by kernel_rfl)) (fun _ _ _ h=>h) (Or.inl ⟨by rfl,?_⟩) ?_ ?_
 rotate_left
 ·intro w'
  go_simp
  with_reducible rfl
 rotate_left
 ·simp only [Act.put,sA_,s0_,s1_,i64_w,i32_w]
  rfl
 refine one_ (i:=18) (N:=some 45) #[true,true,true,true,true,true,true,true,true,true,true,true,true,true,true,true,true,true,true,false,false,false,false,false] rfl rfl (one_of HT_.out (by kernel_rfl)) (by decide) (fun K hK=>?_)
 refine goes_ Try.func68 (by kernel_rfl) rfl #[.pointer (some ⟨g362,0,none⟩),.int .i64 (wrap64 ((wrap64 (t384 - t379))+2))] (by rfl) rfl rfl (by (try simp only [List.map_toArray,List.map_cons,List.map_nil]);first|done|rfl|(simp only [List.length_drop,List.length_take];rfl)) ?_
 with_reducible refine (spec_l1Rd_pick.calls k g362 t360 t383 (wrap64 ((wrap64 (t384 - t379))+2)) t385 t386 w _ ?side1 ?side2 A11.out).mono ?_
 (case side1=>repeat (first|(with_reducible first|exact HI362.out|apply IsS65.alloc|apply IsS65.drewN|apply IsS65.drew|apply IsS65.set_1|refine IsS65.far ?_ NB362_359.out _|refine IsS65.far ?_ NB362_374.out _)|exact HI362.out))
 (case side2=>repeat (first|(with_reducible first|exact HB.out|apply wA_|apply wN_|apply wD_|refine below_set ?_ (IsS65.ge HI362.out)|refine below_set ?_ GE359.out|refine below_set ?_ GE374.out)|exact HB.out))
 rintro e w26 ⟨rfl,hi,hb,hk⟩
 refine ⟨_,rfl,?_⟩
 have n0_:=aM_ (KeepBut.blk hk (g':=gb359) (o:=.cells #[.int .i64 0,.int .i64 0,.int .i64 0,.int .i64 0,.slice none 0 0,.slice none 0 0] 27 (0,0)) (by (with_reducible repeat (first|apply kN_|apply kD_|apply kA_));exact BK359.out) NB359_362.out (by simp))
 have n1_:=aM_ (Kd.R_mono (Kd.R_keep (IsS65.apart (show IsS65 w _ g362 t360 t383 from by repeat (first|(with_reducible first|exact HI362.out|apply IsS65.alloc|apply IsS65.drewN|apply IsS65.drew|apply IsS65.set_1|refine IsS65.far ?_ NB362_359.out _|refine IsS65.far ?_ NB362_374.out _)|exact HI362.out)) (by (with_reducible repeat (first|apply rA_|apply rN_|apply rD_));exact HO369.out) (by decide)) hk (fun _ h=>h.2)) (fun _ h=>h.1))
 have n2_:=aM_ (Kd.Q_mono (Kd.Q_keep (IsS65.apartQ (show IsS65 w _ g362 t360 t383 from by repeat (first|(with_reducible first|exact HI362.out|apply IsS65.alloc|apply IsS65.drewN|apply IsS65.drew|apply IsS65.set_1|refine IsS65.far ?_ NB362_359.out _|refine IsS65.far ?_ NB362_374.out _)|exact HI362.out)) (by (with_reducible repeat (first|apply Kd.Q_alloc|apply Kd.Q_drewN|apply Kd.Q_drew));exact HO372.out) (by decide)) hk (fun _ h=>h.2)) (fun _ h=>h.1))
 have n3_:=aM_ (KeepBut.blk hk (g':=gb374) (o:=.cells #[.int .i64 t363,.int .i64 t364,.int .i64 t365,.int .i64 t366,.slice Ao19 t367.length co19,.slice Ao20 t370.length co20] 27 (0,0)) (by (with_reducible repeat (first|apply kN_|apply kD_|apply kA_));exact BK374.out) NB374_362.out (by simp))
 have n4_:=aM_ (hb)
 have n5_:=aM_ (hi)
 clear BK359
 clear HO369
 clear HO372
 clear BK374
 clear HB
 clear HI362
 have BK359:=n0_
 have HO369:=n1_
 have HO372:=n2_
 have BK374:=n3_
 have HB:=n4_
 have HI362:=n5_
 clear n0_ n1_ n2_ n3_ n4_ n5_
 (try clear hb)
 (try clear hb2)
 (try clear hk)
 (try clear hi)
 refine hK.out _ _ (bc6 BK374.out) (fun hHeld=>?_)
 clear hK K
 refine norm_ (a':=?_) ?_ ?_
 rotate_left
 ·show Act.put _ (some 45) _=_
  simp only [Act.put,sA_,s0_,s1_,i64_w,i32_w]
  rfl
 refine one_ (i:=19) (N:=none) #[true,true,true,true,true,true,true,true,true,true,true,true,true,true,true,true,true,true,true,true,false,false,false,false] rfl rfl (one_of HT_.out (by kernel_rfl)) (by decide) (fun K hK=>?_)
 have hs27:w26.cell? ⟨gb359,0,none⟩=some (.int .i64 0):=(blk_cell BK359.out 0).trans rfl
 have hfs27:=blk_frozen BK359.out 0
 have hns27_1:=NB374_359.out
 have hms27_1:=NB359_374.out
 have hs28:w26.cell? ⟨gb359,1,none⟩=some (.int .i64 0):=(blk_cell BK359.out 1).trans rfl
 have hfs28:=blk_frozen BK359.out 1
 have hns28_1:=NB374_359.out
 have hms28_1:=NB359_374.out
 have hs29:w26.cell? ⟨gb359,2,none⟩=some (.int .i64 0):=(blk_cell BK359.out 2).trans rfl
 have hfs29:=blk_frozen BK359.out 2
 have hns29_1:=NB374_359.out
 have hms29_1:=NB359_374.out
 have hs30:w26.cell? ⟨gb359,3,none⟩=some (.int .i64 0):=(blk_cell BK359.out 3).trans rfl
 have hfs30:=blk_frozen BK359.out 3
 have hns30_1:=NB374_359.out
 have hms30_1:=NB359_374.out
 have hs31:w26.cell? ⟨gb359,4,none⟩=some (.slice none 0 0):=(blk_cell BK359.out 4).trans rfl
 have hfs31:=blk_frozen BK359.out 4
 have hns31_1:=NB374_359.out
 have hms31_1:=NB359_374.out
 have hs32:w26.cell? ⟨gb359,5,none⟩=some (.slice none 0 0):=(blk_cell BK359.out 5).trans rfl
 have hfs32:=blk_frozen BK359.out 5
 have hns32_1:=NB374_359.out
 have hms32_1:=NB359_374.out
 refine skip_ (w1:=?_) (by rfl) rfl ?_ ?_
 rotate_left
 ·go_simp
  rfl
 refine hK.out _ _ ⟨((cell_far (p:=⟨gb359,_,none⟩) NB374_359.out _).trans (((cell_far (p:=⟨gb359,_,none⟩) NB374_359.out _).trans (((cell_far (p:=⟨gb359,_,none⟩) NB374_359.out _).trans (((cell_far (p:=⟨gb359,_,none⟩) NB374_359.out _).trans (((cell_far (p:=⟨gb359,_,none⟩) NB374_359.out _).trans (((cell_far (p:=⟨gb359,_,none⟩) NB374_359.out _).trans (hHeld.1)))))))))))),((cell_far (p:=⟨gb359,_,none⟩) NB374_359.out _).trans (((cell_far (p:=⟨gb359,_,none⟩) NB374_359.out _).trans (((cell_far (p:=⟨gb359,_,none⟩) NB374_359.out _).trans (((cell_far (p:=⟨gb359,_,none⟩) NB374_359.out _).trans (((cell_far (p:=⟨gb359,_,none⟩) NB374_359.out _).trans (((cell_far (p:=⟨gb359,_,none⟩) NB374_359.out _).trans (hHeld.2.1)))))))))))),((cell_far (p:=⟨gb359,_,none⟩) NB374_359.out _).trans (((cell_far (p:=⟨gb359,_,none⟩) NB374_359.out _).trans (((cell_far (p:=⟨gb359,_,none⟩) NB374_359.out _).trans (((cell_far (p:=⟨gb359,_,none⟩) NB374_359.out _).trans (((cell_far (p:=⟨gb359,_,none⟩) NB374_359.out _).trans (((cell_far (p:=⟨gb359,_,none⟩) NB374_359.out _).trans (hHeld.2.2.1)))))))))))),((cell_far (p:=⟨gb359,_,none⟩) NB374_359.out _).trans (((cell_far (p:=⟨gb359,_,none⟩) NB374_359.out _).trans (((cell_far (p:=⟨gb359,_,none⟩) NB374_359.out _).trans (((cell_far (p:=⟨gb359,_,none⟩) NB374_359.out _).trans (((cell_far (p:=⟨gb359,_,none⟩) NB374_359.out _).trans (((cell_far (p:=⟨gb359,_,none⟩) NB374_359.out _).trans (hHeld.2.2.2.1)))))))))))),((cell_far (p:=⟨gb359,_,none⟩) NB374_359.out _).trans (((cell_far (p:=⟨gb359,_,none⟩) NB374_359.out _).trans (((cell_far (p:=⟨gb359,_,none⟩) NB374_359.out _).trans (((cell_far (p:=⟨gb359,_,none⟩) NB374_359.out _).trans (((cell_far (p:=⟨gb359,_,none⟩) NB374_359.out _).trans (((cell_far (p:=⟨gb359,_,none⟩) NB374_359.out _).trans (hHeld.2.2.2.2.1)))))))))))),((cell_far (p:=⟨gb359,_,none⟩) NB374_359.out _).trans (((cell_far (p:=⟨gb359,_,none⟩) NB374_359.out _).trans (((cell_far (p:=⟨gb359,_,none⟩) NB374_359.out _).trans (((cell_far (p:=⟨gb359,_,none⟩) NB374_359.out _).trans (((cell_far (p:=⟨gb359,_,none⟩) NB374_359.out _).trans (((cell_far (p:=⟨gb359,_,none⟩) NB374_359.out _).trans (hHeld.2.2.2.2.2))))))))))))⟩ (fun hHeld=>?_)
 clear hK K
 refine pure_ (i:=20) (N:=some 3) (v:=?_) (a':=?_) #[true,true,true,true,true,true,true,true,true,true,true,true,true,true,true,true,true,true,true,true,true,false,false,false] rfl rfl (any_of HT_.out (by kernel_rfl)) (fun _ _ _ h=>h) (Or.inl ⟨by rfl,?_⟩) ?_ ?_
 rotate_left
 ·intro w'
  go_simp
  with_reducible rfl
 rotate_left
 ·simp only [Act.put,sA_,s0_,s1_,i64_w,i32_w]
  rfl
 refine pure_ (i:=21) (N:=some 4) (v:=?_) (a':=?_) #[true,true,true,true,true,true,true,true,true,true,true,true,true,true,true,true,true,true,true,true,true,true,false,false] rfl rfl (any_of HT_.out (by kernel_rfl)) (fun _ _ _ h=>h) (Or.inl ⟨by rfl,?_⟩) ?_ ?_
 rotate_left
 ·intro w'
  go_simp
  with_reducible rfl
 rotate_left
 ·simp only [Act.put,sA_,s0_,s1_,i64_w,i32_w]
  rfl
 refine pure_ (i:=22) (N:=some 5) (v:=?_) (a':=?_) #[true,true,true,true,true,true,true,true,true,true,true,true,true,true,true,true,true,true,true,true,true,true,true,false] rfl rfl (any_of HT_.out (by kernel_rfl)) (fun _ _ _ h=>h) (Or.inl ⟨by rfl,?_⟩) ?_ ?_
 rotate_left
 ·intro w'
  go_simp
  with_reducible rfl
 rotate_left
 ·simp only [Act.put,sA_,s0_,s1_,i64_w,i32_w]
  rfl
 refine pure_ (i:=23) (N:=some 6) (v:=?_) (a':=?_) #[true,true,true,true,true,true,true,true,true,true,true,true,true,true,true,true,true,true,true,true,true,true,true,true] rfl rfl (any_of HT_.out (by kernel_rfl)) (fun _ _ _ h=>h) (Or.inl ⟨by rfl,?_⟩) ?_ ?_
 rotate_left
 ·intro w'
  go_simp
  with_reducible rfl
 rotate_left
 ·simp only [Act.put,sA_,s0_,s1_,i64_w,i32_w]
  rfl
 refine done_ (done_of HT_.out (by kernel_rfl)) ?_
 try go_wp2
 refine bodyPost_ret (results_list (rs:=[.cell 2 27,.tmp 3,.tmp 4,.tmp 5,.tmp 6]) rfl (by simp) (.cell gb359 27 #[.int .i64 t363,.int .i64 t364,.int .i64 t365,.int .i64 t366,.slice Ao19 t367.length co19,.slice Ao20 t370.length co20] (0,0) _ rfl (by (with_reducible repeat (first|apply kN_|apply kD_|apply kA_));refine blk_put (cs:=#[.int .i64 t363,.int .i64 t364,.int .i64 t365,.int .i64 t366,.slice Ao19 t367.length co19,.slice none 0 0]) ?_ 5 _ rfl;(with_reducible repeat (first|apply kN_|apply kD_|apply kA_));refine blk_put (cs:=#[.int .i64 t363,.int .i64 t364,.int .i64 t365,.int .i64 t366,.slice none 0 0,.slice none 0 0]) ?_ 4 _ rfl;(with_reducible repeat (first|apply kN_|apply kD_|apply kA_));refine blk_put (cs:=#[.int .i64 t363,.int .i64 t364,.int .i64 t365,.int .i64 0,.slice none 0 0,.slice none 0 0]) ?_ 3 _ rfl;(with_reducible repeat (first|apply kN_|apply kD_|apply kA_));refine blk_put (cs:=#[.int .i64 t363,.int .i64 t364,.int .i64 0,.int .i64 0,.slice none 0 0,.slice none 0 0]) ?_ 2 _ rfl;(with_reducible repeat (first|apply kN_|apply kD_|apply kA_));refine blk_put (cs:=#[.int .i64 t363,.int .i64 0,.int .i64 0,.int .i64 0,.slice none 0 0,.slice none 0 0]) ?_ 1 _ rfl;(with_reducible repeat (first|apply kN_|apply kD_|apply kA_));refine blk_put (cs:=#[.int .i64 0,.int .i64 0,.int .i64 0,.int .i64 0,.slice none 0 0,.slice none 0 0]) ?_ 0 _ rfl;(with_reducible repeat (first|apply kN_|apply kD_|apply kA_));exact BK359.out) Try.underlying27 rfl (by kernel_rfl) (.tmp (.tmp (.tmp (.tmp .nil)))))) rfl ?_
 exact ⟨_,_,by first|rfl|(simp [errW_none,errW_some] <;> rfl)|(simp [*,errW_none,errW_some] <;> rfl),by (with_reducible repeat (first|apply rA_|apply rN_|apply rD_));exact Kd.R_mono (Kd.R_far (Kd.R_far (Kd.R_far (Kd.R_far (Kd.R_far (Kd.R_far (Kd.R_types HO369.out BK359.out (by decide)) (fun _ hk=>hk.2) _) (fun _ hk=>hk.2) _) (fun _ hk=>hk.2) _) (fun _ hk=>hk.2) _) (fun _ hk=>hk.2) _) (fun _ hk=>hk.2) _) (fun _ hk=>hk.1),by (with_reducible repeat (first|apply Kd.Q_alloc|apply Kd.Q_drewN|apply Kd.Q_drew));exact Kd.Q_mono (Kd.Q_far (Kd.Q_far (Kd.Q_far (Kd.Q_far (Kd.Q_far (Kd.Q_far (Kd.Q_types HO372.out BK359.out (by decide)) (fun _ hk=>hk.2) _) (fun _ hk=>hk.2) _) (fun _ hk=>hk.2) _) (fun _ hk=>hk.2) _) (fun _ hk=>hk.2) _) (fun _ hk=>hk.2) _) (fun _ hk=>hk.1),by repeat (first|(with_reducible first|exact HB.out|apply wA_|apply wN_|apply wD_|refine below_set ?_ (IsS65.ge HI362.out)|refine below_set ?_ GE359.out|refine below_set ?_ GE374.out)|exact HB.out)⟩

end Go.Proofs.Ytkjfefiphdloiaa.PFnImageCut
