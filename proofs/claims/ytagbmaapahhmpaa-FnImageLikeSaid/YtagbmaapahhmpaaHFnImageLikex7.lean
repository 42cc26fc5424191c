/- What the functions that the law comes to compute, as plain functions, and that the machine's calls come to just that: written by a program for this claim, and turned where Lean did not take it. No condition. -/
import Derived.Test.YtagbmaapahhmpaaHFnImageLikex0
import Derived.Test.YtagbmaapahhmpaaHFnImageLikex6
namespace Go.Proofs.Ytagbmaapahhmpaa.PFnImageLike
open Go.RowKit Go.Proofs.YtagbmaapahhmpaaW.PrintWords Go.Proofs.YtagbmaapahhmpaaW.PrintLast Go.Proofs.YtagbmaapahhmpaaW.PrintMore
attribute [local go_sem] max2_int min2_int max_two min_two max_three min_three max_four min_four   -- for this text's walks alone
set_option linter.unusedVariables false
set_option linter.unusedSimpArgs false

/-! ### spec_ImageRgb: function 20 -/
def spec_ImageRgb.l0:Nat → Int → Int → Int → Int → Int → List Int → List Int → Int → Int → Int → Int → List Int → Option (Int × Int × Int × Int × List Int × List Int × Bool)
 | 0,_,_,_,_,_,_,_,_,_,_,_,_=>none
 | k+1,x5,x143000,x143001,x143002,x143003,x143004,x143005,x146000,x146001,x146002,x146003,x146005=>if x5 < (x143005.length:Int) then (if 0≤x5 then ((spec_l8Color.f k x143000 x143001 x143002 x143003 x143004 x143005 (rd x143005 x5)).bind fun t147=>(if (Int.tmod t147 256)=255 then (if x146005.length < 17592186044416 then (spec_ImageRgb.l0 k (wrap64 (x5+1)) x143000 x143001 x143002 x143003 x143004 x143005 x146000 x146001 x146002 x146003 (x146005 ++ [wrap64 (Int.tdiv t147 256)])) else (none)) else (some (0,0,0,0,([]:List Int),([]:List Int),false)))) else (none)) else (some (x146000,x146001,x146002,x146003,([]:List Int),x146005,true))
def spec_ImageRgb.f (k:Nat) (a0_0:Int) (a0_1:Int) (a0_2:Int) (a0_3:Int) (l0_4:List Int) (l0_5:List Int):Option (Int × Int × Int × Int × List Int × List Int × Bool):=(spec_ImageOk.f k a0_0 a0_1 a0_2 a0_3 l0_4 l0_5).bind fun t144=>(if t144=true then (spec_ImageRgb.l0 k 0 a0_0 a0_1 a0_2 a0_3 l0_4 l0_5 2 24 a0_2 a0_3 ([]:List Int)) else (some (0,0,0,0,([]:List Int),([]:List Int),false)))
theorem spec_ImageRgb.mono_l:∀ k,(∀ y0 y1 y2 y3 y4 y5 y6 y7 y8 y9 y10 y11,LeO (spec_ImageRgb.l0 k y0 y1 y2 y3 y4 y5 y6 y7 y8 y9 y10 y11) (spec_ImageRgb.l0 (k+1) y0 y1 y2 y3 y4 y5 y6 y7 y8 y9 y10 y11))
 | 0=>fun _ _ _ _ _ _ _ _ _ _ _ _ r h=>by simp [spec_ImageRgb.l0] at h
 | k+1=>by
  have ih0:=spec_ImageRgb.mono_l k
  ·intro y0 y1 y2 y3 y4 y5 y6 y7 y8 y9 y10 y11
   unfold spec_ImageRgb.l0
   repeat' first
   | (with_reducible exact ih0 _ _ _ _ _ _ _ _ _ _ _ _)
   | (with_reducible exact spec_ImageOk.mono _ _ _ _ _ _ _)
   | (with_reducible exact spec_l8Color.mono _ _ _ _ _ _ _ _)
   | (with_reducible exact LeO.refl _)
   | (with_reducible exact LeO.none _)
   | (with_reducible refine LeO.ite ?_ ?_)
   | (with_reducible refine LeO.bind ?_ (fun _=>?_))
theorem spec_ImageRgb.mono:∀ a0 a1 a2 a3 a4 a5 k,LeO (spec_ImageRgb.f k a0 a1 a2 a3 a4 a5) (spec_ImageRgb.f (k+1) a0 a1 a2 a3 a4 a5):=by
 intro a0 a1 a2 a3 a4 a5 k;have ih0:=spec_ImageRgb.mono_l k
 unfold spec_ImageRgb.f
 repeat' first
   | (with_reducible exact ih0 _ _ _ _ _ _ _ _ _ _ _ _)
   | (with_reducible exact spec_ImageOk.mono _ _ _ _ _ _ _)
   | (with_reducible exact spec_l8Color.mono _ _ _ _ _ _ _ _)
   | (with_reducible exact LeO.refl _)
   | (with_reducible exact LeO.none _)
   | (with_reducible refine LeO.ite ?_ ?_)
   | (with_reducible refine LeO.bind ?_ (fun _=>?_))
def spec_ImageRgb.T7:Bool × List (List Nat × List Nat):=(true,[([],[]),([],[]),([1],[1]),([],[]),([2,3],[2,3]),([4],[4]),([0,5],[0,5]),([6,6,0,1,2,3,4,5,6],[6])])
def spec_ImageRgb.B7:List Nat:=[0,0,2,0,14,30,63,127]
theorem spec_ImageRgb.tab7:rtab .any (opsOf Try.f20 7)=spec_ImageRgb.T7:=by kernel_rfl
theorem spec_ImageRgb.bits7:waitsOk spec_ImageRgb.T7.2 spec_ImageRgb.B7=true:=by kernel_rfl
set_option maxHeartbeats 8000000 in
set_option maxRecDepth 100000 in
theorem spec_ImageRgb.calls (k:Nat) (a0_0:Int) (a0_1:Int) (a0_2:Int) (a0_3:Int) (A0_4:Option Addr) (c0_4:Nat) (l0_4:List Int) (A0_5:Option Addr) (c0_5:Nat) (l0_5:List Int) (r1:Int) (r2:Int) (r3:Int) (r4:Int) (r5:List Int) (r6:List Int) (r7:Bool) (w:World) (hr0_4:Kd.C (Kd.int .i64) w A0_4 l0_4.length l0_4) (hc0_4:l0_4.length≤c0_4) (hr0_5:Kd.C (Kd.int .i64) w A0_5 l0_5.length l0_5) (hc0_5:l0_5.length≤c0_5) (h:spec_ImageRgb.f k a0_0 a0_1 a0_2 a0_3 l0_4 l0_5=some (r1,r2,r3,r4,r5,r6,r7)) :
  Calls Try.prog 20 #[.agg #[.int .i64 a0_0,.int .i64 a0_1,.int .i64 a0_2,.int .i64 a0_3,.slice A0_4 l0_4.length c0_4,.slice A0_5 l0_5.length c0_5]] w fun e w'=>∃ v4_ v5_:Value,e=.returned (.tuple #[.agg #[.int .i64 r1,.int .i64 r2,.int .i64 r3,.int .i64 r4,v4_,v5_],.bool r7])∧Kd.R (Kd.int .i64) 3 w' w.heap.size (fun k_=>some k_≠(v5_:Value).ownBlock) v4_ r5∧Kd.R (Kd.int .i64) 3 w' w.heap.size (fun k_=>some k_≠(v4_:Value).ownBlock) v5_ r6∧Below w.heap.size w w':=by
 have hu25:=Try.underlying25;have HR0_4:=aM_ hr0_4;have HC0_4:=aM_ hc0_4;clear hr0_4 hc0_4;have HR0_5:=aM_ hr0_5;have HC0_5:=aM_ hc0_5;clear hr0_5 hc0_5;have HB:=aM_ (Below.refl w.heap.size w);have H:((spec_ImageOk.f k a0_0 a0_1 a0_2 a0_3 l0_4 l0_5).bind fun t144=>(if t144=true then (spec_ImageRgb.l0 k 0 a0_0 a0_1 a0_2 a0_3 l0_4 l0_5 2 24 a0_2 a0_3 ([]:List Int)) else (some (0,0,0,0,([]:List Int),([]:List Int),false))))=some (r1,r2,r3,r4,r5,r6,r7):=h;clear h;replace H:=Option.bind_eq_some_iff.mp H;obtain ⟨t144,A20,H⟩:=H;(try dsimp only at H);have A2:=aM_ A20;clear A20
 by_cases c3:t144=true
 ·subst c3
  have H1:(spec_ImageRgb.l0 k 0 a0_0 a0_1 a0_2 a0_3 l0_4 l0_5 2 24 a0_2 a0_3 ([]:List Int))=some (r1,r2,r3,r4,r5,r6,r7):=by first|(rw [if_pos rfl] at H;exact H)|rfl
  clear H;have H:=H1;clear H1;have H':=aM_ H;clear H
  go_enter Try.func20,Try.ntmps20
  go_wp2_with (first|((with_reducible refine gate_dst (N:=1) rfl ?_);refine bE_ 1 #[.int .i64 a0_0,.int .i64 a0_1,.int .i64 a0_2,.int .i64 a0_3,.slice A0_4 l0_4.length c0_4,.slice A0_5 l0_5.length c0_5] 25 ?_;intro gb142 hg w4 hbox hb;have BK142:=aM_ (hbox);have GW142:=aM_ ((by rw [hg];exact (below_size (hb_ HB)):w.heap.size≤gb142));have GE142:=GW142;replace HB:=aM_ (below_step (hb_ HB) hb);clear hb hbox hg)|((with_reducible refine gate_dst (N:=2) rfl ?_);refine bE_ 2 #[.int .i64 0,.int .i64 0,.int .i64 0,.int .i64 0,.slice none 0 0,.slice none 0 0] 25 ?_;intro gb143 hg w5 hbox hb;have BK143:=aM_ (hbox);have GW143:=aM_ ((by rw [hg];exact (below_size (hs_ HB GE142.out)):w.heap.size≤gb143));have GE143:=GW143;replace HB:=aM_ (below_step (hs_ HB GE142.out) hb);have NB142_143:=aM_ ((by rw [hg];exact Nat.ne_of_lt (blk_lt (g:=gb142) (bk_ BK142)):gb142≠gb143));replace BK142:=bW_ BK142 hb;have NB143_142:=aM_ NB142_143.out.symm;clear hb hbox hg;have hnb6:=NB142_143.out;have hnc6:=NB143_142.out;obtain ⟨z7_0,z7_1,z7_2,z7_3,z7_4,z7_5⟩:=bc6 BK142.out;obtain ⟨y7_0,y7_1,y7_2,y7_3,y7_4,y7_5⟩:=bf6 BK142.out)|((with_reducible refine gate_callee (f:=14) rfl ?_);refine goesL_ (some 8) rfl rfl Try.func14 (by kernel_rfl) rfl #[.agg #[.int .i64 a0_0,.int .i64 a0_1,.int .i64 a0_2,.int .i64 a0_3,.slice A0_4 l0_4.length c0_4,.slice A0_5 l0_5.length c0_5]] rfl am_ ?_;(with_reducible refine (spec_ImageOk.calls k a0_0 a0_1 a0_2 a0_3 _ _ l0_4 _ _ l0_5 true _ ?side1 ?side2 ?side3 ?side4 A2.out).mono ?_);(case side1=>exact co_ (Kd.C_below HR0_4.out HB.out));(case side2=>exact HC0_4.out);(case side3=>exact co_ (Kd.C_below HR0_5.out HB.out));(case side4=>exact HC0_5.out);rintro e w8 ⟨rfl,hb⟩;refine ⟨_,rfl,?_⟩;replace BK142:=bW_ BK142 hb;replace BK143:=bW_ BK143 hb;replace HB:=aM_ (below_step (ht_ HB GE142.out GE143.out) hb);(try clear hb);obtain ⟨z9_0,z9_1,z9_2,z9_3,z9_4,z9_5⟩:=bc6 BK142.out;obtain ⟨y9_0,y9_1,y9_2,y9_3,y9_4,y9_5⟩:=bf6 BK142.out)|((with_reducible refine gate_dst (N:=4) rfl ?_);refine bE_ 4 #[.int .i64 0,.int .i64 0,.int .i64 0,.int .i64 0,.slice none 0 0,.slice none 0 0] 25 ?_;intro gb145 hg w10 hbox hb;have BK145:=aM_ (hbox);have GW145:=aM_ ((by rw [hg];exact (below_size (ht_ HB GE142.out GE143.out)):w.heap.size≤gb145));have GE145:=GW145;replace HB:=aM_ (below_step (ht_ HB GE142.out GE143.out) hb);have NB142_145:=aM_ ((by rw [hg];exact Nat.ne_of_lt (blk_lt (g:=gb142) (bk_ BK142)):gb142≠gb145));replace BK142:=bW_ BK142 hb;have NB145_142:=aM_ NB142_145.out.symm;have NB143_145:=aM_ ((by rw [hg];exact Nat.ne_of_lt (blk_lt (g:=gb143) (bk_ BK143)):gb143≠gb145));replace BK143:=bW_ BK143 hb;have NB145_143:=aM_ NB143_145.out.symm;clear hb hbox hg;have hnb11:=NB145_142.out;have hnc11:=NB142_145.out;have hnb12:=NB145_143.out;have hnc12:=NB143_145.out;obtain ⟨z13_0,z13_1,z13_2,z13_3,z13_4,z13_5⟩:=bc6 BK145.out;obtain ⟨y13_0,y13_1,y13_2,y13_3,y13_4,y13_5⟩:=bf6 BK145.out))
  go_loopg [5] k (fun kq v5 w'=>∃ (x5_1:Int) (x144000_1:Int) (x144001_1:Int) (x144002_1:Int) (x144003_1:Int) (x146005_1:List Int) (u146005:Value),v5=.int .i64 x5_1∧Aside0 (spec_ImageRgb.l0 kq x5_1 a0_0 a0_1 a0_2 a0_3 l0_4 l0_5 2 24 a0_2 a0_3 x146005_1=some (r1,r2,r3,r4,r5,r6,r7))∧Aside0 (kq≤k)∧Aside0 (Kd.R (Kd.int .i64) 3 w' w.heap.size (fun _=>True) u146005 x146005_1)∧Aside0 (w'.heap[gb142]?=some (.cells #[.int .i64 a0_0,.int .i64 a0_1,.int .i64 a0_2,.int .i64 a0_3,(.slice A0_4 l0_4.length c0_4),(.slice A0_5 l0_5.length c0_5)] 25 (0,0)))∧Aside0 (w'.heap[gb143]?=some (.cells #[.int .i64 x144000_1,.int .i64 x144001_1,.int .i64 x144002_1,.int .i64 x144003_1,(.slice none 0 0),(.slice none 0 0)] 25 (0,0)))∧Aside0 (w'.heap[gb145]?=some (.cells #[.int .i64 2,.int .i64 24,.int .i64 a0_2,.int .i64 a0_3,(.slice none 0 0),u146005] 25 (0,0)))∧Aside0 (Below w.heap.size w w'))
  case atStart=>exact ⟨(0),(0),(0),(0),(0),(([]:List Int)),(.slice none 0 0),sm_,H',⟨Nat.le_refl _⟩,⟨by first|exact Kd.R_nil _ _ _ _ _|exact Kd.N_nil _ _ _ _ _|exact Kd.V_nil _ _ _ _ _|exact Kd.Q_nil _ _ _ _ _|exact Kd.S_nil _ _ _ _ _⟩,⟨by (with_reducible repeat (first|apply kN_|apply kD_|apply kA_));refine blk_far ?_ NB142_145.out _;(with_reducible repeat (first|apply kN_|apply kD_|apply kA_));refine blk_far ?_ NB142_145.out _;(with_reducible repeat (first|apply kN_|apply kD_|apply kA_));refine blk_far ?_ NB142_145.out _;(with_reducible repeat (first|apply kN_|apply kD_|apply kA_));refine blk_far ?_ NB142_145.out _;(with_reducible repeat (first|apply kN_|apply kD_|apply kA_));refine blk_far ?_ NB142_145.out _;(with_reducible repeat (first|apply kN_|apply kD_|apply kA_));refine blk_far ?_ NB142_145.out _;(with_reducible repeat (first|apply kN_|apply kD_|apply kA_));exact BK142.out⟩,⟨by (with_reducible repeat (first|apply kN_|apply kD_|apply kA_));refine blk_far ?_ NB143_145.out _;(with_reducible repeat (first|apply kN_|apply kD_|apply kA_));refine blk_far ?_ NB143_145.out _;(with_reducible repeat (first|apply kN_|apply kD_|apply kA_));refine blk_far ?_ NB143_145.out _;(with_reducible repeat (first|apply kN_|apply kD_|apply kA_));refine blk_far ?_ NB143_145.out _;(with_reducible repeat (first|apply kN_|apply kD_|apply kA_));refine blk_far ?_ NB143_145.out _;(with_reducible repeat (first|apply kN_|apply kD_|apply kA_));refine blk_far ?_ NB143_145.out _;(with_reducible repeat (first|apply kN_|apply kD_|apply kA_));exact BK143.out⟩,⟨by (with_reducible repeat (first|apply kN_|apply kD_|apply kA_));refine blk_put (cs:=#[.int .i64 2,.int .i64 24,.int .i64 a0_2,.int .i64 a0_3,.slice none 0 0,.slice none 0 0]) ?_ 5 _ rfl;(with_reducible repeat (first|apply kN_|apply kD_|apply kA_));refine blk_put (cs:=#[.int .i64 2,.int .i64 24,.int .i64 a0_2,.int .i64 a0_3,.slice none 0 0,.slice none 0 0]) ?_ 4 _ rfl;(with_reducible repeat (first|apply kN_|apply kD_|apply kA_));refine blk_put (cs:=#[.int .i64 2,.int .i64 24,.int .i64 a0_2,.int .i64 0,.slice none 0 0,.slice none 0 0]) ?_ 3 _ rfl;(with_reducible repeat (first|apply kN_|apply kD_|apply kA_));refine blk_put (cs:=#[.int .i64 2,.int .i64 24,.int .i64 0,.int .i64 0,.slice none 0 0,.slice none 0 0]) ?_ 2 _ rfl;(with_reducible repeat (first|apply kN_|apply kD_|apply kA_));refine blk_put (cs:=#[.int .i64 2,.int .i64 0,.int .i64 0,.int .i64 0,.slice none 0 0,.slice none 0 0]) ?_ 1 _ rfl;(with_reducible repeat (first|apply kN_|apply kD_|apply kA_));refine blk_put (cs:=#[.int .i64 0,.int .i64 0,.int .i64 0,.int .i64 0,.slice none 0 0,.slice none 0 0]) ?_ 0 _ rfl;(with_reducible repeat (first|apply kN_|apply kD_|apply kA_));exact BK145.out⟩,⟨by repeat (first|(with_reducible first|exact HB.out|apply wA_|apply wN_|apply wD_|refine below_set ?_ GE142.out|refine below_set ?_ GE143.out|refine below_set ?_ GE145.out)|exact HB.out)⟩⟩
  case round =>
   clear H';(try clear c1 c2 p2 c3 c6 c11 c12);(try clear z13_0 z13_1 z13_2 z13_3 z13_4 z13_5);(try clear z7_0 z7_1 z7_2 z7_3 z7_4 z7_5);(try clear z9_0 z9_1 z9_2 z9_3 z9_4 z9_5);(try clear y13_0 y13_1 y13_2 y13_3 y13_4 y13_5);(try clear y7_0 y7_1 y7_2 y7_3 y7_4 y7_5);(try clear y9_0 y9_1 y9_2 y9_3 y9_4 y9_5);obtain ⟨x5_1,x144000_1,x144001_1,x144002_1,x144003_1,x146005_1,u146005,rfl,HA,HK1,HO_146005,BK142,BK143,BK145,HB⟩:=hrel
   cases gk with
   | zero=>exact absurd HA.out (by simp [spec_ImageRgb.l0])
   | succ k1 =>
    have H:=HA.out;clear HA;simp only [spec_ImageRgb.l0] at H
    by_cases c14:x5_1 < (l0_5.length:Int)
    ·rw [if_pos c14] at H;have c14b0:decide (x5_1 < (l0_5.length:Int))=true:=decide_eq_true c14;clear c14
     by_cases c15:0≤x5_1
     ·rw [if_pos c15] at H;have c15b0:decide (0≤x5_1)=true:=decide_eq_true c15;clear c15;replace H:=Option.bind_eq_some_iff.mp H;obtain ⟨t147,A160,H⟩:=H;(try dsimp only at H);have A16:=aM_ A160;clear A160
      by_cases c17:(Int.tmod t147 256)=255
      ·rw [if_pos c17] at H;have c17b0:((Int.tmod t147 256) == 255)=true:=beq_iff_eq.mpr c17;have c17b1:((Int.tmod t147 256) != 255)=false:=bne_eq_false_iff_eq.mpr c17;clear c17
       by_cases c18:x146005_1.length < 17592186044416
       ·rw [if_pos c18] at H;have LMc18:=aM_ c18;clear c18;obtain ⟨y148,hy148⟩:∃ y_:List Int,y_=(x146005_1 ++ [wrap64 (Int.tdiv t147 256)]):=⟨_,rfl⟩
        replace H:(spec_ImageRgb.l0 k1 (wrap64 (x5_1+1)) a0_0 a0_1 a0_2 a0_3 l0_4 l0_5 2 24 a0_2 a0_3 y148)=some (r1,r2,r3,r4,r5,r6,r7):=by first|(rw [hy148];with_reducible exact H)|(have H2_:=(Option.bind_some _ _).symm.trans H;rw [hy148];with_reducible exact H2_)|(have H2_:=(Option.bind_some _ _).symm.trans H;with_reducible exact H2_)|with_reducible exact H|(rw [hy148];exact H)|exact H
        have Ny148:=aM_ hy148;clear hy148;have H':=aM_ H;clear H;have hnb19:=NB142_143.out;have hnc19:=NB143_142.out;have hnb20:=NB142_145.out;have hnc20:=NB145_142.out;obtain ⟨z21_0,z21_1,z21_2,z21_3,z21_4,z21_5⟩:=bc6 BK142.out;obtain ⟨y21_0,y21_1,y21_2,y21_3,y21_4,y21_5⟩:=bf6 BK142.out
        try go_wp2
        replace HO_146005:=aM_ (rD_ HO_146005.out);replace BK142:=aM_ (kD_ BK142.out);replace BK143:=aM_ (kD_ BK143.out);replace BK145:=aM_ (kD_ BK145.out);replace HB:=aM_ (wD_ HB.out);have p146:0≤(x5_1:Int):=of_decide_eq_true (by first|(with_reducible assumption)|assumption);have q146:x5_1 < (l0_5.length:Int):=of_decide_eq_true (by first|(with_reducible assumption)|assumption);obtain ⟨ad146,e146,hx146_0⟩:=Kd.at_int HR0_5.out x5_1 p146 q146;have hw146_0:=hx146_0;cases e146;replace hx146_0:=(HB.out.cell (World.block_lt_of_cell? w _ hx146_0)).trans hx146_0;replace p146:=eq_true p146;replace q146:=eq_true q146;refine start_ (n:=8) (S:=fun w'=>w'.cell? ⟨gb142,0,none⟩=some (.int .i64 a0_0)∧w'.cell? ⟨gb142,1,none⟩=some (.int .i64 a0_1)∧w'.cell? ⟨gb142,2,none⟩=some (.int .i64 a0_2)∧w'.cell? ⟨gb142,3,none⟩=some (.int .i64 a0_3)∧w'.cell? ⟨gb142,4,none⟩=some (.slice A0_4 l0_4.length c0_4)∧w'.cell? ⟨gb142,5,none⟩=some (.slice (some ad146) l0_5.length c0_5)∧w'.cell? (ad146.add (x5_1).toNat)=some (.int .i64 (rd l0_5 x5_1))) (ds:=[]) #[false,false,false,false,false,false,false,false] (by kernel_rfl) rfl rfl ⟨(blk_cell BK142.out 0).trans rfl,(blk_cell BK142.out 1).trans rfl,(blk_cell BK142.out 2).trans rfl,(blk_cell BK142.out 3).trans rfl,(blk_cell BK142.out 4).trans rfl,(blk_cell BK142.out 5).trans rfl,((HB.out.cell (World.block_lt_of_cell? w _ hw146_0)).trans hw146_0)⟩ (fun hHeld=>?_);refine with_tabW spec_ImageRgb.tab7 spec_ImageRgb.bits7 (fun HT_ HW_=>?_);generalize wr.drew=w22 at HO_146005 BK142 BK143 BK145 HB hx146_0 hHeld ⊢;refine pU_ 1 (some 24) HT_.out ?_;refine pU_ 3 (some 26) HT_.out ?_;refine tK_ 0 (some 23) HT_.out HW_.out hHeld ?_;refine tK_ 2 (some 25) HT_.out HW_.out hHeld ?_;refine pU_ 4 (some 27) HT_.out ?_;refine tK_ 5 (some 28) HT_.out HW_.out hHeld ?_;refine oN_ 6 (some 29) HT_.out (fun K hK=>?_);refine goes_ Try.func32 (by kernel_rfl) rfl #[.agg #[.int .i64 a0_0,.int .i64 a0_1,.int .i64 a0_2,.int .i64 a0_3,.slice A0_4 l0_4.length c0_4,.slice (some ad146) l0_5.length c0_5],.int .i64 (rd l0_5 x5_1)] (by rfl) rfl rfl am_ ?_
        with_reducible refine (spec_l8Color.calls k1 a0_0 a0_1 a0_2 a0_3 _ _ l0_4 _ _ l0_5 (rd l0_5 x5_1) t147 _ ?side1 ?side2 ?side3 ?side4 A16.out).mono ?_
        (case side1=>exact co_ (Kd.C_below HR0_4.out HB.out))
        (case side2=>exact HC0_4.out)
        (case side3=>exact co_ (Kd.C_below HR0_5.out HB.out))
        (case side4=>exact HC0_5.out)
        rintro e w23 ⟨rfl,hb⟩
        refine ⟨_,rfl,?_⟩;replace HO_146005:=rB_ HO_146005 hb;replace BK142:=bW_ BK142 hb;replace BK143:=bW_ BK143 hb;replace BK145:=bW_ BK145 hb;replace HB:=aM_ (below_step (hu_ HB GE142.out GE143.out GE145.out) hb)
        (try clear hb)
        refine hK.out _ _ ⟨(blk_cell BK142.out 0).trans rfl,(blk_cell BK142.out 1).trans rfl,(blk_cell BK142.out 2).trans rfl,(blk_cell BK142.out 3).trans rfl,(blk_cell BK142.out 4).trans rfl,(blk_cell BK142.out 5).trans rfl,((HB.out.cell (World.block_lt_of_cell? w _ hw146_0)).trans hw146_0)⟩ (fun hHeld=>?_);clear hK K;refine nR_ (some 29) ?_;refine pU_ 7 (some 6) HT_.out ?_;refine done_ (done_of HT_.out (by kernel_rfl)) ?_;have hnb24:=NB145_143.out;have hnc24:=NB143_145.out;obtain ⟨z25_0,z25_1,z25_2,z25_3,z25_4,z25_5⟩:=bc6 BK145.out;obtain ⟨y25_0,y25_1,y25_2,y25_3,y25_4,y25_5⟩:=bf6 BK145.out
        try go_wp2_with (first|((with_reducible refine gate_builtin (b:=.append) (xs:=#[.tmp 35,.tmp 38]) rfl ?_);at_builtin;refine Kd.R_append (Kd.int .i64) (w0:=w) w.heap.size rfl (.tmp 35) (.tmp 38) 23 3 (.int .i64 0) 8 rfl Try.underlying23 info3 rfl (by decide) (by omega) u146005 x146005_1 (wrap64 (Int.tdiv t147 256)) [.int .i64 (wrap64 (Int.tdiv t147 256))] (fun _=>True) (fun _=>False) rfl rfl ?aP (fun _ hk=>hk.elim) ?aF ?aO ?aB ?aS ?aL ?_;(case aP=>exact rfl);(case aB=>exact (hu_ HB GE142.out GE143.out GE145.out));(case aF=>exact (fun _ _=>trivial));(case aO=>exact (ro_ HO_146005));(case aS=>exact (below_size (hu_ HB GE142.out GE143.out GE145.out)));(case aL=>have:=LMc18.out;omega);intro v149 w26 ho hb hg hat;rw [← Ny148.out] at ho;replace BK142:=aM_ (blk_grown (g:=gb142) (bk_ BK142) hg (Kd.R_ne HO_146005.out BK142.out (by decide)));replace BK143:=aM_ (blk_grown (g:=gb143) (bk_ BK143) hg (Kd.R_ne HO_146005.out BK143.out (by decide)));replace BK145:=aM_ (blk_grown (g:=gb145) (bk_ BK145) hg (Kd.R_ne HO_146005.out BK145.out (by decide)));replace HB:=aM_ (hb);have HO150:=aM_ (ho);clear HO_146005;clear ho hb hg hat;obtain ⟨Ao27,co27,eo27⟩:=Kd.R_slice HO150.out;subst eo27;obtain ⟨z28_0,z28_1,z28_2,z28_3,z28_4,z28_5⟩:=bc6 BK145.out;obtain ⟨y28_0,y28_1,y28_2,y28_3,y28_4,y28_5⟩:=bf6 BK145.out))
        go_roundg k1
        case measure=>have:=HK1.out;omega
        case rel=>exact ⟨(wrap64 (x5_1+1)),(x144000_1),(x144001_1),(x144002_1),(x144003_1),(y148),(.slice Ao27 y148.length co27),sm_,H',⟨by have:=HK1.out;omega⟩,⟨by (with_reducible repeat (first|apply rA_|apply rN_|apply rD_));exact Kd.R_mono (Kd.R_far (Kd.R_types HO150.out BK145.out (by decide)) (fun _ hk=>hk.2) _) (fun _ hk=>trivial)⟩,⟨by (with_reducible repeat (first|apply kN_|apply kD_|apply kA_));refine blk_far ?_ NB142_145.out _;(with_reducible repeat (first|apply kN_|apply kD_|apply kA_));exact BK142.out⟩,⟨by (with_reducible repeat (first|apply kN_|apply kD_|apply kA_));refine blk_far ?_ NB143_145.out _;(with_reducible repeat (first|apply kN_|apply kD_|apply kA_));exact BK143.out⟩,⟨by (with_reducible repeat (first|apply kN_|apply kD_|apply kA_));refine blk_put (cs:=#[.int .i64 2,.int .i64 24,.int .i64 a0_2,.int .i64 a0_3,.slice none 0 0,u146005]) ?_ 5 _ rfl;(with_reducible repeat (first|apply kN_|apply kD_|apply kA_));exact BK145.out⟩,⟨by repeat (first|(with_reducible first|exact HB.out|apply wA_|apply wN_|apply wD_|refine below_set ?_ GE142.out|refine below_set ?_ GE143.out|refine below_set ?_ GE145.out)|exact HB.out)⟩⟩
       ·rw [if_neg c18] at H;exact absurd H (by simp)
      ·rw [if_neg c17] at H;have c17b0:((Int.tmod t147 256) == 255)=false:=beq_eq_false_iff_ne.mpr c17;have c17b1:((Int.tmod t147 256) != 255)=true:=bne_iff_ne.mpr c17;simp only [Option.some.injEq,Prod.mk.injEq] at H;obtain ⟨rfl,rfl,rfl,rfl,rfl,rfl,rfl⟩:=H;have hnb29:=NB142_143.out;have hnc29:=NB143_142.out;have hnb30:=NB142_145.out;have hnc30:=NB145_142.out;obtain ⟨z31_0,z31_1,z31_2,z31_3,z31_4,z31_5⟩:=bc6 BK142.out;obtain ⟨y31_0,y31_1,y31_2,y31_3,y31_4,y31_5⟩:=bf6 BK142.out
       try go_wp2
       replace HO_146005:=aM_ (rD_ HO_146005.out);replace BK142:=aM_ (kD_ BK142.out);replace BK143:=aM_ (kD_ BK143.out);replace BK145:=aM_ (kD_ BK145.out);replace HB:=aM_ (wD_ HB.out);have p146:0≤(x5_1:Int):=of_decide_eq_true (by first|(with_reducible assumption)|assumption);have q146:x5_1 < (l0_5.length:Int):=of_decide_eq_true (by first|(with_reducible assumption)|assumption);obtain ⟨ad146,e146,hx146_0⟩:=Kd.at_int HR0_5.out x5_1 p146 q146;have hw146_0:=hx146_0;cases e146;replace hx146_0:=(HB.out.cell (World.block_lt_of_cell? w _ hx146_0)).trans hx146_0;replace p146:=eq_true p146;replace q146:=eq_true q146;refine start_ (n:=8) (S:=fun w'=>w'.cell? ⟨gb142,0,none⟩=some (.int .i64 a0_0)∧w'.cell? ⟨gb142,1,none⟩=some (.int .i64 a0_1)∧w'.cell? ⟨gb142,2,none⟩=some (.int .i64 a0_2)∧w'.cell? ⟨gb142,3,none⟩=some (.int .i64 a0_3)∧w'.cell? ⟨gb142,4,none⟩=some (.slice A0_4 l0_4.length c0_4)∧w'.cell? ⟨gb142,5,none⟩=some (.slice (some ad146) l0_5.length c0_5)∧w'.cell? (ad146.add (x5_1).toNat)=some (.int .i64 (rd l0_5 x5_1))) (ds:=[]) #[false,false,false,false,false,false,false,false] (by kernel_rfl) rfl rfl ⟨(blk_cell BK142.out 0).trans rfl,(blk_cell BK142.out 1).trans rfl,(blk_cell BK142.out 2).trans rfl,(blk_cell BK142.out 3).trans rfl,(blk_cell BK142.out 4).trans rfl,(blk_cell BK142.out 5).trans rfl,((HB.out.cell (World.block_lt_of_cell? w _ hw146_0)).trans hw146_0)⟩ (fun hHeld=>?_);refine with_tabW spec_ImageRgb.tab7 spec_ImageRgb.bits7 (fun HT_ HW_=>?_);generalize wr.drew=w32 at HO_146005 BK142 BK143 BK145 HB hx146_0 hHeld ⊢;refine pU_ 1 (some 24) HT_.out ?_;refine pU_ 3 (some 26) HT_.out ?_;refine tK_ 0 (some 23) HT_.out HW_.out hHeld ?_;refine tK_ 2 (some 25) HT_.out HW_.out hHeld ?_;refine pU_ 4 (some 27) HT_.out ?_;refine tK_ 5 (some 28) HT_.out HW_.out hHeld ?_;refine oN_ 6 (some 29) HT_.out (fun K hK=>?_);refine goes_ Try.func32 (by kernel_rfl) rfl #[.agg #[.int .i64 a0_0,.int .i64 a0_1,.int .i64 a0_2,.int .i64 a0_3,.slice A0_4 l0_4.length c0_4,.slice (some ad146) l0_5.length c0_5],.int .i64 (rd l0_5 x5_1)] (by rfl) rfl rfl am_ ?_
       with_reducible refine (spec_l8Color.calls k1 a0_0 a0_1 a0_2 a0_3 _ _ l0_4 _ _ l0_5 (rd l0_5 x5_1) t147 _ ?side1 ?side2 ?side3 ?side4 A16.out).mono ?_
       (case side1=>exact co_ (Kd.C_below HR0_4.out HB.out))
       (case side2=>exact HC0_4.out)
       (case side3=>exact co_ (Kd.C_below HR0_5.out HB.out))
       (case side4=>exact HC0_5.out)
       rintro e w33 ⟨rfl,hb⟩
       refine ⟨_,rfl,?_⟩;replace HO_146005:=rB_ HO_146005 hb;replace BK142:=bW_ BK142 hb;replace BK143:=bW_ BK143 hb;replace BK145:=bW_ BK145 hb;replace HB:=aM_ (below_step (hu_ HB GE142.out GE143.out GE145.out) hb)
       (try clear hb)
       refine hK.out _ _ ⟨(blk_cell BK142.out 0).trans rfl,(blk_cell BK142.out 1).trans rfl,(blk_cell BK142.out 2).trans rfl,(blk_cell BK142.out 3).trans rfl,(blk_cell BK142.out 4).trans rfl,(blk_cell BK142.out 5).trans rfl,((HB.out.cell (World.block_lt_of_cell? w _ hw146_0)).trans hw146_0)⟩ (fun hHeld=>?_);clear hK K;refine nR_ (some 29) ?_;refine pU_ 7 (some 6) HT_.out ?_;refine done_ (done_of HT_.out (by kernel_rfl)) ?_;have hnb34:=NB143_145.out;have hnc34:=NB145_143.out;obtain ⟨z35_0,z35_1,z35_2,z35_3,z35_4,z35_5⟩:=bc6 BK143.out;obtain ⟨y35_0,y35_1,y35_2,y35_3,y35_4,y35_5⟩:=bf6 BK143.out
       try go_wp2
       refine bodyPost_ret (results_ct rfl _ _ gb143 25 #[.int .i64 0,.int .i64 0,.int .i64 0,.int .i64 0,.slice none 0 0,.slice none 0 0] (0,0) _ rfl (pg_ BK143) Try.underlying25 rfl (by kernel_rfl)) rfl ?_
       exact ⟨_,_,by first|rfl|(simp [errW_none,errW_some] <;> rfl)|(simp [*,errW_none,errW_some] <;> rfl),by first|exact Kd.R_nil _ _ _ _ _|exact Kd.N_nil _ _ _ _ _|exact Kd.V_nil _ _ _ _ _|exact Kd.Q_nil _ _ _ _ _|exact Kd.S_nil _ _ _ _ _,by first|exact Kd.R_nil _ _ _ _ _|exact Kd.N_nil _ _ _ _ _|exact Kd.V_nil _ _ _ _ _|exact Kd.Q_nil _ _ _ _ _|exact Kd.S_nil _ _ _ _ _,by repeat (first|(with_reducible first|exact HB.out|apply wA_|apply wN_|apply wD_|refine below_set ?_ GE142.out|refine below_set ?_ GE143.out|refine below_set ?_ GE145.out)|exact HB.out)⟩
     ·rw [if_neg c15] at H;exact absurd H (by simp)
    ·rw [if_neg c14] at H;have c14b0:decide (x5_1 < (l0_5.length:Int))=false:=decide_eq_false c14;clear c14;simp only [Option.some.injEq,Prod.mk.injEq] at H;obtain ⟨rfl,rfl,rfl,rfl,rfl,rfl,rfl⟩:=H;have hnb36:=NB142_143.out;have hnc36:=NB143_142.out;have hnb37:=NB142_145.out;have hnc37:=NB145_142.out;obtain ⟨z38_0,z38_1,z38_2,z38_3,z38_4,z38_5⟩:=bc6 BK142.out;obtain ⟨y38_0,y38_1,y38_2,y38_3,y38_4,y38_5⟩:=bf6 BK142.out;have hnb39:=NB145_143.out;have hnc39:=NB143_145.out;obtain ⟨z40_0,z40_1,z40_2,z40_3,z40_4,z40_5⟩:=bc6 BK145.out;obtain ⟨y40_0,y40_1,y40_2,y40_3,y40_4,y40_5⟩:=bf6 BK145.out;obtain ⟨z41_0,z41_1,z41_2,z41_3,z41_4,z41_5⟩:=bc6 BK143.out;obtain ⟨y41_0,y41_1,y41_2,y41_3,y41_4,y41_5⟩:=bf6 BK143.out;obtain ⟨Ao42,co42,eo42⟩:=Kd.R_slice HO_146005.out;subst eo42;go_wp2;refine bodyPost_ret (results_ct rfl _ _ gb143 25 #[.int .i64 2,.int .i64 24,.int .i64 a0_2,.int .i64 a0_3,.slice none 0 0,.slice Ao42 x146005_1.length co42] (0,0) _ rfl (pg_ BK143) Try.underlying25 rfl (by kernel_rfl)) rfl ?_
     exact ⟨_,_,by first|rfl|(simp [errW_none,errW_some] <;> rfl)|(simp [*,errW_none,errW_some] <;> rfl),by first|exact Kd.R_nil _ _ _ _ _|exact Kd.N_nil _ _ _ _ _|exact Kd.V_nil _ _ _ _ _|exact Kd.Q_nil _ _ _ _ _|exact Kd.S_nil _ _ _ _ _,by (with_reducible repeat (first|apply rA_|apply rN_|apply rD_));exact Kd.R_mono (r6_ (Kd.R_types HO_146005.out BK143.out (by decide)) (fun _ hk=>hk.2)) (fun _ hk=>(by simp [Value.ownBlock])),by repeat (first|(with_reducible first|exact HB.out|apply wA_|apply wN_|apply wD_|refine below_set ?_ GE142.out|refine below_set ?_ GE143.out|refine below_set ?_ GE145.out)|exact HB.out)⟩
 ·replace c3:=Bool.eq_false_iff.mpr c3;subst c3
  have H1:(some (0,0,0,0,([]:List Int),([]:List Int),false))=some (r1,r2,r3,r4,r5,r6,r7):=by first|(rw [if_neg (show ¬ (false=true) by decide)] at H;exact H)|rfl
  clear H;have H:=H1;clear H1;simp only [Option.some.injEq,Prod.mk.injEq] at H;obtain ⟨rfl,rfl,rfl,rfl,rfl,rfl,rfl⟩:=H
  go_enter Try.func20,Try.ntmps20
  go_wp2_with (first|((with_reducible refine gate_dst (N:=1) rfl ?_);refine bE_ 1 #[.int .i64 a0_0,.int .i64 a0_1,.int .i64 a0_2,.int .i64 a0_3,.slice A0_4 l0_4.length c0_4,.slice A0_5 l0_5.length c0_5] 25 ?_;intro gb142 hg w43 hbox hb;have BK142:=aM_ (hbox);have GW142:=aM_ ((by rw [hg];exact (below_size (hb_ HB)):w.heap.size≤gb142));have GE142:=GW142;replace HB:=aM_ (below_step (hb_ HB) hb);clear hb hbox hg)|((with_reducible refine gate_dst (N:=2) rfl ?_);refine bE_ 2 #[.int .i64 0,.int .i64 0,.int .i64 0,.int .i64 0,.slice none 0 0,.slice none 0 0] 25 ?_;intro gb143 hg w44 hbox hb;have BK143:=aM_ (hbox);have GW143:=aM_ ((by rw [hg];exact (below_size (hs_ HB GE142.out)):w.heap.size≤gb143));have GE143:=GW143;replace HB:=aM_ (below_step (hs_ HB GE142.out) hb);have NB142_143:=aM_ ((by rw [hg];exact Nat.ne_of_lt (blk_lt (g:=gb142) (bk_ BK142)):gb142≠gb143));replace BK142:=bW_ BK142 hb;have NB143_142:=aM_ NB142_143.out.symm;clear hb hbox hg;have hnb45:=NB142_143.out;have hnc45:=NB143_142.out;obtain ⟨z46_0,z46_1,z46_2,z46_3,z46_4,z46_5⟩:=bc6 BK142.out;obtain ⟨y46_0,y46_1,y46_2,y46_3,y46_4,y46_5⟩:=bf6 BK142.out)|((with_reducible refine gate_callee (f:=14) rfl ?_);refine goesL_ (some 8) rfl rfl Try.func14 (by kernel_rfl) rfl #[.agg #[.int .i64 a0_0,.int .i64 a0_1,.int .i64 a0_2,.int .i64 a0_3,.slice A0_4 l0_4.length c0_4,.slice A0_5 l0_5.length c0_5]] rfl am_ ?_;(with_reducible refine (spec_ImageOk.calls k a0_0 a0_1 a0_2 a0_3 _ _ l0_4 _ _ l0_5 false _ ?side1 ?side2 ?side3 ?side4 A2.out).mono ?_);(case side1=>exact co_ (Kd.C_below HR0_4.out HB.out));(case side2=>exact HC0_4.out);(case side3=>exact co_ (Kd.C_below HR0_5.out HB.out));(case side4=>exact HC0_5.out);rintro e w47 ⟨rfl,hb⟩;refine ⟨_,rfl,?_⟩;replace BK142:=bW_ BK142 hb;replace BK143:=bW_ BK143 hb;replace HB:=aM_ (below_step (ht_ HB GE142.out GE143.out) hb);(try clear hb);obtain ⟨z48_0,z48_1,z48_2,z48_3,z48_4,z48_5⟩:=bc6 BK143.out;obtain ⟨y48_0,y48_1,y48_2,y48_3,y48_4,y48_5⟩:=bf6 BK143.out))
  refine bodyPost_ret (results_ct rfl _ _ gb143 25 #[.int .i64 0,.int .i64 0,.int .i64 0,.int .i64 0,.slice none 0 0,.slice none 0 0] (0,0) _ rfl (pg_ BK143) Try.underlying25 rfl (by kernel_rfl)) rfl ?_
  exact ⟨_,_,by first|rfl|(simp [errW_none,errW_some] <;> rfl)|(simp [*,errW_none,errW_some] <;> rfl),by first|exact Kd.R_nil _ _ _ _ _|exact Kd.N_nil _ _ _ _ _|exact Kd.V_nil _ _ _ _ _|exact Kd.Q_nil _ _ _ _ _|exact Kd.S_nil _ _ _ _ _,by first|exact Kd.R_nil _ _ _ _ _|exact Kd.N_nil _ _ _ _ _|exact Kd.V_nil _ _ _ _ _|exact Kd.Q_nil _ _ _ _ _|exact Kd.S_nil _ _ _ _ _,by repeat (first|(with_reducible first|exact HB.out|apply wA_|apply wN_|apply wD_|refine below_set ?_ GE142.out|refine below_set ?_ GE143.out)|exact HB.out)⟩

/-! ### spec_l8Find: function 21 -/
def spec_l8Find.l0:Nat → List Int → Int → Int → Option (Int)
 | 0,_,_,_=>none
 | k+1,x0,x1,x5=>if x5 < (x0.length:Int) then (if 0≤x5 then (if (rd x0 x5)=x1 then (some x5) else (spec_l8Find.l0 k x0 x1 (wrap64 (x5+1)))) else (none)) else (some (-1))
def spec_l8Find.f (k:Nat) (l0:List Int) (a1:Int):Option (Int):=spec_l8Find.l0 k l0 a1 0
theorem spec_l8Find.mono_l:∀ k,(∀ y0 y1 y2,LeO (spec_l8Find.l0 k y0 y1 y2) (spec_l8Find.l0 (k+1) y0 y1 y2))
 | 0=>fun _ _ _ r h=>by simp [spec_l8Find.l0] at h
 | k+1=>by
  have ih0:=spec_l8Find.mono_l k
  ·intro y0 y1 y2
   unfold spec_l8Find.l0
   repeat' first
   | (with_reducible exact ih0 _ _ _)
   | (with_reducible exact LeO.refl _)
   | (with_reducible exact LeO.none _)
   | (with_reducible refine LeO.ite ?_ ?_)
   | (with_reducible refine LeO.bind ?_ (fun _=>?_))
theorem spec_l8Find.mono:∀ a0 a1 k,LeO (spec_l8Find.f k a0 a1) (spec_l8Find.f (k+1) a0 a1):=by
 intro a0 a1 k;have ih0:=spec_l8Find.mono_l k
 unfold spec_l8Find.f
 repeat' first
   | (with_reducible exact ih0 _ _ _)
   | (with_reducible exact LeO.refl _)
   | (with_reducible exact LeO.none _)
   | (with_reducible refine LeO.ite ?_ ?_)
   | (with_reducible refine LeO.bind ?_ (fun _=>?_))
set_option maxHeartbeats 8000000 in
set_option maxRecDepth 100000 in
theorem spec_l8Find.calls (k:Nat) (A0:Option Addr) (c0:Nat) (l0:List Int) (a1:Int) (r:Int) (w:World) (hr0:Kd.C (Kd.int .i64) w A0 l0.length l0) (hc0:l0.length≤c0) (h:spec_l8Find.f k l0 a1=some r) :
  Calls Try.prog 21 #[.slice A0 l0.length c0,.int .i64 a1] w fun e w'=>e=.returned (.int .i64 r)∧Drawn0 w w':=by
 have HR0:=aM_ hr0;have HC0:=aM_ hc0;clear hr0 hc0;have H:(spec_l8Find.l0 k l0 a1 0)=some r:=h;clear h;have H':=aM_ H;clear H
 go_enter Try.func21,Try.ntmps21
 go_wp2
 go_loopg [5] k (fun kq v5 w'=>∃ (x5_1:Int),v5=.int .i64 x5_1∧Aside0 (spec_l8Find.l0 kq l0 a1 x5_1=some r)∧Aside0 (kq≤k)∧Drawn0 w w')
 case atStart=>exact ⟨(0),sm_,H',⟨Nat.le_refl _⟩,by repeat (first|exact Drawn0.refl _|apply Drawn0.step)⟩
 case round =>
  clear H';(try clear c2 p2);obtain ⟨x5_1,rfl,HA,HK1,⟨m1,rfl⟩⟩:=hrel
  cases gk with
  | zero=>exact absurd HA.out (by simp [spec_l8Find.l0])
  | succ k1 =>
   have H:=HA.out;clear HA;simp only [spec_l8Find.l0] at H
   by_cases c3:x5_1 < (l0.length:Int)
   ·rw [if_pos c3] at H;have c3b0:decide (x5_1 < (l0.length:Int))=true:=decide_eq_true c3;clear c3
    by_cases c4:0≤x5_1
    ·rw [if_pos c4] at H;have c4b0:decide (0≤x5_1)=true:=decide_eq_true c4;clear c4
     by_cases c5:(rd l0 x5_1)=a1
     ·rw [if_pos c5] at H;have c5b0:((rd l0 x5_1) == a1)=true:=beq_iff_eq.mpr c5;have c5b1:((rd l0 x5_1) != a1)=false:=bne_eq_false_iff_eq.mpr c5;clear c5;obtain rfl:=Option.some.inj H;have p151:0≤(x5_1:Int):=of_decide_eq_true (by first|(with_reducible assumption)|assumption);have q151:x5_1 < (l0.length:Int):=of_decide_eq_true (by first|(with_reducible assumption)|assumption);obtain ⟨ad151,e151,hx151_0⟩:=Kd.at_int HR0.out x5_1 p151 q151;cases e151;replace p151:=eq_true p151;replace q151:=eq_true q151;go_wp2
      go_ret
      exact ⟨by first|rfl|(simp;done)|(simp [*];done),by repeat (first|exact Drawn0.refl _|apply Drawn0.step)⟩
     ·rw [if_neg c5] at H;have c5b0:((rd l0 x5_1) == a1)=false:=beq_eq_false_iff_ne.mpr c5;have c5b1:((rd l0 x5_1) != a1)=true:=bne_iff_ne.mpr c5;have H':=aM_ H;clear H;have p151:0≤(x5_1:Int):=of_decide_eq_true (by first|(with_reducible assumption)|assumption);have q151:x5_1 < (l0.length:Int):=of_decide_eq_true (by first|(with_reducible assumption)|assumption);obtain ⟨ad151,e151,hx151_0⟩:=Kd.at_int HR0.out x5_1 p151 q151;cases e151;replace p151:=eq_true p151;replace q151:=eq_true q151;go_wp2
      go_roundg k1
      case measure=>have:=HK1.out;omega
      case rel=>exact ⟨(wrap64 (x5_1+1)),sm_,H',⟨by have:=HK1.out;omega⟩,by repeat (first|exact Drawn0.refl _|apply Drawn0.step)⟩
    ·rw [if_neg c4] at H;exact absurd H (by simp)
   ·rw [if_neg c3] at H;have c3b0:decide (x5_1 < (l0.length:Int))=false:=decide_eq_false c3;clear c3;obtain rfl:=Option.some.inj H;go_wp2
    go_ret
    exact ⟨by first|rfl|(simp;done)|(simp [*];done),by repeat (first|exact Drawn0.refl _|apply Drawn0.step)⟩

end Go.Proofs.Ytagbmaapahhmpaa.PFnImageLike
