/- What the functions that the law comes to compute, as plain functions, and that the machine's calls come to just that: written by a program for this claim, and turned where Lean did not take it. No condition. -/
import Derived.Test.YtagbmaapahhmpaaHFnImageLikex0
import Derived.Test.YtagbmaapahhmpaaHFnImageLikex2
import Derived.Test.YtagbmaapahhmpaaHFnImageLikex3
namespace Go.Proofs.Ytagbmaapahhmpaa.PFnImageLike
open Go.RowKit Go.Proofs.YtagbmaapahhmpaaW.PrintWords Go.Proofs.YtagbmaapahhmpaaW.PrintLast Go.Proofs.YtagbmaapahhmpaaW.PrintMore
attribute [local go_sem] max2_int min2_int max_two min_two max_three min_three max_four min_four   -- for this text's walks alone
set_option linter.unusedVariables false
set_option linter.unusedSimpArgs false

/-! ### impl_ImageLike: function 10 -/
mutual
def impl_ImageLike.j0:Nat → Bool → Int → Int → Int → Int → List Int → List Int → Int → Int → Int → Int → List Int → List Int → Option (Bool)
 | 0,_,_,_,_,_,_,_,_,_,_,_,_,_=>none
 | k+1,x28,x119000,x119001,x119002,x119003,x119004,x119005,x120000,x120001,x120002,x120003,x120004,x120005=>if x28=true then (some false) else (impl_ImageLike.l0 k x119005 (x119005.length:Int) 0 x119000 x119001 x119002 x119003 x119004 x119005 x120000 x120001 x120002 x120003 x120004 x120005)
def impl_ImageLike.l0:Nat → List Int → Int → Int → Int → Int → Int → Int → List Int → List Int → Int → Int → Int → Int → List Int → List Int → Option (Bool)
 | 0,_,_,_,_,_,_,_,_,_,_,_,_,_,_,_=>none
 | k+1,x30,x31,x32,x119000,x119001,x119002,x119003,x119004,x119005,x120000,x120001,x120002,x120003,x120004,x120005=>if x32 < x31 then (if 0≤x32 then (if x32 < (x30.length:Int) then ((impl_Image_color.f x119000 x119001 x119002 x119003 x119004 x119005 (rd x30 x32)).bind fun t123=>(if x32 < (x120005.length:Int) then ((impl_Image_color.f x120000 x120001 x120002 x120003 x120004 x120005 (rd x120005 x32)).bind fun t125=>(if t123=t125 then (impl_ImageLike.l0 k x30 x31 (wrap64 (x32+1)) x119000 x119001 x119002 x119003 x119004 x119005 x120000 x120001 x120002 x120003 x120004 x120005) else (some false))) else (none))) else (none)) else (none)) else (some true)
end
def impl_ImageLike.f (k:Nat) (a0_0:Int) (a0_1:Int) (a0_2:Int) (a0_3:Int) (l0_4:List Int) (l0_5:List Int) (a1_0:Int) (a1_1:Int) (a1_2:Int) (a1_3:Int) (l1_4:List Int) (l1_5:List Int):Option (Bool):=(impl_ImageOk.f k a0_0 a0_1 a0_2 a0_3 l0_4 l0_5).bind fun t120=>(if t120=true then ((impl_ImageOk.f k a1_0 a1_1 a1_2 a1_3 l1_4 l1_5).bind fun t121=>(if t121=true then (if a0_2=a1_2 then (impl_ImageLike.j0 k (a0_3 != a1_3) a0_0 a0_1 a0_2 a0_3 l0_4 l0_5 a1_0 a1_1 a1_2 a1_3 l1_4 l1_5) else (impl_ImageLike.j0 k true a0_0 a0_1 a0_2 a0_3 l0_4 l0_5 a1_0 a1_1 a1_2 a1_3 l1_4 l1_5)) else (impl_ImageLike.j0 k true a0_0 a0_1 a0_2 a0_3 l0_4 l0_5 a1_0 a1_1 a1_2 a1_3 l1_4 l1_5))) else (impl_ImageLike.j0 k true a0_0 a0_1 a0_2 a0_3 l0_4 l0_5 a1_0 a1_1 a1_2 a1_3 l1_4 l1_5))
theorem impl_ImageLike.mono_l:∀ k,(∀ y0 y1 y2 y3 y4 y5 y6 y7 y8 y9 y10 y11 y12,LeO (impl_ImageLike.j0 k y0 y1 y2 y3 y4 y5 y6 y7 y8 y9 y10 y11 y12) (impl_ImageLike.j0 (k+1) y0 y1 y2 y3 y4 y5 y6 y7 y8 y9 y10 y11 y12))∧(∀ y0 y1 y2 y3 y4 y5 y6 y7 y8 y9 y10 y11 y12 y13 y14,LeO (impl_ImageLike.l0 k y0 y1 y2 y3 y4 y5 y6 y7 y8 y9 y10 y11 y12 y13 y14) (impl_ImageLike.l0 (k+1) y0 y1 y2 y3 y4 y5 y6 y7 y8 y9 y10 y11 y12 y13 y14))
 | 0=>⟨fun _ _ _ _ _ _ _ _ _ _ _ _ _ r h=>by simp [impl_ImageLike.j0] at h,fun _ _ _ _ _ _ _ _ _ _ _ _ _ _ _ r h=>by simp [impl_ImageLike.l0] at h⟩
 | k+1=>by
  obtain ⟨ih0,ih1⟩:=impl_ImageLike.mono_l k;refine ⟨?_,?_⟩
  ·intro y0 y1 y2 y3 y4 y5 y6 y7 y8 y9 y10 y11 y12
   unfold impl_ImageLike.j0
   repeat' first
   | (with_reducible exact ih0 _ _ _ _ _ _ _ _ _ _ _ _ _)
   | (with_reducible exact ih1 _ _ _ _ _ _ _ _ _ _ _ _ _ _ _)
   | (with_reducible exact impl_ImageOk.mono _ _ _ _ _ _ _)
   | (with_reducible exact LeO.refl _)
   | (with_reducible exact LeO.none _)
   | (with_reducible refine LeO.ite ?_ ?_)
   | (with_reducible refine LeO.bind ?_ (fun _=>?_))
  ·intro y0 y1 y2 y3 y4 y5 y6 y7 y8 y9 y10 y11 y12 y13 y14
   unfold impl_ImageLike.l0
   repeat' first
   | (with_reducible exact ih0 _ _ _ _ _ _ _ _ _ _ _ _ _)
   | (with_reducible exact ih1 _ _ _ _ _ _ _ _ _ _ _ _ _ _ _)
   | (with_reducible exact impl_ImageOk.mono _ _ _ _ _ _ _)
   | (with_reducible exact LeO.refl _)
   | (with_reducible exact LeO.none _)
   | (with_reducible refine LeO.ite ?_ ?_)
   | (with_reducible refine LeO.bind ?_ (fun _=>?_))
theorem impl_ImageLike.mono:∀ a0 a1 a2 a3 a4 a5 a6 a7 a8 a9 a10 a11 k,LeO (impl_ImageLike.f k a0 a1 a2 a3 a4 a5 a6 a7 a8 a9 a10 a11) (impl_ImageLike.f (k+1) a0 a1 a2 a3 a4 a5 a6 a7 a8 a9 a10 a11):=by
 intro a0 a1 a2 a3 a4 a5 a6 a7 a8 a9 a10 a11 k;obtain ⟨ih0,ih1⟩:=impl_ImageLike.mono_l k
 unfold impl_ImageLike.f
 repeat' first
   | (with_reducible exact ih0 _ _ _ _ _ _ _ _ _ _ _ _ _)
   | (with_reducible exact ih1 _ _ _ _ _ _ _ _ _ _ _ _ _ _ _)
   | (with_reducible exact impl_ImageOk.mono _ _ _ _ _ _ _)
   | (with_reducible exact LeO.refl _)
   | (with_reducible exact LeO.none _)
   | (with_reducible refine LeO.ite ?_ ?_)
   | (with_reducible refine LeO.bind ?_ (fun _=>?_))
def impl_ImageLike.T6:Bool × List (List Nat × List Nat):=(true,[([],[]),([],[]),([0,1],[0,1]),([],[]),([],[]),([4],[4]),([],[]),([5,6],[5,6]),([7],[7]),([3,8,2],[3,8]),([2,9],[2,9])])
def impl_ImageLike.B6:List Nat:=[0,0,3,0,0,16,0,112,240,511,1023]
theorem impl_ImageLike.tab6:rtab .any (opsOf Try.f10 6)=impl_ImageLike.T6:=by kernel_rfl
theorem impl_ImageLike.bits6:waitsOk impl_ImageLike.T6.2 impl_ImageLike.B6=true:=by kernel_rfl
set_option maxHeartbeats 8000000 in
set_option maxRecDepth 100000 in
theorem impl_ImageLike.calls (k:Nat) (a0_0:Int) (a0_1:Int) (a0_2:Int) (a0_3:Int) (A0_4:Option Addr) (c0_4:Nat) (l0_4:List Int) (A0_5:Option Addr) (c0_5:Nat) (l0_5:List Int) (a1_0:Int) (a1_1:Int) (a1_2:Int) (a1_3:Int) (A1_4:Option Addr) (c1_4:Nat) (l1_4:List Int) (A1_5:Option Addr) (c1_5:Nat) (l1_5:List Int) (r:Bool) (w:World) (hr0_4:Kd.C (Kd.int .i64) w A0_4 l0_4.length l0_4) (hc0_4:l0_4.length≤c0_4) (hr0_5:Kd.C (Kd.int .i64) w A0_5 l0_5.length l0_5) (hc0_5:l0_5.length≤c0_5) (hr1_4:Kd.C (Kd.int .i64) w A1_4 l1_4.length l1_4) (hc1_4:l1_4.length≤c1_4) (hr1_5:Kd.C (Kd.int .i64) w A1_5 l1_5.length l1_5) (hc1_5:l1_5.length≤c1_5) (h:impl_ImageLike.f k a0_0 a0_1 a0_2 a0_3 l0_4 l0_5 a1_0 a1_1 a1_2 a1_3 l1_4 l1_5=some r) :
  Calls Try.prog 10 #[.agg #[.int .i64 a0_0,.int .i64 a0_1,.int .i64 a0_2,.int .i64 a0_3,.slice A0_4 l0_4.length c0_4,.slice A0_5 l0_5.length c0_5],.agg #[.int .i64 a1_0,.int .i64 a1_1,.int .i64 a1_2,.int .i64 a1_3,.slice A1_4 l1_4.length c1_4,.slice A1_5 l1_5.length c1_5]] w fun e w'=>e=.returned (.bool r)∧Below w.heap.size w w':=by
 have hu25:=Try.underlying25;have HR0_4:=aM_ hr0_4;have HC0_4:=aM_ hc0_4;clear hr0_4 hc0_4;have HR0_5:=aM_ hr0_5;have HC0_5:=aM_ hc0_5;clear hr0_5 hc0_5;have HR1_4:=aM_ hr1_4;have HC1_4:=aM_ hc1_4;clear hr1_4 hc1_4;have HR1_5:=aM_ hr1_5;have HC1_5:=aM_ hc1_5;clear hr1_5 hc1_5;have HB:=aM_ (Below.refl w.heap.size w);have H:((impl_ImageOk.f k a0_0 a0_1 a0_2 a0_3 l0_4 l0_5).bind fun t120=>(if t120=true then ((impl_ImageOk.f k a1_0 a1_1 a1_2 a1_3 l1_4 l1_5).bind fun t121=>(if t121=true then (if a0_2=a1_2 then (impl_ImageLike.j0 k (a0_3 != a1_3) a0_0 a0_1 a0_2 a0_3 l0_4 l0_5 a1_0 a1_1 a1_2 a1_3 l1_4 l1_5) else (impl_ImageLike.j0 k true a0_0 a0_1 a0_2 a0_3 l0_4 l0_5 a1_0 a1_1 a1_2 a1_3 l1_4 l1_5)) else (impl_ImageLike.j0 k true a0_0 a0_1 a0_2 a0_3 l0_4 l0_5 a1_0 a1_1 a1_2 a1_3 l1_4 l1_5))) else (impl_ImageLike.j0 k true a0_0 a0_1 a0_2 a0_3 l0_4 l0_5 a1_0 a1_1 a1_2 a1_3 l1_4 l1_5)))=some r:=h;clear h;have HC3:=aM_ H;clear H
 go_enter Try.func10,Try.ntmps10
 go_upto_region 1 with (first|((with_reducible refine gate_dst (N:=2) rfl ?_);refine bE_ 2 #[.int .i64 a0_0,.int .i64 a0_1,.int .i64 a0_2,.int .i64 a0_3,.slice A0_4 l0_4.length c0_4,.slice A0_5 l0_5.length c0_5] 25 ?_;intro gb118 hg w4 hbox hb;have BK118:=aM_ (hbox);have GW118:=aM_ ((by rw [hg];exact (below_size (hb_ HB)):w.heap.size≤gb118));have GE118:=GW118;replace HB:=aM_ (below_step (hb_ HB) hb);clear hb hbox hg)|((with_reducible refine gate_dst (N:=3) rfl ?_);refine bE_ 3 #[.int .i64 a1_0,.int .i64 a1_1,.int .i64 a1_2,.int .i64 a1_3,.slice A1_4 l1_4.length c1_4,.slice A1_5 l1_5.length c1_5] 25 ?_;intro gb119 hg w5 hbox hb;have BK119:=aM_ (hbox);have GW119:=aM_ ((by rw [hg];exact (below_size (hs_ HB GE118.out)):w.heap.size≤gb119));have GE119:=GW119;replace HB:=aM_ (below_step (hs_ HB GE118.out) hb);have NB118_119:=aM_ ((by rw [hg];exact Nat.ne_of_lt (blk_lt (g:=gb118) (bk_ BK118)):gb118≠gb119));replace BK118:=bW_ BK118 hb;have NB119_118:=aM_ NB118_119.out.symm;clear hb hbox hg))
 (try simp only [Act.put,sA_,s0_,s1_])
 go_cut [28] (fun v28 wc=>∃ (kq:Nat) (x28_2:Bool),v28=.bool x28_2∧Aside0 (impl_ImageLike.j0 kq x28_2 a0_0 a0_1 a0_2 a0_3 l0_4 l0_5 a1_0 a1_1 a1_2 a1_3 l1_4 l1_5=some r)∧Aside0 (kq≤k)∧Aside0 (wc.heap[gb118]?=some (.cells #[.int .i64 a0_0,.int .i64 a0_1,.int .i64 a0_2,.int .i64 a0_3,(.slice A0_4 l0_4.length c0_4),(.slice A0_5 l0_5.length c0_5)] 25 (0,0)))∧Aside0 (wc.heap[gb119]?=some (.cells #[.int .i64 a1_0,.int .i64 a1_1,.int .i64 a1_2,.int .i64 a1_3,(.slice A1_4 l1_4.length c1_4),(.slice A1_5 l1_5.length c1_5)] 25 (0,0)))∧Aside0 (Below w.heap.size w wc))
 case first =>
  have H:=HC3.out;clear HC3;replace H:=Option.bind_eq_some_iff.mp H;obtain ⟨t120,A60,H⟩:=H;(try dsimp only at H);have A6:=aM_ A60;clear A60
  by_cases c7:t120=true
  ·subst c7
   have H1:((impl_ImageOk.f k a1_0 a1_1 a1_2 a1_3 l1_4 l1_5).bind fun t121=>(if t121=true then (if a0_2=a1_2 then (impl_ImageLike.j0 k (a0_3 != a1_3) a0_0 a0_1 a0_2 a0_3 l0_4 l0_5 a1_0 a1_1 a1_2 a1_3 l1_4 l1_5) else (impl_ImageLike.j0 k true a0_0 a0_1 a0_2 a0_3 l0_4 l0_5 a1_0 a1_1 a1_2 a1_3 l1_4 l1_5)) else (impl_ImageLike.j0 k true a0_0 a0_1 a0_2 a0_3 l0_4 l0_5 a1_0 a1_1 a1_2 a1_3 l1_4 l1_5)))=some r:=by first|(rw [if_pos rfl] at H;exact H)|rfl
   clear H;have H:=H1;clear H1;replace H:=Option.bind_eq_some_iff.mp H;obtain ⟨t121,A80,H⟩:=H;(try dsimp only at H);have A8:=aM_ A80;clear A80
   by_cases c9:t121=true
   ·subst c9
    have H1:(if a0_2=a1_2 then (impl_ImageLike.j0 k (a0_3 != a1_3) a0_0 a0_1 a0_2 a0_3 l0_4 l0_5 a1_0 a1_1 a1_2 a1_3 l1_4 l1_5) else (impl_ImageLike.j0 k true a0_0 a0_1 a0_2 a0_3 l0_4 l0_5 a1_0 a1_1 a1_2 a1_3 l1_4 l1_5))=some r:=by first|(rw [if_pos rfl] at H;exact H)|rfl
    clear H;have H:=H1;clear H1
    by_cases c10:a0_2=a1_2
    ·rw [if_pos c10] at H;have c10b0:(a0_2 == a1_2)=true:=beq_iff_eq.mpr c10;have c10b1:(a0_2 != a1_2)=false:=bne_eq_false_iff_eq.mpr c10;clear c10
     (first|rw [c10b0]|(simp only [i64_w,i32_w];rw [c10b0])|skip)
     have H':=aM_ H;clear H;have hnb11:=NB118_119.out;have hnc11:=NB119_118.out;obtain ⟨z12_0,z12_1,z12_2,z12_3,z12_4,z12_5⟩:=bc6 BK118.out;obtain ⟨y12_0,y12_1,y12_2,y12_3,y12_4,y12_5⟩:=bf6 BK118.out
     go_wp2_with (first|((with_reducible refine gate_callee (f:=9) rfl ?_);refine goesL_ (some 8) rfl rfl Try.func9 (by kernel_rfl) rfl #[.agg #[.int .i64 a0_0,.int .i64 a0_1,.int .i64 a0_2,.int .i64 a0_3,.slice A0_4 l0_4.length c0_4,.slice A0_5 l0_5.length c0_5]] rfl am_ ?_;(with_reducible refine (impl_ImageOk.calls k a0_0 a0_1 a0_2 a0_3 _ _ l0_4 _ _ l0_5 true _ ?side1 ?side2 ?side3 ?side4 A6.out).mono ?_);(case side1=>exact co_ (Kd.C_below HR0_4.out HB.out));(case side2=>exact HC0_4.out);(case side3=>exact co_ (Kd.C_below HR0_5.out HB.out));(case side4=>exact HC0_5.out);rintro e w13 ⟨rfl,hb⟩;refine ⟨_,rfl,?_⟩;replace BK118:=bW_ BK118 hb;replace BK119:=bW_ BK119 hb;replace HB:=aM_ (below_step (ht_ HB GE118.out GE119.out) hb);(try clear hb);obtain ⟨z14_0,z14_1,z14_2,z14_3,z14_4,z14_5⟩:=bc6 BK119.out;obtain ⟨y14_0,y14_1,y14_2,y14_3,y14_4,y14_5⟩:=bf6 BK119.out)|(go_at_call 9;(with_reducible refine (impl_ImageOk.calls k a1_0 a1_1 a1_2 a1_3 _ _ l1_4 _ _ l1_5 true _ ?side1 ?side2 ?side3 ?side4 A8.out).mono ?_);(case side1=>exact co_ (Kd.C_below HR1_4.out HB.out));(case side2=>exact HC1_4.out);(case side3=>exact co_ (Kd.C_below HR1_5.out HB.out));(case side4=>exact HC1_5.out);rintro e w15 ⟨rfl,hb⟩;replace BK118:=bW_ BK118 hb;replace BK119:=bW_ BK119 hb;replace HB:=aM_ (below_step (ht_ HB GE118.out GE119.out) hb);(try clear hb hb2 hk hi);obtain ⟨z16_0,z16_1,z16_2,z16_3,z16_4,z16_5⟩:=bc6 BK118.out;obtain ⟨y16_0,y16_1,y16_2,y16_3,y16_4,y16_5⟩:=bf6 BK118.out;obtain ⟨z17_0,z17_1,z17_2,z17_3,z17_4,z17_5⟩:=bc6 BK119.out;obtain ⟨y17_0,y17_1,y17_2,y17_3,y17_4,y17_5⟩:=bf6 BK119.out))
     go_meet
     case rel=>exact ⟨_,((a0_3 != a1_3)),sm_,H',⟨by first|omega|exact Nat.le_refl _⟩,⟨by (with_reducible repeat (first|apply kN_|apply kD_|apply kA_));exact BK118.out⟩,⟨by (with_reducible repeat (first|apply kN_|apply kD_|apply kA_));exact BK119.out⟩,⟨by repeat (first|(with_reducible first|exact HB.out|apply wA_|apply wN_|apply wD_|refine below_set ?_ GE118.out|refine below_set ?_ GE119.out)|exact HB.out)⟩⟩
    ·rw [if_neg c10] at H;have c10b0:(a0_2 == a1_2)=false:=beq_eq_false_iff_ne.mpr c10;have c10b1:(a0_2 != a1_2)=true:=bne_iff_ne.mpr c10
     (first|rw [c10b0]|(simp only [i64_w,i32_w];rw [c10b0])|skip)
     have H':=aM_ H;clear H;have hnb18:=NB118_119.out;have hnc18:=NB119_118.out;obtain ⟨z19_0,z19_1,z19_2,z19_3,z19_4,z19_5⟩:=bc6 BK118.out;obtain ⟨y19_0,y19_1,y19_2,y19_3,y19_4,y19_5⟩:=bf6 BK118.out
     go_wp2_with (first|((with_reducible refine gate_callee (f:=9) rfl ?_);refine goesL_ (some 8) rfl rfl Try.func9 (by kernel_rfl) rfl #[.agg #[.int .i64 a0_0,.int .i64 a0_1,.int .i64 a0_2,.int .i64 a0_3,.slice A0_4 l0_4.length c0_4,.slice A0_5 l0_5.length c0_5]] rfl am_ ?_;(with_reducible refine (impl_ImageOk.calls k a0_0 a0_1 a0_2 a0_3 _ _ l0_4 _ _ l0_5 true _ ?side1 ?side2 ?side3 ?side4 A6.out).mono ?_);(case side1=>exact co_ (Kd.C_below HR0_4.out HB.out));(case side2=>exact HC0_4.out);(case side3=>exact co_ (Kd.C_below HR0_5.out HB.out));(case side4=>exact HC0_5.out);rintro e w20 ⟨rfl,hb⟩;refine ⟨_,rfl,?_⟩;replace BK118:=bW_ BK118 hb;replace BK119:=bW_ BK119 hb;replace HB:=aM_ (below_step (ht_ HB GE118.out GE119.out) hb);(try clear hb hb2 hk hi);obtain ⟨z21_0,z21_1,z21_2,z21_3,z21_4,z21_5⟩:=bc6 BK119.out;obtain ⟨y21_0,y21_1,y21_2,y21_3,y21_4,y21_5⟩:=bf6 BK119.out)|(go_at_call 9;(with_reducible refine (impl_ImageOk.calls k a1_0 a1_1 a1_2 a1_3 _ _ l1_4 _ _ l1_5 true _ ?side1 ?side2 ?side3 ?side4 A8.out).mono ?_);(case side1=>exact co_ (Kd.C_below HR1_4.out HB.out));(case side2=>exact HC1_4.out);(case side3=>exact co_ (Kd.C_below HR1_5.out HB.out));(case side4=>exact HC1_5.out);rintro e w22 ⟨rfl,hb⟩;replace BK118:=bW_ BK118 hb;replace BK119:=bW_ BK119 hb;replace HB:=aM_ (below_step (ht_ HB GE118.out GE119.out) hb);(try clear hb hb2 hk hi);obtain ⟨z23_0,z23_1,z23_2,z23_3,z23_4,z23_5⟩:=bc6 BK118.out;obtain ⟨y23_0,y23_1,y23_2,y23_3,y23_4,y23_5⟩:=bf6 BK118.out;obtain ⟨z24_0,z24_1,z24_2,z24_3,z24_4,z24_5⟩:=bc6 BK119.out;obtain ⟨y24_0,y24_1,y24_2,y24_3,y24_4,y24_5⟩:=bf6 BK119.out))
     go_meet
     case rel=>exact ⟨_,(true),sm_,H',⟨by first|omega|exact Nat.le_refl _⟩,⟨by (with_reducible repeat (first|apply kN_|apply kD_|apply kA_));exact BK118.out⟩,⟨by (with_reducible repeat (first|apply kN_|apply kD_|apply kA_));exact BK119.out⟩,⟨by repeat (first|(with_reducible first|exact HB.out|apply wA_|apply wN_|apply wD_|refine below_set ?_ GE118.out|refine below_set ?_ GE119.out)|exact HB.out)⟩⟩
   ·replace c9:=Bool.eq_false_iff.mpr c9;subst c9
    have H1:(impl_ImageLike.j0 k true a0_0 a0_1 a0_2 a0_3 l0_4 l0_5 a1_0 a1_1 a1_2 a1_3 l1_4 l1_5)=some r:=by first|(rw [if_neg (show ¬ (false=true) by decide)] at H;exact H)|rfl
    clear H;have H:=H1;clear H1;have H':=aM_ H;clear H;have hnb25:=NB118_119.out;have hnc25:=NB119_118.out;obtain ⟨z26_0,z26_1,z26_2,z26_3,z26_4,z26_5⟩:=bc6 BK118.out;obtain ⟨y26_0,y26_1,y26_2,y26_3,y26_4,y26_5⟩:=bf6 BK118.out
    go_wp2_with (first|((with_reducible refine gate_callee (f:=9) rfl ?_);refine goesL_ (some 8) rfl rfl Try.func9 (by kernel_rfl) rfl #[.agg #[.int .i64 a0_0,.int .i64 a0_1,.int .i64 a0_2,.int .i64 a0_3,.slice A0_4 l0_4.length c0_4,.slice A0_5 l0_5.length c0_5]] rfl am_ ?_;(with_reducible refine (impl_ImageOk.calls k a0_0 a0_1 a0_2 a0_3 _ _ l0_4 _ _ l0_5 true _ ?side1 ?side2 ?side3 ?side4 A6.out).mono ?_);(case side1=>exact co_ (Kd.C_below HR0_4.out HB.out));(case side2=>exact HC0_4.out);(case side3=>exact co_ (Kd.C_below HR0_5.out HB.out));(case side4=>exact HC0_5.out);rintro e w27 ⟨rfl,hb⟩;refine ⟨_,rfl,?_⟩;replace BK118:=bW_ BK118 hb;replace BK119:=bW_ BK119 hb;replace HB:=aM_ (below_step (ht_ HB GE118.out GE119.out) hb);(try clear hb hb2 hk hi);obtain ⟨z28_0,z28_1,z28_2,z28_3,z28_4,z28_5⟩:=bc6 BK119.out;obtain ⟨y28_0,y28_1,y28_2,y28_3,y28_4,y28_5⟩:=bf6 BK119.out)|(go_at_call 9;(with_reducible refine (impl_ImageOk.calls k a1_0 a1_1 a1_2 a1_3 _ _ l1_4 _ _ l1_5 false _ ?side1 ?side2 ?side3 ?side4 A8.out).mono ?_);(case side1=>exact co_ (Kd.C_below HR1_4.out HB.out));(case side2=>exact HC1_4.out);(case side3=>exact co_ (Kd.C_below HR1_5.out HB.out));(case side4=>exact HC1_5.out);rintro e w29 ⟨rfl,hb⟩;replace BK118:=bW_ BK118 hb;replace BK119:=bW_ BK119 hb;replace HB:=aM_ (below_step (ht_ HB GE118.out GE119.out) hb);(try clear hb hb2 hk hi)))
    go_meet
    case rel=>exact ⟨_,(true),sm_,H',⟨by first|omega|exact Nat.le_refl _⟩,⟨by (with_reducible repeat (first|apply kN_|apply kD_|apply kA_));exact BK118.out⟩,⟨by (with_reducible repeat (first|apply kN_|apply kD_|apply kA_));exact BK119.out⟩,⟨by repeat (first|(with_reducible first|exact HB.out|apply wA_|apply wN_|apply wD_|refine below_set ?_ GE118.out|refine below_set ?_ GE119.out)|exact HB.out)⟩⟩
  ·replace c7:=Bool.eq_false_iff.mpr c7;subst c7
   have H1:(impl_ImageLike.j0 k true a0_0 a0_1 a0_2 a0_3 l0_4 l0_5 a1_0 a1_1 a1_2 a1_3 l1_4 l1_5)=some r:=by first|(rw [if_neg (show ¬ (false=true) by decide)] at H;exact H)|rfl
   clear H;have H:=H1;clear H1;have H':=aM_ H;clear H;have hnb30:=NB118_119.out;have hnc30:=NB119_118.out;obtain ⟨z31_0,z31_1,z31_2,z31_3,z31_4,z31_5⟩:=bc6 BK118.out;obtain ⟨y31_0,y31_1,y31_2,y31_3,y31_4,y31_5⟩:=bf6 BK118.out
   go_wp2_with (first|((with_reducible refine gate_callee (f:=9) rfl ?_);refine goesL_ (some 8) rfl rfl Try.func9 (by kernel_rfl) rfl #[.agg #[.int .i64 a0_0,.int .i64 a0_1,.int .i64 a0_2,.int .i64 a0_3,.slice A0_4 l0_4.length c0_4,.slice A0_5 l0_5.length c0_5]] rfl am_ ?_;(with_reducible refine (impl_ImageOk.calls k a0_0 a0_1 a0_2 a0_3 _ _ l0_4 _ _ l0_5 false _ ?side1 ?side2 ?side3 ?side4 A6.out).mono ?_);(case side1=>exact co_ (Kd.C_below HR0_4.out HB.out));(case side2=>exact HC0_4.out);(case side3=>exact co_ (Kd.C_below HR0_5.out HB.out));(case side4=>exact HC0_5.out);rintro e w32 ⟨rfl,hb⟩;refine ⟨_,rfl,?_⟩;replace BK118:=bW_ BK118 hb;replace BK119:=bW_ BK119 hb;replace HB:=aM_ (below_step (ht_ HB GE118.out GE119.out) hb);(try clear hb hb2 hk hi)))
   go_meet
   case rel=>exact ⟨_,(true),sm_,H',⟨by first|omega|exact Nat.le_refl _⟩,⟨by (with_reducible repeat (first|apply kN_|apply kD_|apply kA_));exact BK118.out⟩,⟨by (with_reducible repeat (first|apply kN_|apply kD_|apply kA_));exact BK119.out⟩,⟨by repeat (first|(with_reducible first|exact HB.out|apply wA_|apply wN_|apply wD_|refine below_set ?_ GE118.out|refine below_set ?_ GE119.out)|exact HB.out)⟩⟩
 case rest =>
  clear HC3;(try clear c1 c2 p2 c3 c7 c9 c10 c10b0 c10b1 c11 c18 c25 c30);(try clear z12_0 z12_1 z12_2 z12_3 z12_4 z12_5);(try clear z14_0 z14_1 z14_2 z14_3 z14_4 z14_5);(try clear z16_0 z16_1 z16_2 z16_3 z16_4 z16_5);(try clear z17_0 z17_1 z17_2 z17_3 z17_4 z17_5);(try clear z19_0 z19_1 z19_2 z19_3 z19_4 z19_5);(try clear z21_0 z21_1 z21_2 z21_3 z21_4 z21_5);(try clear z23_0 z23_1 z23_2 z23_3 z23_4 z23_5);(try clear z24_0 z24_1 z24_2 z24_3 z24_4 z24_5);(try clear z26_0 z26_1 z26_2 z26_3 z26_4 z26_5);(try clear z28_0 z28_1 z28_2 z28_3 z28_4 z28_5);(try clear z31_0 z31_1 z31_2 z31_3 z31_4 z31_5);(try clear y12_0 y12_1 y12_2 y12_3 y12_4 y12_5);(try clear y14_0 y14_1 y14_2 y14_3 y14_4 y14_5);(try clear y16_0 y16_1 y16_2 y16_3 y16_4 y16_5);(try clear y17_0 y17_1 y17_2 y17_3 y17_4 y17_5);(try clear y19_0 y19_1 y19_2 y19_3 y19_4 y19_5);(try clear y21_0 y21_1 y21_2 y21_3 y21_4 y21_5);(try clear y23_0 y23_1 y23_2 y23_3 y23_4 y23_5);(try clear y24_0 y24_1 y24_2 y24_3 y24_4 y24_5);(try clear y26_0 y26_1 y26_2 y26_3 y26_4 y26_5);(try clear y28_0 y28_1 y28_2 y28_3 y28_4 y28_5);(try clear y31_0 y31_1 y31_2 y31_3 y31_4 y31_5);obtain ⟨kq,x28_2,rfl,HA,HJ2,BK118,BK119,HB⟩:=hcut
  cases kq with
  | zero=>exact absurd HA.out (by simp [impl_ImageLike.j0])
  | succ kj2 =>
   have H:=HA.out;clear HA;simp only [impl_ImageLike.j0] at H
   by_cases c33:x28_2=true
   ·subst c33
    have H1:(some false)=some r:=by first|(rw [if_pos rfl] at H;exact H)|rfl
    clear H;have H:=H1;clear H1;obtain rfl:=Option.some.inj H;go_wp2
    go_ret
    exact ⟨by first|rfl|(simp [errW_none,errW_some] <;> rfl)|(simp [*,errW_none,errW_some] <;> rfl),by repeat (first|(with_reducible first|exact HB.out|apply wA_|apply wN_|apply wD_|refine below_set ?_ GE118.out|refine below_set ?_ GE119.out)|exact HB.out)⟩
   ·replace c33:=Bool.eq_false_iff.mpr c33;subst c33
    have H1:(impl_ImageLike.l0 kj2 l0_5 (l0_5.length:Int) 0 a0_0 a0_1 a0_2 a0_3 l0_4 l0_5 a1_0 a1_1 a1_2 a1_3 l1_4 l1_5)=some r:=by first|(rw [if_neg (show ¬ (false=true) by decide)] at H;exact H)|rfl
    clear H;have H:=H1;clear H1;have H':=aM_ H;clear H;have hnb34:=NB118_119.out;have hnc34:=NB119_118.out;obtain ⟨z35_0,z35_1,z35_2,z35_3,z35_4,z35_5⟩:=bc6 BK118.out;obtain ⟨y35_0,y35_1,y35_2,y35_3,y35_4,y35_5⟩:=bf6 BK118.out;go_wp2
    go_loopg [32] kj2 (fun kq v32 w'=>∃ (x32_2:Int),v32=.int .i64 x32_2∧Aside0 (impl_ImageLike.l0 kq l0_5 (l0_5.length:Int) x32_2 a0_0 a0_1 a0_2 a0_3 l0_4 l0_5 a1_0 a1_1 a1_2 a1_3 l1_4 l1_5=some r)∧Aside0 (kq≤kj2)∧Aside0 (w'.heap[gb118]?=some (.cells #[.int .i64 a0_0,.int .i64 a0_1,.int .i64 a0_2,.int .i64 a0_3,(.slice A0_4 l0_4.length c0_4),(.slice A0_5 l0_5.length c0_5)] 25 (0,0)))∧Aside0 (w'.heap[gb119]?=some (.cells #[.int .i64 a1_0,.int .i64 a1_1,.int .i64 a1_2,.int .i64 a1_3,(.slice A1_4 l1_4.length c1_4),(.slice A1_5 l1_5.length c1_5)] 25 (0,0)))∧Aside0 (Below w.heap.size w w'))
    case atStart=>exact ⟨(0),sm_,H',⟨Nat.le_refl _⟩,⟨by (with_reducible repeat (first|apply kN_|apply kD_|apply kA_));exact BK118.out⟩,⟨by (with_reducible repeat (first|apply kN_|apply kD_|apply kA_));exact BK119.out⟩,⟨by repeat (first|(with_reducible first|exact HB.out|apply wA_|apply wN_|apply wD_|refine below_set ?_ GE118.out|refine below_set ?_ GE119.out)|exact HB.out)⟩⟩
    case round =>
     clear H';(try clear c1 c2 p2 c3 c7 c9 c10 c10b0 c10b1 c11 c18 c25 c30 c33 c34);(try clear z12_0 z12_1 z12_2 z12_3 z12_4 z12_5);(try clear z14_0 z14_1 z14_2 z14_3 z14_4 z14_5);(try clear z16_0 z16_1 z16_2 z16_3 z16_4 z16_5);(try clear z17_0 z17_1 z17_2 z17_3 z17_4 z17_5);(try clear z19_0 z19_1 z19_2 z19_3 z19_4 z19_5);(try clear z21_0 z21_1 z21_2 z21_3 z21_4 z21_5);(try clear z23_0 z23_1 z23_2 z23_3 z23_4 z23_5);(try clear z24_0 z24_1 z24_2 z24_3 z24_4 z24_5);(try clear z26_0 z26_1 z26_2 z26_3 z26_4 z26_5);(try clear z28_0 z28_1 z28_2 z28_3 z28_4 z28_5);(try clear z31_0 z31_1 z31_2 z31_3 z31_4 z31_5);(try clear z35_0 z35_1 z35_2 z35_3 z35_4 z35_5);(try clear y12_0 y12_1 y12_2 y12_3 y12_4 y12_5);(try clear y14_0 y14_1 y14_2 y14_3 y14_4 y14_5);(try clear y16_0 y16_1 y16_2 y16_3 y16_4 y16_5);(try clear y17_0 y17_1 y17_2 y17_3 y17_4 y17_5);(try clear y19_0 y19_1 y19_2 y19_3 y19_4 y19_5);(try clear y21_0 y21_1 y21_2 y21_3 y21_4 y21_5);(try clear y23_0 y23_1 y23_2 y23_3 y23_4 y23_5);(try clear y24_0 y24_1 y24_2 y24_3 y24_4 y24_5);(try clear y26_0 y26_1 y26_2 y26_3 y26_4 y26_5);(try clear y28_0 y28_1 y28_2 y28_3 y28_4 y28_5);(try clear y31_0 y31_1 y31_2 y31_3 y31_4 y31_5);(try clear y35_0 y35_1 y35_2 y35_3 y35_4 y35_5);(try clear p2);obtain ⟨x32_2,rfl,HA,HK2,BK118,BK119,HB⟩:=hrel
     cases gk with
     | zero=>exact absurd HA.out (by simp [impl_ImageLike.l0])
     | succ k2 =>
      have H:=HA.out;clear HA;simp only [impl_ImageLike.l0] at H
      by_cases c36:x32_2 < (l0_5.length:Int)
      ·rw [if_pos c36] at H;have c36b0:decide (x32_2 < (l0_5.length:Int))=true:=decide_eq_true c36;clear c36
       by_cases c37:0≤x32_2
       ·rw [if_pos c37] at H;have c37b0:decide (0≤x32_2)=true:=decide_eq_true c37;clear c37
        by_cases c38:x32_2 < (l0_5.length:Int)
        ·rw [if_pos c38] at H;have c38b0:decide (x32_2 < (l0_5.length:Int))=true:=decide_eq_true c38;clear c38;replace H:=Option.bind_eq_some_iff.mp H;obtain ⟨t123,A390,H⟩:=H;(try dsimp only at H);have A39:=aM_ A390;clear A390
         by_cases c40:x32_2 < (l1_5.length:Int)
         ·rw [if_pos c40] at H;have c40b0:decide (x32_2 < (l1_5.length:Int))=true:=decide_eq_true c40;clear c40;replace H:=Option.bind_eq_some_iff.mp H;obtain ⟨t125,A410,H⟩:=H;(try dsimp only at H);have A41:=aM_ A410;clear A410
          by_cases c42:t123=t125
          ·rw [if_pos c42] at H;have c42b0:(t123 == t125)=true:=beq_iff_eq.mpr c42;have c42b1:(t123 != t125)=false:=bne_eq_false_iff_eq.mpr c42;clear c42;have H':=aM_ H;clear H;have p122:0≤(x32_2:Int):=of_decide_eq_true (by first|(with_reducible assumption)|assumption);have q122:x32_2 < (l0_5.length:Int):=of_decide_eq_true (by first|(with_reducible assumption)|assumption);obtain ⟨ad122,e122,hx122_0⟩:=Kd.at_int HR0_5.out x32_2 p122 q122;cases e122;replace hx122_0:=(HB.out.cell (World.block_lt_of_cell? w _ hx122_0)).trans hx122_0;replace p122:=eq_true p122;replace q122:=eq_true q122
           try go_wp2
           replace BK118:=aM_ (kD_ BK118.out);replace BK119:=aM_ (kD_ BK119.out);replace HB:=aM_ (wD_ HB.out);have p124:0≤(x32_2:Int):=of_decide_eq_true (by first|(with_reducible assumption)|assumption);have q124:x32_2 < (l1_5.length:Int):=of_decide_eq_true (by first|(with_reducible assumption)|assumption);obtain ⟨ad124,e124,hx124_0⟩:=Kd.at_int HR1_5.out x32_2 p124 q124;have hw124_0:=hx124_0;cases e124;replace hx124_0:=(HB.out.cell (World.block_lt_of_cell? w _ hx124_0)).trans hx124_0;replace p124:=eq_true p124;replace q124:=eq_true q124;refine start_ (n:=11) (S:=fun w'=>w'.cell? ⟨gb118,0,none⟩=some (.int .i64 a0_0)∧w'.cell? ⟨gb118,1,none⟩=some (.int .i64 a0_1)∧w'.cell? ⟨gb118,2,none⟩=some (.int .i64 a0_2)∧w'.cell? ⟨gb118,3,none⟩=some (.int .i64 a0_3)∧w'.cell? ⟨gb118,4,none⟩=some (.slice A0_4 l0_4.length c0_4)∧w'.cell? ⟨gb118,5,none⟩=some (.slice (some ad122) l0_5.length c0_5)∧w'.cell? ⟨gb119,0,none⟩=some (.int .i64 a1_0)∧w'.cell? ⟨gb119,1,none⟩=some (.int .i64 a1_1)∧w'.cell? ⟨gb119,2,none⟩=some (.int .i64 a1_2)∧w'.cell? ⟨gb119,3,none⟩=some (.int .i64 a1_3)∧w'.cell? ⟨gb119,4,none⟩=some (.slice A1_4 l1_4.length c1_4)∧w'.cell? ⟨gb119,5,none⟩=some (.slice (some ad124) l1_5.length c1_5)∧w'.cell? (ad124.add (x32_2).toNat)=some (.int .i64 (rd l1_5 x32_2))) (ds:=[]) #[false,false,false,false,false,false,false,false,false,false,false] (by kernel_rfl) rfl rfl ⟨(blk_cell BK118.out 0).trans rfl,(blk_cell BK118.out 1).trans rfl,(blk_cell BK118.out 2).trans rfl,(blk_cell BK118.out 3).trans rfl,(blk_cell BK118.out 4).trans rfl,(blk_cell BK118.out 5).trans rfl,(blk_cell BK119.out 0).trans rfl,(blk_cell BK119.out 1).trans rfl,(blk_cell BK119.out 2).trans rfl,(blk_cell BK119.out 3).trans rfl,(blk_cell BK119.out 4).trans rfl,(blk_cell BK119.out 5).trans rfl,((HB.out.cell (World.block_lt_of_cell? w _ hw124_0)).trans hw124_0)⟩ (fun hHeld=>?_);refine with_tabW impl_ImageLike.tab6 impl_ImageLike.bits6 (fun HT_ HW_=>?_);generalize wr.drew=w43 at BK118 BK119 HB hx124_0 hHeld ⊢;refine pU_ 1 (some 38) HT_.out ?_;refine pU_ 4 (some 41) HT_.out ?_;refine pU_ 6 (some 43) HT_.out ?_;refine tK_ 0 (some 37) HT_.out HW_.out hHeld ?_;refine tK_ 3 (some 40) HT_.out HW_.out hHeld ?_;refine tK_ 5 (some 42) HT_.out HW_.out hHeld ?_;refine pU_ 7 (some 44) HT_.out ?_;refine tK_ 8 (some 45) HT_.out HW_.out hHeld ?_;refine oN_ 2 (some 39) HT_.out (fun K hK=>?_);refine goes_ Try.func27 (by kernel_rfl) rfl #[.agg #[.int .i64 a0_0,.int .i64 a0_1,.int .i64 a0_2,.int .i64 a0_3,.slice A0_4 l0_4.length c0_4,.slice (some ad122) l0_5.length c0_5],.int .i64 (rd l0_5 x32_2)] (by rfl) rfl rfl am_ ?_
           with_reducible refine (impl_Image_color.calls a0_0 a0_1 a0_2 a0_3 _ _ l0_4 _ _ l0_5 (rd l0_5 x32_2) t123 _ ?side1 ?side2 ?side3 ?side4 A39.out).mono ?_
           (case side1=>exact co_ (Kd.C_below HR0_4.out HB.out))
           (case side2=>exact HC0_4.out)
           (case side3=>exact co_ (Kd.C_below HR0_5.out HB.out))
           (case side4=>exact HC0_5.out)
           rintro e w44 ⟨rfl,hb⟩
           refine ⟨_,rfl,?_⟩;replace BK118:=bW_ BK118 hb;replace BK119:=bW_ BK119 hb;replace HB:=aM_ (below_step (ht_ HB GE118.out GE119.out) hb)
           (try clear hb)
           refine hK.out _ _ ⟨(blk_cell BK118.out 0).trans rfl,(blk_cell BK118.out 1).trans rfl,(blk_cell BK118.out 2).trans rfl,(blk_cell BK118.out 3).trans rfl,(blk_cell BK118.out 4).trans rfl,(blk_cell BK118.out 5).trans rfl,(blk_cell BK119.out 0).trans rfl,(blk_cell BK119.out 1).trans rfl,(blk_cell BK119.out 2).trans rfl,(blk_cell BK119.out 3).trans rfl,(blk_cell BK119.out 4).trans rfl,(blk_cell BK119.out 5).trans rfl,((HB.out.cell (World.block_lt_of_cell? w _ hw124_0)).trans hw124_0)⟩ (fun hHeld=>?_);clear hK K;refine nR_ (some 39) ?_;refine oN_ 9 (some 46) HT_.out (fun K hK=>?_);refine goes_ Try.func27 (by kernel_rfl) rfl #[.agg #[.int .i64 a1_0,.int .i64 a1_1,.int .i64 a1_2,.int .i64 a1_3,.slice A1_4 l1_4.length c1_4,.slice (some ad124) l1_5.length c1_5],.int .i64 (rd l1_5 x32_2)] (by rfl) rfl rfl am_ ?_
           with_reducible refine (impl_Image_color.calls a1_0 a1_1 a1_2 a1_3 _ _ l1_4 _ _ l1_5 (rd l1_5 x32_2) t125 _ ?side1 ?side2 ?side3 ?side4 A41.out).mono ?_
           (case side1=>exact co_ (Kd.C_below HR1_4.out HB.out))
           (case side2=>exact HC1_4.out)
           (case side3=>exact co_ (Kd.C_below HR1_5.out HB.out))
           (case side4=>exact HC1_5.out)
           rintro e w45 ⟨rfl,hb⟩
           refine ⟨_,rfl,?_⟩;replace BK118:=bW_ BK118 hb;replace BK119:=bW_ BK119 hb;replace HB:=aM_ (below_step (ht_ HB GE118.out GE119.out) hb)
           (try clear hb hb2)
           refine hK.out _ _ ⟨(blk_cell BK118.out 0).trans rfl,(blk_cell BK118.out 1).trans rfl,(blk_cell BK118.out 2).trans rfl,(blk_cell BK118.out 3).trans rfl,(blk_cell BK118.out 4).trans rfl,(blk_cell BK118.out 5).trans rfl,(blk_cell BK119.out 0).trans rfl,(blk_cell BK119.out 1).trans rfl,(blk_cell BK119.out 2).trans rfl,(blk_cell BK119.out 3).trans rfl,(blk_cell BK119.out 4).trans rfl,(blk_cell BK119.out 5).trans rfl,((HB.out.cell (World.block_lt_of_cell? w _ hw124_0)).trans hw124_0)⟩ (fun hHeld=>?_);clear hK K;refine nR_ (some 46) ?_;refine pU_ 10 (some 47) HT_.out ?_;refine done_ (done_of HT_.out (by kernel_rfl)) ?_
           try go_wp2
           go_roundg k2
           case measure=>have:=HJ2.out;have:=HK2.out;omega
           case rel=>exact ⟨(wrap64 (x32_2+1)),sm_,H',⟨by have:=HJ2.out;have:=HK2.out;omega⟩,⟨by (with_reducible repeat (first|apply kN_|apply kD_|apply kA_));exact BK118.out⟩,⟨by (with_reducible repeat (first|apply kN_|apply kD_|apply kA_));exact BK119.out⟩,⟨by repeat (first|(with_reducible first|exact HB.out|apply wA_|apply wN_|apply wD_|refine below_set ?_ GE118.out|refine below_set ?_ GE119.out)|exact HB.out)⟩⟩
          ·rw [if_neg c42] at H;have c42b0:(t123 == t125)=false:=beq_eq_false_iff_ne.mpr c42;have c42b1:(t123 != t125)=true:=bne_iff_ne.mpr c42;obtain rfl:=Option.some.inj H;have p122:0≤(x32_2:Int):=of_decide_eq_true (by first|(with_reducible assumption)|assumption);have q122:x32_2 < (l0_5.length:Int):=of_decide_eq_true (by first|(with_reducible assumption)|assumption);obtain ⟨ad122,e122,hx122_0⟩:=Kd.at_int HR0_5.out x32_2 p122 q122;cases e122;replace hx122_0:=(HB.out.cell (World.block_lt_of_cell? w _ hx122_0)).trans hx122_0;replace p122:=eq_true p122;replace q122:=eq_true q122
           try go_wp2
           replace BK118:=aM_ (kD_ BK118.out);replace BK119:=aM_ (kD_ BK119.out);replace HB:=aM_ (wD_ HB.out);have p124:0≤(x32_2:Int):=of_decide_eq_true (by first|(with_reducible assumption)|assumption);have q124:x32_2 < (l1_5.length:Int):=of_decide_eq_true (by first|(with_reducible assumption)|assumption);obtain ⟨ad124,e124,hx124_0⟩:=Kd.at_int HR1_5.out x32_2 p124 q124;have hw124_0:=hx124_0;cases e124;replace hx124_0:=(HB.out.cell (World.block_lt_of_cell? w _ hx124_0)).trans hx124_0;replace p124:=eq_true p124;replace q124:=eq_true q124;refine start_ (n:=11) (S:=fun w'=>w'.cell? ⟨gb118,0,none⟩=some (.int .i64 a0_0)∧w'.cell? ⟨gb118,1,none⟩=some (.int .i64 a0_1)∧w'.cell? ⟨gb118,2,none⟩=some (.int .i64 a0_2)∧w'.cell? ⟨gb118,3,none⟩=some (.int .i64 a0_3)∧w'.cell? ⟨gb118,4,none⟩=some (.slice A0_4 l0_4.length c0_4)∧w'.cell? ⟨gb118,5,none⟩=some (.slice (some ad122) l0_5.length c0_5)∧w'.cell? ⟨gb119,0,none⟩=some (.int .i64 a1_0)∧w'.cell? ⟨gb119,1,none⟩=some (.int .i64 a1_1)∧w'.cell? ⟨gb119,2,none⟩=some (.int .i64 a1_2)∧w'.cell? ⟨gb119,3,none⟩=some (.int .i64 a1_3)∧w'.cell? ⟨gb119,4,none⟩=some (.slice A1_4 l1_4.length c1_4)∧w'.cell? ⟨gb119,5,none⟩=some (.slice (some ad124) l1_5.length c1_5)∧w'.cell? (ad124.add (x32_2).toNat)=some (.int .i64 (rd l1_5 x32_2))) (ds:=[]) #[false,false,false,false,false,false,false,false,false,false,false] (by kernel_rfl) rfl rfl ⟨(blk_cell BK118.out 0).trans rfl,(blk_cell BK118.out 1).trans rfl,(blk_cell BK118.out 2).trans rfl,(blk_cell BK118.out 3).trans rfl,(blk_cell BK118.out 4).trans rfl,(blk_cell BK118.out 5).trans rfl,(blk_cell BK119.out 0).trans rfl,(blk_cell BK119.out 1).trans rfl,(blk_cell BK119.out 2).trans rfl,(blk_cell BK119.out 3).trans rfl,(blk_cell BK119.out 4).trans rfl,(blk_cell BK119.out 5).trans rfl,((HB.out.cell (World.block_lt_of_cell? w _ hw124_0)).trans hw124_0)⟩ (fun hHeld=>?_);refine with_tabW impl_ImageLike.tab6 impl_ImageLike.bits6 (fun HT_ HW_=>?_);generalize wr.drew=w46 at BK118 BK119 HB hx124_0 hHeld ⊢;refine pU_ 1 (some 38) HT_.out ?_;refine pU_ 4 (some 41) HT_.out ?_;refine pU_ 6 (some 43) HT_.out ?_;refine tK_ 0 (some 37) HT_.out HW_.out hHeld ?_;refine tK_ 3 (some 40) HT_.out HW_.out hHeld ?_;refine tK_ 5 (some 42) HT_.out HW_.out hHeld ?_;refine pU_ 7 (some 44) HT_.out ?_;refine tK_ 8 (some 45) HT_.out HW_.out hHeld ?_;refine oN_ 2 (some 39) HT_.out (fun K hK=>?_);refine goes_ Try.func27 (by kernel_rfl) rfl #[.agg #[.int .i64 a0_0,.int .i64 a0_1,.int .i64 a0_2,.int .i64 a0_3,.slice A0_4 l0_4.length c0_4,.slice (some ad122) l0_5.length c0_5],.int .i64 (rd l0_5 x32_2)] (by rfl) rfl rfl am_ ?_
           with_reducible refine (impl_Image_color.calls a0_0 a0_1 a0_2 a0_3 _ _ l0_4 _ _ l0_5 (rd l0_5 x32_2) t123 _ ?side1 ?side2 ?side3 ?side4 A39.out).mono ?_
           (case side1=>exact co_ (Kd.C_below HR0_4.out HB.out))
           (case side2=>exact HC0_4.out)
           (case side3=>exact co_ (Kd.C_below HR0_5.out HB.out))
           (case side4=>exact HC0_5.out)
           rintro e w47 ⟨rfl,hb⟩
           refine ⟨_,rfl,?_⟩;replace BK118:=bW_ BK118 hb;replace BK119:=bW_ BK119 hb;replace HB:=aM_ (below_step (ht_ HB GE118.out GE119.out) hb)
           (try clear hb hb2)
           refine hK.out _ _ ⟨(blk_cell BK118.out 0).trans rfl,(blk_cell BK118.out 1).trans rfl,(blk_cell BK118.out 2).trans rfl,(blk_cell BK118.out 3).trans rfl,(blk_cell BK118.out 4).trans rfl,(blk_cell BK118.out 5).trans rfl,(blk_cell BK119.out 0).trans rfl,(blk_cell BK119.out 1).trans rfl,(blk_cell BK119.out 2).trans rfl,(blk_cell BK119.out 3).trans rfl,(blk_cell BK119.out 4).trans rfl,(blk_cell BK119.out 5).trans rfl,((HB.out.cell (World.block_lt_of_cell? w _ hw124_0)).trans hw124_0)⟩ (fun hHeld=>?_);clear hK K;refine nR_ (some 39) ?_;refine oN_ 9 (some 46) HT_.out (fun K hK=>?_);refine goes_ Try.func27 (by kernel_rfl) rfl #[.agg #[.int .i64 a1_0,.int .i64 a1_1,.int .i64 a1_2,.int .i64 a1_3,.slice A1_4 l1_4.length c1_4,.slice (some ad124) l1_5.length c1_5],.int .i64 (rd l1_5 x32_2)] (by rfl) rfl rfl am_ ?_
           with_reducible refine (impl_Image_color.calls a1_0 a1_1 a1_2 a1_3 _ _ l1_4 _ _ l1_5 (rd l1_5 x32_2) t125 _ ?side1 ?side2 ?side3 ?side4 A41.out).mono ?_
           (case side1=>exact co_ (Kd.C_below HR1_4.out HB.out))
           (case side2=>exact HC1_4.out)
           (case side3=>exact co_ (Kd.C_below HR1_5.out HB.out))
           (case side4=>exact HC1_5.out)
           rintro e w48 ⟨rfl,hb⟩
           refine ⟨_,rfl,?_⟩;replace BK118:=bW_ BK118 hb;replace BK119:=bW_ BK119 hb;replace HB:=aM_ (below_step (ht_ HB GE118.out GE119.out) hb)
           (try clear hb hb2)
           refine hK.out _ _ ⟨(blk_cell BK118.out 0).trans rfl,(blk_cell BK118.out 1).trans rfl,(blk_cell BK118.out 2).trans rfl,(blk_cell BK118.out 3).trans rfl,(blk_cell BK118.out 4).trans rfl,(blk_cell BK118.out 5).trans rfl,(blk_cell BK119.out 0).trans rfl,(blk_cell BK119.out 1).trans rfl,(blk_cell BK119.out 2).trans rfl,(blk_cell BK119.out 3).trans rfl,(blk_cell BK119.out 4).trans rfl,(blk_cell BK119.out 5).trans rfl,((HB.out.cell (World.block_lt_of_cell? w _ hw124_0)).trans hw124_0)⟩ (fun hHeld=>?_);clear hK K;refine nR_ (some 46) ?_;refine pU_ 10 (some 47) HT_.out ?_;refine done_ (done_of HT_.out (by kernel_rfl)) ?_
           try go_wp2
           go_ret
           exact ⟨by first|rfl|(simp [errW_none,errW_some] <;> rfl)|(simp [*,errW_none,errW_some] <;> rfl),by repeat (first|(with_reducible first|exact HB.out|apply wA_|apply wN_|apply wD_|refine below_set ?_ GE118.out|refine below_set ?_ GE119.out)|exact HB.out)⟩
         ·rw [if_neg c40] at H;exact absurd H (by simp)
        ·rw [if_neg c38] at H;exact absurd H (by simp)
       ·rw [if_neg c37] at H;exact absurd H (by simp)
      ·rw [if_neg c36] at H;have c36b0:decide (x32_2 < (l0_5.length:Int))=false:=decide_eq_false c36;clear c36;obtain rfl:=Option.some.inj H;go_wp2
       go_ret
       exact ⟨by first|rfl|(simp [errW_none,errW_some] <;> rfl)|(simp [*,errW_none,errW_some] <;> rfl),by repeat (first|(with_reducible first|exact HB.out|apply wA_|apply wN_|apply wD_|refine below_set ?_ GE118.out|refine below_set ?_ GE119.out)|exact HB.out)⟩

end Go.Proofs.Ytagbmaapahhmpaa.PFnImageLike
