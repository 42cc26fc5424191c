/- What the functions that the law comes to compute, as plain functions, and that the machine's calls come to just that: written by a program for this claim, and turned where Lean did not take it. No condition. -/
import Derived.Test.YtagbmaapahhmpaaHFnImageLikex0
import Derived.Test.YtagbmaapahhmpaaHFnImageLikex5
namespace Go.Proofs.Ytagbmaapahhmpaa.PFnImageLike
open Go.RowKit Go.Proofs.YtagbmaapahhmpaaW.PrintWords Go.Proofs.YtagbmaapahhmpaaW.PrintLast Go.Proofs.YtagbmaapahhmpaaW.PrintMore
attribute [local go_sem] max2_int min2_int max_two min_two max_three min_three max_four min_four   -- for this text's walks alone
set_option linter.unusedVariables false
set_option linter.unusedSimpArgs false

/-! ### spec_ImageOk: function 14 -/
mutual
def spec_ImageOk.j0:Nat → Bool → Int → Int → Int → Int → List Int → List Int → Option (Bool)
 | 0,_,_,_,_,_,_,_=>none
 | k+1,x38,x132000,x132001,x132002,x132003,x132004,x132005=>if x38=true then (some false) else ((spec_l1Pow.f k x132001).bind fun t136=>(if x132000=4 then (spec_ImageOk.j1 k (wrap64 ((x132004.length:Int) - 1)) x132000 x132001 x132002 x132003 x132004 x132005) else (spec_ImageOk.j1 k (wrap64 (t136 - 1)) x132000 x132001 x132002 x132003 x132004 x132005)))
def spec_ImageOk.j1:Nat → Int → Int → Int → Int → Int → List Int → List Int → Option (Bool)
 | 0,_,_,_,_,_,_,_=>none
 | k+1,x3,x132000,x132001,x132002,x132003,x132004,x132005=>spec_ImageOk.l0 k x3 0 x132000 x132001 x132002 x132003 x132004 x132005
def spec_ImageOk.l0:Nat → Int → Int → Int → Int → Int → Int → List Int → List Int → Option (Bool)
 | 0,_,_,_,_,_,_,_,_=>none
 | k+1,x3,x4,x132000,x132001,x132002,x132003,x132004,x132005=>if x4 < (x132005.length:Int) then (if 0≤x4 then ((spec_l1In.f (rd x132005 x4) 0 x3).bind fun t138=>(if t138=true then (spec_ImageOk.l0 k x3 (wrap64 (x4+1)) x132000 x132001 x132002 x132003 x132004 x132005) else (some false))) else (none)) else (some true)
end
def spec_ImageOk.f (k:Nat) (a0_0:Int) (a0_1:Int) (a0_2:Int) (a0_3:Int) (l0_4:List Int) (l0_5:List Int):Option (Bool):=(spec_l8Depth.f k a0_0 a0_1).bind fun t132=>(if t132=true then ((spec_l1In.f a0_2 1 20).bind fun t133=>(if t133=true then ((spec_l1In.f a0_3 1 20).bind fun t134=>(if t134=true then (if (l0_5.length:Int)=(wrap64 (a0_2 * a0_3)) then ((spec_l8Colors.f k a0_0 a0_1 a0_2 a0_3 l0_4 l0_5).bind fun t135=>(spec_ImageOk.j0 k (!t135) a0_0 a0_1 a0_2 a0_3 l0_4 l0_5)) else (spec_ImageOk.j0 k true a0_0 a0_1 a0_2 a0_3 l0_4 l0_5)) else (spec_ImageOk.j0 k true a0_0 a0_1 a0_2 a0_3 l0_4 l0_5))) else (spec_ImageOk.j0 k true a0_0 a0_1 a0_2 a0_3 l0_4 l0_5))) else (spec_ImageOk.j0 k true a0_0 a0_1 a0_2 a0_3 l0_4 l0_5))
theorem spec_ImageOk.mono_l:∀ k,(∀ y0 y1 y2 y3 y4 y5 y6,LeO (spec_ImageOk.j0 k y0 y1 y2 y3 y4 y5 y6) (spec_ImageOk.j0 (k+1) y0 y1 y2 y3 y4 y5 y6))∧(∀ y0 y1 y2 y3 y4 y5 y6,LeO (spec_ImageOk.j1 k y0 y1 y2 y3 y4 y5 y6) (spec_ImageOk.j1 (k+1) y0 y1 y2 y3 y4 y5 y6))∧(∀ y0 y1 y2 y3 y4 y5 y6 y7,LeO (spec_ImageOk.l0 k y0 y1 y2 y3 y4 y5 y6 y7) (spec_ImageOk.l0 (k+1) y0 y1 y2 y3 y4 y5 y6 y7))
 | 0=>⟨fun _ _ _ _ _ _ _ r h=>by simp [spec_ImageOk.j0] at h,fun _ _ _ _ _ _ _ r h=>by simp [spec_ImageOk.j1] at h,fun _ _ _ _ _ _ _ _ r h=>by simp [spec_ImageOk.l0] at h⟩
 | k+1=>by
  obtain ⟨ih0,ih1,ih2⟩:=spec_ImageOk.mono_l k;refine ⟨?_,?_,?_⟩
  ·intro y0 y1 y2 y3 y4 y5 y6
   unfold spec_ImageOk.j0
   repeat' first
   | (with_reducible exact ih0 _ _ _ _ _ _ _)
   | (with_reducible exact ih1 _ _ _ _ _ _ _)
   | (with_reducible exact ih2 _ _ _ _ _ _ _ _)
   | (with_reducible exact spec_l1Pow.mono _ _)
   | (with_reducible exact spec_l8Colors.mono _ _ _ _ _ _ _)
   | (with_reducible exact spec_l8Depth.mono _ _ _)
   | (with_reducible exact LeO.refl _)
   | (with_reducible exact LeO.none _)
   | (with_reducible refine LeO.ite ?_ ?_)
   | (with_reducible refine LeO.bind ?_ (fun _=>?_))
  ·intro y0 y1 y2 y3 y4 y5 y6
   unfold spec_ImageOk.j1
   repeat' first
   | (with_reducible exact ih0 _ _ _ _ _ _ _)
   | (with_reducible exact ih1 _ _ _ _ _ _ _)
   | (with_reducible exact ih2 _ _ _ _ _ _ _ _)
   | (with_reducible exact spec_l1Pow.mono _ _)
   | (with_reducible exact spec_l8Colors.mono _ _ _ _ _ _ _)
   | (with_reducible exact spec_l8Depth.mono _ _ _)
   | (with_reducible exact LeO.refl _)
   | (with_reducible exact LeO.none _)
   | (with_reducible refine LeO.ite ?_ ?_)
   | (with_reducible refine LeO.bind ?_ (fun _=>?_))
  ·intro y0 y1 y2 y3 y4 y5 y6 y7
   unfold spec_ImageOk.l0
   repeat' first
   | (with_reducible exact ih0 _ _ _ _ _ _ _)
   | (with_reducible exact ih1 _ _ _ _ _ _ _)
   | (with_reducible exact ih2 _ _ _ _ _ _ _ _)
   | (with_reducible exact spec_l1Pow.mono _ _)
   | (with_reducible exact spec_l8Colors.mono _ _ _ _ _ _ _)
   | (with_reducible exact spec_l8Depth.mono _ _ _)
   | (with_reducible exact LeO.refl _)
   | (with_reducible exact LeO.none _)
   | (with_reducible refine LeO.ite ?_ ?_)
   | (with_reducible refine LeO.bind ?_ (fun _=>?_))
theorem spec_ImageOk.mono:∀ a0 a1 a2 a3 a4 a5 k,LeO (spec_ImageOk.f k a0 a1 a2 a3 a4 a5) (spec_ImageOk.f (k+1) a0 a1 a2 a3 a4 a5):=by
 intro a0 a1 a2 a3 a4 a5 k;obtain ⟨ih0,ih1,ih2⟩:=spec_ImageOk.mono_l k
 unfold spec_ImageOk.f
 repeat' first
   | (with_reducible exact ih0 _ _ _ _ _ _ _)
   | (with_reducible exact ih1 _ _ _ _ _ _ _)
   | (with_reducible exact ih2 _ _ _ _ _ _ _ _)
   | (with_reducible exact spec_l1Pow.mono _ _)
   | (with_reducible exact spec_l8Colors.mono _ _ _ _ _ _ _)
   | (with_reducible exact spec_l8Depth.mono _ _ _)
   | (with_reducible exact LeO.refl _)
   | (with_reducible exact LeO.none _)
   | (with_reducible refine LeO.ite ?_ ?_)
   | (with_reducible refine LeO.bind ?_ (fun _=>?_))
set_option maxHeartbeats 8000000 in
set_option maxRecDepth 100000 in
theorem spec_ImageOk.calls (k:Nat) (a0_0:Int) (a0_1:Int) (a0_2:Int) (a0_3:Int) (A0_4:Option Addr) (c0_4:Nat) (l0_4:List Int) (A0_5:Option Addr) (c0_5:Nat) (l0_5:List Int) (r:Bool) (w:World) (hr0_4:Kd.C (Kd.int .i64) w A0_4 l0_4.length l0_4) (hc0_4:l0_4.length≤c0_4) (hr0_5:Kd.C (Kd.int .i64) w A0_5 l0_5.length l0_5) (hc0_5:l0_5.length≤c0_5) (h:spec_ImageOk.f k a0_0 a0_1 a0_2 a0_3 l0_4 l0_5=some r) :
  Calls Try.prog 14 #[.agg #[.int .i64 a0_0,.int .i64 a0_1,.int .i64 a0_2,.int .i64 a0_3,.slice A0_4 l0_4.length c0_4,.slice A0_5 l0_5.length c0_5]] w fun e w'=>e=.returned (.bool r)∧Below w.heap.size w w':=by
 have hu25:=Try.underlying25;have HR0_4:=aM_ hr0_4;have HC0_4:=aM_ hc0_4;clear hr0_4 hc0_4;have HR0_5:=aM_ hr0_5;have HC0_5:=aM_ hc0_5;clear hr0_5 hc0_5;have HB:=aM_ (Below.refl w.heap.size w);have H:((spec_l8Depth.f k a0_0 a0_1).bind fun t132=>(if t132=true then ((spec_l1In.f a0_2 1 20).bind fun t133=>(if t133=true then ((spec_l1In.f a0_3 1 20).bind fun t134=>(if t134=true then (if (l0_5.length:Int)=(wrap64 (a0_2 * a0_3)) then ((spec_l8Colors.f k a0_0 a0_1 a0_2 a0_3 l0_4 l0_5).bind fun t135=>(spec_ImageOk.j0 k (!t135) a0_0 a0_1 a0_2 a0_3 l0_4 l0_5)) else (spec_ImageOk.j0 k true a0_0 a0_1 a0_2 a0_3 l0_4 l0_5)) else (spec_ImageOk.j0 k true a0_0 a0_1 a0_2 a0_3 l0_4 l0_5))) else (spec_ImageOk.j0 k true a0_0 a0_1 a0_2 a0_3 l0_4 l0_5))) else (spec_ImageOk.j0 k true a0_0 a0_1 a0_2 a0_3 l0_4 l0_5)))=some r:=h;clear h;have HC2:=aM_ H;clear H
 go_enter Try.func14,Try.ntmps14
 go_upto_region 1 with (first|((with_reducible refine gate_dst (N:=1) rfl ?_);(try (refine gate_guard (by rfl) ?_;dsimp only));refine bE_ 1 #[.int .i64 a0_0,.int .i64 a0_1,.int .i64 a0_2,.int .i64 a0_3,.slice A0_4 l0_4.length c0_4,.slice A0_5 l0_5.length c0_5] 25 ?_;intro gb131 hg w3 hbox hb;have BK131:=aM_ (hbox);have GW131:=aM_ ((by rw [hg];exact (below_size (hb_ HB)):w.heap.size≤gb131));have GE131:=GW131;replace HB:=aM_ (below_step (hb_ HB) hb);clear hb hbox hg))
 (try simp only [Act.put,sA_,s0_,s1_])
 go_cut [38] (fun v38 wc=>∃ (kq:Nat) (x38_1:Bool),v38=.bool x38_1∧Aside0 (spec_ImageOk.j0 kq x38_1 a0_0 a0_1 a0_2 a0_3 l0_4 l0_5=some r)∧Aside0 (kq≤k)∧Aside0 (wc.heap[gb131]?=some (.cells #[.int .i64 a0_0,.int .i64 a0_1,.int .i64 a0_2,.int .i64 a0_3,(.slice A0_4 l0_4.length c0_4),(.slice A0_5 l0_5.length c0_5)] 25 (0,0)))∧Aside0 (Below w.heap.size w wc))
 case first =>
  have H:=HC2.out;clear HC2;replace H:=Option.bind_eq_some_iff.mp H;obtain ⟨t132,A40,H⟩:=H;(try dsimp only at H);have A4:=aM_ A40;clear A40
  by_cases c5:t132=true
  ·subst c5
   have H1:((spec_l1In.f a0_2 1 20).bind fun t133=>(if t133=true then ((spec_l1In.f a0_3 1 20).bind fun t134=>(if t134=true then (if (l0_5.length:Int)=(wrap64 (a0_2 * a0_3)) then ((spec_l8Colors.f k a0_0 a0_1 a0_2 a0_3 l0_4 l0_5).bind fun t135=>(spec_ImageOk.j0 k (!t135) a0_0 a0_1 a0_2 a0_3 l0_4 l0_5)) else (spec_ImageOk.j0 k true a0_0 a0_1 a0_2 a0_3 l0_4 l0_5)) else (spec_ImageOk.j0 k true a0_0 a0_1 a0_2 a0_3 l0_4 l0_5))) else (spec_ImageOk.j0 k true a0_0 a0_1 a0_2 a0_3 l0_4 l0_5)))=some r:=by first|(rw [if_pos rfl] at H;exact H)|rfl
   clear H;have H:=H1;clear H1;replace H:=Option.bind_eq_some_iff.mp H;obtain ⟨t133,A60,H⟩:=H;(try dsimp only at H);have A6:=aM_ A60;clear A60
   by_cases c7:t133=true
   ·subst c7
    have H1:((spec_l1In.f a0_3 1 20).bind fun t134=>(if t134=true then (if (l0_5.length:Int)=(wrap64 (a0_2 * a0_3)) then ((spec_l8Colors.f k a0_0 a0_1 a0_2 a0_3 l0_4 l0_5).bind fun t135=>(spec_ImageOk.j0 k (!t135) a0_0 a0_1 a0_2 a0_3 l0_4 l0_5)) else (spec_ImageOk.j0 k true a0_0 a0_1 a0_2 a0_3 l0_4 l0_5)) else (spec_ImageOk.j0 k true a0_0 a0_1 a0_2 a0_3 l0_4 l0_5)))=some r:=by first|(rw [if_pos rfl] at H;exact H)|rfl
    clear H;have H:=H1;clear H1;replace H:=Option.bind_eq_some_iff.mp H;obtain ⟨t134,A80,H⟩:=H;(try dsimp only at H);have A8:=aM_ A80;clear A80
    by_cases c9:t134=true
    ·subst c9
     have H1:(if (l0_5.length:Int)=(wrap64 (a0_2 * a0_3)) then ((spec_l8Colors.f k a0_0 a0_1 a0_2 a0_3 l0_4 l0_5).bind fun t135=>(spec_ImageOk.j0 k (!t135) a0_0 a0_1 a0_2 a0_3 l0_4 l0_5)) else (spec_ImageOk.j0 k true a0_0 a0_1 a0_2 a0_3 l0_4 l0_5))=some r:=by first|(rw [if_pos rfl] at H;exact H)|rfl
     clear H;have H:=H1;clear H1
     by_cases c10:(l0_5.length:Int)=(wrap64 (a0_2 * a0_3))
     ·rw [if_pos c10] at H;have c10b0:((l0_5.length:Int) == (wrap64 (a0_2 * a0_3)))=true:=beq_iff_eq.mpr c10;have c10b1:((l0_5.length:Int) != (wrap64 (a0_2 * a0_3)))=false:=bne_eq_false_iff_eq.mpr c10;clear c10
      (first|rw [c10b0]|(simp only [i64_w,i32_w];rw [c10b0])|skip)
      replace H:=Option.bind_eq_some_iff.mp H;obtain ⟨t135,A110,H⟩:=H;(try dsimp only at H);have A11:=aM_ A110;clear A110;have H':=aM_ H;clear H;obtain ⟨z12_0,z12_1,z12_2,z12_3,z12_4,z12_5⟩:=bc6 BK131.out;obtain ⟨y12_0,y12_1,y12_2,y12_3,y12_4,y12_5⟩:=bf6 BK131.out
      go_wp2_with (first|((with_reducible refine gate_callee (f:=33) rfl ?_);refine goesL_ (some 9) rfl rfl Try.func33 (by kernel_rfl) rfl #[.int .i64 a0_0,.int .i64 a0_1] rfl am_ ?_;(with_reducible refine (spec_l8Depth.calls k a0_0 a0_1 true _ A4.out).mono ?_);rintro e w' ⟨rfl,⟨nd,rfl⟩⟩;refine ⟨_,rfl,?_⟩)|(go_at_call 34;(with_reducible refine (spec_l1In.calls a0_2 1 20 true _ A6.out).mono ?_);rintro e w' ⟨rfl,⟨nd,rfl⟩⟩)|(go_at_call 34;(with_reducible refine (spec_l1In.calls a0_3 1 20 true _ A8.out).mono ?_);rintro e w' ⟨rfl,⟨nd,rfl⟩⟩)|(go_at_call 35;(with_reducible refine (spec_l8Colors.calls k a0_0 a0_1 a0_2 a0_3 _ _ l0_4 _ _ l0_5 t135 _ ?side1 ?side2 ?side3 ?side4 A11.out).mono ?_);(case side1=>exact co_ (Kd.C_below HR0_4.out (hs_ HB GE131.out)));(case side2=>exact HC0_4.out);(case side3=>exact co_ (Kd.C_below HR0_5.out (hs_ HB GE131.out)));(case side4=>exact HC0_5.out);rintro e w13 ⟨rfl,hb⟩;replace BK131:=bW_ BK131 hb;replace HB:=aM_ (below_step (hs_ HB GE131.out) hb);(try clear hb)))
      go_meet
      case rel=>exact ⟨_,(!t135),sm_,H',⟨by first|omega|exact Nat.le_refl _⟩,⟨by (with_reducible repeat (first|apply kN_|apply kD_|apply kA_));exact BK131.out⟩,⟨by repeat (first|(with_reducible first|exact HB.out|apply wA_|apply wN_|apply wD_|refine below_set ?_ GE131.out)|exact HB.out)⟩⟩
     ·rw [if_neg c10] at H;have c10b0:((l0_5.length:Int) == (wrap64 (a0_2 * a0_3)))=false:=beq_eq_false_iff_ne.mpr c10;have c10b1:((l0_5.length:Int) != (wrap64 (a0_2 * a0_3)))=true:=bne_iff_ne.mpr c10
      (first|rw [c10b0]|(simp only [i64_w,i32_w];rw [c10b0])|skip)
      have H':=aM_ H;clear H;obtain ⟨z14_0,z14_1,z14_2,z14_3,z14_4,z14_5⟩:=bc6 BK131.out;obtain ⟨y14_0,y14_1,y14_2,y14_3,y14_4,y14_5⟩:=bf6 BK131.out
      go_wp2_with (first|((with_reducible refine gate_callee (f:=33) rfl ?_);refine goesL_ (some 9) rfl rfl Try.func33 (by kernel_rfl) rfl #[.int .i64 a0_0,.int .i64 a0_1] rfl am_ ?_;(with_reducible refine (spec_l8Depth.calls k a0_0 a0_1 true _ A4.out).mono ?_);rintro e w' ⟨rfl,⟨nd,rfl⟩⟩;refine ⟨_,rfl,?_⟩)|(go_at_call 34;(with_reducible refine (spec_l1In.calls a0_2 1 20 true _ A6.out).mono ?_);rintro e w' ⟨rfl,⟨nd,rfl⟩⟩)|(go_at_call 34;(with_reducible refine (spec_l1In.calls a0_3 1 20 true _ A8.out).mono ?_);rintro e w' ⟨rfl,⟨nd,rfl⟩⟩))
      go_meet
      case rel=>exact ⟨_,(true),sm_,H',⟨by first|omega|exact Nat.le_refl _⟩,⟨by (with_reducible repeat (first|apply kN_|apply kD_|apply kA_));exact BK131.out⟩,⟨by repeat (first|(with_reducible first|exact HB.out|apply wA_|apply wN_|apply wD_|refine below_set ?_ GE131.out)|exact HB.out)⟩⟩
    ·replace c9:=Bool.eq_false_iff.mpr c9;subst c9
     have H1:(spec_ImageOk.j0 k true a0_0 a0_1 a0_2 a0_3 l0_4 l0_5)=some r:=by first|(rw [if_neg (show ¬ (false=true) by decide)] at H;exact H)|rfl
     clear H;have H:=H1;clear H1;have H':=aM_ H;clear H;obtain ⟨z15_0,z15_1,z15_2,z15_3,z15_4,z15_5⟩:=bc6 BK131.out;obtain ⟨y15_0,y15_1,y15_2,y15_3,y15_4,y15_5⟩:=bf6 BK131.out
     go_wp2_with (first|((with_reducible refine gate_callee (f:=33) rfl ?_);refine goesL_ (some 9) rfl rfl Try.func33 (by kernel_rfl) rfl #[.int .i64 a0_0,.int .i64 a0_1] rfl am_ ?_;(with_reducible refine (spec_l8Depth.calls k a0_0 a0_1 true _ A4.out).mono ?_);rintro e w' ⟨rfl,⟨nd,rfl⟩⟩;refine ⟨_,rfl,?_⟩)|(go_at_call 34;(with_reducible refine (spec_l1In.calls a0_2 1 20 true _ A6.out).mono ?_);rintro e w' ⟨rfl,⟨nd,rfl⟩⟩)|(go_at_call 34;(with_reducible refine (spec_l1In.calls a0_3 1 20 false _ A8.out).mono ?_);rintro e w' ⟨rfl,⟨nd,rfl⟩⟩))
     go_meet
     case rel=>exact ⟨_,(true),sm_,H',⟨by first|omega|exact Nat.le_refl _⟩,⟨by (with_reducible repeat (first|apply kN_|apply kD_|apply kA_));exact BK131.out⟩,⟨by repeat (first|(with_reducible first|exact HB.out|apply wA_|apply wN_|apply wD_|refine below_set ?_ GE131.out)|exact HB.out)⟩⟩
   ·replace c7:=Bool.eq_false_iff.mpr c7;subst c7
    have H1:(spec_ImageOk.j0 k true a0_0 a0_1 a0_2 a0_3 l0_4 l0_5)=some r:=by first|(rw [if_neg (show ¬ (false=true) by decide)] at H;exact H)|rfl
    clear H;have H:=H1;clear H1;have H':=aM_ H;clear H;obtain ⟨z16_0,z16_1,z16_2,z16_3,z16_4,z16_5⟩:=bc6 BK131.out;obtain ⟨y16_0,y16_1,y16_2,y16_3,y16_4,y16_5⟩:=bf6 BK131.out
    go_wp2_with (first|((with_reducible refine gate_callee (f:=33) rfl ?_);refine goesL_ (some 9) rfl rfl Try.func33 (by kernel_rfl) rfl #[.int .i64 a0_0,.int .i64 a0_1] rfl am_ ?_;(with_reducible refine (spec_l8Depth.calls k a0_0 a0_1 true _ A4.out).mono ?_);rintro e w' ⟨rfl,⟨nd,rfl⟩⟩;refine ⟨_,rfl,?_⟩)|(go_at_call 34;(with_reducible refine (spec_l1In.calls a0_2 1 20 false _ A6.out).mono ?_);rintro e w' ⟨rfl,⟨nd,rfl⟩⟩))
    go_meet
    case rel=>exact ⟨_,(true),sm_,H',⟨by first|omega|exact Nat.le_refl _⟩,⟨by (with_reducible repeat (first|apply kN_|apply kD_|apply kA_));exact BK131.out⟩,⟨by repeat (first|(with_reducible first|exact HB.out|apply wA_|apply wN_|apply wD_|refine below_set ?_ GE131.out)|exact HB.out)⟩⟩
  ·replace c5:=Bool.eq_false_iff.mpr c5;subst c5
   have H1:(spec_ImageOk.j0 k true a0_0 a0_1 a0_2 a0_3 l0_4 l0_5)=some r:=by first|(rw [if_neg (show ¬ (false=true) by decide)] at H;exact H)|rfl
   clear H;have H:=H1;clear H1;have H':=aM_ H;clear H;obtain ⟨z17_0,z17_1,z17_2,z17_3,z17_4,z17_5⟩:=bc6 BK131.out;obtain ⟨y17_0,y17_1,y17_2,y17_3,y17_4,y17_5⟩:=bf6 BK131.out
   go_wp2_with (first|((with_reducible refine gate_callee (f:=33) rfl ?_);refine goesL_ (some 9) rfl rfl Try.func33 (by kernel_rfl) rfl #[.int .i64 a0_0,.int .i64 a0_1] rfl am_ ?_;(with_reducible refine (spec_l8Depth.calls k a0_0 a0_1 false _ A4.out).mono ?_);rintro e w' ⟨rfl,⟨nd,rfl⟩⟩;refine ⟨_,rfl,?_⟩))
   go_meet
   case rel=>exact ⟨_,(true),sm_,H',⟨by first|omega|exact Nat.le_refl _⟩,⟨by (with_reducible repeat (first|apply kN_|apply kD_|apply kA_));exact BK131.out⟩,⟨by repeat (first|(with_reducible first|exact HB.out|apply wA_|apply wN_|apply wD_|refine below_set ?_ GE131.out)|exact HB.out)⟩⟩
 case rest =>
  clear HC2;(try clear c1 p2 c3 c5 p6 c7 c9 c10 c10b0 c10b1 c14);(try clear z12_0 z12_1 z12_2 z12_3 z12_4 z12_5);(try clear z14_0 z14_1 z14_2 z14_3 z14_4 z14_5);(try clear z15_0 z15_1 z15_2 z15_3 z15_4 z15_5);(try clear z16_0 z16_1 z16_2 z16_3 z16_4 z16_5);(try clear z17_0 z17_1 z17_2 z17_3 z17_4 z17_5);(try clear y12_0 y12_1 y12_2 y12_3 y12_4 y12_5);(try clear y14_0 y14_1 y14_2 y14_3 y14_4 y14_5);(try clear y15_0 y15_1 y15_2 y15_3 y15_4 y15_5);(try clear y16_0 y16_1 y16_2 y16_3 y16_4 y16_5);(try clear y17_0 y17_1 y17_2 y17_3 y17_4 y17_5);obtain ⟨kq,x38_1,rfl,HA,HJ1,BK131,HB⟩:=hcut
  cases kq with
  | zero=>exact absurd HA.out (by simp [spec_ImageOk.j0])
  | succ kj1 =>
   have H:=HA.out;clear HA;simp only [spec_ImageOk.j0] at H
   by_cases c18:x38_1=true
   ·subst c18
    have H1:(some false)=some r:=by first|(rw [if_pos rfl] at H;exact H)|rfl
    clear H;have H:=H1;clear H1;obtain rfl:=Option.some.inj H;go_wp2
    go_ret
    exact ⟨by first|rfl|(simp [errW_none,errW_some] <;> rfl)|(simp [*,errW_none,errW_some] <;> rfl),by repeat (first|(with_reducible first|exact HB.out|apply wA_|apply wN_|apply wD_|refine below_set ?_ GE131.out)|exact HB.out)⟩
   ·replace c18:=Bool.eq_false_iff.mpr c18;subst c18
    have H1:((spec_l1Pow.f kj1 a0_1).bind fun t136=>(if a0_0=4 then (spec_ImageOk.j1 kj1 (wrap64 ((l0_4.length:Int) - 1)) a0_0 a0_1 a0_2 a0_3 l0_4 l0_5) else (spec_ImageOk.j1 kj1 (wrap64 (t136 - 1)) a0_0 a0_1 a0_2 a0_3 l0_4 l0_5)))=some r:=by first|(rw [if_neg (show ¬ (false=true) by decide)] at H;exact H)|rfl
    clear H;have H:=H1;clear H1;replace H:=Option.bind_eq_some_iff.mp H;obtain ⟨t136,A190,H⟩:=H;(try dsimp only at H);have A19:=aM_ A190;clear A190;have HC20:=aM_ H;clear H;obtain ⟨z21_0,z21_1,z21_2,z21_3,z21_4,z21_5⟩:=bc6 BK131.out;obtain ⟨y21_0,y21_1,y21_2,y21_3,y21_4,y21_5⟩:=bf6 BK131.out
    go_upto_if 45 with (first|((with_reducible refine gate_callee (f:=22) rfl ?_);refine goesL_ (some 41) rfl rfl Try.func22 (by kernel_rfl) rfl #[.int .i64 a0_1] rfl am_ ?_;(with_reducible refine (spec_l1Pow.calls kj1 a0_1 t136 _ A19.out).mono ?_);rintro e w' ⟨rfl,⟨nd,rfl⟩⟩;refine ⟨_,rfl,?_⟩))
    (try simp only [Act.put,sA_,s0_,s1_])
    go_cut [3] (fun v3 wc=>∃ (kq:Nat) (x3_19:Int),v3=.int .i64 x3_19∧Aside0 (spec_ImageOk.j1 kq x3_19 a0_0 a0_1 a0_2 a0_3 l0_4 l0_5=some r)∧Aside0 (kq≤kj1)∧Aside0 (wc.heap[gb131]?=some (.cells #[.int .i64 a0_0,.int .i64 a0_1,.int .i64 a0_2,.int .i64 a0_3,(.slice A0_4 l0_4.length c0_4),(.slice A0_5 l0_5.length c0_5)] 25 (0,0)))∧Aside0 (Below w.heap.size w wc))
    case first =>
     have H:=HC20.out;clear HC20
     by_cases c22:a0_0=4
     ·rw [if_pos c22] at H;have c22b0:(a0_0 == 4)=true:=beq_iff_eq.mpr c22;have c22b1:(a0_0 != 4)=false:=bne_eq_false_iff_eq.mpr c22;clear c22
      (first|rw [c22b0]|(simp only [i64_w,i32_w];rw [c22b0])|skip)
      have H':=aM_ H;clear H;obtain ⟨z23_0,z23_1,z23_2,z23_3,z23_4,z23_5⟩:=bc6 BK131.out;obtain ⟨y23_0,y23_1,y23_2,y23_3,y23_4,y23_5⟩:=bf6 BK131.out;go_wp2
      go_meet
      case rel=>exact ⟨_,(wrap64 ((l0_4.length:Int) - 1)),sm_,H',⟨by have:=HJ1.out;first|omega|exact Nat.le_refl _⟩,⟨by (with_reducible repeat (first|apply kN_|apply kD_|apply kA_));exact BK131.out⟩,⟨by repeat (first|(with_reducible first|exact HB.out|apply wA_|apply wN_|apply wD_|refine below_set ?_ GE131.out)|exact HB.out)⟩⟩
     ·rw [if_neg c22] at H;have c22b0:(a0_0 == 4)=false:=beq_eq_false_iff_ne.mpr c22;have c22b1:(a0_0 != 4)=true:=bne_iff_ne.mpr c22
      (first|rw [c22b0]|(simp only [i64_w,i32_w];rw [c22b0])|skip)
      have H':=aM_ H;clear H;go_wp2
      go_meet
      case rel=>exact ⟨_,(wrap64 (t136 - 1)),sm_,H',⟨by have:=HJ1.out;first|omega|exact Nat.le_refl _⟩,⟨by (with_reducible repeat (first|apply kN_|apply kD_|apply kA_));exact BK131.out⟩,⟨by repeat (first|(with_reducible first|exact HB.out|apply wA_|apply wN_|apply wD_|refine below_set ?_ GE131.out)|exact HB.out)⟩⟩
    case rest =>
     clear HC20;(try clear c1 c2 p2 c3 c5 p6 c7 c9 c10 c10b0 c10b1 c14 c18 c22 c22b0 c22b1);(try clear z12_0 z12_1 z12_2 z12_3 z12_4 z12_5);(try clear z14_0 z14_1 z14_2 z14_3 z14_4 z14_5);(try clear z15_0 z15_1 z15_2 z15_3 z15_4 z15_5);(try clear z16_0 z16_1 z16_2 z16_3 z16_4 z16_5);(try clear z17_0 z17_1 z17_2 z17_3 z17_4 z17_5);(try clear z21_0 z21_1 z21_2 z21_3 z21_4 z21_5);(try clear z23_0 z23_1 z23_2 z23_3 z23_4 z23_5);(try clear y12_0 y12_1 y12_2 y12_3 y12_4 y12_5);(try clear y14_0 y14_1 y14_2 y14_3 y14_4 y14_5);(try clear y15_0 y15_1 y15_2 y15_3 y15_4 y15_5);(try clear y16_0 y16_1 y16_2 y16_3 y16_4 y16_5);(try clear y17_0 y17_1 y17_2 y17_3 y17_4 y17_5);(try clear y21_0 y21_1 y21_2 y21_3 y21_4 y21_5);(try clear y23_0 y23_1 y23_2 y23_3 y23_4 y23_5);(try clear p2 p6);obtain ⟨kq,x3_19,rfl,HA,HJ19,BK131,HB⟩:=hcut
     cases kq with
     | zero=>exact absurd HA.out (by simp [spec_ImageOk.j1])
     | succ kj19 =>
      have H:=HA.out;clear HA;simp only [spec_ImageOk.j1] at H;have H':=aM_ H;clear H;go_wp2
      go_loopg [4] kj19 (fun kq v4 w'=>∃ (x4_3:Int),v4=.int .i64 x4_3∧Aside0 (spec_ImageOk.l0 kq x3_19 x4_3 a0_0 a0_1 a0_2 a0_3 l0_4 l0_5=some r)∧Aside0 (kq≤kj19)∧Aside0 (w'.heap[gb131]?=some (.cells #[.int .i64 a0_0,.int .i64 a0_1,.int .i64 a0_2,.int .i64 a0_3,(.slice A0_4 l0_4.length c0_4),(.slice A0_5 l0_5.length c0_5)] 25 (0,0)))∧Aside0 (Below w.heap.size w w'))
      case atStart=>exact ⟨(0),sm_,H',⟨Nat.le_refl _⟩,⟨by (with_reducible repeat (first|apply kN_|apply kD_|apply kA_));exact BK131.out⟩,⟨by repeat (first|(with_reducible first|exact HB.out|apply wA_|apply wN_|apply wD_|refine below_set ?_ GE131.out)|exact HB.out)⟩⟩
      case round =>
       clear H';(try clear c1 c2 p2 c3 c5 p6 c7 c9 c10 c10b0 c10b1 c14 c18 c22 c22b0 c22b1);(try clear z12_0 z12_1 z12_2 z12_3 z12_4 z12_5);(try clear z14_0 z14_1 z14_2 z14_3 z14_4 z14_5);(try clear z15_0 z15_1 z15_2 z15_3 z15_4 z15_5);(try clear z16_0 z16_1 z16_2 z16_3 z16_4 z16_5);(try clear z17_0 z17_1 z17_2 z17_3 z17_4 z17_5);(try clear z21_0 z21_1 z21_2 z21_3 z21_4 z21_5);(try clear z23_0 z23_1 z23_2 z23_3 z23_4 z23_5);(try clear y12_0 y12_1 y12_2 y12_3 y12_4 y12_5);(try clear y14_0 y14_1 y14_2 y14_3 y14_4 y14_5);(try clear y15_0 y15_1 y15_2 y15_3 y15_4 y15_5);(try clear y16_0 y16_1 y16_2 y16_3 y16_4 y16_5);(try clear y17_0 y17_1 y17_2 y17_3 y17_4 y17_5);(try clear y21_0 y21_1 y21_2 y21_3 y21_4 y21_5);(try clear y23_0 y23_1 y23_2 y23_3 y23_4 y23_5);(try clear p2 p6);obtain ⟨x4_3,rfl,HA,HK3,BK131,HB⟩:=hrel
       cases gk with
       | zero=>exact absurd HA.out (by simp [spec_ImageOk.l0])
       | succ k3 =>
        have H:=HA.out;clear HA;simp only [spec_ImageOk.l0] at H
        by_cases c24:x4_3 < (l0_5.length:Int)
        ·rw [if_pos c24] at H;have c24b0:decide (x4_3 < (l0_5.length:Int))=true:=decide_eq_true c24;clear c24
         by_cases c25:0≤x4_3
         ·rw [if_pos c25] at H;have c25b0:decide (0≤x4_3)=true:=decide_eq_true c25;clear c25;replace H:=Option.bind_eq_some_iff.mp H;obtain ⟨t138,A260,H⟩:=H;(try dsimp only at H);have A26:=aM_ A260;clear A260
          by_cases c27:t138=true
          ·subst c27
           have H1:(spec_ImageOk.l0 k3 x3_19 (wrap64 (x4_3+1)) a0_0 a0_1 a0_2 a0_3 l0_4 l0_5)=some r:=by first|(rw [if_pos rfl] at H;exact H)|rfl
           clear H;have H:=H1;clear H1;have H':=aM_ H;clear H;obtain ⟨z28_0,z28_1,z28_2,z28_3,z28_4,z28_5⟩:=bc6 BK131.out;obtain ⟨y28_0,y28_1,y28_2,y28_3,y28_4,y28_5⟩:=bf6 BK131.out;have p137:0≤(x4_3:Int):=of_decide_eq_true (by first|(with_reducible assumption)|assumption);have q137:x4_3 < (l0_5.length:Int):=of_decide_eq_true (by first|(with_reducible assumption)|assumption);obtain ⟨ad137,e137,hx137_0⟩:=Kd.at_int HR0_5.out x4_3 p137 q137;cases e137;replace hx137_0:=(HB.out.cell (World.block_lt_of_cell? w _ hx137_0)).trans hx137_0;replace p137:=eq_true p137;replace q137:=eq_true q137
           go_wp2_with (first|((with_reducible refine gate_callee (f:=34) rfl ?_);refine goesL_ (some 63) rfl rfl Try.func34 (by kernel_rfl) rfl #[.int .i64 (rd l0_5 x4_3),.int .i64 0,.int .i64 x3_19] rfl am_ ?_;(with_reducible refine (spec_l1In.calls (rd l0_5 x4_3) 0 x3_19 true _ A26.out).mono ?_);rintro e w' ⟨rfl,⟨nd,rfl⟩⟩;refine ⟨_,rfl,?_⟩))
           go_roundg k3
           case measure=>have:=HJ1.out;have:=HJ19.out;have:=HK3.out;omega
           case rel=>exact ⟨(wrap64 (x4_3+1)),sm_,H',⟨by have:=HJ1.out;have:=HJ19.out;have:=HK3.out;omega⟩,⟨by (with_reducible repeat (first|apply kN_|apply kD_|apply kA_));exact BK131.out⟩,⟨by repeat (first|(with_reducible first|exact HB.out|apply wA_|apply wN_|apply wD_|refine below_set ?_ GE131.out)|exact HB.out)⟩⟩
          ·replace c27:=Bool.eq_false_iff.mpr c27;subst c27
           have H1:(some false)=some r:=by first|(rw [if_neg (show ¬ (false=true) by decide)] at H;exact H)|rfl
           clear H;have H:=H1;clear H1;obtain rfl:=Option.some.inj H;obtain ⟨z29_0,z29_1,z29_2,z29_3,z29_4,z29_5⟩:=bc6 BK131.out;obtain ⟨y29_0,y29_1,y29_2,y29_3,y29_4,y29_5⟩:=bf6 BK131.out;have p137:0≤(x4_3:Int):=of_decide_eq_true (by first|(with_reducible assumption)|assumption);have q137:x4_3 < (l0_5.length:Int):=of_decide_eq_true (by first|(with_reducible assumption)|assumption);obtain ⟨ad137,e137,hx137_0⟩:=Kd.at_int HR0_5.out x4_3 p137 q137;cases e137;replace hx137_0:=(HB.out.cell (World.block_lt_of_cell? w _ hx137_0)).trans hx137_0;replace p137:=eq_true p137;replace q137:=eq_true q137
           go_wp2_with (first|((with_reducible refine gate_callee (f:=34) rfl ?_);refine goesL_ (some 63) rfl rfl Try.func34 (by kernel_rfl) rfl #[.int .i64 (rd l0_5 x4_3),.int .i64 0,.int .i64 x3_19] rfl am_ ?_;(with_reducible refine (spec_l1In.calls (rd l0_5 x4_3) 0 x3_19 false _ A26.out).mono ?_);rintro e w' ⟨rfl,⟨nd,rfl⟩⟩;refine ⟨_,rfl,?_⟩))
           go_ret
           exact ⟨by first|rfl|(simp [errW_none,errW_some] <;> rfl)|(simp [*,errW_none,errW_some] <;> rfl),by repeat (first|(with_reducible first|exact HB.out|apply wA_|apply wN_|apply wD_|refine below_set ?_ GE131.out)|exact HB.out)⟩
         ·rw [if_neg c25] at H;exact absurd H (by simp)
        ·rw [if_neg c24] at H;have c24b0:decide (x4_3 < (l0_5.length:Int))=false:=decide_eq_false c24;clear c24;obtain rfl:=Option.some.inj H;obtain ⟨z30_0,z30_1,z30_2,z30_3,z30_4,z30_5⟩:=bc6 BK131.out;obtain ⟨y30_0,y30_1,y30_2,y30_3,y30_4,y30_5⟩:=bf6 BK131.out;go_wp2
         go_ret
         exact ⟨by first|rfl|(simp [errW_none,errW_some] <;> rfl)|(simp [*,errW_none,errW_some] <;> rfl),by repeat (first|(with_reducible first|exact HB.out|apply wA_|apply wN_|apply wD_|refine below_set ?_ GE131.out)|exact HB.out)⟩

/-! ### spec_l8Color: function 32 -/
def spec_l8Color.f (k:Nat) (a0_0:Int) (a0_1:Int) (a0_2:Int) (a0_3:Int) (l0_4:List Int) (l0_5:List Int) (a1:Int):Option (Int):=if a0_0=1 then ((spec_l1Pow.f k a0_1).bind fun t140=>(if (wrap64 (t140 - 1))=0 then (none) else (some (wrap64 ((wrap64 ((wrap64 ((wrap64 ((wrap64 (Int.tdiv (wrap64 (a1 * 255)) (wrap64 (t140 - 1)))) * 16777216))+(wrap64 ((wrap64 (Int.tdiv (wrap64 (a1 * 255)) (wrap64 (t140 - 1)))) * 65536))))+(wrap64 ((wrap64 (Int.tdiv (wrap64 (a1 * 255)) (wrap64 (t140 - 1)))) * 256))))+255))))) else (if a0_0=2 then (some (wrap64 ((wrap64 (a1 * 256))+255))) else (if a0_0=4 then (if 0≤a1 then (if a1 < (l0_4.length:Int) then (some (wrap64 ((wrap64 ((rd l0_4 a1) * 256))+255))) else (none)) else (none)) else (some a1)))
theorem spec_l8Color.mono:∀ a0 a1 a2 a3 a4 a5 a6 k,LeO (spec_l8Color.f k a0 a1 a2 a3 a4 a5 a6) (spec_l8Color.f (k+1) a0 a1 a2 a3 a4 a5 a6):=by
 intro a0 a1 a2 a3 a4 a5 a6 k
 unfold spec_l8Color.f
 repeat' first
   | (with_reducible exact spec_l1Pow.mono _ _)
   | (with_reducible exact LeO.refl _)
   | (with_reducible exact LeO.none _)
   | (with_reducible refine LeO.ite ?_ ?_)
   | (with_reducible refine LeO.bind ?_ (fun _=>?_))
set_option maxHeartbeats 8000000 in
set_option maxRecDepth 100000 in
theorem spec_l8Color.calls (k:Nat) (a0_0:Int) (a0_1:Int) (a0_2:Int) (a0_3:Int) (A0_4:Option Addr) (c0_4:Nat) (l0_4:List Int) (A0_5:Option Addr) (c0_5:Nat) (l0_5:List Int) (a1:Int) (r:Int) (w:World) (hr0_4:Kd.C (Kd.int .i64) w A0_4 l0_4.length l0_4) (hc0_4:l0_4.length≤c0_4) (hr0_5:Kd.C (Kd.int .i64) w A0_5 l0_5.length l0_5) (hc0_5:l0_5.length≤c0_5) (h:spec_l8Color.f k a0_0 a0_1 a0_2 a0_3 l0_4 l0_5 a1=some r) :
  Calls Try.prog 32 #[.agg #[.int .i64 a0_0,.int .i64 a0_1,.int .i64 a0_2,.int .i64 a0_3,.slice A0_4 l0_4.length c0_4,.slice A0_5 l0_5.length c0_5],.int .i64 a1] w fun e w'=>e=.returned (.int .i64 r)∧Below w.heap.size w w':=by
 have hu25:=Try.underlying25;have HR0_4:=aM_ hr0_4;have HC0_4:=aM_ hc0_4;clear hr0_4 hc0_4;have HR0_5:=aM_ hr0_5;have HC0_5:=aM_ hc0_5;clear hr0_5 hc0_5;have HB:=aM_ (Below.refl w.heap.size w);have H:(if a0_0=1 then ((spec_l1Pow.f k a0_1).bind fun t140=>(if (wrap64 (t140 - 1))=0 then (none) else (some (wrap64 ((wrap64 ((wrap64 ((wrap64 ((wrap64 (Int.tdiv (wrap64 (a1 * 255)) (wrap64 (t140 - 1)))) * 16777216))+(wrap64 ((wrap64 (Int.tdiv (wrap64 (a1 * 255)) (wrap64 (t140 - 1)))) * 65536))))+(wrap64 ((wrap64 (Int.tdiv (wrap64 (a1 * 255)) (wrap64 (t140 - 1)))) * 256))))+255))))) else (if a0_0=2 then (some (wrap64 ((wrap64 (a1 * 256))+255))) else (if a0_0=4 then (if 0≤a1 then (if a1 < (l0_4.length:Int) then (some (wrap64 ((wrap64 ((rd l0_4 a1) * 256))+255))) else (none)) else (none)) else (some a1))))=some r:=h;clear h
 by_cases c3:a0_0=1
 ·rw [if_pos c3] at H;have c3b0:(a0_0 == 1)=true:=beq_iff_eq.mpr c3;have c3b1:(a0_0 != 1)=false:=bne_eq_false_iff_eq.mpr c3;clear c3;replace H:=Option.bind_eq_some_iff.mp H;obtain ⟨t140,A40,H⟩:=H;(try dsimp only at H);have A4:=aM_ A40;clear A40
  by_cases c5:(wrap64 (t140 - 1))=0
  ·rw [if_pos c5] at H;exact absurd H (by simp)
  ·rw [if_neg c5] at H;have c5b0:((wrap64 (t140 - 1)) == 0)=false:=beq_eq_false_iff_ne.mpr c5;have c5b1:((wrap64 (t140 - 1)) != 0)=true:=bne_iff_ne.mpr c5;obtain rfl:=Option.some.inj H
   go_enter Try.func32,Try.ntmps32
   go_wp2_with (first|((with_reducible refine gate_dst (N:=2) rfl ?_);refine bE_ 2 #[.int .i64 a0_0,.int .i64 a0_1,.int .i64 a0_2,.int .i64 a0_3,.slice A0_4 l0_4.length c0_4,.slice A0_5 l0_5.length c0_5] 25 ?_;intro gb139 hg w6 hbox hb;have BK139:=aM_ (hbox);have GW139:=aM_ ((by rw [hg];exact (below_size (hb_ HB)):w.heap.size≤gb139));have GE139:=GW139;replace HB:=aM_ (below_step (hb_ HB) hb);clear hb hbox hg;obtain ⟨z7_0,z7_1,z7_2,z7_3,z7_4,z7_5⟩:=bc6 BK139.out;obtain ⟨y7_0,y7_1,y7_2,y7_3,y7_4,y7_5⟩:=bf6 BK139.out)|((with_reducible refine gate_callee (f:=22) rfl ?_);refine goesL_ (some 14) rfl rfl Try.func22 (by kernel_rfl) rfl #[.int .i64 a0_1] rfl am_ ?_;(with_reducible refine (spec_l1Pow.calls k a0_1 t140 _ A4.out).mono ?_);rintro e w' ⟨rfl,⟨nd,rfl⟩⟩;refine ⟨_,rfl,?_⟩))
   go_ret
   exact ⟨by first|rfl|(simp [errW_none,errW_some] <;> rfl)|(simp [*,errW_none,errW_some] <;> rfl),by repeat (first|(with_reducible first|exact HB.out|apply wA_|apply wN_|apply wD_|refine below_set ?_ GE139.out)|exact HB.out)⟩
 ·rw [if_neg c3] at H;have c3b0:(a0_0 == 1)=false:=beq_eq_false_iff_ne.mpr c3;have c3b1:(a0_0 != 1)=true:=bne_iff_ne.mpr c3
  by_cases c8:a0_0=2
  ·rw [if_pos c8] at H;have c8b0:(a0_0 == 2)=true:=beq_iff_eq.mpr c8;have c8b1:(a0_0 != 2)=false:=bne_eq_false_iff_eq.mpr c8;clear c8;obtain rfl:=Option.some.inj H
   go_enter Try.func32,Try.ntmps32
   go_wp2_with (first|((with_reducible refine gate_dst (N:=2) rfl ?_);refine bE_ 2 #[.int .i64 a0_0,.int .i64 a0_1,.int .i64 a0_2,.int .i64 a0_3,.slice A0_4 l0_4.length c0_4,.slice A0_5 l0_5.length c0_5] 25 ?_;intro gb139 hg w9 hbox hb;have BK139:=aM_ (hbox);have GW139:=aM_ ((by rw [hg];exact (below_size (hb_ HB)):w.heap.size≤gb139));have GE139:=GW139;replace HB:=aM_ (below_step (hb_ HB) hb);clear hb hbox hg;obtain ⟨z10_0,z10_1,z10_2,z10_3,z10_4,z10_5⟩:=bc6 BK139.out;obtain ⟨y10_0,y10_1,y10_2,y10_3,y10_4,y10_5⟩:=bf6 BK139.out))
   go_ret
   exact ⟨by first|rfl|(simp [errW_none,errW_some] <;> rfl)|(simp [*,errW_none,errW_some] <;> rfl),by repeat (first|(with_reducible first|exact HB.out|apply wA_|apply wN_|apply wD_|refine below_set ?_ GE139.out)|exact HB.out)⟩
  ·rw [if_neg c8] at H;have c8b0:(a0_0 == 2)=false:=beq_eq_false_iff_ne.mpr c8;have c8b1:(a0_0 != 2)=true:=bne_iff_ne.mpr c8
   by_cases c11:a0_0=4
   ·rw [if_pos c11] at H;have c11b0:(a0_0 == 4)=true:=beq_iff_eq.mpr c11;have c11b1:(a0_0 != 4)=false:=bne_eq_false_iff_eq.mpr c11;clear c11
    by_cases c12:0≤a1
    ·rw [if_pos c12] at H;have c12b0:decide (0≤a1)=true:=decide_eq_true c12;clear c12
     by_cases c13:a1 < (l0_4.length:Int)
     ·rw [if_pos c13] at H;have c13b0:decide (a1 < (l0_4.length:Int))=true:=decide_eq_true c13;clear c13;obtain rfl:=Option.some.inj H
      go_enter Try.func32,Try.ntmps32
      go_wp2_with (first|((with_reducible refine gate_dst (N:=2) rfl ?_);refine bE_ 2 #[.int .i64 a0_0,.int .i64 a0_1,.int .i64 a0_2,.int .i64 a0_3,.slice A0_4 l0_4.length c0_4,.slice A0_5 l0_5.length c0_5] 25 ?_;intro gb139 hg w14 hbox hb;have BK139:=aM_ (hbox);have GW139:=aM_ ((by rw [hg];exact (below_size (hb_ HB)):w.heap.size≤gb139));have GE139:=GW139;replace HB:=aM_ (below_step (hb_ HB) hb);clear hb hbox hg;obtain ⟨z15_0,z15_1,z15_2,z15_3,z15_4,z15_5⟩:=bc6 BK139.out;obtain ⟨y15_0,y15_1,y15_2,y15_3,y15_4,y15_5⟩:=bf6 BK139.out;have p141:0≤(a1:Int):=of_decide_eq_true (by first|(with_reducible assumption)|assumption);have q141:a1 < (l0_4.length:Int):=of_decide_eq_true (by first|(with_reducible assumption)|assumption);obtain ⟨ad141,e141,hx141_0⟩:=Kd.at_int HR0_4.out a1 p141 q141;cases e141;replace hx141_0:=(HB.out.cell (World.block_lt_of_cell? w _ hx141_0)).trans hx141_0;replace p141:=eq_true p141;replace q141:=eq_true q141))
      go_ret
      exact ⟨by first|rfl|(simp [errW_none,errW_some] <;> rfl)|(simp [*,errW_none,errW_some] <;> rfl),by repeat (first|(with_reducible first|exact HB.out|apply wA_|apply wN_|apply wD_|refine below_set ?_ GE139.out)|exact HB.out)⟩
     ·rw [if_neg c13] at H;exact absurd H (by simp)
    ·rw [if_neg c12] at H;exact absurd H (by simp)
   ·rw [if_neg c11] at H;have c11b0:(a0_0 == 4)=false:=beq_eq_false_iff_ne.mpr c11;have c11b1:(a0_0 != 4)=true:=bne_iff_ne.mpr c11;obtain rfl:=Option.some.inj H
    go_enter Try.func32,Try.ntmps32
    go_wp2_with (first|((with_reducible refine gate_dst (N:=2) rfl ?_);refine bE_ 2 #[.int .i64 a0_0,.int .i64 a0_1,.int .i64 a0_2,.int .i64 a0_3,.slice A0_4 l0_4.length c0_4,.slice A0_5 l0_5.length c0_5] 25 ?_;intro gb139 hg w16 hbox hb;have BK139:=aM_ (hbox);have GW139:=aM_ ((by rw [hg];exact (below_size (hb_ HB)):w.heap.size≤gb139));have GE139:=GW139;replace HB:=aM_ (below_step (hb_ HB) hb);clear hb hbox hg;obtain ⟨z17_0,z17_1,z17_2,z17_3,z17_4,z17_5⟩:=bc6 BK139.out;obtain ⟨y17_0,y17_1,y17_2,y17_3,y17_4,y17_5⟩:=bf6 BK139.out))
    go_ret
    exact ⟨by first|rfl|(simp [errW_none,errW_some] <;> rfl)|(simp [*,errW_none,errW_some] <;> rfl),by repeat (first|(with_reducible first|exact HB.out|apply wA_|apply wN_|apply wD_|refine below_set ?_ GE139.out)|exact HB.out)⟩

end Go.Proofs.Ytagbmaapahhmpaa.PFnImageLike
