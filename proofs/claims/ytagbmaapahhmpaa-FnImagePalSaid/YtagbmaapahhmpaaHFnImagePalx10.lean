/- What the functions that the law comes to compute, as plain functions, and that the machine's calls come to just that: written by a program for this claim, and turned where Lean did not take it. No condition. -/
import Derived.Test.YtagbmaapahhmpaaHFnImagePalx0
import Derived.Test.YtagbmaapahhmpaaHFnImagePalx1
import Derived.Test.YtagbmaapahhmpaaHFnImagePalx9
namespace Go.Proofs.Ytagbmaapahhmpaa.PFnImagePal
open Go.RowKit Go.Proofs.YtagbmaapahhmpaaW.PrintWords Go.Proofs.YtagbmaapahhmpaaW.PrintLast Go.Proofs.YtagbmaapahhmpaaW.PrintMore
attribute [local go_sem] max2_int min2_int max_two min_two max_three min_three max_four min_four   -- for this text's walks alone
set_option linter.unusedVariables false
set_option linter.unusedSimpArgs false

/-! ### spec_ImageOk: function 14 -/
mutual
def spec_ImageOk.j0:Nat → Bool → Int → Int → Int → Int → List Int → List Int → Option (Bool)
 | 0,_,_,_,_,_,_,_=>none
 | k+1,x38,x326000,x326001,x326002,x326003,x326004,x326005=>if x38=true then (some false) else ((spec_l1Pow.f k x326001).bind fun t330=>(if x326000=4 then (spec_ImageOk.j1 k (wrap64 ((x326004.length:Int) - 1)) x326000 x326001 x326002 x326003 x326004 x326005) else (spec_ImageOk.j1 k (wrap64 (t330 - 1)) x326000 x326001 x326002 x326003 x326004 x326005)))
def spec_ImageOk.j1:Nat → Int → Int → Int → Int → Int → List Int → List Int → Option (Bool)
 | 0,_,_,_,_,_,_,_=>none
 | k+1,x3,x326000,x326001,x326002,x326003,x326004,x326005=>spec_ImageOk.l0 k x3 0 x326000 x326001 x326002 x326003 x326004 x326005
def spec_ImageOk.l0:Nat → Int → Int → Int → Int → Int → Int → List Int → List Int → Option (Bool)
 | 0,_,_,_,_,_,_,_,_=>none
 | k+1,x3,x4,x326000,x326001,x326002,x326003,x326004,x326005=>if x4 < (x326005.length:Int) then (if 0≤x4 then ((spec_l1In.f (rd x326005 x4) 0 x3).bind fun t332=>(if t332=true then (spec_ImageOk.l0 k x3 (wrap64 (x4+1)) x326000 x326001 x326002 x326003 x326004 x326005) else (some false))) else (none)) else (some true)
end
def spec_ImageOk.f (k:Nat) (a0_0:Int) (a0_1:Int) (a0_2:Int) (a0_3:Int) (l0_4:List Int) (l0_5:List Int):Option (Bool):=(spec_l8Depth.f k a0_0 a0_1).bind fun t326=>(if t326=true then ((spec_l1In.f a0_2 1 20).bind fun t327=>(if t327=true then ((spec_l1In.f a0_3 1 20).bind fun t328=>(if t328=true then (if (l0_5.length:Int)=(wrap64 (a0_2 * a0_3)) then ((spec_l8Colors.f k a0_0 a0_1 a0_2 a0_3 l0_4 l0_5).bind fun t329=>(spec_ImageOk.j0 k (!t329) a0_0 a0_1 a0_2 a0_3 l0_4 l0_5)) else (spec_ImageOk.j0 k true a0_0 a0_1 a0_2 a0_3 l0_4 l0_5)) else (spec_ImageOk.j0 k true a0_0 a0_1 a0_2 a0_3 l0_4 l0_5))) else (spec_ImageOk.j0 k true a0_0 a0_1 a0_2 a0_3 l0_4 l0_5))) else (spec_ImageOk.j0 k true a0_0 a0_1 a0_2 a0_3 l0_4 l0_5))
theorem spec_ImageOk.mono_l:∀ k,(∀ y0 y1 y2 y3 y4 y5 y6,LeO (spec_ImageOk.j0 k y0 y1 y2 y3 y4 y5 y6) (spec_ImageOk.j0 (k+1) y0 y1 y2 y3 y4 y5 y6))∧(∀ y0 y1 y2 y3 y4 y5 y6,LeO (spec_ImageOk.j1 k y0 y1 y2 y3 y4 y5 y6) (spec_ImageOk.j1 (k+1) y0 y1 y2 y3 y4 y5 y6))∧(∀ y0 y1 y2 y3 y4 y5 y6 y7,LeO (spec_ImageOk.l0 k y0 y1 y2 y3 y4 y5 y6 y7) (spec_ImageOk.l0 (k+1) y0 y1 y2 y3 y4 y5 y6 y7))
 | 0=>⟨fun _ _ _ _ _ _ _ r h=>by simp [spec_ImageOk.j0] at h,fun _ _ _ _ _ _ _ r h=>by simp [spec_ImageOk.j1] at h,fun _ _ _ _ _ _ _ _ r h=>by simp [spec_ImageOk.l0] at h⟩
 | k+1=>by
  obtain ⟨ih0,ih1,ih2⟩:=spec_ImageOk.mono_l k;refine ⟨?_,?_,?_⟩
  ·intro y0 y1 y2 y3 y4 y5 y6
   unfold spec_ImageOk.j0
   repeat' first
   | (with_reducible exact ih0 _ _ _ _ _ _ _)
   | (with_reducible exact ih1 _ _ _ _ _ _ _)
   | (with_reducible exact ih2 _ _ _ _ _ _ _ _)
   | (with_reducible exact spec_l1Pow.mono _ _)
   | (with_reducible exact spec_l8Colors.mono _ _ _ _ _ _ _)
   | (with_reducible exact spec_l8Depth.mono _ _ _)
   | (with_reducible exact LeO.refl _)
   | (with_reducible exact LeO.none _)
   | (with_reducible refine LeO.ite ?_ ?_)
   | (with_reducible refine LeO.bind ?_ (fun _=>?_))
  ·intro y0 y1 y2 y3 y4 y5 y6
   unfold spec_ImageOk.j1
   repeat' first
   | (with_reducible exact ih0 _ _ _ _ _ _ _)
   | (with_reducible exact ih1 _ _ _ _ _ _ _)
   | (with_reducible exact ih2 _ _ _ _ _ _ _ _)
   | (with_reducible exact spec_l1Pow.mono _ _)
   | (with_reducible exact spec_l8Colors.mono _ _ _ _ _ _ _)
   | (with_reducible exact spec_l8Depth.mono _ _ _)
   | (with_reducible exact LeO.refl _)
   | (with_reducible exact LeO.none _)
   | (with_reducible refine LeO.ite ?_ ?_)
   | (with_reducible refine LeO.bind ?_ (fun _=>?_))
  ·intro y0 y1 y2 y3 y4 y5 y6 y7
   unfold spec_ImageOk.l0
   repeat' first
   | (with_reducible exact ih0 _ _ _ _ _ _ _)
   | (with_reducible exact ih1 _ _ _ _ _ _ _)
   | (with_reducible exact ih2 _ _ _ _ _ _ _ _)
   | (with_reducible exact spec_l1Pow.mono _ _)
   | (with_reducible exact spec_l8Colors.mono _ _ _ _ _ _ _)
   | (with_reducible exact spec_l8Depth.mono _ _ _)
   | (with_reducible exact LeO.refl _)
   | (with_reducible exact LeO.none _)
   | (with_reducible refine LeO.ite ?_ ?_)
   | (with_reducible refine LeO.bind ?_ (fun _=>?_))
theorem spec_ImageOk.mono:∀ a0 a1 a2 a3 a4 a5 k,LeO (spec_ImageOk.f k a0 a1 a2 a3 a4 a5) (spec_ImageOk.f (k+1) a0 a1 a2 a3 a4 a5):=by
 intro a0 a1 a2 a3 a4 a5 k;obtain ⟨ih0,ih1,ih2⟩:=spec_ImageOk.mono_l k
 unfold spec_ImageOk.f
 repeat' first
   | (with_reducible exact ih0 _ _ _ _ _ _ _)
   | (with_reducible exact ih1 _ _ _ _ _ _ _)
   | (with_reducible exact ih2 _ _ _ _ _ _ _ _)
   | (with_reducible exact spec_l1Pow.mono _ _)
   | (with_reducible exact spec_l8Colors.mono _ _ _ _ _ _ _)
   | (with_reducible exact spec_l8Depth.mono _ _ _)
   | (with_reducible exact LeO.refl _)
   | (with_reducible exact LeO.none _)
   | (with_reducible refine LeO.ite ?_ ?_)
   | (with_reducible refine LeO.bind ?_ (fun _=>?_))
set_option maxHeartbeats 8000000 in
set_option maxRecDepth 100000 in
theorem spec_ImageOk.calls (k:Nat) (a0_0:Int) (a0_1:Int) (a0_2:Int) (a0_3:Int) (A0_4:Option Addr) (c0_4:Nat) (l0_4:List Int) (A0_5:Option Addr) (c0_5:Nat) (l0_5:List Int) (r:Bool) (w:World) (hr0_4:Kd.C (Kd.int .i64) w A0_4 l0_4.length l0_4) (hc0_4:l0_4.length≤c0_4) (hr0_5:Kd.C (Kd.int .i64) w A0_5 l0_5.length l0_5) (hc0_5:l0_5.length≤c0_5) (h:spec_ImageOk.f k a0_0 a0_1 a0_2 a0_3 l0_4 l0_5=some r) :
  Calls Try.prog 14 #[.agg #[.int .i64 a0_0,.int .i64 a0_1,.int .i64 a0_2,.int .i64 a0_3,.slice A0_4 l0_4.length c0_4,.slice A0_5 l0_5.length c0_5]] w fun e w'=>e=.returned (.bool r)∧Below w.heap.size w w':=by
 have hu25:=Try.underlying25;have HR0_4:=aM_ hr0_4;have HC0_4:=aM_ hc0_4;clear hr0_4 hc0_4;have HR0_5:=aM_ hr0_5;have HC0_5:=aM_ hc0_5;clear hr0_5 hc0_5;have HB:=aM_ (Below.refl w.heap.size w);have H:((spec_l8Depth.f k a0_0 a0_1).bind fun t326=>(if t326=true then ((spec_l1In.f a0_2 1 20).bind fun t327=>(if t327=true then ((spec_l1In.f a0_3 1 20).bind fun t328=>(if t328=true then (if (l0_5.length:Int)=(wrap64 (a0_2 * a0_3)) then ((spec_l8Colors.f k a0_0 a0_1 a0_2 a0_3 l0_4 l0_5).bind fun t329=>(spec_ImageOk.j0 k (!t329) a0_0 a0_1 a0_2 a0_3 l0_4 l0_5)) else (spec_ImageOk.j0 k true a0_0 a0_1 a0_2 a0_3 l0_4 l0_5)) else (spec_ImageOk.j0 k true a0_0 a0_1 a0_2 a0_3 l0_4 l0_5))) else (spec_ImageOk.j0 k true a0_0 a0_1 a0_2 a0_3 l0_4 l0_5))) else (spec_ImageOk.j0 k true a0_0 a0_1 a0_2 a0_3 l0_4 l0_5)))=some r:=h;clear h;have HC2:=aM_ H;clear H
 go_enter Try.func14,Try.ntmps14
 go_upto_region 1 with (first|((with_reducible refine gate_dst (N:=1) rfl ?_);(try (refine gate_guard (by rfl) ?_;dsimp only));refine box_event ?hg (N:=1) ?hd (cs:=#[.int .i64 a0_0,.int .i64 a0_1,.int .i64 a0_2,.int .i64 a0_3,.slice A0_4 l0_4.length c0_4,.slice A0_5 l0_5.length c0_5]) (t:=25) ?hr ?_;(case hd=>rfl);(case hg=>rfl);(case hr=>first|(go_simp;done)|(go_simp;rfl));intro gb325 hg w3 hbox hb;have n0_:=aM_ (below_step (hb_ HB) hb);have n1_:=aM_ (hbox);have n2_:=aM_ ((by rw [hg];exact (below_size (hb_ HB)):w.heap.size≤gb325));have n3_:=aM_ ((by rw [hg];exact (below_size (hb_ HB)):w.heap.size≤gb325));clear HB;have HB:=n0_;have BK325:=n1_;have GW325:=n2_;have GE325:=n3_;clear n0_ n1_ n2_ n3_;clear hb hbox hg))
 (try simp only [Act.put,sA_,s0_,s1_])
 go_cut [38] (fun v38 wc=>∃ (kq:Nat) (x38_1:Bool),v38=.bool x38_1∧Aside0 (spec_ImageOk.j0 kq x38_1 a0_0 a0_1 a0_2 a0_3 l0_4 l0_5=some r)∧Aside0 (kq≤k)∧Aside0 (wc.heap[gb325]?=some (.cells #[.int .i64 a0_0,.int .i64 a0_1,.int .i64 a0_2,.int .i64 a0_3,(.slice A0_4 l0_4.length c0_4),(.slice A0_5 l0_5.length c0_5)] 25 (0,0)))∧Aside0 (Below w.heap.size w wc))
 case first =>
  have H:=HC2.out;clear HC2;replace H:=Option.bind_eq_some_iff.mp H;obtain ⟨t326,A40,H⟩:=H;(try dsimp only at H);have A4:=aM_ A40;clear A40
  by_cases c5:t326=true
  ·subst c5
   have H1:((spec_l1In.f a0_2 1 20).bind fun t327=>(if t327=true then ((spec_l1In.f a0_3 1 20).bind fun t328=>(if t328=true then (if (l0_5.length:Int)=(wrap64 (a0_2 * a0_3)) then ((spec_l8Colors.f k a0_0 a0_1 a0_2 a0_3 l0_4 l0_5).bind fun t329=>(spec_ImageOk.j0 k (!t329) a0_0 a0_1 a0_2 a0_3 l0_4 l0_5)) else (spec_ImageOk.j0 k true a0_0 a0_1 a0_2 a0_3 l0_4 l0_5)) else (spec_ImageOk.j0 k true a0_0 a0_1 a0_2 a0_3 l0_4 l0_5))) else (spec_ImageOk.j0 k true a0_0 a0_1 a0_2 a0_3 l0_4 l0_5)))=some r:=by first|(rw [if_pos rfl] at H;exact H)|rfl
   clear H;have H:=H1;clear H1;replace H:=Option.bind_eq_some_iff.mp H;obtain ⟨t327,A60,H⟩:=H;(try dsimp only at H);have A6:=aM_ A60;clear A60
   by_cases c7:t327=true
   ·subst c7
    have H1:((spec_l1In.f a0_3 1 20).bind fun t328=>(if t328=true then (if (l0_5.length:Int)=(wrap64 (a0_2 * a0_3)) then ((spec_l8Colors.f k a0_0 a0_1 a0_2 a0_3 l0_4 l0_5).bind fun t329=>(spec_ImageOk.j0 k (!t329) a0_0 a0_1 a0_2 a0_3 l0_4 l0_5)) else (spec_ImageOk.j0 k true a0_0 a0_1 a0_2 a0_3 l0_4 l0_5)) else (spec_ImageOk.j0 k true a0_0 a0_1 a0_2 a0_3 l0_4 l0_5)))=some r:=by first|(rw [if_pos rfl] at H;exact H)|rfl
    clear H;have H:=H1;clear H1;replace H:=Option.bind_eq_some_iff.mp H;obtain ⟨t328,A80,H⟩:=H;(try dsimp only at H);have A8:=aM_ A80;clear A80
    by_cases c9:t328=true
    ·subst c9
     have H1:(if (l0_5.length:Int)=(wrap64 (a0_2 * a0_3)) then ((spec_l8Colors.f k a0_0 a0_1 a0_2 a0_3 l0_4 l0_5).bind fun t329=>(spec_ImageOk.j0 k (!t329) a0_0 a0_1 a0_2 a0_3 l0_4 l0_5)) else (spec_ImageOk.j0 k true a0_0 a0_1 a0_2 a0_3 l0_4 l0_5))=some r:=by first|(rw [if_pos rfl] at H;exact H)|rfl
     clear H;have H:=H1;clear H1
     by_cases c10:(l0_5.length:Int)=(wrap64 (a0_2 * a0_3))
     ·rw [if_pos c10] at H;have c10b0:((l0_5.length:Int) == (wrap64 (a0_2 * a0_3)))=true:=beq_iff_eq.mpr c10;have c10b1:((l0_5.length:Int) != (wrap64 (a0_2 * a0_3)))=false:=bne_eq_false_iff_eq.mpr c10;clear c10
      (first|rw [c10b0]|(simp only [i64_w,i32_w];rw [c10b0])|skip)
      replace H:=Option.bind_eq_some_iff.mp H;obtain ⟨t329,A110,H⟩:=H;(try dsimp only at H);have A11:=aM_ A110;clear A110;have H':=aM_ H;clear H;obtain ⟨hcz12_0,hcz12_1,hcz12_2,hcz12_3,hcz12_4,hcz12_5⟩:=bc6 BK325.out;obtain ⟨hfz12_0,hfz12_1,hfz12_2,hfz12_3,hfz12_4,hfz12_5⟩:=bf6 BK325.out
      go_wp2_with (first|((with_reducible refine gate_callee (f:=33) rfl ?_);refine goesL_ (some 9) rfl rfl Try.func33 (by kernel_rfl) rfl #[.int .i64 a0_0,.int .i64 a0_1] rfl am_ ?_;(with_reducible refine (spec_l8Depth.calls k a0_0 a0_1 true _ A4.out).mono ?_);rintro e w' ⟨rfl,⟨nd,rfl⟩⟩;refine ⟨_,rfl,?_⟩)|(go_at_call 34;(with_reducible refine (spec_l1In.calls a0_2 1 20 true _ A6.out).mono ?_);rintro e w' ⟨rfl,⟨nd,rfl⟩⟩)|(go_at_call 34;(with_reducible refine (spec_l1In.calls a0_3 1 20 true _ A8.out).mono ?_);rintro e w' ⟨rfl,⟨nd,rfl⟩⟩)|(go_at_call 35;(with_reducible refine (spec_l8Colors.calls k a0_0 a0_1 a0_2 a0_3 _ _ l0_4 _ _ l0_5 t329 _ ?side1 ?side2 ?side3 ?side4 A11.out).mono ?_);(case side1=>repeat (first|exact (Kd.C_below HR0_4.out (hs_ HB GE325.out))|(with_reducible refine Kd.C_alloc ?_ _)|(with_reducible refine Kd.C_drewN ?_ _)|(with_reducible refine Kd.C_drew ?_)));(case side2=>exact HC0_4.out);(case side3=>repeat (first|exact (Kd.C_below HR0_5.out (hs_ HB GE325.out))|(with_reducible refine Kd.C_alloc ?_ _)|(with_reducible refine Kd.C_drewN ?_ _)|(with_reducible refine Kd.C_drew ?_)));(case side4=>exact HC0_5.out);rintro e w13 ⟨rfl,hb⟩;have n0_:=aM_ (blk_below (g:=gb325) (bk_ BK325) hb);have n1_:=aM_ (below_step (hs_ HB GE325.out) hb);clear BK325;clear HB;have BK325:=n0_;have HB:=n1_;clear n0_ n1_;(try clear hb);(try clear hb2);(try clear hk);(try clear hi)))
      go_meet
      case rel=>exact ⟨_,(!t329),(by first|rfl|(simp;done)|(simp [*];done)),H',⟨by first|omega|exact Nat.le_refl _⟩,⟨by (with_reducible repeat (first|apply kN_|apply kD_|apply kA_));exact BK325.out⟩,⟨by repeat (first|(with_reducible first|exact HB.out|apply wA_|apply wN_|apply wD_|refine below_set ?_ GE325.out)|exact HB.out)⟩⟩
     ·rw [if_neg c10] at H;have c10b0:((l0_5.length:Int) == (wrap64 (a0_2 * a0_3)))=false:=beq_eq_false_iff_ne.mpr c10;have c10b1:((l0_5.length:Int) != (wrap64 (a0_2 * a0_3)))=true:=bne_iff_ne.mpr c10
      (first|rw [c10b0]|(simp only [i64_w,i32_w];rw [c10b0])|skip)
      have H':=aM_ H;clear H;obtain ⟨hcz14_0,hcz14_1,hcz14_2,hcz14_3,hcz14_4,hcz14_5⟩:=bc6 BK325.out;obtain ⟨hfz14_0,hfz14_1,hfz14_2,hfz14_3,hfz14_4,hfz14_5⟩:=bf6 BK325.out
      go_wp2_with (first|((with_reducible refine gate_callee (f:=33) rfl ?_);refine goesL_ (some 9) rfl rfl Try.func33 (by kernel_rfl) rfl #[.int .i64 a0_0,.int .i64 a0_1] rfl am_ ?_;(with_reducible refine (spec_l8Depth.calls k a0_0 a0_1 true _ A4.out).mono ?_);rintro e w' ⟨rfl,⟨nd,rfl⟩⟩;refine ⟨_,rfl,?_⟩)|(go_at_call 34;(with_reducible refine (spec_l1In.calls a0_2 1 20 true _ A6.out).mono ?_);rintro e w' ⟨rfl,⟨nd,rfl⟩⟩)|(go_at_call 34;(with_reducible refine (spec_l1In.calls a0_3 1 20 true _ A8.out).mono ?_);rintro e w' ⟨rfl,⟨nd,rfl⟩⟩))
      go_meet
      case rel=>exact ⟨_,(true),(by first|rfl|(simp;done)|(simp [*];done)),H',⟨by first|omega|exact Nat.le_refl _⟩,⟨by (with_reducible repeat (first|apply kN_|apply kD_|apply kA_));exact BK325.out⟩,⟨by repeat (first|(with_reducible first|exact HB.out|apply wA_|apply wN_|apply wD_|refine below_set ?_ GE325.out)|exact HB.out)⟩⟩
    ·replace c9:=Bool.eq_false_iff.mpr c9;subst c9
     have H1:(spec_ImageOk.j0 k true a0_0 a0_1 a0_2 a0_3 l0_4 l0_5)=some r:=by first|(rw [if_neg (show ¬ (false=true) by decide)] at H;exact H)|rfl
     clear H;have H:=H1;clear H1;have H':=aM_ H;clear H;obtain ⟨hcz15_0,hcz15_1,hcz15_2,hcz15_3,hcz15_4,hcz15_5⟩:=bc6 BK325.out;obtain ⟨hfz15_0,hfz15_1,hfz15_2,hfz15_3,hfz15_4,hfz15_5⟩:=bf6 BK325.out
     go_wp2_with (first|((with_reducible refine gate_callee (f:=33) rfl ?_);refine goesL_ (some 9) rfl rfl Try.func33 (by kernel_rfl) rfl #[.int .i64 a0_0,.int .i64 a0_1] rfl am_ ?_;(with_reducible refine (spec_l8Depth.calls k a0_0 a0_1 true _ A4.out).mono ?_);rintro e w' ⟨rfl,⟨nd,rfl⟩⟩;refine ⟨_,rfl,?_⟩)|(go_at_call 34;(with_reducible refine (spec_l1In.calls a0_2 1 20 true _ A6.out).mono ?_);rintro e w' ⟨rfl,⟨nd,rfl⟩⟩)|(go_at_call 34;(with_reducible refine (spec_l1In.calls a0_3 1 20 false _ A8.out).mono ?_);rintro e w' ⟨rfl,⟨nd,rfl⟩⟩))
     go_meet
     case rel=>exact ⟨_,(true),(by first|rfl|(simp;done)|(simp [*];done)),H',⟨by first|omega|exact Nat.le_refl _⟩,⟨by (with_reducible repeat (first|apply kN_|apply kD_|apply kA_));exact BK325.out⟩,⟨by repeat (first|(with_reducible first|exact HB.out|apply wA_|apply wN_|apply wD_|refine below_set ?_ GE325.out)|exact HB.out)⟩⟩
   ·replace c7:=Bool.eq_false_iff.mpr c7;subst c7
    have H1:(spec_ImageOk.j0 k true a0_0 a0_1 a0_2 a0_3 l0_4 l0_5)=some r:=by first|(rw [if_neg (show ¬ (false=true) by decide)] at H;exact H)|rfl
    clear H;have H:=H1;clear H1;have H':=aM_ H;clear H;obtain ⟨hcz16_0,hcz16_1,hcz16_2,hcz16_3,hcz16_4,hcz16_5⟩:=bc6 BK325.out;obtain ⟨hfz16_0,hfz16_1,hfz16_2,hfz16_3,hfz16_4,hfz16_5⟩:=bf6 BK325.out
    go_wp2_with (first|((with_reducible refine gate_callee (f:=33) rfl ?_);refine goesL_ (some 9) rfl rfl Try.func33 (by kernel_rfl) rfl #[.int .i64 a0_0,.int .i64 a0_1] rfl am_ ?_;(with_reducible refine (spec_l8Depth.calls k a0_0 a0_1 true _ A4.out).mono ?_);rintro e w' ⟨rfl,⟨nd,rfl⟩⟩;refine ⟨_,rfl,?_⟩)|(go_at_call 34;(with_reducible refine (spec_l1In.calls a0_2 1 20 false _ A6.out).mono ?_);rintro e w' ⟨rfl,⟨nd,rfl⟩⟩))
    go_meet
    case rel=>exact ⟨_,(true),(by first|rfl|(simp;done)|(simp [*];done)),H',⟨by first|omega|exact Nat.le_refl _⟩,⟨by (with_reducible repeat (first|apply kN_|apply kD_|apply kA_));exact BK325.out⟩,⟨by repeat (first|(with_reducible first|exact HB.out|apply wA_|apply wN_|apply wD_|refine below_set ?_ GE325.out)|exact HB.out)⟩⟩
  ·replace c5:=Bool.eq_false_iff.mpr c5;subst c5
   have H1:(spec_ImageOk.j0 k true a0_0 a0_1 a0_2 a0_3 l0_4 l0_5)=some r:=by first|(rw [if_neg (show ¬ (false=true) by decide)] at H;exact H)|rfl
   clear H;have H:=H1;clear H1;have H':=aM_ H;clear H;obtain ⟨hcz17_0,hcz17_1,hcz17_2,hcz17_3,hcz17_4,hcz17_5⟩:=bc6 BK325.out;obtain ⟨hfz17_0,hfz17_1,hfz17_2,hfz17_3,hfz17_4,hfz17_5⟩:=bf6 BK325.out
   go_wp2_with (first|((with_reducible refine gate_callee (f:=33) rfl ?_);refine goesL_ (some 9) rfl rfl Try.func33 (by kernel_rfl) rfl #[.int .i64 a0_0,.int .i64 a0_1] rfl am_ ?_;(with_reducible refine (spec_l8Depth.calls k a0_0 a0_1 false _ A4.out).mono ?_);rintro e w' ⟨rfl,⟨nd,rfl⟩⟩;refine ⟨_,rfl,?_⟩))
   go_meet
   case rel=>exact ⟨_,(true),(by first|rfl|(simp;done)|(simp [*];done)),H',⟨by first|omega|exact Nat.le_refl _⟩,⟨by (with_reducible repeat (first|apply kN_|apply kD_|apply kA_));exact BK325.out⟩,⟨by repeat (first|(with_reducible first|exact HB.out|apply wA_|apply wN_|apply wD_|refine below_set ?_ GE325.out)|exact HB.out)⟩⟩
 case rest =>
  clear HC2;(try clear c1);(try clear p2);(try clear c3);(try clear c5);(try clear p6);(try clear c7);(try clear c9);(try clear c10);(try clear c10b0);(try clear c10b1);(try clear c14);(try clear hcz12_0 hcz12_1 hcz12_2 hcz12_3 hcz12_4 hcz12_5);(try clear hcz14_0 hcz14_1 hcz14_2 hcz14_3 hcz14_4 hcz14_5);(try clear hcz15_0 hcz15_1 hcz15_2 hcz15_3 hcz15_4 hcz15_5);(try clear hcz16_0 hcz16_1 hcz16_2 hcz16_3 hcz16_4 hcz16_5);(try clear hcz17_0 hcz17_1 hcz17_2 hcz17_3 hcz17_4 hcz17_5);(try clear hfz12_0 hfz12_1 hfz12_2 hfz12_3 hfz12_4 hfz12_5);(try clear hfz14_0 hfz14_1 hfz14_2 hfz14_3 hfz14_4 hfz14_5);(try clear hfz15_0 hfz15_1 hfz15_2 hfz15_3 hfz15_4 hfz15_5);(try clear hfz16_0 hfz16_1 hfz16_2 hfz16_3 hfz16_4 hfz16_5);(try clear hfz17_0 hfz17_1 hfz17_2 hfz17_3 hfz17_4 hfz17_5);obtain ⟨kq,x38_1,rfl,HA,HJ1,BK325,HB⟩:=hcut
  cases kq with
  | zero=>exact absurd HA.out (by simp [spec_ImageOk.j0])
  | succ kj1 =>
   have H:=HA.out;clear HA;simp only [spec_ImageOk.j0] at H
   by_cases c18:x38_1=true
   ·subst c18
    have H1:(some false)=some r:=by first|(rw [if_pos rfl] at H;exact H)|rfl
    clear H;have H:=H1;clear H1;obtain rfl:=Option.some.inj H;go_wp2
    go_ret
    exact ⟨by first|rfl|(simp [errW_none,errW_some] <;> rfl)|(simp [*,errW_none,errW_some] <;> rfl),by repeat (first|(with_reducible first|exact HB.out|apply wA_|apply wN_|apply wD_|refine below_set ?_ GE325.out)|exact HB.out)⟩
   ·replace c18:=Bool.eq_false_iff.mpr c18;subst c18
    have H1:((spec_l1Pow.f kj1 a0_1).bind fun t330=>(if a0_0=4 then (spec_ImageOk.j1 kj1 (wrap64 ((l0_4.length:Int) - 1)) a0_0 a0_1 a0_2 a0_3 l0_4 l0_5) else (spec_ImageOk.j1 kj1 (wrap64 (t330 - 1)) a0_0 a0_1 a0_2 a0_3 l0_4 l0_5)))=some r:=by first|(rw [if_neg (show ¬ (false=true) by decide)] at H;exact H)|rfl
    clear H;have H:=H1;clear H1;replace H:=Option.bind_eq_some_iff.mp H;obtain ⟨t330,A190,H⟩:=H;(try dsimp only at H);have A19:=aM_ A190;clear A190;have HC20:=aM_ H;clear H;obtain ⟨hcz21_0,hcz21_1,hcz21_2,hcz21_3,hcz21_4,hcz21_5⟩:=bc6 BK325.out;obtain ⟨hfz21_0,hfz21_1,hfz21_2,hfz21_3,hfz21_4,hfz21_5⟩:=bf6 BK325.out
    go_upto_if 45 with (first|((with_reducible refine gate_callee (f:=22) rfl ?_);refine goesL_ (some 41) rfl rfl Try.func22 (by kernel_rfl) rfl #[.int .i64 a0_1] rfl am_ ?_;(with_reducible refine (spec_l1Pow.calls kj1 a0_1 t330 _ A19.out).mono ?_);rintro e w' ⟨rfl,⟨nd,rfl⟩⟩;refine ⟨_,rfl,?_⟩))
    (try simp only [Act.put,sA_,s0_,s1_])
    go_cut [3] (fun v3 wc=>∃ (kq:Nat) (x3_19:Int),v3=.int .i64 x3_19∧Aside0 (spec_ImageOk.j1 kq x3_19 a0_0 a0_1 a0_2 a0_3 l0_4 l0_5=some r)∧Aside0 (kq≤kj1)∧Aside0 (wc.heap[gb325]?=some (.cells #[.int .i64 a0_0,.int .i64 a0_1,.int .i64 a0_2,.int .i64 a0_3,(.slice A0_4 l0_4.length c0_4),(.slice A0_5 l0_5.length c0_5)] 25 (0,0)))∧Aside0 (Below w.heap.size w wc))
    case first =>
     have H:=HC20.out;clear HC20
     by_cases c22:a0_0=4
     ·rw [if_pos c22] at H;have c22b0:(a0_0 == 4)=true:=beq_iff_eq.mpr c22;have c22b1:(a0_0 != 4)=false:=bne_eq_false_iff_eq.mpr c22;clear c22
      (first|rw [c22b0]|(simp only [i64_w,i32_w];rw [c22b0])|skip)
      have H':=aM_ H;clear H;obtain ⟨hcz23_0,hcz23_1,hcz23_2,hcz23_3,hcz23_4,hcz23_5⟩:=bc6 BK325.out;obtain ⟨hfz23_0,hfz23_1,hfz23_2,hfz23_3,hfz23_4,hfz23_5⟩:=bf6 BK325.out;go_wp2
      go_meet
      case rel=>exact ⟨_,(wrap64 ((l0_4.length:Int) - 1)),(by first|rfl|(simp;done)|(simp [*];done)),H',⟨by have:=HJ1.out;first|omega|exact Nat.le_refl _⟩,⟨by (with_reducible repeat (first|apply kN_|apply kD_|apply kA_));exact BK325.out⟩,⟨by repeat (first|(with_reducible first|exact HB.out|apply wA_|apply wN_|apply wD_|refine below_set ?_ GE325.out)|exact HB.out)⟩⟩
     ·rw [if_neg c22] at H;have c22b0:(a0_0 == 4)=false:=beq_eq_false_iff_ne.mpr c22;have c22b1:(a0_0 != 4)=true:=bne_iff_ne.mpr c22
      (first|rw [c22b0]|(simp only [i64_w,i32_w];rw [c22b0])|skip)
      have H':=aM_ H;clear H;go_wp2
      go_meet
      case rel=>exact ⟨_,(wrap64 (t330 - 1)),(by first|rfl|(simp;done)|(simp [*];done)),H',⟨by have:=HJ1.out;first|omega|exact Nat.le_refl _⟩,⟨by (with_reducible repeat (first|apply kN_|apply kD_|apply kA_));exact BK325.out⟩,⟨by repeat (first|(with_reducible first|exact HB.out|apply wA_|apply wN_|apply wD_|refine below_set ?_ GE325.out)|exact HB.out)⟩⟩
    case rest =>
     clear HC20;(try clear c1);(try clear c2);(try clear p2);(try clear c3);(try clear c5);(try clear p6);(try clear c7);(try clear c9);(try clear c10);(try clear c10b0);(try clear c10b1);(try clear c14);(try clear c18);(try clear c22);(try clear c22b0);(try clear c22b1);(try clear hcz12_0 hcz12_1 hcz12_2 hcz12_3 hcz12_4 hcz12_5);(try clear hcz14_0 hcz14_1 hcz14_2 hcz14_3 hcz14_4 hcz14_5);(try clear hcz15_0 hcz15_1 hcz15_2 hcz15_3 hcz15_4 hcz15_5);(try clear hcz16_0 hcz16_1 hcz16_2 hcz16_3 hcz16_4 hcz16_5);(try clear hcz17_0 hcz17_1 hcz17_2 hcz17_3 hcz17_4 hcz17_5);(try clear hcz21_0 hcz21_1 hcz21_2 hcz21_3 hcz21_4 hcz21_5);(try clear hcz23_0 hcz23_1 hcz23_2 hcz23_3 hcz23_4 hcz23_5);(try clear hfz12_0 hfz12_1 hfz12_2 hfz12_3 hfz12_4 hfz12_5);(try clear hfz14_0 hfz14_1 hfz14_2 hfz14_3 hfz14_4 hfz14_5);(try clear hfz15_0 hfz15_1 hfz15_2 hfz15_3 hfz15_4 hfz15_5);(try clear hfz16_0 hfz16_1 hfz16_2 hfz16_3 hfz16_4 hfz16_5);(try clear hfz17_0 hfz17_1 hfz17_2 hfz17_3 hfz17_4 hfz17_5);(try clear hfz21_0 hfz21_1 hfz21_2 hfz21_3 hfz21_4 hfz21_5);(try clear hfz23_0 hfz23_1 hfz23_2 hfz23_3 hfz23_4 hfz23_5);(try clear p2);(try clear p6);obtain ⟨kq,x3_19,rfl,HA,HJ19,BK325,HB⟩:=hcut
     cases kq with
     | zero=>exact absurd HA.out (by simp [spec_ImageOk.j1])
     | succ kj19 =>
      have H:=HA.out;clear HA;simp only [spec_ImageOk.j1] at H;have H':=aM_ H;clear H;go_wp2
      go_loopg [4] kj19 (fun kq v4 w'=>∃ (x4_3:Int),v4=.int .i64 x4_3∧Aside0 (spec_ImageOk.l0 kq x3_19 x4_3 a0_0 a0_1 a0_2 a0_3 l0_4 l0_5=some r)∧Aside0 (kq≤kj19)∧Aside0 (w'.heap[gb325]?=some (.cells #[.int .i64 a0_0,.int .i64 a0_1,.int .i64 a0_2,.int .i64 a0_3,(.slice A0_4 l0_4.length c0_4),(.slice A0_5 l0_5.length c0_5)] 25 (0,0)))∧Aside0 (Below w.heap.size w w'))
      case atStart=>exact ⟨(0),(by first|rfl|(simp;done)|(simp [*];done)),H',⟨Nat.le_refl _⟩,⟨by (with_reducible repeat (first|apply kN_|apply kD_|apply kA_));exact BK325.out⟩,⟨by repeat (first|(with_reducible first|exact HB.out|apply wA_|apply wN_|apply wD_|refine below_set ?_ GE325.out)|exact HB.out)⟩⟩
      case round =>
       clear H';(try clear c1);(try clear c2);(try clear p2);(try clear c3);(try clear c5);(try clear p6);(try clear c7);(try clear c9);(try clear c10);(try clear c10b0);(try clear c10b1);(try clear c14);(try clear c18);(try clear c22);(try clear c22b0);(try clear c22b1);(try clear hcz12_0 hcz12_1 hcz12_2 hcz12_3 hcz12_4 hcz12_5);(try clear hcz14_0 hcz14_1 hcz14_2 hcz14_3 hcz14_4 hcz14_5);(try clear hcz15_0 hcz15_1 hcz15_2 hcz15_3 hcz15_4 hcz15_5);(try clear hcz16_0 hcz16_1 hcz16_2 hcz16_3 hcz16_4 hcz16_5);(try clear hcz17_0 hcz17_1 hcz17_2 hcz17_3 hcz17_4 hcz17_5);(try clear hcz21_0 hcz21_1 hcz21_2 hcz21_3 hcz21_4 hcz21_5);(try clear hcz23_0 hcz23_1 hcz23_2 hcz23_3 hcz23_4 hcz23_5);(try clear hfz12_0 hfz12_1 hfz12_2 hfz12_3 hfz12_4 hfz12_5);(try clear hfz14_0 hfz14_1 hfz14_2 hfz14_3 hfz14_4 hfz14_5);(try clear hfz15_0 hfz15_1 hfz15_2 hfz15_3 hfz15_4 hfz15_5);(try clear hfz16_0 hfz16_1 hfz16_2 hfz16_3 hfz16_4 hfz16_5);(try clear hfz17_0 hfz17_1 hfz17_2 hfz17_3 hfz17_4 hfz17_5);(try clear hfz21_0 hfz21_1 hfz21_2 hfz21_3 hfz21_4 hfz21_5);(try clear hfz23_0 hfz23_1 hfz23_2 hfz23_3 hfz23_4 hfz23_5);(try clear p2);(try clear p6);obtain ⟨x4_3,rfl,HA,HK3,BK325,HB⟩:=hrel
       cases gk with
       | zero=>exact absurd HA.out (by simp [spec_ImageOk.l0])
       | succ k3 =>
        have H:=HA.out;clear HA;simp only [spec_ImageOk.l0] at H
        by_cases c24:x4_3 < (l0_5.length:Int)
        ·rw [if_pos c24] at H;have c24b0:decide (x4_3 < (l0_5.length:Int))=true:=decide_eq_true c24;clear c24
         by_cases c25:0≤x4_3
         ·rw [if_pos c25] at H;have c25b0:decide (0≤x4_3)=true:=decide_eq_true c25;clear c25;replace H:=Option.bind_eq_some_iff.mp H;obtain ⟨t332,A260,H⟩:=H;(try dsimp only at H);have A26:=aM_ A260;clear A260
          by_cases c27:t332=true
          ·subst c27
           have H1:(spec_ImageOk.l0 k3 x3_19 (wrap64 (x4_3+1)) a0_0 a0_1 a0_2 a0_3 l0_4 l0_5)=some r:=by first|(rw [if_pos rfl] at H;exact H)|rfl
           clear H;have H:=H1;clear H1;have H':=aM_ H;clear H;obtain ⟨hcz28_0,hcz28_1,hcz28_2,hcz28_3,hcz28_4,hcz28_5⟩:=bc6 BK325.out;obtain ⟨hfz28_0,hfz28_1,hfz28_2,hfz28_3,hfz28_4,hfz28_5⟩:=bf6 BK325.out;have p331:0≤(x4_3:Int):=of_decide_eq_true (by first|(with_reducible assumption)|assumption);have q331:x4_3 < (l0_5.length:Int):=of_decide_eq_true (by first|(with_reducible assumption)|assumption);obtain ⟨ad331,e331,hx331_0⟩:=Kd.at_int HR0_5.out x4_3 p331 q331;cases e331;replace hx331_0:=(HB.out.cell (World.block_lt_of_cell? w _ hx331_0)).trans hx331_0;replace p331:=eq_true p331;replace q331:=eq_true q331
           go_wp2_with (first|((with_reducible refine gate_callee (f:=34) rfl ?_);refine goesL_ (some 63) rfl rfl Try.func34 (by kernel_rfl) rfl #[.int .i64 (rd l0_5 x4_3),.int .i64 0,.int .i64 x3_19] rfl am_ ?_;(with_reducible refine (spec_l1In.calls (rd l0_5 x4_3) 0 x3_19 true _ A26.out).mono ?_);rintro e w' ⟨rfl,⟨nd,rfl⟩⟩;refine ⟨_,rfl,?_⟩))
           go_roundg k3
           case measure=>have:=HJ1.out;have:=HJ19.out;have:=HK3.out;omega
           case rel=>exact ⟨(wrap64 (x4_3+1)),(by first|rfl|(simp;done)|(simp [*];done)),H',⟨by have:=HJ1.out;have:=HJ19.out;have:=HK3.out;omega⟩,⟨by (with_reducible repeat (first|apply kN_|apply kD_|apply kA_));exact BK325.out⟩,⟨by repeat (first|(with_reducible first|exact HB.out|apply wA_|apply wN_|apply wD_|refine below_set ?_ GE325.out)|exact HB.out)⟩⟩
          ·replace c27:=Bool.eq_false_iff.mpr c27;subst c27
           have H1:(some false)=some r:=by first|(rw [if_neg (show ¬ (false=true) by decide)] at H;exact H)|rfl
           clear H;have H:=H1;clear H1;obtain rfl:=Option.some.inj H;obtain ⟨hcz29_0,hcz29_1,hcz29_2,hcz29_3,hcz29_4,hcz29_5⟩:=bc6 BK325.out;obtain ⟨hfz29_0,hfz29_1,hfz29_2,hfz29_3,hfz29_4,hfz29_5⟩:=bf6 BK325.out;have p331:0≤(x4_3:Int):=of_decide_eq_true (by first|(with_reducible assumption)|assumption);have q331:x4_3 < (l0_5.length:Int):=of_decide_eq_true (by first|(with_reducible assumption)|assumption);obtain ⟨ad331,e331,hx331_0⟩:=Kd.at_int HR0_5.out x4_3 p331 q331;cases e331;replace hx331_0:=(HB.out.cell (World.block_lt_of_cell? w _ hx331_0)).trans hx331_0;replace p331:=eq_true p331;replace q331:=eq_true q331
           go_wp2_with (first|((with_reducible refine gate_callee (f:=34) rfl ?_);refine goesL_ (some 63) rfl rfl Try.func34 (by kernel_rfl) rfl #[.int .i64 (rd l0_5 x4_3),.int .i64 0,.int .i64 x3_19] rfl am_ ?_;(with_reducible refine (spec_l1In.calls (rd l0_5 x4_3) 0 x3_19 false _ A26.out).mono ?_);rintro e w' ⟨rfl,⟨nd,rfl⟩⟩;refine ⟨_,rfl,?_⟩))
           go_ret
           exact ⟨by first|rfl|(simp [errW_none,errW_some] <;> rfl)|(simp [*,errW_none,errW_some] <;> rfl),by repeat (first|(with_reducible first|exact HB.out|apply wA_|apply wN_|apply wD_|refine below_set ?_ GE325.out)|exact HB.out)⟩
         ·rw [if_neg c25] at H;exact absurd H (by simp)
        ·rw [if_neg c24] at H;have c24b0:decide (x4_3 < (l0_5.length:Int))=false:=decide_eq_false c24;clear c24;obtain rfl:=Option.some.inj H;obtain ⟨hcz30_0,hcz30_1,hcz30_2,hcz30_3,hcz30_4,hcz30_5⟩:=bc6 BK325.out;obtain ⟨hfz30_0,hfz30_1,hfz30_2,hfz30_3,hfz30_4,hfz30_5⟩:=bf6 BK325.out;go_wp2
         go_ret
         exact ⟨by first|rfl|(simp [errW_none,errW_some] <;> rfl)|(simp [*,errW_none,errW_some] <;> rfl),by repeat (first|(with_reducible first|exact HB.out|apply wA_|apply wN_|apply wD_|refine below_set ?_ GE325.out)|exact HB.out)⟩

/-! ### spec_l8Color: function 32 -/
def spec_l8Color.f (k:Nat) (a0_0:Int) (a0_1:Int) (a0_2:Int) (a0_3:Int) (l0_4:List Int) (l0_5:List Int) (a1:Int):Option (Int):=if a0_0=1 then ((spec_l1Pow.f k a0_1).bind fun t334=>(if (wrap64 (t334 - 1))=0 then (none) else (some (wrap64 ((wrap64 ((wrap64 ((wrap64 ((wrap64 (Int.tdiv (wrap64 (a1 * 255)) (wrap64 (t334 - 1)))) * 16777216))+(wrap64 ((wrap64 (Int.tdiv (wrap64 (a1 * 255)) (wrap64 (t334 - 1)))) * 65536))))+(wrap64 ((wrap64 (Int.tdiv (wrap64 (a1 * 255)) (wrap64 (t334 - 1)))) * 256))))+255))))) else (if a0_0=2 then (some (wrap64 ((wrap64 (a1 * 256))+255))) else (if a0_0=4 then (if 0≤a1 then (if a1 < (l0_4.length:Int) then (some (wrap64 ((wrap64 ((rd l0_4 a1) * 256))+255))) else (none)) else (none)) else (some a1)))
theorem spec_l8Color.mono:∀ a0 a1 a2 a3 a4 a5 a6 k,LeO (spec_l8Color.f k a0 a1 a2 a3 a4 a5 a6) (spec_l8Color.f (k+1) a0 a1 a2 a3 a4 a5 a6):=by
 intro a0 a1 a2 a3 a4 a5 a6 k
 unfold spec_l8Color.f
 repeat' first
   | (with_reducible exact spec_l1Pow.mono _ _)
   | (with_reducible exact LeO.refl _)
   | (with_reducible exact LeO.none _)
   | (with_reducible refine LeO.ite ?_ ?_)
   | (with_reducible refine LeO.bind ?_ (fun _=>?_))
set_option maxHeartbeats 8000000 in
set_option maxRecDepth 100000 in
theorem spec_l8Color.calls (k:Nat) (a0_0:Int) (a0_1:Int) (a0_2:Int) (a0_3:Int) (A0_4:Option Addr) (c0_4:Nat) (l0_4:List Int) (A0_5:Option Addr) (c0_5:Nat) (l0_5:List Int) (a1:Int) (r:Int) (w:World) (hr0_4:Kd.C (Kd.int .i64) w A0_4 l0_4.length l0_4) (hc0_4:l0_4.length≤c0_4) (hr0_5:Kd.C (Kd.int .i64) w A0_5 l0_5.length l0_5) (hc0_5:l0_5.length≤c0_5) (h:spec_l8Color.f k a0_0 a0_1 a0_2 a0_3 l0_4 l0_5 a1=some r) :
  Calls Try.prog 32 #[.agg #[.int .i64 a0_0,.int .i64 a0_1,.int .i64 a0_2,.int .i64 a0_3,.slice A0_4 l0_4.length c0_4,.slice A0_5 l0_5.length c0_5],.int .i64 a1] w fun e w'=>e=.returned (.int .i64 r)∧Below w.heap.size w w':=by
 have hu25:=Try.underlying25;have HR0_4:=aM_ hr0_4;have HC0_4:=aM_ hc0_4;clear hr0_4 hc0_4;have HR0_5:=aM_ hr0_5;have HC0_5:=aM_ hc0_5;clear hr0_5 hc0_5;have HB:=aM_ (Below.refl w.heap.size w);have H:(if a0_0=1 then ((spec_l1Pow.f k a0_1).bind fun t334=>(if (wrap64 (t334 - 1))=0 then (none) else (some (wrap64 ((wrap64 ((wrap64 ((wrap64 ((wrap64 (Int.tdiv (wrap64 (a1 * 255)) (wrap64 (t334 - 1)))) * 16777216))+(wrap64 ((wrap64 (Int.tdiv (wrap64 (a1 * 255)) (wrap64 (t334 - 1)))) * 65536))))+(wrap64 ((wrap64 (Int.tdiv (wrap64 (a1 * 255)) (wrap64 (t334 - 1)))) * 256))))+255))))) else (if a0_0=2 then (some (wrap64 ((wrap64 (a1 * 256))+255))) else (if a0_0=4 then (if 0≤a1 then (if a1 < (l0_4.length:Int) then (some (wrap64 ((wrap64 ((rd l0_4 a1) * 256))+255))) else (none)) else (none)) else (some a1))))=some r:=h;clear h
 by_cases c3:a0_0=1
 ·rw [if_pos c3] at H;have c3b0:(a0_0 == 1)=true:=beq_iff_eq.mpr c3;have c3b1:(a0_0 != 1)=false:=bne_eq_false_iff_eq.mpr c3;clear c3;replace H:=Option.bind_eq_some_iff.mp H;obtain ⟨t334,A40,H⟩:=H;(try dsimp only at H);have A4:=aM_ A40;clear A40
  by_cases c5:(wrap64 (t334 - 1))=0
  ·rw [if_pos c5] at H;exact absurd H (by simp)
  ·rw [if_neg c5] at H;have c5b0:((wrap64 (t334 - 1)) == 0)=false:=beq_eq_false_iff_ne.mpr c5;have c5b1:((wrap64 (t334 - 1)) != 0)=true:=bne_iff_ne.mpr c5;obtain rfl:=Option.some.inj H
   go_enter Try.func32,Try.ntmps32
   go_wp2_with (first|((with_reducible refine gate_dst (N:=2) rfl ?_);refine box_event ?hg (N:=2) ?hd (cs:=#[.int .i64 a0_0,.int .i64 a0_1,.int .i64 a0_2,.int .i64 a0_3,.slice A0_4 l0_4.length c0_4,.slice A0_5 l0_5.length c0_5]) (t:=25) ?hr ?_;(case hd=>rfl);(case hg=>rfl);(case hr=>first|(go_simp;done)|(go_simp;rfl));intro gb333 hg w6 hbox hb;have n0_:=aM_ (below_step (hb_ HB) hb);have n1_:=aM_ (hbox);have n2_:=aM_ ((by rw [hg];exact (below_size (hb_ HB)):w.heap.size≤gb333));have n3_:=aM_ ((by rw [hg];exact (below_size (hb_ HB)):w.heap.size≤gb333));clear HB;have HB:=n0_;have BK333:=n1_;have GW333:=n2_;have GE333:=n3_;clear n0_ n1_ n2_ n3_;clear hb hbox hg;obtain ⟨hcz7_0,hcz7_1,hcz7_2,hcz7_3,hcz7_4,hcz7_5⟩:=bc6 BK333.out;obtain ⟨hfz7_0,hfz7_1,hfz7_2,hfz7_3,hfz7_4,hfz7_5⟩:=bf6 BK333.out)|((with_reducible refine gate_callee (f:=22) rfl ?_);refine goesL_ (some 14) rfl rfl Try.func22 (by kernel_rfl) rfl #[.int .i64 a0_1] rfl am_ ?_;(with_reducible refine (spec_l1Pow.calls k a0_1 t334 _ A4.out).mono ?_);rintro e w' ⟨rfl,⟨nd,rfl⟩⟩;refine ⟨_,rfl,?_⟩))
   go_ret
   exact ⟨by first|rfl|(simp [errW_none,errW_some] <;> rfl)|(simp [*,errW_none,errW_some] <;> rfl),by repeat (first|(with_reducible first|exact HB.out|apply wA_|apply wN_|apply wD_|refine below_set ?_ GE333.out)|exact HB.out)⟩
 ·rw [if_neg c3] at H;have c3b0:(a0_0 == 1)=false:=beq_eq_false_iff_ne.mpr c3;have c3b1:(a0_0 != 1)=true:=bne_iff_ne.mpr c3
  by_cases c8:a0_0=2
  ·rw [if_pos c8] at H;have c8b0:(a0_0 == 2)=true:=beq_iff_eq.mpr c8;have c8b1:(a0_0 != 2)=false:=bne_eq_false_iff_eq.mpr c8;clear c8;obtain rfl:=Option.some.inj H
   go_enter Try.func32,Try.ntmps32
   go_wp2_with (first|((with_reducible refine gate_dst (N:=2) rfl ?_);refine box_event ?hg (N:=2) ?hd (cs:=#[.int .i64 a0_0,.int .i64 a0_1,.int .i64 a0_2,.int .i64 a0_3,.slice A0_4 l0_4.length c0_4,.slice A0_5 l0_5.length c0_5]) (t:=25) ?hr ?_;(case hd=>rfl);(case hg=>rfl);(case hr=>first|(go_simp;done)|(go_simp;rfl));intro gb333 hg w9 hbox hb;have n0_:=aM_ (below_step (hb_ HB) hb);have n1_:=aM_ (hbox);have n2_:=aM_ ((by rw [hg];exact (below_size (hb_ HB)):w.heap.size≤gb333));have n3_:=aM_ ((by rw [hg];exact (below_size (hb_ HB)):w.heap.size≤gb333));clear HB;have HB:=n0_;have BK333:=n1_;have GW333:=n2_;have GE333:=n3_;clear n0_ n1_ n2_ n3_;clear hb hbox hg;obtain ⟨hcz10_0,hcz10_1,hcz10_2,hcz10_3,hcz10_4,hcz10_5⟩:=bc6 BK333.out;obtain ⟨hfz10_0,hfz10_1,hfz10_2,hfz10_3,hfz10_4,hfz10_5⟩:=bf6 BK333.out))
   go_ret
   exact ⟨by first|rfl|(simp [errW_none,errW_some] <;> rfl)|(simp [*,errW_none,errW_some] <;> rfl),by repeat (first|(with_reducible first|exact HB.out|apply wA_|apply wN_|apply wD_|refine below_set ?_ GE333.out)|exact HB.out)⟩
  ·rw [if_neg c8] at H;have c8b0:(a0_0 == 2)=false:=beq_eq_false_iff_ne.mpr c8;have c8b1:(a0_0 != 2)=true:=bne_iff_ne.mpr c8
   by_cases c11:a0_0=4
   ·rw [if_pos c11] at H;have c11b0:(a0_0 == 4)=true:=beq_iff_eq.mpr c11;have c11b1:(a0_0 != 4)=false:=bne_eq_false_iff_eq.mpr c11;clear c11
    by_cases c12:0≤a1
    ·rw [if_pos c12] at H;have c12b0:decide (0≤a1)=true:=decide_eq_true c12;clear c12
     by_cases c13:a1 < (l0_4.length:Int)
     ·rw [if_pos c13] at H;have c13b0:decide (a1 < (l0_4.length:Int))=true:=decide_eq_true c13;clear c13;obtain rfl:=Option.some.inj H
      go_enter Try.func32,Try.ntmps32
      go_wp2_with (first|((with_reducible refine gate_dst (N:=2) rfl ?_);refine box_event ?hg (N:=2) ?hd (cs:=#[.int .i64 a0_0,.int .i64 a0_1,.int .i64 a0_2,.int .i64 a0_3,.slice A0_4 l0_4.length c0_4,.slice A0_5 l0_5.length c0_5]) (t:=25) ?hr ?_;(case hd=>rfl);(case hg=>rfl);(case hr=>first|(go_simp;done)|(go_simp;rfl));intro gb333 hg w14 hbox hb;have n0_:=aM_ (below_step (hb_ HB) hb);have n1_:=aM_ (hbox);have n2_:=aM_ ((by rw [hg];exact (below_size (hb_ HB)):w.heap.size≤gb333));have n3_:=aM_ ((by rw [hg];exact (below_size (hb_ HB)):w.heap.size≤gb333));clear HB;have HB:=n0_;have BK333:=n1_;have GW333:=n2_;have GE333:=n3_;clear n0_ n1_ n2_ n3_;clear hb hbox hg;obtain ⟨hcz15_0,hcz15_1,hcz15_2,hcz15_3,hcz15_4,hcz15_5⟩:=bc6 BK333.out;obtain ⟨hfz15_0,hfz15_1,hfz15_2,hfz15_3,hfz15_4,hfz15_5⟩:=bf6 BK333.out;have p335:0≤(a1:Int):=of_decide_eq_true (by first|(with_reducible assumption)|assumption);have q335:a1 < (l0_4.length:Int):=of_decide_eq_true (by first|(with_reducible assumption)|assumption);obtain ⟨ad335,e335,hx335_0⟩:=Kd.at_int HR0_4.out a1 p335 q335;cases e335;replace hx335_0:=(HB.out.cell (World.block_lt_of_cell? w _ hx335_0)).trans hx335_0;replace p335:=eq_true p335;replace q335:=eq_true q335))
      go_ret
      exact ⟨by first|rfl|(simp [errW_none,errW_some] <;> rfl)|(simp [*,errW_none,errW_some] <;> rfl),by repeat (first|(with_reducible first|exact HB.out|apply wA_|apply wN_|apply wD_|refine below_set ?_ GE333.out)|exact HB.out)⟩
     ·rw [if_neg c13] at H;exact absurd H (by simp)
    ·rw [if_neg c12] at H;exact absurd H (by simp)
   ·rw [if_neg c11] at H;have c11b0:(a0_0 == 4)=false:=beq_eq_false_iff_ne.mpr c11;have c11b1:(a0_0 != 4)=true:=bne_iff_ne.mpr c11;obtain rfl:=Option.some.inj H
    go_enter Try.func32,Try.ntmps32
    go_wp2_with (first|((with_reducible refine gate_dst (N:=2) rfl ?_);refine box_event ?hg (N:=2) ?hd (cs:=#[.int .i64 a0_0,.int .i64 a0_1,.int .i64 a0_2,.int .i64 a0_3,.slice A0_4 l0_4.length c0_4,.slice A0_5 l0_5.length c0_5]) (t:=25) ?hr ?_;(case hd=>rfl);(case hg=>rfl);(case hr=>first|(go_simp;done)|(go_simp;rfl));intro gb333 hg w16 hbox hb;have n0_:=aM_ (below_step (hb_ HB) hb);have n1_:=aM_ (hbox);have n2_:=aM_ ((by rw [hg];exact (below_size (hb_ HB)):w.heap.size≤gb333));have n3_:=aM_ ((by rw [hg];exact (below_size (hb_ HB)):w.heap.size≤gb333));clear HB;have HB:=n0_;have BK333:=n1_;have GW333:=n2_;have GE333:=n3_;clear n0_ n1_ n2_ n3_;clear hb hbox hg;obtain ⟨hcz17_0,hcz17_1,hcz17_2,hcz17_3,hcz17_4,hcz17_5⟩:=bc6 BK333.out;obtain ⟨hfz17_0,hfz17_1,hfz17_2,hfz17_3,hfz17_4,hfz17_5⟩:=bf6 BK333.out))
    go_ret
    exact ⟨by first|rfl|(simp [errW_none,errW_some] <;> rfl)|(simp [*,errW_none,errW_some] <;> rfl),by repeat (first|(with_reducible first|exact HB.out|apply wA_|apply wN_|apply wD_|refine below_set ?_ GE333.out)|exact HB.out)⟩

end Go.Proofs.Ytagbmaapahhmpaa.PFnImagePal
