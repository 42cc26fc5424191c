/- What the functions that the law comes to compute, as plain functions, and that the machine's calls come to just that: written by a program for this claim, and turned where Lean did not take it. No condition. -/
import Derived.Test.YtkjfefiphdloiaaHFnImageCutx0
import Derived.Test.YtkjfefiphdloiaaHFnImageCutx3
import Derived.Test.YtkjfefiphdloiaaHFnImageCutx4
namespace Go.Proofs.Ytkjfefiphdloiaa.PFnImageCut
open Go.RowKit Go.Proofs.YtkjfefiphdloiaaW.PrintWords Go.Proofs.YtkjfefiphdloiaaW.PrintLast Go.Proofs.YtkjfefiphdloiaaW.PrintMore
attribute [local go_sem] max2_int min2_int max_two min_two max_three min_three max_four min_four   -- for this text's walks alone
set_option linter.unusedVariables false
set_option linter.unusedSimpArgs false

/-! ### impl_Image_has: function 53 -/
def impl_Image_has.f (a0_0:Int) (a0_1:Int) (a0_2:Int) (a0_3:Int) (l0_4:List Int) (l0_5:List Int) (a1:Int) (a2:Int):Option (Bool):=(impl_in.f a1 0 (wrap64 (a0_2 - 1))).bind fun t124=>(if t124=true then ((impl_in.f a2 0 (wrap64 (a0_3 - 1))).bind fun t125=>(some t125)) else (some false))
set_option maxHeartbeats 8000000 in
set_option maxRecDepth 100000 in
theorem impl_Image_has.calls (a0_0:Int) (a0_1:Int) (a0_2:Int) (a0_3:Int) (A0_4:Option Addr) (c0_4:Nat) (l0_4:List Int) (A0_5:Option Addr) (c0_5:Nat) (l0_5:List Int) (a1:Int) (a2:Int) (r:Bool) (w:World) (hr0_4:Kd.C (Kd.int .i64) w A0_4 l0_4.length l0_4) (hc0_4:l0_4.length≤c0_4) (hr0_5:Kd.C (Kd.int .i64) w A0_5 l0_5.length l0_5) (hc0_5:l0_5.length≤c0_5) (h:impl_Image_has.f a0_0 a0_1 a0_2 a0_3 l0_4 l0_5 a1 a2=some r) :
  Calls Try.prog 53 #[.agg #[.int .i64 a0_0,.int .i64 a0_1,.int .i64 a0_2,.int .i64 a0_3,.slice A0_4 l0_4.length c0_4,.slice A0_5 l0_5.length c0_5],.int .i64 a1,.int .i64 a2] w fun e w'=>e=.returned (.bool r)∧Below w.heap.size w w':=by
 have hu27:=Try.underlying27
 have HR0_4:=aM_ hr0_4
 have HC0_4:=aM_ hc0_4
 clear hr0_4 hc0_4
 have HR0_5:=aM_ hr0_5
 have HC0_5:=aM_ hc0_5
 clear hr0_5 hc0_5
 have HB:=aM_ (Below.refl w.heap.size w)
 have H:((impl_in.f a1 0 (wrap64 (a0_2 - 1))).bind fun t124=>(if t124=true then ((impl_in.f a2 0 (wrap64 (a0_3 - 1))).bind fun t125=>(some t125)) else (some false)))=some r:=h
 clear h
 replace H:=Option.bind_eq_some_iff.mp H
 obtain ⟨t124,A40,H⟩:=H
 replace H:(if t124=true then ((impl_in.f a2 0 (wrap64 (a0_3 - 1))).bind fun t125=>(some t125)) else (some false))=some r:=H
 have A4:=aM_ A40
 clear A40
 by_cases c5:t124=true
 ·subst c5
  have H1:((impl_in.f a2 0 (wrap64 (a0_3 - 1))).bind fun t125=>(some t125))=some r:=by first|(rw [if_pos rfl] at H;exact H)|rfl
  clear H
  have H:=H1
  clear H1
  replace H:=Option.bind_eq_some_iff.mp H
  obtain ⟨t125,A60,H⟩:=H
  replace H:(some t125)=some r:=H
  have A6:=aM_ A60
  clear A60
  obtain rfl:=Option.some.inj H
  go_enter Try.func53,Try.ntmps53
  go_wp2_with (first|((with_reducible refine gate_dst (N:=3) rfl ?_);refine box_event ?hg (N:=3) ?hd (cs:=#[.int .i64 a0_0,.int .i64 a0_1,.int .i64 a0_2,.int .i64 a0_3,.slice A0_4 l0_4.length c0_4,.slice A0_5 l0_5.length c0_5]) (t:=27) ?hr ?_;(case hd=>rfl);(case hg=>rfl);(case hr=>first|(go_simp;done)|(go_simp;rfl));intro gb123 hg w7 hbox hb;have n0_:=aM_ (below_step (by repeat (first|(with_reducible first|exact HB.out|apply wA_|apply wN_|apply wD_)|exact HB.out)) hb);have n1_:=aM_ (hbox);have n2_:=aM_ ((by rw [hg];exact (below_size (by repeat (first|(with_reducible first|exact HB.out|apply wA_|apply wN_|apply wD_)|exact HB.out))):w.heap.size≤gb123));have n3_:=aM_ ((by rw [hg];exact (below_size (by repeat (first|(with_reducible first|exact HB.out|apply wA_|apply wN_|apply wD_)|exact HB.out))):w.heap.size≤gb123));clear HB;have HB:=n0_;have BK123:=n1_;have GW123:=n2_;have GE123:=n3_;clear n0_ n1_ n2_ n3_;clear hb hbox hg;obtain ⟨hcz8_0,hcz8_1,hcz8_2,hcz8_3,hcz8_4,hcz8_5⟩:=bc6 BK123.out;obtain ⟨hfz8_0,hfz8_1,hfz8_2,hfz8_3,hfz8_4,hfz8_5⟩:=bf6 BK123.out)|((with_reducible refine gate_callee (f:=49) rfl ?_);refine goesL_ (some 11) rfl rfl Try.func49 (by kernel_rfl) rfl #[.int .i64 a1,.int .i64 0,.int .i64 (wrap64 (a0_2 - 1))] rfl (by (try simp only [List.map_toArray,List.map_cons,List.map_nil]);first|done|rfl|(simp only [List.length_drop,List.length_take];rfl)) ?_;(with_reducible refine (impl_in.calls a1 0 (wrap64 (a0_2 - 1)) true _ A4.out).mono ?_);rintro e w' ⟨rfl,⟨nd,rfl⟩⟩;refine ⟨_,rfl,?_⟩)|(go_at_call 49;(with_reducible refine (impl_in.calls a2 0 (wrap64 (a0_3 - 1)) t125 _ A6.out).mono ?_);rintro e w' ⟨rfl,⟨nd,rfl⟩⟩))
  go_ret
  exact ⟨by first|rfl|(simp [errW_none,errW_some] <;> rfl)|(simp [*,errW_none,errW_some] <;> rfl),by repeat (first|(with_reducible first|exact HB.out|apply wA_|apply wN_|apply wD_|refine below_set ?_ GE123.out)|exact HB.out)⟩
 ·replace c5:=Bool.eq_false_iff.mpr c5
  subst c5
  have H1:(some false)=some r:=by first|(rw [if_neg (show ¬ (false=true) by decide)] at H;exact H)|rfl
  clear H
  have H:=H1
  clear H1
  obtain rfl:=Option.some.inj H
  go_enter Try.func53,Try.ntmps53
  go_wp2_with (first|((with_reducible refine gate_dst (N:=3) rfl ?_);refine box_event ?hg (N:=3) ?hd (cs:=#[.int .i64 a0_0,.int .i64 a0_1,.int .i64 a0_2,.int .i64 a0_3,.slice A0_4 l0_4.length c0_4,.slice A0_5 l0_5.length c0_5]) (t:=27) ?hr ?_;(case hd=>rfl);(case hg=>rfl);(case hr=>first|(go_simp;done)|(go_simp;rfl));intro gb123 hg w9 hbox hb;have n0_:=aM_ (below_step (by repeat (first|(with_reducible first|exact HB.out|apply wA_|apply wN_|apply wD_)|exact HB.out)) hb);have n1_:=aM_ (hbox);have n2_:=aM_ ((by rw [hg];exact (below_size (by repeat (first|(with_reducible first|exact HB.out|apply wA_|apply wN_|apply wD_)|exact HB.out))):w.heap.size≤gb123));have n3_:=aM_ ((by rw [hg];exact (below_size (by repeat (first|(with_reducible first|exact HB.out|apply wA_|apply wN_|apply wD_)|exact HB.out))):w.heap.size≤gb123));clear HB;have HB:=n0_;have BK123:=n1_;have GW123:=n2_;have GE123:=n3_;clear n0_ n1_ n2_ n3_;clear hb hbox hg;obtain ⟨hcz10_0,hcz10_1,hcz10_2,hcz10_3,hcz10_4,hcz10_5⟩:=bc6 BK123.out;obtain ⟨hfz10_0,hfz10_1,hfz10_2,hfz10_3,hfz10_4,hfz10_5⟩:=bf6 BK123.out)|((with_reducible refine gate_callee (f:=49) rfl ?_);refine goesL_ (some 11) rfl rfl Try.func49 (by kernel_rfl) rfl #[.int .i64 a1,.int .i64 0,.int .i64 (wrap64 (a0_2 - 1))] rfl (by (try simp only [List.map_toArray,List.map_cons,List.map_nil]);first|done|rfl|(simp only [List.length_drop,List.length_take];rfl)) ?_;(with_reducible refine (impl_in.calls a1 0 (wrap64 (a0_2 - 1)) false _ A4.out).mono ?_);rintro e w' ⟨rfl,⟨nd,rfl⟩⟩;refine ⟨_,rfl,?_⟩))
  go_ret
  exact ⟨by first|rfl|(simp [errW_none,errW_some] <;> rfl)|(simp [*,errW_none,errW_some] <;> rfl),by repeat (first|(with_reducible first|exact HB.out|apply wA_|apply wN_|apply wD_|refine below_set ?_ GE123.out)|exact HB.out)⟩

/-! ### impl_ImageAt: function 21 -/
def impl_ImageAt.f (k:Nat) (a0_0:Int) (a0_1:Int) (a0_2:Int) (a0_3:Int) (l0_4:List Int) (l0_5:List Int) (a1:Int) (a2:Int):Option (Int × Bool):=(impl_ImageOk.f k a0_0 a0_1 a0_2 a0_3 l0_4 l0_5).bind fun t127=>(if t127=true then ((impl_Image_has.f a0_0 a0_1 a0_2 a0_3 l0_4 l0_5 a1 a2).bind fun t128=>(if t128=true then (if 0≤(wrap64 ((wrap64 (a2 * a0_2))+a1)) then (if (wrap64 ((wrap64 (a2 * a0_2))+a1)) < (l0_5.length:Int) then (some (rd l0_5 (wrap64 ((wrap64 (a2 * a0_2))+a1)),true)) else (none)) else (none)) else (some (0,false)))) else (some (0,false)))
theorem impl_ImageAt.mono:∀ a0 a1 a2 a3 a4 a5 a6 a7 k,LeO (impl_ImageAt.f k a0 a1 a2 a3 a4 a5 a6 a7) (impl_ImageAt.f (k+1) a0 a1 a2 a3 a4 a5 a6 a7):=by
 intro a0 a1 a2 a3 a4 a5 a6 a7 k
 unfold impl_ImageAt.f
 repeat' first
   | (with_reducible exact impl_ImageOk.mono _ _ _ _ _ _ _)
   | (with_reducible exact LeO.refl _)
   | (with_reducible exact LeO.none _)
   | (with_reducible refine LeO.ite ?_ ?_)
   | (with_reducible refine LeO.bind ?_ (fun _=>?_))
set_option maxHeartbeats 8000000 in
set_option maxRecDepth 100000 in
theorem impl_ImageAt.calls (k:Nat) (a0_0:Int) (a0_1:Int) (a0_2:Int) (a0_3:Int) (A0_4:Option Addr) (c0_4:Nat) (l0_4:List Int) (A0_5:Option Addr) (c0_5:Nat) (l0_5:List Int) (a1:Int) (a2:Int) (r1:Int) (r2:Bool) (w:World) (hr0_4:Kd.C (Kd.int .i64) w A0_4 l0_4.length l0_4) (hc0_4:l0_4.length≤c0_4) (hr0_5:Kd.C (Kd.int .i64) w A0_5 l0_5.length l0_5) (hc0_5:l0_5.length≤c0_5) (h:impl_ImageAt.f k a0_0 a0_1 a0_2 a0_3 l0_4 l0_5 a1 a2=some (r1,r2)) :
  Calls Try.prog 21 #[.agg #[.int .i64 a0_0,.int .i64 a0_1,.int .i64 a0_2,.int .i64 a0_3,.slice A0_4 l0_4.length c0_4,.slice A0_5 l0_5.length c0_5],.int .i64 a1,.int .i64 a2] w fun e w'=>e=.returned (.tuple #[.int .i64 r1,.bool r2])∧Below w.heap.size w w':=by
 have hu27:=Try.underlying27
 have HR0_4:=aM_ hr0_4
 have HC0_4:=aM_ hc0_4
 clear hr0_4 hc0_4
 have HR0_5:=aM_ hr0_5
 have HC0_5:=aM_ hc0_5
 clear hr0_5 hc0_5
 have HB:=aM_ (Below.refl w.heap.size w)
 have H:((impl_ImageOk.f k a0_0 a0_1 a0_2 a0_3 l0_4 l0_5).bind fun t127=>(if t127=true then ((impl_Image_has.f a0_0 a0_1 a0_2 a0_3 l0_4 l0_5 a1 a2).bind fun t128=>(if t128=true then (if 0≤(wrap64 ((wrap64 (a2 * a0_2))+a1)) then (if (wrap64 ((wrap64 (a2 * a0_2))+a1)) < (l0_5.length:Int) then (some (rd l0_5 (wrap64 ((wrap64 (a2 * a0_2))+a1)),true)) else (none)) else (none)) else (some (0,false)))) else (some (0,false))))=some (r1,r2):=h
 clear h
 replace H:=Option.bind_eq_some_iff.mp H
 obtain ⟨t127,A40,H⟩:=H
 replace H:(if t127=true then ((impl_Image_has.f a0_0 a0_1 a0_2 a0_3 l0_4 l0_5 a1 a2).bind fun t128=>(if t128=true then (if 0≤(wrap64 ((wrap64 (a2 * a0_2))+a1)) then (if (wrap64 ((wrap64 (a2 * a0_2))+a1)) < (l0_5.length:Int) then (some (rd l0_5 (wrap64 ((wrap64 (a2 * a0_2))+a1)),true)) else (none)) else (none)) else (some (0,false)))) else (some (0,false)))=some (r1,r2):=H
 have A4:=aM_ A40
 clear A40
 by_cases c5:t127=true
 ·subst c5
  have H1:((impl_Image_has.f a0_0 a0_1 a0_2 a0_3 l0_4 l0_5 a1 a2).bind fun t128=>(if t128=true then (if 0≤(wrap64 ((wrap64 (a2 * a0_2))+a1)) then (if (wrap64 ((wrap64 (a2 * a0_2))+a1)) < (l0_5.length:Int) then (some (rd l0_5 (wrap64 ((wrap64 (a2 * a0_2))+a1)),true)) else (none)) else (none)) else (some (0,false))))=some (r1,r2):=by first|(rw [if_pos rfl] at H;exact H)|rfl
  clear H
  have H:=H1
  clear H1
  replace H:=Option.bind_eq_some_iff.mp H
  obtain ⟨t128,A60,H⟩:=H
  replace H:(if t128=true then (if 0≤(wrap64 ((wrap64 (a2 * a0_2))+a1)) then (if (wrap64 ((wrap64 (a2 * a0_2))+a1)) < (l0_5.length:Int) then (some (rd l0_5 (wrap64 ((wrap64 (a2 * a0_2))+a1)),true)) else (none)) else (none)) else (some (0,false)))=some (r1,r2):=H
  have A6:=aM_ A60
  clear A60
  by_cases c7:t128=true
  ·subst c7
   have H1:(if 0≤(wrap64 ((wrap64 (a2 * a0_2))+a1)) then (if (wrap64 ((wrap64 (a2 * a0_2))+a1)) < (l0_5.length:Int) then (some (rd l0_5 (wrap64 ((wrap64 (a2 * a0_2))+a1)),true)) else (none)) else (none))=some (r1,r2):=by first|(rw [if_pos rfl] at H;exact H)|rfl
   clear H
   have H:=H1
   clear H1
   obtain ⟨ji8,hji8⟩:∃ j_:Int,(wrap64 ((wrap64 (a2 * a0_2))+a1))=j_:=⟨_,rfl⟩
   replace H:(if 0≤(ji8) then (if (ji8) < (l0_5.length:Int) then (some (rd l0_5 (ji8),true)) else (none)) else (none))=some (r1,r2):=by first|(rw [hji8] at H;exact H)|(simp only [hji8] at H ⊢;exact H)
   (try rw [hji8] at A4)
   (try rw [hji8] at A6)
   have hji8w:(IntKind.i64.wrap ((wrap64 (a2 * a0_2))+a1))=ji8:=(i64_w _).trans hji8
   by_cases c9:0≤(ji8)
   ·rw [if_pos c9] at H
    have c9b0:decide (0≤(ji8))=true:=decide_eq_true c9
    clear c9
    by_cases c10:(ji8) < (l0_5.length:Int)
    ·rw [if_pos c10] at H
     have c10b0:decide ((ji8) < (l0_5.length:Int))=true:=decide_eq_true c10
     clear c10
     simp only [Option.some.injEq,Prod.mk.injEq] at H
     obtain ⟨rfl,rfl⟩:=H
     go_enter Try.func21,Try.ntmps21
     go_wp2_with (first|((with_reducible refine gate_dst (N:=3) rfl ?_);refine box_event ?hg (N:=3) ?hd (cs:=#[.int .i64 a0_0,.int .i64 a0_1,.int .i64 a0_2,.int .i64 a0_3,.slice A0_4 l0_4.length c0_4,.slice A0_5 l0_5.length c0_5]) (t:=27) ?hr ?_;(case hd=>rfl);(case hg=>rfl);(case hr=>first|(go_simp;done)|(go_simp;rfl));intro gb126 hg w11 hbox hb;have n0_:=aM_ (below_step (by repeat (first|(with_reducible first|exact HB.out|apply wA_|apply wN_|apply wD_)|exact HB.out)) hb);have n1_:=aM_ (hbox);have n2_:=aM_ ((by rw [hg];exact (below_size (by repeat (first|(with_reducible first|exact HB.out|apply wA_|apply wN_|apply wD_)|exact HB.out))):w.heap.size≤gb126));have n3_:=aM_ ((by rw [hg];exact (below_size (by repeat (first|(with_reducible first|exact HB.out|apply wA_|apply wN_|apply wD_)|exact HB.out))):w.heap.size≤gb126));clear HB;have HB:=n0_;have BK126:=n1_;have GW126:=n2_;have GE126:=n3_;clear n0_ n1_ n2_ n3_;clear hb hbox hg;obtain ⟨hcz12_0,hcz12_1,hcz12_2,hcz12_3,hcz12_4,hcz12_5⟩:=bc6 BK126.out;obtain ⟨hfz12_0,hfz12_1,hfz12_2,hfz12_3,hfz12_4,hfz12_5⟩:=bf6 BK126.out)|((with_reducible refine gate_callee (f:=18) rfl ?_);refine goesL_ (some 9) rfl rfl Try.func18 (by kernel_rfl) rfl #[.agg #[.int .i64 a0_0,.int .i64 a0_1,.int .i64 a0_2,.int .i64 a0_3,.slice A0_4 l0_4.length c0_4,.slice A0_5 l0_5.length c0_5]] rfl (by (try simp only [List.map_toArray,List.map_cons,List.map_nil]);first|done|rfl|(simp only [List.length_drop,List.length_take];rfl)) ?_;(with_reducible refine (impl_ImageOk.calls k a0_0 a0_1 a0_2 a0_3 _ _ l0_4 _ _ l0_5 true _ ?side1 ?side2 ?side3 ?side4 A4.out).mono ?_);(case side1=>repeat (first|exact (Kd.C_below HR0_4.out HB.out)|(with_reducible refine Kd.C_alloc ?_ _)|(with_reducible refine Kd.C_drewN ?_ _)|(with_reducible refine Kd.C_drew ?_)));(case side2=>exact HC0_4.out);(case side3=>repeat (first|exact (Kd.C_below HR0_5.out HB.out)|(with_reducible refine Kd.C_alloc ?_ _)|(with_reducible refine Kd.C_drewN ?_ _)|(with_reducible refine Kd.C_drew ?_)));(case side4=>exact HC0_5.out);rintro e w13 ⟨rfl,hb⟩;refine ⟨_,rfl,?_⟩;have n0_:=aM_ (blk_below (g:=gb126) (by (with_reducible repeat (first|apply kN_|apply kD_|apply kA_));exact BK126.out) hb);have n1_:=aM_ (below_step (by repeat (first|(with_reducible first|exact HB.out|apply wA_|apply wN_|apply wD_|refine below_set ?_ GE126.out)|exact HB.out)) hb);clear BK126;clear HB;have BK126:=n0_;have HB:=n1_;clear n0_ n1_;(try clear hb);(try clear hb2);(try clear hk);(try clear hi);obtain ⟨hcz14_0,hcz14_1,hcz14_2,hcz14_3,hcz14_4,hcz14_5⟩:=bc6 BK126.out;obtain ⟨hfz14_0,hfz14_1,hfz14_2,hfz14_3,hfz14_4,hfz14_5⟩:=bf6 BK126.out)|(go_at_call 53;(with_reducible refine (impl_Image_has.calls a0_0 a0_1 a0_2 a0_3 _ _ l0_4 _ _ l0_5 a1 a2 true _ ?side1 ?side2 ?side3 ?side4 A6.out).mono ?_);(case side1=>repeat (first|exact (Kd.C_below HR0_4.out HB.out)|(with_reducible refine Kd.C_alloc ?_ _)|(with_reducible refine Kd.C_drewN ?_ _)|(with_reducible refine Kd.C_drew ?_)));(case side2=>exact HC0_4.out);(case side3=>repeat (first|exact (Kd.C_below HR0_5.out HB.out)|(with_reducible refine Kd.C_alloc ?_ _)|(with_reducible refine Kd.C_drewN ?_ _)|(with_reducible refine Kd.C_drew ?_)));(case side4=>exact HC0_5.out);rintro e w15 ⟨rfl,hb⟩;have n0_:=aM_ (blk_below (g:=gb126) (by (with_reducible repeat (first|apply kN_|apply kD_|apply kA_));exact BK126.out) hb);have n1_:=aM_ (below_step (by repeat (first|(with_reducible first|exact HB.out|apply wA_|apply wN_|apply wD_|refine below_set ?_ GE126.out)|exact HB.out)) hb);clear BK126;clear HB;have BK126:=n0_;have HB:=n1_;clear n0_ n1_;(try clear hb);(try clear hb2);(try clear hk);(try clear hi);obtain ⟨hcz16_0,hcz16_1,hcz16_2,hcz16_3,hcz16_4,hcz16_5⟩:=bc6 BK126.out;obtain ⟨hfz16_0,hfz16_1,hfz16_2,hfz16_3,hfz16_4,hfz16_5⟩:=bf6 BK126.out;have p129:0≤((ji8):Int):=of_decide_eq_true (by first|(with_reducible assumption)|assumption);have q129:(ji8) < (l0_5.length:Int):=of_decide_eq_true (by first|(with_reducible assumption)|assumption);obtain ⟨ad129,e129,hx129_0⟩:=Kd.at_int HR0_5.out (ji8) p129 q129;cases e129;replace hx129_0:=(HB.out.cell (World.block_lt_of_cell? w _ hx129_0)).trans hx129_0;replace p129:=eq_true p129;replace q129:=eq_true q129))
     go_ret2
     exact ⟨by first|rfl|(simp [errW_none,errW_some] <;> rfl)|(simp only [← hji8];first|rfl|(simp [errW_none,errW_some] <;> rfl))|(simp [*,errW_none,errW_some] <;> rfl),by repeat (first|(with_reducible first|exact HB.out|apply wA_|apply wN_|apply wD_|refine below_set ?_ GE126.out)|exact HB.out)⟩
    ·rw [if_neg c10] at H
     exact absurd H (by simp)
   ·rw [if_neg c9] at H
    exact absurd H (by simp)
  ·replace c7:=Bool.eq_false_iff.mpr c7
   subst c7
   have H1:(some (0,false))=some (r1,r2):=by first|(rw [if_neg (show ¬ (false=true) by decide)] at H;exact H)|rfl
   clear H
   have H:=H1
   clear H1
   simp only [Option.some.injEq,Prod.mk.injEq] at H
   obtain ⟨rfl,rfl⟩:=H
   go_enter Try.func21,Try.ntmps21
   go_wp2_with (first|((with_reducible refine gate_dst (N:=3) rfl ?_);refine box_event ?hg (N:=3) ?hd (cs:=#[.int .i64 a0_0,.int .i64 a0_1,.int .i64 a0_2,.int .i64 a0_3,.slice A0_4 l0_4.length c0_4,.slice A0_5 l0_5.length c0_5]) (t:=27) ?hr ?_;(case hd=>rfl);(case hg=>rfl);(case hr=>first|(go_simp;done)|(go_simp;rfl));intro gb126 hg w17 hbox hb;have n0_:=aM_ (below_step (by repeat (first|(with_reducible first|exact HB.out|apply wA_|apply wN_|apply wD_)|exact HB.out)) hb);have n1_:=aM_ (hbox);have n2_:=aM_ ((by rw [hg];exact (below_size (by repeat (first|(with_reducible first|exact HB.out|apply wA_|apply wN_|apply wD_)|exact HB.out))):w.heap.size≤gb126));have n3_:=aM_ ((by rw [hg];exact (below_size (by repeat (first|(with_reducible first|exact HB.out|apply wA_|apply wN_|apply wD_)|exact HB.out))):w.heap.size≤gb126));clear HB;have HB:=n0_;have BK126:=n1_;have GW126:=n2_;have GE126:=n3_;clear n0_ n1_ n2_ n3_;clear hb hbox hg;obtain ⟨hcz18_0,hcz18_1,hcz18_2,hcz18_3,hcz18_4,hcz18_5⟩:=bc6 BK126.out;obtain ⟨hfz18_0,hfz18_1,hfz18_2,hfz18_3,hfz18_4,hfz18_5⟩:=bf6 BK126.out)|((with_reducible refine gate_callee (f:=18) rfl ?_);refine goesL_ (some 9) rfl rfl Try.func18 (by kernel_rfl) rfl #[.agg #[.int .i64 a0_0,.int .i64 a0_1,.int .i64 a0_2,.int .i64 a0_3,.slice A0_4 l0_4.length c0_4,.slice A0_5 l0_5.length c0_5]] rfl (by (try simp only [List.map_toArray,List.map_cons,List.map_nil]);first|done|rfl|(simp only [List.length_drop,List.length_take];rfl)) ?_;(with_reducible refine (impl_ImageOk.calls k a0_0 a0_1 a0_2 a0_3 _ _ l0_4 _ _ l0_5 true _ ?side1 ?side2 ?side3 ?side4 A4.out).mono ?_);(case side1=>repeat (first|exact (Kd.C_below HR0_4.out HB.out)|(with_reducible refine Kd.C_alloc ?_ _)|(with_reducible refine Kd.C_drewN ?_ _)|(with_reducible refine Kd.C_drew ?_)));(case side2=>exact HC0_4.out);(case side3=>repeat (first|exact (Kd.C_below HR0_5.out HB.out)|(with_reducible refine Kd.C_alloc ?_ _)|(with_reducible refine Kd.C_drewN ?_ _)|(with_reducible refine Kd.C_drew ?_)));(case side4=>exact HC0_5.out);rintro e w19 ⟨rfl,hb⟩;refine ⟨_,rfl,?_⟩;have n0_:=aM_ (blk_below (g:=gb126) (by (with_reducible repeat (first|apply kN_|apply kD_|apply kA_));exact BK126.out) hb);have n1_:=aM_ (below_step (by repeat (first|(with_reducible first|exact HB.out|apply wA_|apply wN_|apply wD_|refine below_set ?_ GE126.out)|exact HB.out)) hb);clear BK126;clear HB;have BK126:=n0_;have HB:=n1_;clear n0_ n1_;(try clear hb);(try clear hb2);(try clear hk);(try clear hi);obtain ⟨hcz20_0,hcz20_1,hcz20_2,hcz20_3,hcz20_4,hcz20_5⟩:=bc6 BK126.out;obtain ⟨hfz20_0,hfz20_1,hfz20_2,hfz20_3,hfz20_4,hfz20_5⟩:=bf6 BK126.out)|(go_at_call 53;(with_reducible refine (impl_Image_has.calls a0_0 a0_1 a0_2 a0_3 _ _ l0_4 _ _ l0_5 a1 a2 false _ ?side1 ?side2 ?side3 ?side4 A6.out).mono ?_);(case side1=>repeat (first|exact (Kd.C_below HR0_4.out HB.out)|(with_reducible refine Kd.C_alloc ?_ _)|(with_reducible refine Kd.C_drewN ?_ _)|(with_reducible refine Kd.C_drew ?_)));(case side2=>exact HC0_4.out);(case side3=>repeat (first|exact (Kd.C_below HR0_5.out HB.out)|(with_reducible refine Kd.C_alloc ?_ _)|(with_reducible refine Kd.C_drewN ?_ _)|(with_reducible refine Kd.C_drew ?_)));(case side4=>exact HC0_5.out);rintro e w21 ⟨rfl,hb⟩;have n0_:=aM_ (blk_below (g:=gb126) (by (with_reducible repeat (first|apply kN_|apply kD_|apply kA_));exact BK126.out) hb);have n1_:=aM_ (below_step (by repeat (first|(with_reducible first|exact HB.out|apply wA_|apply wN_|apply wD_|refine below_set ?_ GE126.out)|exact HB.out)) hb);clear BK126;clear HB;have BK126:=n0_;have HB:=n1_;clear n0_ n1_;(try clear hb);(try clear hb2);(try clear hk);(try clear hi)))
   go_ret2
   exact ⟨by first|rfl|(simp [errW_none,errW_some] <;> rfl)|(simp [*,errW_none,errW_some] <;> rfl),by repeat (first|(with_reducible first|exact HB.out|apply wA_|apply wN_|apply wD_|refine below_set ?_ GE126.out)|exact HB.out)⟩
 ·replace c5:=Bool.eq_false_iff.mpr c5
  subst c5
  have H1:(some (0,false))=some (r1,r2):=by first|(rw [if_neg (show ¬ (false=true) by decide)] at H;exact H)|rfl
  clear H
  have H:=H1
  clear H1
  simp only [Option.some.injEq,Prod.mk.injEq] at H
  obtain ⟨rfl,rfl⟩:=H
  go_enter Try.func21,Try.ntmps21
  go_wp2_with (first|((with_reducible refine gate_dst (N:=3) rfl ?_);refine box_event ?hg (N:=3) ?hd (cs:=#[.int .i64 a0_0,.int .i64 a0_1,.int .i64 a0_2,.int .i64 a0_3,.slice A0_4 l0_4.length c0_4,.slice A0_5 l0_5.length c0_5]) (t:=27) ?hr ?_;(case hd=>rfl);(case hg=>rfl);(case hr=>first|(go_simp;done)|(go_simp;rfl));intro gb126 hg w22 hbox hb;have n0_:=aM_ (below_step (by repeat (first|(with_reducible first|exact HB.out|apply wA_|apply wN_|apply wD_)|exact HB.out)) hb);have n1_:=aM_ (hbox);have n2_:=aM_ ((by rw [hg];exact (below_size (by repeat (first|(with_reducible first|exact HB.out|apply wA_|apply wN_|apply wD_)|exact HB.out))):w.heap.size≤gb126));have n3_:=aM_ ((by rw [hg];exact (below_size (by repeat (first|(with_reducible first|exact HB.out|apply wA_|apply wN_|apply wD_)|exact HB.out))):w.heap.size≤gb126));clear HB;have HB:=n0_;have BK126:=n1_;have GW126:=n2_;have GE126:=n3_;clear n0_ n1_ n2_ n3_;clear hb hbox hg;obtain ⟨hcz23_0,hcz23_1,hcz23_2,hcz23_3,hcz23_4,hcz23_5⟩:=bc6 BK126.out;obtain ⟨hfz23_0,hfz23_1,hfz23_2,hfz23_3,hfz23_4,hfz23_5⟩:=bf6 BK126.out)|((with_reducible refine gate_callee (f:=18) rfl ?_);refine goesL_ (some 9) rfl rfl Try.func18 (by kernel_rfl) rfl #[.agg #[.int .i64 a0_0,.int .i64 a0_1,.int .i64 a0_2,.int .i64 a0_3,.slice A0_4 l0_4.length c0_4,.slice A0_5 l0_5.length c0_5]] rfl (by (try simp only [List.map_toArray,List.map_cons,List.map_nil]);first|done|rfl|(simp only [List.length_drop,List.length_take];rfl)) ?_;(with_reducible refine (impl_ImageOk.calls k a0_0 a0_1 a0_2 a0_3 _ _ l0_4 _ _ l0_5 false _ ?side1 ?side2 ?side3 ?side4 A4.out).mono ?_);(case side1=>repeat (first|exact (Kd.C_below HR0_4.out HB.out)|(with_reducible refine Kd.C_alloc ?_ _)|(with_reducible refine Kd.C_drewN ?_ _)|(with_reducible refine Kd.C_drew ?_)));(case side2=>exact HC0_4.out);(case side3=>repeat (first|exact (Kd.C_below HR0_5.out HB.out)|(with_reducible refine Kd.C_alloc ?_ _)|(with_reducible refine Kd.C_drewN ?_ _)|(with_reducible refine Kd.C_drew ?_)));(case side4=>exact HC0_5.out);rintro e w24 ⟨rfl,hb⟩;refine ⟨_,rfl,?_⟩;have n0_:=aM_ (blk_below (g:=gb126) (by (with_reducible repeat (first|apply kN_|apply kD_|apply kA_));exact BK126.out) hb);have n1_:=aM_ (below_step (by repeat (first|(with_reducible first|exact HB.out|apply wA_|apply wN_|apply wD_|refine below_set ?_ GE126.out)|exact HB.out)) hb);clear BK126;clear HB;have BK126:=n0_;have HB:=n1_;clear n0_ n1_;(try clear hb);(try clear hb2);(try clear hk);(try clear hi)))
  go_ret2
  exact ⟨by first|rfl|(simp [errW_none,errW_some] <;> rfl)|(simp [*,errW_none,errW_some] <;> rfl),by repeat (first|(with_reducible first|exact HB.out|apply wA_|apply wN_|apply wD_|refine below_set ?_ GE126.out)|exact HB.out)⟩

/-! ### spec_l8Blank: function 56 -/
def spec_l8Blank.f (a0_0:Int) (a0_1:Int) (a0_2:Int) (a0_3:Int) (l0_4:List Int) (l0_5:List Int) (a1:Int) (a2:Int):Option (Int × Int × Int × Int × List Int × List Int):=(some (([]:List Int):List Int)).bind fun y132=>(if y132.length+l0_4.length < 17592186044416 then (some (a0_0,a0_1,a1,a2,(y132 ++ l0_4),([]:List Int))) else (none))
def spec_l8Blank.T1:Bool × List (List Nat × List Nat):=(true,[([],[]),([0],[0]),([],[]),([2],[2]),([],[]),([],[]),([],[]),([],[]),([7],[7]),([6,8],[6,8]),([1,3,4,5,9],[1,3,4,5,9]),([10,9,0,1,2,3,4,5,6,7,8,9,10],[10])])
def spec_l8Blank.B1:List Nat:=[0,1,0,4,0,0,0,0,128,448,1023,2047]
theorem spec_l8Blank.tab1:rtab .any (opsOf Try.f56 1)=spec_l8Blank.T1:=by kernel_rfl
theorem spec_l8Blank.bits1:waitsOk spec_l8Blank.T1.2 spec_l8Blank.B1=true:=by kernel_rfl
set_option maxHeartbeats 8000000 in
set_option maxRecDepth 100000 in
theorem spec_l8Blank.calls (a0_0:Int) (a0_1:Int) (a0_2:Int) (a0_3:Int) (A0_4:Option Addr) (c0_4:Nat) (l0_4:List Int) (A0_5:Option Addr) (c0_5:Nat) (l0_5:List Int) (a1:Int) (a2:Int) (r1:Int) (r2:Int) (r3:Int) (r4:Int) (r5:List Int) (r6:List Int) (w:World) (hr0_4:Kd.C (Kd.int .i64) w A0_4 l0_4.length l0_4) (hc0_4:l0_4.length≤c0_4) (hr0_5:Kd.C (Kd.int .i64) w A0_5 l0_5.length l0_5) (hc0_5:l0_5.length≤c0_5) (h:spec_l8Blank.f a0_0 a0_1 a0_2 a0_3 l0_4 l0_5 a1 a2=some (r1,r2,r3,r4,r5,r6)) :
  Calls Try.prog 56 #[.agg #[.int .i64 a0_0,.int .i64 a0_1,.int .i64 a0_2,.int .i64 a0_3,.slice A0_4 l0_4.length c0_4,.slice A0_5 l0_5.length c0_5],.int .i64 a1,.int .i64 a2] w fun e w'=>∃ v4_ v5_:Value,e=.returned (.agg #[.int .i64 r1,.int .i64 r2,.int .i64 r3,.int .i64 r4,v4_,v5_])∧Kd.R (Kd.int .i64) 3 w' w.heap.size (fun k_=>some k_≠(v5_:Value).ownBlock) v4_ r5∧Kd.R (Kd.int .i64) 3 w' w.heap.size (fun k_=>some k_≠(v4_:Value).ownBlock) v5_ r6∧Below w.heap.size w w':=by
 have hu27:=Try.underlying27
 have HR0_4:=aM_ hr0_4
 have HC0_4:=aM_ hc0_4
 clear hr0_4 hc0_4
 have HR0_5:=aM_ hr0_5
 have HC0_5:=aM_ hc0_5
 clear hr0_5 hc0_5
 have HB:=aM_ (Below.refl w.heap.size w)
 have H:((some (([]:List Int):List Int)).bind fun y132=>(if y132.length+l0_4.length < 17592186044416 then (some (a0_0,a0_1,a1,a2,(y132 ++ l0_4),([]:List Int))) else (none)))=some (r1,r2,r3,r4,r5,r6):=h
 clear h
 obtain ⟨y132,hy132⟩:∃ y_:List Int,y_=(([]:List Int)):=⟨_,rfl⟩
 replace H:(if y132.length+l0_4.length < 17592186044416 then (some (a0_0,a0_1,a1,a2,(y132 ++ l0_4),([]:List Int))) else (none))=some (r1,r2,r3,r4,r5,r6):=by first|(rw [hy132];with_reducible exact H)|(have H2_:=(Option.bind_some _ _).symm.trans H;rw [hy132];with_reducible exact H2_)|(have H2_:=(Option.bind_some _ _).symm.trans H;with_reducible exact H2_)|with_reducible exact H|(rw [hy132];exact H)|exact H
 have Ny132:=aM_ hy132
 clear hy132
 by_cases c4:y132.length+l0_4.length < 17592186044416
 ·rw [if_pos c4] at H
  have LMc4:=aM_ c4
  clear c4
  obtain ⟨y135,hy135⟩:∃ y_:List Int,y_=(y132 ++ l0_4):=⟨_,rfl⟩
  replace H:(some (a0_0,a0_1,a1,a2,y135,([]:List Int)))=some (r1,r2,r3,r4,r5,r6):=by first|(rw [hy135];with_reducible exact H)|(have H2_:=(Option.bind_some _ _).symm.trans H;rw [hy135];with_reducible exact H2_)|(have H2_:=(Option.bind_some _ _).symm.trans H;with_reducible exact H2_)|with_reducible exact H|(rw [hy135];exact H)|exact H
  have Ny135:=aM_ hy135
  clear hy135
  simp only [Option.some.injEq,Prod.mk.injEq] at H
  obtain ⟨rfl,rfl,rfl,rfl,rfl,rfl⟩:=H
  go_enter Try.func56,Try.ntmps56
  try go_wp2_with (first|((with_reducible refine gate_dst (N:=3) rfl ?_);refine box_event ?hg (N:=3) ?hd (cs:=#[.int .i64 a0_0,.int .i64 a0_1,.int .i64 a0_2,.int .i64 a0_3,.slice A0_4 l0_4.length c0_4,.slice A0_5 l0_5.length c0_5]) (t:=27) ?hr ?_;(case hd=>rfl);(case hg=>rfl);(case hr=>first|(go_simp;done)|(go_simp;rfl));intro gb130 hg w5 hbox hb;have n0_:=aM_ (below_step (by repeat (first|(with_reducible first|exact HB.out|apply wA_|apply wN_|apply wD_)|exact HB.out)) hb);have n1_:=aM_ (hbox);have n2_:=aM_ ((by rw [hg];exact (below_size (by repeat (first|(with_reducible first|exact HB.out|apply wA_|apply wN_|apply wD_)|exact HB.out))):w.heap.size≤gb130));have n3_:=aM_ ((by rw [hg];exact (below_size (by repeat (first|(with_reducible first|exact HB.out|apply wA_|apply wN_|apply wD_)|exact HB.out))):w.heap.size≤gb130));clear HB;have HB:=n0_;have BK130:=n1_;have GW130:=n2_;have GE130:=n3_;clear n0_ n1_ n2_ n3_;clear hb hbox hg)|((with_reducible refine gate_dst (N:=6) rfl ?_);refine box_event ?hg (N:=6) ?hd (cs:=#[.int .i64 0,.int .i64 0,.int .i64 0,.int .i64 0,.slice none 0 0,.slice none 0 0]) (t:=27) ?hr ?_;(case hd=>rfl);(case hg=>rfl);(case hr=>first|(go_simp;done)|(go_simp;rfl));intro gb131 hg w6 hbox hb;have n0_:=aM_ (blk_below (g:=gb130) (by (with_reducible repeat (first|apply kN_|apply kD_|apply kA_));exact BK130.out) hb);have n1_:=aM_ (below_step (by repeat (first|(with_reducible first|exact HB.out|apply wA_|apply wN_|apply wD_|refine below_set ?_ GE130.out)|exact HB.out)) hb);have n2_:=aM_ (hbox);have n3_:=aM_ ((by rw [hg];exact (below_size (by repeat (first|(with_reducible first|exact HB.out|apply wA_|apply wN_|apply wD_|refine below_set ?_ GE130.out)|exact HB.out))):w.heap.size≤gb131));have n4_:=aM_ ((by rw [hg];exact (below_size (by repeat (first|(with_reducible first|exact HB.out|apply wA_|apply wN_|apply wD_|refine below_set ?_ GE130.out)|exact HB.out))):w.heap.size≤gb131));have n5_:=aM_ ((by rw [hg];exact Nat.ne_of_lt (blk_lt (g:=gb130) (by (with_reducible repeat (first|apply kN_|apply kD_|apply kA_));exact BK130.out)):gb130≠gb131));have n6_:=aM_ n5_.out.symm;clear BK130;clear HB;have BK130:=n0_;have HB:=n1_;have BK131:=n2_;have GW131:=n3_;have GE131:=n4_;have NB130_131:=n5_;have NB131_130:=n6_;clear n0_ n1_ n2_ n3_ n4_ n5_ n6_;clear hb hbox hg))
  have n0_:=aM_ (kD_ BK130.out)
  have n1_:=aM_ (kD_ BK131.out)
  have n2_:=aM_ (wD_ HB.out)
  clear BK130
  clear BK131
  clear HB
  have BK130:=n0_
  have BK131:=n1_
  have HB:=n2_
  clear n0_ n1_ n2_
  refine start_ (n:=12) (S:=fun w'=>w'.cell? ⟨gb130,0,none⟩=some (.int .i64 a0_0)∧w'.cell? ⟨gb130,1,none⟩=some (.int .i64 a0_1)∧w'.cell? ⟨gb130,2,none⟩=some (.int .i64 a0_2)∧w'.cell? ⟨gb130,3,none⟩=some (.int .i64 a0_3)∧w'.cell? ⟨gb130,4,none⟩=some (.slice A0_4 l0_4.length c0_4)∧w'.cell? ⟨gb130,5,none⟩=some (.slice A0_5 l0_5.length c0_5)) (ds:=[]) #[false,false,false,false,false,false,false,false,false,false,false,false] (by kernel_rfl) rfl rfl (bc6 BK130.out) (fun hHeld=>?_);refine with_tabW spec_l8Blank.tab1 spec_l8Blank.bits1 (fun HT_ HW_=>?_)
  generalize w6.drew=w7 at BK130 BK131 HB hHeld ⊢
  refine pure_ (i:=0) (N:=some 7) (v:=?_) (a':=?_) #[true,false,false,false,false,false,false,false,false,false,false,false] rfl rfl (any_of HT_.out (by kernel_rfl)) (fun _ _ _ h=>h) (Or.inl ⟨by rfl,?_⟩) ?_ ?_
  rotate_left
  ·intro w'
   go_simp
   with_reducible rfl
  rotate_left
  ·simp only [Act.put,sA_,s0_,s1_,i64_w,i32_w]
   rfl
  refine pure_ (i:=2) (N:=some 9) (v:=?_) (a':=?_) #[true,false,true,false,false,false,false,false,false,false,false,false] rfl rfl (any_of HT_.out (by kernel_rfl)) (fun _ _ _ h=>h) (Or.inl ⟨by rfl,?_⟩) ?_ ?_
  rotate_left
  ·intro w'
   go_simp
   with_reducible rfl
  rotate_left
  ·simp only [Act.put,sA_,s0_,s1_,i64_w,i32_w]
   rfl
  refine pure_ (i:=4) (N:=some 11) (v:=?_) (a':=?_) #[true,false,true,false,true,false,false,false,false,false,false,false] rfl rfl (any_of HT_.out (by kernel_rfl)) (fun _ _ _ h=>h) (Or.inl ⟨by rfl,?_⟩) ?_ ?_
  rotate_left
  ·intro w'
   go_simp
   with_reducible rfl
  rotate_left
  ·simp only [Act.put,sA_,s0_,s1_,i64_w,i32_w]
   rfl
  refine pure_ (i:=5) (N:=some 12) (v:=?_) (a':=?_) #[true,false,true,false,true,true,false,false,false,false,false,false] rfl rfl (any_of HT_.out (by kernel_rfl)) (fun _ _ _ h=>h) (Or.inl ⟨by rfl,?_⟩) ?_ ?_
  rotate_left
  ·intro w'
   go_simp
   with_reducible rfl
  rotate_left
  ·simp only [Act.put,sA_,s0_,s1_,i64_w,i32_w]
   rfl
  refine pure_ (i:=7) (N:=some 14) (v:=?_) (a':=?_) #[true,false,true,false,true,true,false,true,false,false,false,false] rfl rfl (any_of HT_.out (by kernel_rfl)) (fun _ _ _ h=>h) (Or.inl ⟨by rfl,?_⟩) ?_ ?_
  rotate_left
  ·intro w'
   go_simp
   with_reducible rfl
  rotate_left
  ·simp only [Act.put,sA_,s0_,s1_,i64_w,i32_w]
   rfl
  refine take_ (i:=1) (N:=some 8) (v:=?_) (a':=?_) #[true,true,true,false,true,true,false,true,false,false,false,false] rfl rfl (take_ofW HT_.out HW_.out (by kernel_rfl)) (fun _ _ _ h=>h) (Or.inl ⟨by rfl,?_⟩) hHeld ?_ ?_
  rotate_left
  ·rintro w' ⟨s0,s1,s2,s3,s4,s5⟩
   go_simp
   with_reducible rfl
  rotate_left
  ·simp only [Act.put,sA_,s0_,s1_,i64_w,i32_w]
   rfl
  refine take_ (i:=3) (N:=some 10) (v:=?_) (a':=?_) #[true,true,true,true,true,true,false,true,false,false,false,false] rfl rfl (take_ofW HT_.out HW_.out (by kernel_rfl)) (fun _ _ _ h=>h) (Or.inl ⟨by rfl,?_⟩) hHeld ?_ ?_
  rotate_left
  ·rintro w' ⟨s0,s1,s2,s3,s4,s5⟩
   go_simp
   with_reducible rfl
  rotate_left
  ·simp only [Act.put,sA_,s0_,s1_,i64_w,i32_w]
   rfl
  refine take_ (i:=8) (N:=some 15) (v:=?_) (a':=?_) #[true,true,true,true,true,true,false,true,true,false,false,false] rfl rfl (take_ofW HT_.out HW_.out (by kernel_rfl)) (fun _ _ _ h=>h) (Or.inl ⟨by rfl,?_⟩) hHeld ?_ ?_
  rotate_left
  ·rintro w' ⟨s0,s1,s2,s3,s4,s5⟩
   go_simp
   with_reducible rfl
  rotate_left
  ·simp only [Act.put,sA_,s0_,s1_,i64_w,i32_w]
   rfl
  refine one_ (i:=6) (N:=some 13) #[true,true,true,true,true,true,true,true,true,false,false,false] rfl rfl (one_of HT_.out (by kernel_rfl)) (by decide) (fun K hK=>?_)
  refine Kd.R_lit_step (Kd.int .i64) _ 3 ?hg (N:=13) ?hd (xs:=([]:List Int)) (inner:=[]) (ok:=fun _=>True) (okp:=fun _=>True) ?hr ?hp (fun _ hk=>hk) trivial (Below.refl _ _) (Nat.le_refl _) (by simp) ?_;(case hd=>rfl);(case hg=>rfl);(case hr=>first|(go_simp;done)|(go_simp;rfl));(case hp=>exact (Reps.none _ _))
  intro v133 w8 ho9 hb hg_ hnew_
  clear hg_ hnew_
  (first|rw [← Ny132.out] at ho9|(simp only [Int.reduceToNat] at ho9;rw [← Ny132.out] at ho9))
  have n0_:=aM_ (Kd.R_lower ho9 (below_size (by repeat (first|(with_reducible first|exact HB.out|apply wA_|apply wN_|apply wD_|refine below_set ?_ GE130.out|refine below_set ?_ GE131.out)|exact HB.out))))
  have n1_:=aM_ (blk_below (g:=gb130) (by (with_reducible repeat (first|apply kN_|apply kD_|apply kA_));exact BK130.out) hb)
  have n2_:=aM_ (blk_below (g:=gb131) (by (with_reducible repeat (first|apply kN_|apply kD_|apply kA_));exact BK131.out) hb)
  have n3_:=aM_ (below_step (by repeat (first|(with_reducible first|exact HB.out|apply wA_|apply wN_|apply wD_|refine below_set ?_ GE130.out|refine below_set ?_ GE131.out)|exact HB.out)) hb)
  clear BK130
  clear BK131
  clear HB
  have HO134:=n0_
  have BK130:=n1_
  have BK131:=n2_
  have HB:=n3_
  clear n0_ n1_ n2_ n3_
  clear hb ho9
  refine hK.out _ _ (bc6 BK130.out) (fun hHeld=>?_)
  clear hK K
  refine norm_ (a':=?_) ?_ ?_
  rotate_left
  ·show Act.put _ (some 13) _=_
   simp only [Act.put,sA_,s0_,s1_,i64_w,i32_w]
   rfl
  refine one_ (i:=9) (N:=some 16) #[true,true,true,true,true,true,true,true,true,true,false,false] rfl rfl (one_of HT_.out (by kernel_rfl)) (by decide) (fun K hK=>?_)
  refine Kd.R_append_rows_step (Kd.int .i64) (w0:=w) w.heap.size (by rfl) (.tmp 13) (.tmp 15) 22 3 (.int .i64 0) 8 rfl Try.underlying22 info3 rfl (by decide) (by omega) v133 y132 l0_4 _ _ _ (fun _=>True) (fun _=>False) rfl rfl ?aO ?aR (fun _ _ h=>h) (fun _ h=>h.elim) ?aF ?aB ?aS ?aL ?_
  (case aR=>repeat (first|exact (Kd.C_below HR0_4.out HB.out)|(with_reducible refine Kd.C_alloc ?_ _)|(with_reducible refine Kd.C_drewN ?_ _)|(with_reducible refine Kd.C_drew ?_)))
  (case aB=>exact (by repeat (first|(with_reducible first|exact HB.out|apply wA_|apply wN_|apply wD_|refine below_set ?_ GE130.out|refine below_set ?_ GE131.out)|exact HB.out)))
  (case aF=>exact (fun _ _=>trivial))
  (case aO=>exact (by (with_reducible repeat (first|apply rA_|apply rN_|apply rD_));exact HO134.out))
  (case aS=>exact (below_size (by repeat (first|(with_reducible first|exact HB.out|apply wA_|apply wN_|apply wD_|refine below_set ?_ GE130.out|refine below_set ?_ GE131.out)|exact HB.out))))
  (case aL=>have:=LMc4.out;omega)
  intro v136 w10 ho hb hg hat
  rw [← Ny135.out] at ho
  have n0_:=aM_ (blk_grown (g:=gb130) (o:=.cells #[.int .i64 a0_0,.int .i64 a0_1,.int .i64 a0_2,.int .i64 a0_3,.slice A0_4 l0_4.length c0_4,.slice A0_5 l0_5.length c0_5] 27 (0,0)) (by (with_reducible repeat (first|apply kN_|apply kD_|apply kA_));exact BK130.out) hg (Kd.R_ne HO134.out BK130.out (by decide)))
  have n1_:=aM_ (blk_grown (g:=gb131) (o:=.cells #[.int .i64 0,.int .i64 0,.int .i64 0,.int .i64 0,.slice none 0 0,.slice none 0 0] 27 (0,0)) (by (with_reducible repeat (first|apply kN_|apply kD_|apply kA_));exact BK131.out) hg (Kd.R_ne HO134.out BK131.out (by decide)))
  have n2_:=aM_ (hb)
  have n3_:=aM_ (ho)
  clear BK130
  clear BK131
  clear HB
  clear HO134
  have BK130:=n0_
  have BK131:=n1_
  have HB:=n2_
  have HO137:=n3_
  clear n0_ n1_ n2_ n3_
  clear ho hb hg hat
  obtain ⟨Ao11,co11,eo11⟩:=Kd.R_slice HO137.out
  (first|subst eo11|(injection eo11 with f1_ f2_ f3_;have f4_:=f1_.symm;have f5_:=f3_.symm;clear f1_ f2_ f3_;subst f4_;subst f5_))
  refine hK.out _ _ (bc6 BK130.out) (fun hHeld=>?_)
  clear hK K
  refine norm_ (a':=?_) ?_ ?_
  rotate_left
  ·show Act.put _ (some 16) _=_
   simp only [Act.put,sA_,s0_,s1_,i64_w,i32_w]
   rfl
  refine pure_ (i:=10) (N:=some 17) (v:=?_) (a':=?_) #[true,true,true,true,true,true,true,true,true,true,true,false] rfl rfl (any_of HT_.out (by kernel_rfl)) (fun _ _ _ h=>h) (Or.inl ⟨by rfl,?_⟩) ?_ ?_
  rotate_left
  ·intro w'
   go_simp
   with_reducible rfl
  rotate_left
  ·simp only [Act.put,sA_,s0_,s1_,i64_w,i32_w]
   rfl
  refine one_ (i:=11) (N:=none) #[true,true,true,true,true,true,true,true,true,true,true,true] rfl rfl (one_of HT_.out (by kernel_rfl)) (by decide) (fun K hK=>?_)
  have hs12:w10.cell? ⟨gb131,0,none⟩=some (.int .i64 0):=(blk_cell BK131.out 0).trans rfl
  have hfs12:=blk_frozen BK131.out 0
  have hns12_0:=NB130_131.out
  have hms12_0:=NB131_130.out
  have hs13:w10.cell? ⟨gb131,1,none⟩=some (.int .i64 0):=(blk_cell BK131.out 1).trans rfl
  have hfs13:=blk_frozen BK131.out 1
  have hns13_0:=NB130_131.out
  have hms13_0:=NB131_130.out
  have hs14:w10.cell? ⟨gb131,2,none⟩=some (.int .i64 0):=(blk_cell BK131.out 2).trans rfl
  have hfs14:=blk_frozen BK131.out 2
  have hns14_0:=NB130_131.out
  have hms14_0:=NB131_130.out
  have hs15:w10.cell? ⟨gb131,3,none⟩=some (.int .i64 0):=(blk_cell BK131.out 3).trans rfl
  have hfs15:=blk_frozen BK131.out 3
  have hns15_0:=NB130_131.out
  have hms15_0:=NB131_130.out
  have hs16:w10.cell? ⟨gb131,4,none⟩=some (.slice none 0 0):=(blk_cell BK131.out 4).trans rfl
  have hfs16:=blk_frozen BK131.out 4
  have hns16_0:=NB130_131.out
  have hms16_0:=NB131_130.out
  have hs17:w10.cell? ⟨gb131,5,none⟩=some (.slice none 0 0):=(blk_cell BK131.out 5).trans rfl
  have hfs17:=blk_frozen BK131.out 5
  have hns17_0:=NB130_131.out
  have hms17_0:=NB131_130.out
  refine skip_ (w1:=?_) (by rfl) rfl ?_ ?_
  rotate_left
  ·go_simp
   rfl
  refine hK.out _ _ ⟨((cell_far (p:=⟨gb131,_,none⟩) NB130_131.out _).trans (((cell_far (p:=⟨gb131,_,none⟩) NB130_131.out _).trans (((cell_far (p:=⟨gb131,_,none⟩) NB130_131.out _).trans (((cell_far (p:=⟨gb131,_,none⟩) NB130_131.out _).trans (((cell_far (p:=⟨gb131,_,none⟩) NB130_131.out _).trans (((cell_far (p:=⟨gb131,_,none⟩) NB130_131.out _).trans (hHeld.1)))))))))))),((cell_far (p:=⟨gb131,_,none⟩) NB130_131.out _).trans (((cell_far (p:=⟨gb131,_,none⟩) NB130_131.out _).trans (((cell_far (p:=⟨gb131,_,none⟩) NB130_131.out _).trans (((cell_far (p:=⟨gb131,_,none⟩) NB130_131.out _).trans (((cell_far (p:=⟨gb131,_,none⟩) NB130_131.out _).trans (((cell_far (p:=⟨gb131,_,none⟩) NB130_131.out _).trans (hHeld.2.1)))))))))))),((cell_far (p:=⟨gb131,_,none⟩) NB130_131.out _).trans (((cell_far (p:=⟨gb131,_,none⟩) NB130_131.out _).trans (((cell_far (p:=⟨gb131,_,none⟩) NB130_131.out _).trans (((cell_far (p:=⟨gb131,_,none⟩) NB130_131.out _).trans (((cell_far (p:=⟨gb131,_,none⟩) NB130_131.out _).trans (((cell_far (p:=⟨gb131,_,none⟩) NB130_131.out _).trans (hHeld.2.2.1)))))))))))),((cell_far (p:=⟨gb131,_,none⟩) NB130_131.out _).trans (((cell_far (p:=⟨gb131,_,none⟩) NB130_131.out _).trans (((cell_far (p:=⟨gb131,_,none⟩) NB130_131.out _).trans (((cell_far (p:=⟨gb131,_,none⟩) NB130_131.out _).trans (((cell_far (p:=⟨gb131,_,none⟩) NB130_131.out _).trans (((cell_far (p:=⟨gb131,_,none⟩) NB130_131.out _).trans (hHeld.2.2.2.1)))))))))))),((cell_far (p:=⟨gb131,_,none⟩) NB130_131.out _).trans (((cell_far (p:=⟨gb131,_,none⟩) NB130_131.out _).trans (((cell_far (p:=⟨gb131,_,none⟩) NB130_131.out _).trans (((cell_far (p:=⟨gb131,_,none⟩) NB130_131.out _).trans (((cell_far (p:=⟨gb131,_,none⟩) NB130_131.out _).trans (((cell_far (p:=⟨gb131,_,none⟩) NB130_131.out _).trans (hHeld.2.2.2.2.1)))))))))))),((cell_far (p:=⟨gb131,_,none⟩) NB130_131.out _).trans (((cell_far (p:=⟨gb131,_,none⟩) NB130_131.out _).trans (((cell_far (p:=⟨gb131,_,none⟩) NB130_131.out _).trans (((cell_far (p:=⟨gb131,_,none⟩) NB130_131.out _).trans (((cell_far (p:=⟨gb131,_,none⟩) NB130_131.out _).trans (((cell_far (p:=⟨gb131,_,none⟩) NB130_131.out _).trans (hHeld.2.2.2.2.2))))))))))))⟩ (fun hHeld=>?_)
  clear hK K
  refine done_ (done_of HT_.out (by kernel_rfl)) ?_
  try go_wp2
  refine bodyPost_ret (results_cell_row rfl _ _ gb131 27 #[.int .i64 a0_0,.int .i64 a0_1,.int .i64 a1,.int .i64 a2,.slice Ao11 y135.length co11,.slice none 0 0] (0,0) _ rfl (by (with_reducible repeat (first|apply kN_|apply kD_|apply kA_));refine blk_put (cs:=#[.int .i64 a0_0,.int .i64 a0_1,.int .i64 a1,.int .i64 a2,.slice Ao11 y135.length co11,.slice none 0 0]) ?_ 5 _ rfl;(with_reducible repeat (first|apply kN_|apply kD_|apply kA_));refine blk_put (cs:=#[.int .i64 a0_0,.int .i64 a0_1,.int .i64 a1,.int .i64 a2,.slice none 0 0,.slice none 0 0]) ?_ 4 _ rfl;(with_reducible repeat (first|apply kN_|apply kD_|apply kA_));refine blk_put (cs:=#[.int .i64 a0_0,.int .i64 a0_1,.int .i64 a1,.int .i64 0,.slice none 0 0,.slice none 0 0]) ?_ 3 _ rfl;(with_reducible repeat (first|apply kN_|apply kD_|apply kA_));refine blk_put (cs:=#[.int .i64 a0_0,.int .i64 a0_1,.int .i64 0,.int .i64 0,.slice none 0 0,.slice none 0 0]) ?_ 2 _ rfl;(with_reducible repeat (first|apply kN_|apply kD_|apply kA_));refine blk_put (cs:=#[.int .i64 a0_0,.int .i64 0,.int .i64 0,.int .i64 0,.slice none 0 0,.slice none 0 0]) ?_ 1 _ rfl;(with_reducible repeat (first|apply kN_|apply kD_|apply kA_));refine blk_put (cs:=#[.int .i64 0,.int .i64 0,.int .i64 0,.int .i64 0,.slice none 0 0,.slice none 0 0]) ?_ 0 _ rfl;(with_reducible repeat (first|apply kN_|apply kD_|apply kA_));exact BK131.out) Try.underlying27 rfl (by kernel_rfl)) rfl ?_
  exact ⟨_,_,by first|rfl|(simp [errW_none,errW_some] <;> rfl)|(simp [*,errW_none,errW_some] <;> rfl),by (with_reducible repeat (first|apply rA_|apply rN_|apply rD_));exact Kd.R_mono (Kd.R_far (Kd.R_far (Kd.R_far (Kd.R_far (Kd.R_far (Kd.R_far (Kd.R_types HO137.out BK131.out (by decide)) (fun _ hk=>hk.2) _) (fun _ hk=>hk.2) _) (fun _ hk=>hk.2) _) (fun _ hk=>hk.2) _) (fun _ hk=>hk.2) _) (fun _ hk=>hk.2) _) (fun _ hk=>(by simp [Value.ownBlock])),by first|exact Kd.R_nil _ _ _ _ _|exact Kd.N_nil _ _ _ _ _|exact Kd.V_nil _ _ _ _ _|exact Kd.Q_nil _ _ _ _ _|exact Kd.S_nil _ _ _ _ _,by repeat (first|(with_reducible first|exact HB.out|apply wA_|apply wN_|apply wD_|refine below_set ?_ GE130.out|refine below_set ?_ GE131.out)|exact HB.out)⟩
 ·rw [if_neg c4] at H
  exact absurd H (by simp)

end Go.Proofs.Ytkjfefiphdloiaa.PFnImageCut
