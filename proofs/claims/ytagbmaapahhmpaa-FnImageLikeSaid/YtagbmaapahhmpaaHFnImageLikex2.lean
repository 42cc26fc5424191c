/- What the functions that the law comes to compute, as plain functions, and that the machine's calls come to just that: written by a program for this claim, and turned where Lean did not take it. No condition. -/
import Derived.Test.YtagbmaapahhmpaaHFnImageLikex0
import Derived.Test.YtagbmaapahhmpaaHFnImageLikex1
namespace Go.Proofs.Ytagbmaapahhmpaa.PFnImageLike
open Go.RowKit Go.Proofs.YtagbmaapahhmpaaW.PrintWords Go.Proofs.YtagbmaapahhmpaaW.PrintLast Go.Proofs.YtagbmaapahhmpaaW.PrintMore
attribute [local go_sem] max2_int min2_int max_two min_two max_three min_three max_four min_four   -- for this text's walks alone
set_option linter.unusedVariables false
set_option linter.unusedSimpArgs false

/-! ### impl_ImageOk: function 9 -/
def impl_ImageOk.j0:Nat → Bool → Int → Int → Int → Int → List Int → List Int → Option (Bool)
 | 0,_,_,_,_,_,_,_=>none
 | k+1,x31,x109000,x109001,x109002,x109003,x109004,x109005=>if x31=true then (some false) else (if x109000=4 then (if 0≤x109001 then ((impl_in.f (x109004.length:Int) 1 (shl .i64 1 x109001)).bind fun t113=>(if t113=true then ((impl_outside.f x109004 16777215).bind fun t114=>(if t114=true then (some false) else ((impl_outside.f x109005 (wrap64 ((x109004.length:Int) - 1))).bind fun t115=>(some (!t115))))) else (some false))) else (none)) else (if (x109004.length:Int)=0 then (if 0≤x109001 then ((impl_outside.f x109005 (wrap64 ((shl .i64 1 x109001) - 1))).bind fun t112=>(some (!t112))) else (none)) else (some false)))
def impl_ImageOk.f (k:Nat) (a0_0:Int) (a0_1:Int) (a0_2:Int) (a0_3:Int) (l0_4:List Int) (l0_5:List Int):Option (Bool):=(impl_depthOk.f k a0_0 a0_1).bind fun t109=>(if t109=true then ((impl_in.f a0_2 1 20).bind fun t110=>(if t110=true then ((impl_in.f a0_3 1 20).bind fun t111=>(if t111=true then (impl_ImageOk.j0 k ((l0_5.length:Int) != (wrap64 (a0_2 * a0_3))) a0_0 a0_1 a0_2 a0_3 l0_4 l0_5) else (impl_ImageOk.j0 k true a0_0 a0_1 a0_2 a0_3 l0_4 l0_5))) else (impl_ImageOk.j0 k true a0_0 a0_1 a0_2 a0_3 l0_4 l0_5))) else (impl_ImageOk.j0 k true a0_0 a0_1 a0_2 a0_3 l0_4 l0_5))
theorem impl_ImageOk.mono_l:∀ k,(∀ y0 y1 y2 y3 y4 y5 y6,LeO (impl_ImageOk.j0 k y0 y1 y2 y3 y4 y5 y6) (impl_ImageOk.j0 (k+1) y0 y1 y2 y3 y4 y5 y6))
 | 0=>fun _ _ _ _ _ _ _ r h=>by simp [impl_ImageOk.j0] at h
 | k+1=>by
  have ih0:=impl_ImageOk.mono_l k
  ·intro y0 y1 y2 y3 y4 y5 y6
   unfold impl_ImageOk.j0
   repeat' first
   | (with_reducible exact ih0 _ _ _ _ _ _ _)
   | (with_reducible exact impl_depthOk.mono _ _ _)
   | (with_reducible exact LeO.refl _)
   | (with_reducible exact LeO.none _)
   | (with_reducible refine LeO.ite ?_ ?_)
   | (with_reducible refine LeO.bind ?_ (fun _=>?_))
theorem impl_ImageOk.mono:∀ a0 a1 a2 a3 a4 a5 k,LeO (impl_ImageOk.f k a0 a1 a2 a3 a4 a5) (impl_ImageOk.f (k+1) a0 a1 a2 a3 a4 a5):=by
 intro a0 a1 a2 a3 a4 a5 k;have ih0:=impl_ImageOk.mono_l k
 unfold impl_ImageOk.f
 repeat' first
   | (with_reducible exact ih0 _ _ _ _ _ _ _)
   | (with_reducible exact impl_depthOk.mono _ _ _)
   | (with_reducible exact LeO.refl _)
   | (with_reducible exact LeO.none _)
   | (with_reducible refine LeO.ite ?_ ?_)
   | (with_reducible refine LeO.bind ?_ (fun _=>?_))
def impl_ImageOk.T4:Bool × List (List Nat × List Nat):=(true,[([],[]),([0],[0]),([1],[1]),([2],[2]),([3],[3]),([4],[4]),([5,4],[4,5]),([4],[4]),([7,4],[4,7]),([8,4],[4,8]),([9,4],[4,9]),([6,10,4,4],[4,6,10]),([11,4],[4,11]),([4,12],[4,12]),([13,11,0,1,2,3,4,5,6,7,8,9,10,11,12,13],[13])])
def impl_ImageOk.B4:List Nat:=[0,1,3,7,15,31,63,31,159,415,927,2047,4095,8191,16383]
theorem impl_ImageOk.tab4:rtab .any (opsOf Try.f9 4)=impl_ImageOk.T4:=by kernel_rfl
theorem impl_ImageOk.bits4:waitsOk impl_ImageOk.T4.2 impl_ImageOk.B4=true:=by kernel_rfl
def impl_ImageOk.T5:Bool × List (List Nat × List Nat):=(true,[([],[]),([0],[0]),([1],[1]),([],[]),([3],[3]),([4],[4]),([2,5],[2,5]),([6,6],[6]),([7],[7]),([8,7],[7,8]),([9,7,7],[7,9]),([10,7],[7,10]),([7,11],[7,11]),([12,10],[12]),([13],[13]),([14,13],[13,14]),([13],[13]),([16,13],[13,16]),([17,13],[13,17]),([18,13],[13,18]),([15,19,13,13],[13,15,19]),([20,13],[13,20]),([13,21],[13,21]),([22,20,0,1,2,3,4,5,6,7,8,9,10,11,12,13,14,15,16,17,18,19,20,21,22],[22])])
def impl_ImageOk.B5:List Nat:=[0,1,3,0,8,24,63,127,255,511,1023,2047,4095,8191,16383,32767,16383,81919,212991,475135,1048575,2097151,4194303,8388607]
theorem impl_ImageOk.tab5:rtab .any (opsOf Try.f9 5)=impl_ImageOk.T5:=by kernel_rfl
theorem impl_ImageOk.bits5:waitsOk impl_ImageOk.T5.2 impl_ImageOk.B5=true:=by kernel_rfl
set_option maxHeartbeats 8000000 in
set_option maxRecDepth 100000 in
theorem impl_ImageOk.calls (k:Nat) (a0_0:Int) (a0_1:Int) (a0_2:Int) (a0_3:Int) (A0_4:Option Addr) (c0_4:Nat) (l0_4:List Int) (A0_5:Option Addr) (c0_5:Nat) (l0_5:List Int) (r:Bool) (w:World) (hr0_4:Kd.C (Kd.int .i64) w A0_4 l0_4.length l0_4) (hc0_4:l0_4.length≤c0_4) (hr0_5:Kd.C (Kd.int .i64) w A0_5 l0_5.length l0_5) (hc0_5:l0_5.length≤c0_5) (h:impl_ImageOk.f k a0_0 a0_1 a0_2 a0_3 l0_4 l0_5=some r) :
  Calls Try.prog 9 #[.agg #[.int .i64 a0_0,.int .i64 a0_1,.int .i64 a0_2,.int .i64 a0_3,.slice A0_4 l0_4.length c0_4,.slice A0_5 l0_5.length c0_5]] w fun e w'=>e=.returned (.bool r)∧Below w.heap.size w w':=by
 have hu25:=Try.underlying25;have HR0_4:=aM_ hr0_4;have HC0_4:=aM_ hc0_4;clear hr0_4 hc0_4;have HR0_5:=aM_ hr0_5;have HC0_5:=aM_ hc0_5;clear hr0_5 hc0_5;have HB:=aM_ (Below.refl w.heap.size w);have H:((impl_depthOk.f k a0_0 a0_1).bind fun t109=>(if t109=true then ((impl_in.f a0_2 1 20).bind fun t110=>(if t110=true then ((impl_in.f a0_3 1 20).bind fun t111=>(if t111=true then (impl_ImageOk.j0 k ((l0_5.length:Int) != (wrap64 (a0_2 * a0_3))) a0_0 a0_1 a0_2 a0_3 l0_4 l0_5) else (impl_ImageOk.j0 k true a0_0 a0_1 a0_2 a0_3 l0_4 l0_5))) else (impl_ImageOk.j0 k true a0_0 a0_1 a0_2 a0_3 l0_4 l0_5))) else (impl_ImageOk.j0 k true a0_0 a0_1 a0_2 a0_3 l0_4 l0_5)))=some r:=h;clear h;have HC2:=aM_ H;clear H
 go_enter Try.func9,Try.ntmps9
 go_upto_region 1 with (first|((with_reducible refine gate_dst (N:=1) rfl ?_);(try (refine gate_guard (by rfl) ?_;dsimp only));refine bE_ 1 #[.int .i64 a0_0,.int .i64 a0_1,.int .i64 a0_2,.int .i64 a0_3,.slice A0_4 l0_4.length c0_4,.slice A0_5 l0_5.length c0_5] 25 ?_;intro gb108 hg w3 hbox hb;have BK108:=aM_ (hbox);have GW108:=aM_ ((by rw [hg];exact (below_size (hb_ HB)):w.heap.size≤gb108));have GE108:=GW108;replace HB:=aM_ (below_step (hb_ HB) hb);clear hb hbox hg))
 (try simp only [Act.put,sA_,s0_,s1_])
 go_cut [31] (fun v31 wc=>∃ (kq:Nat) (x31_1:Bool),v31=.bool x31_1∧Aside0 (impl_ImageOk.j0 kq x31_1 a0_0 a0_1 a0_2 a0_3 l0_4 l0_5=some r)∧Aside0 (kq≤k)∧Aside0 (wc.heap[gb108]?=some (.cells #[.int .i64 a0_0,.int .i64 a0_1,.int .i64 a0_2,.int .i64 a0_3,(.slice A0_4 l0_4.length c0_4),(.slice A0_5 l0_5.length c0_5)] 25 (0,0)))∧Aside0 (Below w.heap.size w wc))
 case first =>
  have H:=HC2.out;clear HC2;replace H:=Option.bind_eq_some_iff.mp H;obtain ⟨t109,A40,H⟩:=H;(try dsimp only at H);have A4:=aM_ A40;clear A40
  by_cases c5:t109=true
  ·subst c5
   have H1:((impl_in.f a0_2 1 20).bind fun t110=>(if t110=true then ((impl_in.f a0_3 1 20).bind fun t111=>(if t111=true then (impl_ImageOk.j0 k ((l0_5.length:Int) != (wrap64 (a0_2 * a0_3))) a0_0 a0_1 a0_2 a0_3 l0_4 l0_5) else (impl_ImageOk.j0 k true a0_0 a0_1 a0_2 a0_3 l0_4 l0_5))) else (impl_ImageOk.j0 k true a0_0 a0_1 a0_2 a0_3 l0_4 l0_5)))=some r:=by first|(rw [if_pos rfl] at H;exact H)|rfl
   clear H;have H:=H1;clear H1;replace H:=Option.bind_eq_some_iff.mp H;obtain ⟨t110,A60,H⟩:=H;(try dsimp only at H);have A6:=aM_ A60;clear A60
   by_cases c7:t110=true
   ·subst c7
    have H1:((impl_in.f a0_3 1 20).bind fun t111=>(if t111=true then (impl_ImageOk.j0 k ((l0_5.length:Int) != (wrap64 (a0_2 * a0_3))) a0_0 a0_1 a0_2 a0_3 l0_4 l0_5) else (impl_ImageOk.j0 k true a0_0 a0_1 a0_2 a0_3 l0_4 l0_5)))=some r:=by first|(rw [if_pos rfl] at H;exact H)|rfl
    clear H;have H:=H1;clear H1;replace H:=Option.bind_eq_some_iff.mp H;obtain ⟨t111,A80,H⟩:=H;(try dsimp only at H);have A8:=aM_ A80;clear A80
    by_cases c9:t111=true
    ·subst c9
     have H1:(impl_ImageOk.j0 k ((l0_5.length:Int) != (wrap64 (a0_2 * a0_3))) a0_0 a0_1 a0_2 a0_3 l0_4 l0_5)=some r:=by first|(rw [if_pos rfl] at H;exact H)|rfl
     clear H;have H:=H1;clear H1;have H':=aM_ H;clear H;obtain ⟨z10_0,z10_1,z10_2,z10_3,z10_4,z10_5⟩:=bc6 BK108.out;obtain ⟨y10_0,y10_1,y10_2,y10_3,y10_4,y10_5⟩:=bf6 BK108.out
     go_wp2_with (first|((with_reducible refine gate_callee (f:=24) rfl ?_);refine goesL_ (some 7) rfl rfl Try.func24 (by kernel_rfl) rfl #[.int .i64 a0_0,.int .i64 a0_1] rfl am_ ?_;(with_reducible refine (impl_depthOk.calls k a0_0 a0_1 true _ A4.out).mono ?_);rintro e w' ⟨rfl,⟨nd,rfl⟩⟩;refine ⟨_,rfl,?_⟩)|(go_at_call 25;(with_reducible refine (impl_in.calls a0_2 1 20 true _ A6.out).mono ?_);rintro e w' ⟨rfl,⟨nd,rfl⟩⟩)|(go_at_call 25;(with_reducible refine (impl_in.calls a0_3 1 20 true _ A8.out).mono ?_);rintro e w' ⟨rfl,⟨nd,rfl⟩⟩))
     go_meet
     case rel=>exact ⟨_,(((l0_5.length:Int) != (wrap64 (a0_2 * a0_3)))),sm_,H',⟨by first|omega|exact Nat.le_refl _⟩,⟨by (with_reducible repeat (first|apply kN_|apply kD_|apply kA_));exact BK108.out⟩,⟨by repeat (first|(with_reducible first|exact HB.out|apply wA_|apply wN_|apply wD_|refine below_set ?_ GE108.out)|exact HB.out)⟩⟩
    ·replace c9:=Bool.eq_false_iff.mpr c9;subst c9
     have H1:(impl_ImageOk.j0 k true a0_0 a0_1 a0_2 a0_3 l0_4 l0_5)=some r:=by first|(rw [if_neg (show ¬ (false=true) by decide)] at H;exact H)|rfl
     clear H;have H:=H1;clear H1;have H':=aM_ H;clear H;obtain ⟨z11_0,z11_1,z11_2,z11_3,z11_4,z11_5⟩:=bc6 BK108.out;obtain ⟨y11_0,y11_1,y11_2,y11_3,y11_4,y11_5⟩:=bf6 BK108.out
     go_wp2_with (first|((with_reducible refine gate_callee (f:=24) rfl ?_);refine goesL_ (some 7) rfl rfl Try.func24 (by kernel_rfl) rfl #[.int .i64 a0_0,.int .i64 a0_1] rfl am_ ?_;(with_reducible refine (impl_depthOk.calls k a0_0 a0_1 true _ A4.out).mono ?_);rintro e w' ⟨rfl,⟨nd,rfl⟩⟩;refine ⟨_,rfl,?_⟩)|(go_at_call 25;(with_reducible refine (impl_in.calls a0_2 1 20 true _ A6.out).mono ?_);rintro e w' ⟨rfl,⟨nd,rfl⟩⟩)|(go_at_call 25;(with_reducible refine (impl_in.calls a0_3 1 20 false _ A8.out).mono ?_);rintro e w' ⟨rfl,⟨nd,rfl⟩⟩))
     go_meet
     case rel=>exact ⟨_,(true),sm_,H',⟨by first|omega|exact Nat.le_refl _⟩,⟨by (with_reducible repeat (first|apply kN_|apply kD_|apply kA_));exact BK108.out⟩,⟨by repeat (first|(with_reducible first|exact HB.out|apply wA_|apply wN_|apply wD_|refine below_set ?_ GE108.out)|exact HB.out)⟩⟩
   ·replace c7:=Bool.eq_false_iff.mpr c7;subst c7
    have H1:(impl_ImageOk.j0 k true a0_0 a0_1 a0_2 a0_3 l0_4 l0_5)=some r:=by first|(rw [if_neg (show ¬ (false=true) by decide)] at H;exact H)|rfl
    clear H;have H:=H1;clear H1;have H':=aM_ H;clear H;obtain ⟨z12_0,z12_1,z12_2,z12_3,z12_4,z12_5⟩:=bc6 BK108.out;obtain ⟨y12_0,y12_1,y12_2,y12_3,y12_4,y12_5⟩:=bf6 BK108.out
    go_wp2_with (first|((with_reducible refine gate_callee (f:=24) rfl ?_);refine goesL_ (some 7) rfl rfl Try.func24 (by kernel_rfl) rfl #[.int .i64 a0_0,.int .i64 a0_1] rfl am_ ?_;(with_reducible refine (impl_depthOk.calls k a0_0 a0_1 true _ A4.out).mono ?_);rintro e w' ⟨rfl,⟨nd,rfl⟩⟩;refine ⟨_,rfl,?_⟩)|(go_at_call 25;(with_reducible refine (impl_in.calls a0_2 1 20 false _ A6.out).mono ?_);rintro e w' ⟨rfl,⟨nd,rfl⟩⟩))
    go_meet
    case rel=>exact ⟨_,(true),sm_,H',⟨by first|omega|exact Nat.le_refl _⟩,⟨by (with_reducible repeat (first|apply kN_|apply kD_|apply kA_));exact BK108.out⟩,⟨by repeat (first|(with_reducible first|exact HB.out|apply wA_|apply wN_|apply wD_|refine below_set ?_ GE108.out)|exact HB.out)⟩⟩
  ·replace c5:=Bool.eq_false_iff.mpr c5;subst c5
   have H1:(impl_ImageOk.j0 k true a0_0 a0_1 a0_2 a0_3 l0_4 l0_5)=some r:=by first|(rw [if_neg (show ¬ (false=true) by decide)] at H;exact H)|rfl
   clear H;have H:=H1;clear H1;have H':=aM_ H;clear H;obtain ⟨z13_0,z13_1,z13_2,z13_3,z13_4,z13_5⟩:=bc6 BK108.out;obtain ⟨y13_0,y13_1,y13_2,y13_3,y13_4,y13_5⟩:=bf6 BK108.out
   go_wp2_with (first|((with_reducible refine gate_callee (f:=24) rfl ?_);refine goesL_ (some 7) rfl rfl Try.func24 (by kernel_rfl) rfl #[.int .i64 a0_0,.int .i64 a0_1] rfl am_ ?_;(with_reducible refine (impl_depthOk.calls k a0_0 a0_1 false _ A4.out).mono ?_);rintro e w' ⟨rfl,⟨nd,rfl⟩⟩;refine ⟨_,rfl,?_⟩))
   go_meet
   case rel=>exact ⟨_,(true),sm_,H',⟨by first|omega|exact Nat.le_refl _⟩,⟨by (with_reducible repeat (first|apply kN_|apply kD_|apply kA_));exact BK108.out⟩,⟨by repeat (first|(with_reducible first|exact HB.out|apply wA_|apply wN_|apply wD_|refine below_set ?_ GE108.out)|exact HB.out)⟩⟩
 case rest =>
  clear HC2;(try clear c2 p2 c5 p6 c7 c9);(try clear z10_0 z10_1 z10_2 z10_3 z10_4 z10_5);(try clear z11_0 z11_1 z11_2 z11_3 z11_4 z11_5);(try clear z12_0 z12_1 z12_2 z12_3 z12_4 z12_5);(try clear z13_0 z13_1 z13_2 z13_3 z13_4 z13_5);(try clear y10_0 y10_1 y10_2 y10_3 y10_4 y10_5);(try clear y11_0 y11_1 y11_2 y11_3 y11_4 y11_5);(try clear y12_0 y12_1 y12_2 y12_3 y12_4 y12_5);(try clear y13_0 y13_1 y13_2 y13_3 y13_4 y13_5);obtain ⟨kq,x31_1,rfl,HA,HJ1,BK108,HB⟩:=hcut
  cases kq with
  | zero=>exact absurd HA.out (by simp [impl_ImageOk.j0])
  | succ kj1 =>
   have H:=HA.out;clear HA;simp only [impl_ImageOk.j0] at H
   by_cases c14:x31_1=true
   ·subst c14
    have H1:(some false)=some r:=by first|(rw [if_pos rfl] at H;exact H)|rfl
    clear H;have H:=H1;clear H1;obtain rfl:=Option.some.inj H;go_wp2
    go_ret
    exact ⟨by first|rfl|(simp [errW_none,errW_some] <;> rfl)|(simp [*,errW_none,errW_some] <;> rfl),by repeat (first|(with_reducible first|exact HB.out|apply wA_|apply wN_|apply wD_|refine below_set ?_ GE108.out)|exact HB.out)⟩
   ·replace c14:=Bool.eq_false_iff.mpr c14;subst c14
    have H1:(if a0_0=4 then (if 0≤a0_1 then ((impl_in.f (l0_4.length:Int) 1 (shl .i64 1 a0_1)).bind fun t113=>(if t113=true then ((impl_outside.f l0_4 16777215).bind fun t114=>(if t114=true then (some false) else ((impl_outside.f l0_5 (wrap64 ((l0_4.length:Int) - 1))).bind fun t115=>(some (!t115))))) else (some false))) else (none)) else (if (l0_4.length:Int)=0 then (if 0≤a0_1 then ((impl_outside.f l0_5 (wrap64 ((shl .i64 1 a0_1) - 1))).bind fun t112=>(some (!t112))) else (none)) else (some false)))=some r:=by first|(rw [if_neg (show ¬ (false=true) by decide)] at H;exact H)|rfl
    clear H;have H:=H1;clear H1
    by_cases c15:a0_0=4
    ·rw [if_pos c15] at H;have c15b0:(a0_0 == 4)=true:=beq_iff_eq.mpr c15;have c15b1:(a0_0 != 4)=false:=bne_eq_false_iff_eq.mpr c15;clear c15
     by_cases c16:0≤a0_1
     ·rw [if_pos c16] at H;have c16b0:=eq_true c16;have c16b1:decide (0≤a0_1)=true:=decide_eq_true c16;clear c16;obtain ⟨ji17,hji17⟩:∃ j_:Int,(shl .i64 1 a0_1)=j_:=⟨_,rfl⟩
      replace H:((impl_in.f (l0_4.length:Int) 1 (ji17)).bind fun t113=>(if t113=true then ((impl_outside.f l0_4 16777215).bind fun t114=>(if t114=true then (some false) else ((impl_outside.f l0_5 (wrap64 ((l0_4.length:Int) - 1))).bind fun t115=>(some (!t115))))) else (some false)))=some r:=by first|(rw [hji17] at H;exact H)|(simp only [hji17] at H ⊢;exact H)
      have hji17_:(IntKind.i64.wrap (1 * 2 ^ min a0_1.toNat 64))=ji17:=hji17;have hji17z:a0_1≤64 → (IntKind.i64.wrap (1 * 2 ^ a0_1.toNat))=ji17:=shl_small hji17
      have hji17u:(IntKind.i64.wrap (2 ^ min a0_1.toNat 64))=ji17:=by have h_:=hji17_;rw [Int.one_mul] at h_;exact h_
      have hji17v:a0_1≤64 → (IntKind.i64.wrap (2 ^ a0_1.toNat))=ji17:=fun hle_=>by have h_:=hji17z hle_;rw [Int.one_mul] at h_;exact h_
      have hji17y:(wrap64 (1 * 2 ^ min a0_1.toNat 64))=ji17:=(i64_w _).symm.trans hji17_
      have hji17x:a0_1≤64 → (wrap64 (1 * 2 ^ a0_1.toNat))=ji17:=fun h_=>(i64_w _).symm.trans (hji17z h_)
      replace H:=Option.bind_eq_some_iff.mp H;obtain ⟨t113,A180,H⟩:=H;(try dsimp only at H);have A18:=aM_ A180;clear A180
      by_cases c19:t113=true
      ·subst c19
       have H1:((impl_outside.f l0_4 16777215).bind fun t114=>(if t114=true then (some false) else ((impl_outside.f l0_5 (wrap64 ((l0_4.length:Int) - 1))).bind fun t115=>(some (!t115)))))=some r:=by first|(rw [if_pos rfl] at H;exact H)|rfl
       clear H;have H:=H1;clear H1;replace H:=Option.bind_eq_some_iff.mp H;obtain ⟨t114,A200,H⟩:=H;(try dsimp only at H);have A20:=aM_ A200;clear A200
       by_cases c21:t114=true
       ·subst c21
        have H1:(some false)=some r:=by first|(rw [if_pos rfl] at H;exact H)|rfl
        clear H;have H:=H1;clear H1;obtain rfl:=Option.some.inj H;obtain ⟨z22_0,z22_1,z22_2,z22_3,z22_4,z22_5⟩:=bc6 BK108.out;obtain ⟨y22_0,y22_1,y22_2,y22_3,y22_4,y22_5⟩:=bf6 BK108.out
        try go_wp2
        replace BK108:=aM_ (kD_ BK108.out);replace HB:=aM_ (wD_ HB.out);refine start_ (n:=24) (S:=fun w'=>w'.cell? ⟨gb108,0,none⟩=some (.int .i64 a0_0)∧w'.cell? ⟨gb108,1,none⟩=some (.int .i64 a0_1)∧w'.cell? ⟨gb108,2,none⟩=some (.int .i64 a0_2)∧w'.cell? ⟨gb108,3,none⟩=some (.int .i64 a0_3)∧w'.cell? ⟨gb108,4,none⟩=some (.slice A0_4 l0_4.length c0_4)∧w'.cell? ⟨gb108,5,none⟩=some (.slice A0_5 l0_5.length c0_5)) (ds:=[]) #[false,false,false,false,false,false,false,false,false,false,false,false,false,false,false,false,false,false,false,false,false,false,false,false] (by kernel_rfl) rfl rfl (bc6 BK108.out) (fun hHeld=>?_);refine with_tabW impl_ImageOk.tab5 impl_ImageOk.bits5 (fun HT_ HW_=>?_);generalize wc.drew=w23 at BK108 HB hHeld ⊢;refine pU_ 0 (some 49) HT_.out ?_;refine pU_ 3 (some 52) HT_.out ?_;refine tK_ 1 (some 50) HT_.out HW_.out hHeld ?_;refine pU_ 2 (some 51) HT_.out ?_;refine tK_ 4 (some 53) HT_.out HW_.out hHeld ?_;refine pU_ 5 (some 54) HT_.out ?_;refine oN_ 6 (some 55) HT_.out (fun K hK=>?_);refine goes_ Try.func25 (by kernel_rfl) rfl #[.int .i64 (l0_4.length:Int),.int .i64 1,.int .i64 ji17] (by rfl) rfl rfl (by (try simp only [List.map_toArray,List.map_cons,List.map_nil]);first|done|(simp only [hji17];rfl)|rfl|(simp only [List.length_drop,List.length_take];rfl)) ?_
        with_reducible refine (impl_in.calls (l0_4.length:Int) 1 ji17 true _ A18.out).mono ?_
        rintro e w' ⟨rfl,⟨nd,rfl⟩⟩
        refine ⟨_,rfl,?_⟩;refine hK.out _ _ (bc6 BK108.out) (fun hHeld=>?_);clear hK K;refine nR_ (some 55) ?_;refine pU_ 7 (some 56) HT_.out ?_;refine pU_ 8 (some 57) HT_.out ?_;refine tK_ 9 (some 58) HT_.out HW_.out hHeld ?_;refine oN_ 10 (some 59) HT_.out (fun K hK=>?_);refine goes_ Try.func26 (by kernel_rfl) rfl #[.slice A0_4 l0_4.length c0_4,.int .i64 16777215] (by rfl) rfl rfl am_ ?_
        with_reducible refine (impl_outside.calls _ _ l0_4 16777215 true _ ?side1 ?side2 A20.out).mono ?_
        (case side1=>exact co_ (Kd.C_below HR0_4.out (hs_ HB GE108.out)))
        (case side2=>exact HC0_4.out)
        rintro e w24 ⟨rfl,hb⟩
        refine ⟨_,rfl,?_⟩;replace BK108:=bW_ BK108 hb;replace HB:=aM_ (below_step (hs_ HB GE108.out) hb)
        (try clear hb)
        refine hK.out _ _ (bc6 BK108.out) (fun hHeld=>?_);clear hK K;refine nR_ (some 59) ?_;refine pU_ 11 (some 60) HT_.out ?_;refine pU_ 12 (some 61) HT_.out ?_;refine pU_ 13 (some 62) HT_.out ?_;refine pV_ 14 (some 63) HT_.out ?_;refine pV_ 15 (some 64) HT_.out ?_;refine pV_ 16 (some 65) HT_.out ?_;refine pV_ 17 (some 66) HT_.out ?_;refine pV_ 18 (some 67) HT_.out ?_;refine pV_ 19 (some 68) HT_.out ?_;refine pV_ 20 (some 69) HT_.out ?_;refine pV_ 21 (some 70) HT_.out ?_;refine pU_ 22 (some 71) HT_.out ?_;refine pU_ 23 (some 2) HT_.out ?_;refine done_ (done_of HT_.out (by kernel_rfl)) ?_
        try go_wp2
        go_ret
        exact ⟨by first|rfl|(simp [errW_none,errW_some] <;> rfl)|(simp only [← hji17];first|rfl|(simp [errW_none,errW_some] <;> rfl))|(simp [*,errW_none,errW_some] <;> rfl),by repeat (first|(with_reducible first|exact HB.out|apply wA_|apply wN_|apply wD_|refine below_set ?_ GE108.out)|exact HB.out)⟩
       ·replace c21:=Bool.eq_false_iff.mpr c21;subst c21
        have H1:((impl_outside.f l0_5 (wrap64 ((l0_4.length:Int) - 1))).bind fun t115=>(some (!t115)))=some r:=by first|(rw [if_neg (show ¬ (false=true) by decide)] at H;exact H)|rfl
        clear H;have H:=H1;clear H1;replace H:=Option.bind_eq_some_iff.mp H;obtain ⟨t115,A250,H⟩:=H;(try dsimp only at H);have A25:=aM_ A250;clear A250;obtain rfl:=Option.some.inj H;obtain ⟨z26_0,z26_1,z26_2,z26_3,z26_4,z26_5⟩:=bc6 BK108.out;obtain ⟨y26_0,y26_1,y26_2,y26_3,y26_4,y26_5⟩:=bf6 BK108.out
        try go_wp2
        replace BK108:=aM_ (kD_ BK108.out);replace HB:=aM_ (wD_ HB.out);refine start_ (n:=24) (S:=fun w'=>w'.cell? ⟨gb108,0,none⟩=some (.int .i64 a0_0)∧w'.cell? ⟨gb108,1,none⟩=some (.int .i64 a0_1)∧w'.cell? ⟨gb108,2,none⟩=some (.int .i64 a0_2)∧w'.cell? ⟨gb108,3,none⟩=some (.int .i64 a0_3)∧w'.cell? ⟨gb108,4,none⟩=some (.slice A0_4 l0_4.length c0_4)∧w'.cell? ⟨gb108,5,none⟩=some (.slice A0_5 l0_5.length c0_5)) (ds:=[]) #[false,false,false,false,false,false,false,false,false,false,false,false,false,false,false,false,false,false,false,false,false,false,false,false] (by kernel_rfl) rfl rfl (bc6 BK108.out) (fun hHeld=>?_);refine with_tabW impl_ImageOk.tab5 impl_ImageOk.bits5 (fun HT_ HW_=>?_);generalize wc.drew=w27 at BK108 HB hHeld ⊢;refine pU_ 0 (some 49) HT_.out ?_;refine pU_ 3 (some 52) HT_.out ?_;refine tK_ 1 (some 50) HT_.out HW_.out hHeld ?_;refine pU_ 2 (some 51) HT_.out ?_;refine tK_ 4 (some 53) HT_.out HW_.out hHeld ?_;refine pU_ 5 (some 54) HT_.out ?_;refine oN_ 6 (some 55) HT_.out (fun K hK=>?_);refine goes_ Try.func25 (by kernel_rfl) rfl #[.int .i64 (l0_4.length:Int),.int .i64 1,.int .i64 ji17] (by rfl) rfl rfl (by (try simp only [List.map_toArray,List.map_cons,List.map_nil]);first|done|(simp only [hji17];rfl)|rfl|(simp only [List.length_drop,List.length_take];rfl)) ?_
        with_reducible refine (impl_in.calls (l0_4.length:Int) 1 ji17 true _ A18.out).mono ?_
        rintro e w' ⟨rfl,⟨nd,rfl⟩⟩
        refine ⟨_,rfl,?_⟩;refine hK.out _ _ (bc6 BK108.out) (fun hHeld=>?_);clear hK K;refine nR_ (some 55) ?_;refine pU_ 7 (some 56) HT_.out ?_;refine pU_ 8 (some 57) HT_.out ?_;refine tK_ 9 (some 58) HT_.out HW_.out hHeld ?_;refine oN_ 10 (some 59) HT_.out (fun K hK=>?_);refine goes_ Try.func26 (by kernel_rfl) rfl #[.slice A0_4 l0_4.length c0_4,.int .i64 16777215] (by rfl) rfl rfl am_ ?_
        with_reducible refine (impl_outside.calls _ _ l0_4 16777215 false _ ?side1 ?side2 A20.out).mono ?_
        (case side1=>exact co_ (Kd.C_below HR0_4.out (hs_ HB GE108.out)))
        (case side2=>exact HC0_4.out)
        rintro e w28 ⟨rfl,hb⟩
        refine ⟨_,rfl,?_⟩;replace BK108:=bW_ BK108 hb;replace HB:=aM_ (below_step (hs_ HB GE108.out) hb)
        (try clear hb)
        refine hK.out _ _ (bc6 BK108.out) (fun hHeld=>?_);clear hK K;refine nR_ (some 59) ?_;refine pU_ 11 (some 60) HT_.out ?_;refine pU_ 12 (some 61) HT_.out ?_;refine pU_ 13 (some 62) HT_.out ?_;refine pU_ 14 (some 63) HT_.out ?_;refine pU_ 16 (some 65) HT_.out ?_;refine tK_ 15 (some 64) HT_.out HW_.out hHeld ?_;refine tK_ 17 (some 66) HT_.out HW_.out hHeld ?_;refine pU_ 18 (some 67) HT_.out ?_;refine pU_ 19 (some 68) HT_.out ?_;refine oN_ 20 (some 69) HT_.out (fun K hK=>?_);refine goes_ Try.func26 (by kernel_rfl) rfl #[.slice A0_5 l0_5.length c0_5,.int .i64 (wrap64 ((l0_4.length:Int) - 1))] (by rfl) rfl rfl am_ ?_
        with_reducible refine (impl_outside.calls _ _ l0_5 (wrap64 ((l0_4.length:Int) - 1)) t115 _ ?side1 ?side2 A25.out).mono ?_
        (case side1=>exact co_ (Kd.C_below HR0_5.out HB.out))
        (case side2=>exact HC0_5.out)
        rintro e w29 ⟨rfl,hb⟩
        refine ⟨_,rfl,?_⟩;replace BK108:=bW_ BK108 hb;replace HB:=aM_ (below_step (hs_ HB GE108.out) hb)
        (try clear hb hb2 hk hi)
        refine hK.out _ _ (bc6 BK108.out) (fun hHeld=>?_);clear hK K;refine nR_ (some 69) ?_;refine pU_ 21 (some 70) HT_.out ?_;refine pU_ 22 (some 71) HT_.out ?_;refine pU_ 23 (some 2) HT_.out ?_;refine done_ (done_of HT_.out (by kernel_rfl)) ?_
        try go_wp2
        go_ret
        exact ⟨by first|rfl|(simp [errW_none,errW_some] <;> rfl)|(simp only [← hji17];first|rfl|(simp [errW_none,errW_some] <;> rfl))|(simp [*,errW_none,errW_some] <;> rfl),by repeat (first|(with_reducible first|exact HB.out|apply wA_|apply wN_|apply wD_|refine below_set ?_ GE108.out)|exact HB.out)⟩
      ·replace c19:=Bool.eq_false_iff.mpr c19;subst c19
       have H1:(some false)=some r:=by first|(rw [if_neg (show ¬ (false=true) by decide)] at H;exact H)|rfl
       clear H;have H:=H1;clear H1;obtain rfl:=Option.some.inj H;obtain ⟨z30_0,z30_1,z30_2,z30_3,z30_4,z30_5⟩:=bc6 BK108.out;obtain ⟨y30_0,y30_1,y30_2,y30_3,y30_4,y30_5⟩:=bf6 BK108.out
       try go_wp2
       replace BK108:=aM_ (kD_ BK108.out);replace HB:=aM_ (wD_ HB.out);refine start_ (n:=24) (S:=fun w'=>w'.cell? ⟨gb108,0,none⟩=some (.int .i64 a0_0)∧w'.cell? ⟨gb108,1,none⟩=some (.int .i64 a0_1)∧w'.cell? ⟨gb108,2,none⟩=some (.int .i64 a0_2)∧w'.cell? ⟨gb108,3,none⟩=some (.int .i64 a0_3)∧w'.cell? ⟨gb108,4,none⟩=some (.slice A0_4 l0_4.length c0_4)∧w'.cell? ⟨gb108,5,none⟩=some (.slice A0_5 l0_5.length c0_5)) (ds:=[]) #[false,false,false,false,false,false,false,false,false,false,false,false,false,false,false,false,false,false,false,false,false,false,false,false] (by kernel_rfl) rfl rfl (bc6 BK108.out) (fun hHeld=>?_);refine with_tabW impl_ImageOk.tab5 impl_ImageOk.bits5 (fun HT_ HW_=>?_);generalize wc.drew=w31 at BK108 HB hHeld ⊢;refine pU_ 0 (some 49) HT_.out ?_;refine pU_ 3 (some 52) HT_.out ?_;refine tK_ 1 (some 50) HT_.out HW_.out hHeld ?_;refine pU_ 2 (some 51) HT_.out ?_;refine tK_ 4 (some 53) HT_.out HW_.out hHeld ?_;refine pU_ 5 (some 54) HT_.out ?_;refine oN_ 6 (some 55) HT_.out (fun K hK=>?_);refine goes_ Try.func25 (by kernel_rfl) rfl #[.int .i64 (l0_4.length:Int),.int .i64 1,.int .i64 ji17] (by rfl) rfl rfl (by (try simp only [List.map_toArray,List.map_cons,List.map_nil]);first|done|(simp only [hji17];rfl)|rfl|(simp only [List.length_drop,List.length_take];rfl)) ?_
       with_reducible refine (impl_in.calls (l0_4.length:Int) 1 ji17 false _ A18.out).mono ?_
       rintro e w' ⟨rfl,⟨nd,rfl⟩⟩
       refine ⟨_,rfl,?_⟩;refine hK.out _ _ (bc6 BK108.out) (fun hHeld=>?_);clear hK K;refine nR_ (some 55) ?_;refine pU_ 7 (some 56) HT_.out ?_;refine pV_ 8 (some 57) HT_.out ?_;refine pV_ 9 (some 58) HT_.out ?_;refine pV_ 10 (some 59) HT_.out ?_;refine pV_ 11 (some 60) HT_.out ?_;refine pU_ 12 (some 61) HT_.out ?_;refine pU_ 13 (some 62) HT_.out ?_;refine pV_ 14 (some 63) HT_.out ?_;refine pV_ 15 (some 64) HT_.out ?_;refine pV_ 16 (some 65) HT_.out ?_;refine pV_ 17 (some 66) HT_.out ?_;refine pV_ 18 (some 67) HT_.out ?_;refine pV_ 19 (some 68) HT_.out ?_;refine pV_ 20 (some 69) HT_.out ?_;refine pV_ 21 (some 70) HT_.out ?_;refine pU_ 22 (some 71) HT_.out ?_;refine pU_ 23 (some 2) HT_.out ?_;refine done_ (done_of HT_.out (by kernel_rfl)) ?_
       try go_wp2
       go_ret
       exact ⟨by first|rfl|(simp [errW_none,errW_some] <;> rfl)|(simp only [← hji17];first|rfl|(simp [errW_none,errW_some] <;> rfl))|(simp [*,errW_none,errW_some] <;> rfl),by repeat (first|(with_reducible first|exact HB.out|apply wA_|apply wN_|apply wD_|refine below_set ?_ GE108.out)|exact HB.out)⟩
     ·rw [if_neg c16] at H;exact absurd H (by simp)
    ·rw [if_neg c15] at H;have c15b0:(a0_0 == 4)=false:=beq_eq_false_iff_ne.mpr c15;have c15b1:(a0_0 != 4)=true:=bne_iff_ne.mpr c15
     by_cases c32:(l0_4.length:Int)=0
     ·rw [if_pos c32] at H;have c32b0:((l0_4.length:Int) == 0)=true:=beq_iff_eq.mpr c32;have c32b1:((l0_4.length:Int) != 0)=false:=bne_eq_false_iff_eq.mpr c32;clear c32
      by_cases c33:0≤a0_1
      ·rw [if_pos c33] at H;have c33b0:=eq_true c33;have c33b1:decide (0≤a0_1)=true:=decide_eq_true c33;clear c33;obtain ⟨ji34,hji34⟩:∃ j_:Int,(shl .i64 1 a0_1)=j_:=⟨_,rfl⟩
       replace H:((impl_outside.f l0_5 (wrap64 ((ji34) - 1))).bind fun t112=>(some (!t112)))=some r:=by first|(rw [hji34] at H;exact H)|(simp only [hji34] at H ⊢;exact H)
       have hji34_:(IntKind.i64.wrap (1 * 2 ^ min a0_1.toNat 64))=ji34:=hji34;have hji34z:a0_1≤64 → (IntKind.i64.wrap (1 * 2 ^ a0_1.toNat))=ji34:=shl_small hji34
       have hji34u:(IntKind.i64.wrap (2 ^ min a0_1.toNat 64))=ji34:=by have h_:=hji34_;rw [Int.one_mul] at h_;exact h_
       have hji34v:a0_1≤64 → (IntKind.i64.wrap (2 ^ a0_1.toNat))=ji34:=fun hle_=>by have h_:=hji34z hle_;rw [Int.one_mul] at h_;exact h_
       have hji34y:(wrap64 (1 * 2 ^ min a0_1.toNat 64))=ji34:=(i64_w _).symm.trans hji34_
       have hji34x:a0_1≤64 → (wrap64 (1 * 2 ^ a0_1.toNat))=ji34:=fun h_=>(i64_w _).symm.trans (hji34z h_)
       replace H:=Option.bind_eq_some_iff.mp H;obtain ⟨t112,A350,H⟩:=H;(try dsimp only at H);have A35:=aM_ A350;clear A350;obtain rfl:=Option.some.inj H;obtain ⟨z36_0,z36_1,z36_2,z36_3,z36_4,z36_5⟩:=bc6 BK108.out;obtain ⟨y36_0,y36_1,y36_2,y36_3,y36_4,y36_5⟩:=bf6 BK108.out
       try go_wp2
       replace BK108:=aM_ (kD_ BK108.out);replace HB:=aM_ (wD_ HB.out);refine start_ (n:=15) (S:=fun w'=>w'.cell? ⟨gb108,0,none⟩=some (.int .i64 a0_0)∧w'.cell? ⟨gb108,1,none⟩=some (.int .i64 a0_1)∧w'.cell? ⟨gb108,2,none⟩=some (.int .i64 a0_2)∧w'.cell? ⟨gb108,3,none⟩=some (.int .i64 a0_3)∧w'.cell? ⟨gb108,4,none⟩=some (.slice A0_4 l0_4.length c0_4)∧w'.cell? ⟨gb108,5,none⟩=some (.slice A0_5 l0_5.length c0_5)) (ds:=[]) #[false,false,false,false,false,false,false,false,false,false,false,false,false,false,false] (by kernel_rfl) rfl rfl (bc6 BK108.out) (fun hHeld=>?_);refine with_tabW impl_ImageOk.tab4 impl_ImageOk.bits4 (fun HT_ HW_=>?_);generalize wc.drew=w37 at BK108 HB hHeld ⊢;refine pU_ 0 (some 35) HT_.out ?_;refine tK_ 1 (some 36) HT_.out HW_.out hHeld ?_;refine pU_ 2 (some 37) HT_.out ?_;refine pU_ 3 (some 38) HT_.out ?_;refine pU_ 4 (some 39) HT_.out ?_;refine pU_ 5 (some 40) HT_.out ?_;refine pU_ 7 (some 42) HT_.out ?_;refine tK_ 6 (some 41) HT_.out HW_.out hHeld ?_;refine tK_ 8 (some 43) HT_.out HW_.out hHeld ?_;refine pU_ 9 (some 44) HT_.out ?_;refine pU_ 10 (some 45) HT_.out ?_;refine oN_ 11 (some 46) HT_.out (fun K hK=>?_);refine goes_ Try.func26 (by kernel_rfl) rfl #[.slice A0_5 l0_5.length c0_5,.int .i64 (wrap64 ((ji34) - 1))] (by rfl) rfl rfl (by (try simp only [List.map_toArray,List.map_cons,List.map_nil]);first|done|(simp only [hji34];rfl)|rfl|(simp only [List.length_drop,List.length_take];rfl)) ?_
       with_reducible refine (impl_outside.calls _ _ l0_5 (wrap64 ((ji34) - 1)) t112 _ ?side1 ?side2 A35.out).mono ?_
       (case side1=>exact co_ (Kd.C_below HR0_5.out HB.out))
       (case side2=>exact HC0_5.out)
       rintro e w38 ⟨rfl,hb⟩
       refine ⟨_,rfl,?_⟩;replace BK108:=bW_ BK108 hb;replace HB:=aM_ (below_step (hs_ HB GE108.out) hb)
       (try clear hb)
       refine hK.out _ _ (bc6 BK108.out) (fun hHeld=>?_);clear hK K;refine nR_ (some 46) ?_;refine pU_ 12 (some 47) HT_.out ?_;refine pU_ 13 (some 48) HT_.out ?_;refine pU_ 14 (some 2) HT_.out ?_;refine done_ (done_of HT_.out (by kernel_rfl)) ?_
       try go_wp2
       go_ret
       exact ⟨by first|rfl|(simp [errW_none,errW_some] <;> rfl)|(simp only [← hji34];first|rfl|(simp [errW_none,errW_some] <;> rfl))|(simp [*,errW_none,errW_some] <;> rfl),by repeat (first|(with_reducible first|exact HB.out|apply wA_|apply wN_|apply wD_|refine below_set ?_ GE108.out)|exact HB.out)⟩
      ·rw [if_neg c33] at H;exact absurd H (by simp)
     ·rw [if_neg c32] at H;have c32b0:((l0_4.length:Int) == 0)=false:=beq_eq_false_iff_ne.mpr c32;have c32b1:((l0_4.length:Int) != 0)=true:=bne_iff_ne.mpr c32
      have c32b2:¬ (l0_4=[]):=fun h_=>c32 (by rw [h_];rfl)
      obtain rfl:=Option.some.inj H;obtain ⟨z39_0,z39_1,z39_2,z39_3,z39_4,z39_5⟩:=bc6 BK108.out;obtain ⟨y39_0,y39_1,y39_2,y39_3,y39_4,y39_5⟩:=bf6 BK108.out
      try go_wp2
      replace BK108:=aM_ (kD_ BK108.out);replace HB:=aM_ (wD_ HB.out);refine start_ (n:=15) (S:=fun w'=>w'.cell? ⟨gb108,0,none⟩=some (.int .i64 a0_0)∧w'.cell? ⟨gb108,1,none⟩=some (.int .i64 a0_1)∧w'.cell? ⟨gb108,2,none⟩=some (.int .i64 a0_2)∧w'.cell? ⟨gb108,3,none⟩=some (.int .i64 a0_3)∧w'.cell? ⟨gb108,4,none⟩=some (.slice A0_4 l0_4.length c0_4)∧w'.cell? ⟨gb108,5,none⟩=some (.slice A0_5 l0_5.length c0_5)) (ds:=[]) #[false,false,false,false,false,false,false,false,false,false,false,false,false,false,false] (by kernel_rfl) rfl rfl (bc6 BK108.out) (fun hHeld=>?_);refine with_tabW impl_ImageOk.tab4 impl_ImageOk.bits4 (fun HT_ HW_=>?_);generalize wc.drew=w40 at BK108 HB hHeld ⊢;refine pU_ 0 (some 35) HT_.out ?_;refine tK_ 1 (some 36) HT_.out HW_.out hHeld ?_;refine pU_ 2 (some 37) HT_.out ?_;refine pU_ 3 (some 38) HT_.out ?_;refine pU_ 4 (some 39) HT_.out ?_;refine pV_ 5 (some 40) HT_.out ?_;refine pV_ 6 (some 41) HT_.out ?_;refine pV_ 7 (some 42) HT_.out ?_;refine pV_ 8 (some 43) HT_.out ?_;refine pV_ 9 (some 44) HT_.out ?_;refine pV_ 10 (some 45) HT_.out ?_;refine pV_ 11 (some 46) HT_.out ?_;refine pV_ 12 (some 47) HT_.out ?_;refine pU_ 13 (some 48) HT_.out ?_;refine pU_ 14 (some 2) HT_.out ?_;refine done_ (done_of HT_.out (by kernel_rfl)) ?_
      try go_wp2
      go_ret
      exact ⟨by first|rfl|(simp [errW_none,errW_some] <;> rfl)|(simp [*,errW_none,errW_some] <;> rfl),by repeat (first|(with_reducible first|exact HB.out|apply wA_|apply wN_|apply wD_|refine below_set ?_ GE108.out)|exact HB.out)⟩

end Go.Proofs.Ytagbmaapahhmpaa.PFnImageLike
