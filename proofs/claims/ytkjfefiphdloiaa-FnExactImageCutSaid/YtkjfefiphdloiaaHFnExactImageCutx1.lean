/- What the functions that the law comes to compute, as plain functions, and that the machine's calls come to just that: written by a program for this claim, and turned where Lean did not take it. No condition. -/
import Derived.Test.YtkjfefiphdloiaaHFnExactImageCutx0
namespace Go.Proofs.Ytkjfefiphdloiaa.PFnExactImageCut
open Go.RowKit Go.Proofs.YtkjfefiphdloiaaW.PrintWords Go.Proofs.YtkjfefiphdloiaaW.PrintLast Go.Proofs.YtkjfefiphdloiaaW.PrintMore
attribute [local go_sem] max2_int min2_int max_two min_two max_three min_three max_four min_four   -- for this text's walks alone
set_option linter.unusedVariables false
set_option linter.unusedSimpArgs false

/-! ### laws_szIntS: function 42 -/
def laws_szIntS.f (l0:List Int) (a1:Int):Option (Int):=if (wrap64 (a1 - (l0.length:Int))) < 0 then (some (-1)) else (some (wrap64 (a1 - (l0.length:Int))))
set_option maxHeartbeats 8000000 in
set_option maxRecDepth 100000 in
theorem laws_szIntS.calls (A0:Option Addr) (c0:Nat) (l0:List Int) (a1:Int) (r:Int) (w:World) (hr0:Kd.C (Kd.int .i64) w A0 l0.length l0) (hc0:l0.length≤c0) (h:laws_szIntS.f l0 a1=some r) :
  Calls Try.prog 42 #[.slice A0 l0.length c0,.int .i64 a1] w fun e w'=>e=.returned (.int .i64 r)∧Drawn0 w w':=by
 have HR0:=aM_ hr0
 have HC0:=aM_ hc0
 clear hr0 hc0
 have H:(if (wrap64 (a1 - (l0.length:Int))) < 0 then (some (-1)) else (some (wrap64 (a1 - (l0.length:Int)))))=some r:=h
 clear h
 by_cases c3:(wrap64 (a1 - (l0.length:Int))) < 0
 ·rw [if_pos c3] at H
  have c3b0:decide ((wrap64 (a1 - (l0.length:Int))) < 0)=true:=decide_eq_true c3
  clear c3
  obtain rfl:=Option.some.inj H
  go_enter Try.func42,Try.ntmps42
  go_wp2
  go_ret
  exact ⟨by first|rfl|(simp;done)|(simp [*];done),by repeat (first|exact Drawn0.refl _|apply Drawn0.step)⟩
 ·rw [if_neg c3] at H
  have c3b0:decide ((wrap64 (a1 - (l0.length:Int))) < 0)=false:=decide_eq_false c3
  clear c3
  obtain rfl:=Option.some.inj H
  go_enter Try.func42,Try.ntmps42
  go_wp2
  go_ret
  exact ⟨by first|rfl|(simp;done)|(simp [*];done),by repeat (first|exact Drawn0.refl _|apply Drawn0.step)⟩

/-! ### laws_szImage: function 15 -/
def laws_szImage.f (a0_0:Int) (a0_1:Int) (a0_2:Int) (a0_3:Int) (l0_4:List Int) (l0_5:List Int) (a1:Int):Option (Int):=(laws_szIntS.f l0_4 a1).bind fun t102=>(if t102 < 0 then (some (-1)) else ((laws_szIntS.f l0_5 t102).bind fun t103=>(if t103 < 0 then (some (-1)) else (some t103))))
set_option maxHeartbeats 8000000 in
set_option maxRecDepth 100000 in
theorem laws_szImage.calls (a0_0:Int) (a0_1:Int) (a0_2:Int) (a0_3:Int) (A0_4:Option Addr) (c0_4:Nat) (l0_4:List Int) (A0_5:Option Addr) (c0_5:Nat) (l0_5:List Int) (a1:Int) (r:Int) (w:World) (hr0_4:Kd.C (Kd.int .i64) w A0_4 l0_4.length l0_4) (hc0_4:l0_4.length≤c0_4) (hr0_5:Kd.C (Kd.int .i64) w A0_5 l0_5.length l0_5) (hc0_5:l0_5.length≤c0_5) (h:laws_szImage.f a0_0 a0_1 a0_2 a0_3 l0_4 l0_5 a1=some r) :
  Calls Try.prog 15 #[.agg #[.int .i64 a0_0,.int .i64 a0_1,.int .i64 a0_2,.int .i64 a0_3,.slice A0_4 l0_4.length c0_4,.slice A0_5 l0_5.length c0_5],.int .i64 a1] w fun e w'=>e=.returned (.int .i64 r)∧Below w.heap.size w w':=by
 have hu24:=Try.underlying24
 have HR0_4:=aM_ hr0_4
 have HC0_4:=aM_ hc0_4
 clear hr0_4 hc0_4
 have HR0_5:=aM_ hr0_5
 have HC0_5:=aM_ hc0_5
 clear hr0_5 hc0_5
 have HB:=aM_ (Below.refl w.heap.size w)
 have H:((laws_szIntS.f l0_4 a1).bind fun t102=>(if t102 < 0 then (some (-1)) else ((laws_szIntS.f l0_5 t102).bind fun t103=>(if t103 < 0 then (some (-1)) else (some t103)))))=some r:=h
 clear h
 replace H:=Option.bind_eq_some_iff.mp H
 obtain ⟨t102,A30,H⟩:=H
 replace H:(if t102 < 0 then (some (-1)) else ((laws_szIntS.f l0_5 t102).bind fun t103=>(if t103 < 0 then (some (-1)) else (some t103))))=some r:=H
 have A3:=aM_ A30
 clear A30
 by_cases c4:t102 < 0
 ·rw [if_pos c4] at H
  have c4b0:decide (t102 < 0)=true:=decide_eq_true c4
  clear c4
  obtain rfl:=Option.some.inj H
  go_enter Try.func15,Try.ntmps15
  go_wp2_with (first|((with_reducible refine gate_dst (N:=2) rfl ?_);refine box_event ?hg (N:=2) ?hd (cs:=#[.int .i64 a0_0,.int .i64 a0_1,.int .i64 a0_2,.int .i64 a0_3,.slice A0_4 l0_4.length c0_4,.slice A0_5 l0_5.length c0_5]) (t:=24) ?hr ?_;(case hd=>rfl);(case hg=>rfl);(case hr=>first|(go_simp;done)|(go_simp;rfl));intro gb101 hg w5 hbox hb;have n0_:=aM_ (below_step (by repeat (first|(with_reducible first|exact HB.out|apply wA_|apply wN_|apply wD_)|exact HB.out)) hb);have n1_:=aM_ (hbox);have n2_:=aM_ ((by rw [hg];exact (below_size (by repeat (first|(with_reducible first|exact HB.out|apply wA_|apply wN_|apply wD_)|exact HB.out))):w.heap.size≤gb101));have n3_:=aM_ ((by rw [hg];exact (below_size (by repeat (first|(with_reducible first|exact HB.out|apply wA_|apply wN_|apply wD_)|exact HB.out))):w.heap.size≤gb101));clear HB;have HB:=n0_;have BK101:=n1_;have GW101:=n2_;have GE101:=n3_;clear n0_ n1_ n2_ n3_;clear hb hbox hg;obtain ⟨hcz6_0,hcz6_1,hcz6_2,hcz6_3,hcz6_4,hcz6_5⟩:=bc6 BK101.out;obtain ⟨hfz6_0,hfz6_1,hfz6_2,hfz6_3,hfz6_4,hfz6_5⟩:=bf6 BK101.out)|((with_reducible refine gate_callee (f:=42) rfl ?_);refine goesL_ (some 8) rfl rfl Try.func42 (by kernel_rfl) rfl #[.slice A0_4 l0_4.length c0_4,.int .i64 a1] rfl (by (try simp only [List.map_toArray,List.map_cons,List.map_nil]);first|done|rfl|(simp only [List.length_drop,List.length_take];rfl)) ?_;(with_reducible refine (laws_szIntS.calls _ _ l0_4 a1 t102 _ ?side1 ?side2 A3.out).mono ?_);(case side1=>repeat (first|exact (Kd.C_below HR0_4.out HB.out)|(with_reducible refine Kd.C_alloc ?_ _)|(with_reducible refine Kd.C_drewN ?_ _)|(with_reducible refine Kd.C_drew ?_)));(case side2=>exact HC0_4.out);rintro e w' ⟨rfl,⟨nd,rfl⟩⟩;refine ⟨_,rfl,?_⟩))
  go_ret
  exact ⟨by first|rfl|(simp [errW_none,errW_some] <;> rfl)|(simp [*,errW_none,errW_some] <;> rfl),by repeat (first|(with_reducible first|exact HB.out|apply wA_|apply wN_|apply wD_|refine below_set ?_ GE101.out)|exact HB.out)⟩
 ·rw [if_neg c4] at H
  have c4b0:decide (t102 < 0)=false:=decide_eq_false c4
  clear c4
  replace H:=Option.bind_eq_some_iff.mp H
  obtain ⟨t103,A70,H⟩:=H
  replace H:(if t103 < 0 then (some (-1)) else (some t103))=some r:=H
  have A7:=aM_ A70
  clear A70
  by_cases c8:t103 < 0
  ·rw [if_pos c8] at H
   have c8b0:decide (t103 < 0)=true:=decide_eq_true c8
   clear c8
   obtain rfl:=Option.some.inj H
   go_enter Try.func15,Try.ntmps15
   go_wp2_with (first|((with_reducible refine gate_dst (N:=2) rfl ?_);refine box_event ?hg (N:=2) ?hd (cs:=#[.int .i64 a0_0,.int .i64 a0_1,.int .i64 a0_2,.int .i64 a0_3,.slice A0_4 l0_4.length c0_4,.slice A0_5 l0_5.length c0_5]) (t:=24) ?hr ?_;(case hd=>rfl);(case hg=>rfl);(case hr=>first|(go_simp;done)|(go_simp;rfl));intro gb101 hg w9 hbox hb;have n0_:=aM_ (below_step (by repeat (first|(with_reducible first|exact HB.out|apply wA_|apply wN_|apply wD_)|exact HB.out)) hb);have n1_:=aM_ (hbox);have n2_:=aM_ ((by rw [hg];exact (below_size (by repeat (first|(with_reducible first|exact HB.out|apply wA_|apply wN_|apply wD_)|exact HB.out))):w.heap.size≤gb101));have n3_:=aM_ ((by rw [hg];exact (below_size (by repeat (first|(with_reducible first|exact HB.out|apply wA_|apply wN_|apply wD_)|exact HB.out))):w.heap.size≤gb101));clear HB;have HB:=n0_;have BK101:=n1_;have GW101:=n2_;have GE101:=n3_;clear n0_ n1_ n2_ n3_;clear hb hbox hg;obtain ⟨hcz10_0,hcz10_1,hcz10_2,hcz10_3,hcz10_4,hcz10_5⟩:=bc6 BK101.out;obtain ⟨hfz10_0,hfz10_1,hfz10_2,hfz10_3,hfz10_4,hfz10_5⟩:=bf6 BK101.out)|((with_reducible refine gate_callee (f:=42) rfl ?_);refine goesL_ (some 8) rfl rfl Try.func42 (by kernel_rfl) rfl #[.slice A0_4 l0_4.length c0_4,.int .i64 a1] rfl (by (try simp only [List.map_toArray,List.map_cons,List.map_nil]);first|done|rfl|(simp only [List.length_drop,List.length_take];rfl)) ?_;(with_reducible refine (laws_szIntS.calls _ _ l0_4 a1 t102 _ ?side1 ?side2 A3.out).mono ?_);(case side1=>repeat (first|exact (Kd.C_below HR0_4.out HB.out)|(with_reducible refine Kd.C_alloc ?_ _)|(with_reducible refine Kd.C_drewN ?_ _)|(with_reducible refine Kd.C_drew ?_)));(case side2=>exact HC0_4.out);rintro e w' ⟨rfl,⟨nd,rfl⟩⟩;refine ⟨_,rfl,?_⟩)|((with_reducible refine gate_callee (f:=42) rfl ?_);refine goesL_ (some 14) rfl rfl Try.func42 (by kernel_rfl) rfl #[.slice A0_5 l0_5.length c0_5,.int .i64 t102] rfl (by (try simp only [List.map_toArray,List.map_cons,List.map_nil]);first|done|rfl|(simp only [List.length_drop,List.length_take];rfl)) ?_;(with_reducible refine (laws_szIntS.calls _ _ l0_5 t102 t103 _ ?side1 ?side2 A7.out).mono ?_);(case side1=>repeat (first|exact (Kd.C_below HR0_5.out (by repeat (first|(with_reducible first|exact HB.out|apply wA_|apply wN_|apply wD_|refine below_set ?_ GE101.out)|exact HB.out)))|(with_reducible refine Kd.C_alloc ?_ _)|(with_reducible refine Kd.C_drewN ?_ _)|(with_reducible refine Kd.C_drew ?_)));(case side2=>exact HC0_5.out);rintro e w' ⟨rfl,⟨nd,rfl⟩⟩;refine ⟨_,rfl,?_⟩))
   go_ret
   exact ⟨by first|rfl|(simp [errW_none,errW_some] <;> rfl)|(simp [*,errW_none,errW_some] <;> rfl),by repeat (first|(with_reducible first|exact HB.out|apply wA_|apply wN_|apply wD_|refine below_set ?_ GE101.out)|exact HB.out)⟩
  ·rw [if_neg c8] at H
   have c8b0:decide (t103 < 0)=false:=decide_eq_false c8
   clear c8
   obtain rfl:=Option.some.inj H
   go_enter Try.func15,Try.ntmps15
   go_wp2_with (first|((with_reducible refine gate_dst (N:=2) rfl ?_);refine box_event ?hg (N:=2) ?hd (cs:=#[.int .i64 a0_0,.int .i64 a0_1,.int .i64 a0_2,.int .i64 a0_3,.slice A0_4 l0_4.length c0_4,.slice A0_5 l0_5.length c0_5]) (t:=24) ?hr ?_;(case hd=>rfl);(case hg=>rfl);(case hr=>first|(go_simp;done)|(go_simp;rfl));intro gb101 hg w11 hbox hb;have n0_:=aM_ (below_step (by repeat (first|(with_reducible first|exact HB.out|apply wA_|apply wN_|apply wD_)|exact HB.out)) hb);have n1_:=aM_ (hbox);have n2_:=aM_ ((by rw [hg];exact (below_size (by repeat (first|(with_reducible first|exact HB.out|apply wA_|apply wN_|apply wD_)|exact HB.out))):w.heap.size≤gb101));have n3_:=aM_ ((by rw [hg];exact (below_size (by repeat (first|(with_reducible first|exact HB.out|apply wA_|apply wN_|apply wD_)|exact HB.out))):w.heap.size≤gb101));clear HB;have HB:=n0_;have BK101:=n1_;have GW101:=n2_;have GE101:=n3_;clear n0_ n1_ n2_ n3_;clear hb hbox hg;obtain ⟨hcz12_0,hcz12_1,hcz12_2,hcz12_3,hcz12_4,hcz12_5⟩:=bc6 BK101.out;obtain ⟨hfz12_0,hfz12_1,hfz12_2,hfz12_3,hfz12_4,hfz12_5⟩:=bf6 BK101.out)|((with_reducible refine gate_callee (f:=42) rfl ?_);refine goesL_ (some 8) rfl rfl Try.func42 (by kernel_rfl) rfl #[.slice A0_4 l0_4.length c0_4,.int .i64 a1] rfl (by (try simp only [List.map_toArray,List.map_cons,List.map_nil]);first|done|rfl|(simp only [List.length_drop,List.length_take];rfl)) ?_;(with_reducible refine (laws_szIntS.calls _ _ l0_4 a1 t102 _ ?side1 ?side2 A3.out).mono ?_);(case side1=>repeat (first|exact (Kd.C_below HR0_4.out HB.out)|(with_reducible refine Kd.C_alloc ?_ _)|(with_reducible refine Kd.C_drewN ?_ _)|(with_reducible refine Kd.C_drew ?_)));(case side2=>exact HC0_4.out);rintro e w' ⟨rfl,⟨nd,rfl⟩⟩;refine ⟨_,rfl,?_⟩)|((with_reducible refine gate_callee (f:=42) rfl ?_);refine goesL_ (some 14) rfl rfl Try.func42 (by kernel_rfl) rfl #[.slice A0_5 l0_5.length c0_5,.int .i64 t102] rfl (by (try simp only [List.map_toArray,List.map_cons,List.map_nil]);first|done|rfl|(simp only [List.length_drop,List.length_take];rfl)) ?_;(with_reducible refine (laws_szIntS.calls _ _ l0_5 t102 t103 _ ?side1 ?side2 A7.out).mono ?_);(case side1=>repeat (first|exact (Kd.C_below HR0_5.out (by repeat (first|(with_reducible first|exact HB.out|apply wA_|apply wN_|apply wD_|refine below_set ?_ GE101.out)|exact HB.out)))|(with_reducible refine Kd.C_alloc ?_ _)|(with_reducible refine Kd.C_drewN ?_ _)|(with_reducible refine Kd.C_drew ?_)));(case side2=>exact HC0_5.out);rintro e w' ⟨rfl,⟨nd,rfl⟩⟩;refine ⟨_,rfl,?_⟩))
   go_ret
   exact ⟨by first|rfl|(simp [errW_none,errW_some] <;> rfl)|(simp [*,errW_none,errW_some] <;> rfl),by repeat (first|(with_reducible first|exact HB.out|apply wA_|apply wN_|apply wD_|refine below_set ?_ GE101.out)|exact HB.out)⟩

/-! ### laws_toIntS: function 47 -/
def laws_toIntS.l0:Nat → List Int → List Int → Int → Option (List Int)
 | 0,_,_,_=>none
 | k+1,x0,x3,x4=>if x4 < (x0.length:Int) then (if 0≤x4 then (if x4 < (x3.length:Int) then (laws_toIntS.l0 k x0 (x3.set (x4:Int).toNat (rd x0 x4)) (wrap64 (x4+1))) else (none)) else (none)) else (some x3)
def laws_toIntS.f (k:Nat) (l0:List Int):Option (List Int):=if 0≤(l0.length:Int) then (if ((l0.length:Int):Int).toNat≤35184372088832 then (laws_toIntS.l0 k l0 (List.replicate ((l0.length:Int):Int).toNat 0) 0) else (none)) else (none)
theorem laws_toIntS.mono_l:∀ k,(∀ y0 y1 y2,LeO (laws_toIntS.l0 k y0 y1 y2) (laws_toIntS.l0 (k+1) y0 y1 y2))
 | 0=>fun _ _ _ r h=>by simp [laws_toIntS.l0] at h
 | k+1=>by
  have ih0:=laws_toIntS.mono_l k
  ·intro y0 y1 y2
   unfold laws_toIntS.l0
   repeat' first
   | (with_reducible exact ih0 _ _ _)
   | (with_reducible exact LeO.refl _)
   | (with_reducible exact LeO.none _)
   | (with_reducible refine LeO.ite ?_ ?_)
   | (with_reducible refine LeO.bind ?_ (fun _=>?_))
theorem laws_toIntS.mono:∀ a0 k,LeO (laws_toIntS.f k a0) (laws_toIntS.f (k+1) a0):=by
 intro a0 k
 have ih0:=laws_toIntS.mono_l k
 unfold laws_toIntS.f
 repeat' first
   | (with_reducible exact ih0 _ _ _)
   | (with_reducible exact LeO.refl _)
   | (with_reducible exact LeO.none _)
   | (with_reducible refine LeO.ite ?_ ?_)
   | (with_reducible refine LeO.bind ?_ (fun _=>?_))
set_option maxHeartbeats 8000000 in
set_option maxRecDepth 100000 in
theorem laws_toIntS.calls (k:Nat) (A0:Option Addr) (c0:Nat) (l0:List Int) (r:List Int) (w:World) (hr0:Kd.C (Kd.int .i64) w A0 l0.length l0) (hc0:l0.length≤c0) (h:laws_toIntS.f k l0=some r) :
  Calls Try.prog 47 #[.slice A0 l0.length c0] w fun e w'=>∃ v0_:Value,e=.returned (v0_)∧Kd.R (Kd.int .i64) 3 w' w.heap.size (fun _=>True) v0_ r∧Below w.heap.size w w':=by
 have HR0:=aM_ hr0
 have HC0:=aM_ hc0
 clear hr0 hc0
 have HB:=aM_ (Below.refl w.heap.size w)
 have H:(if 0≤(l0.length:Int) then (if ((l0.length:Int):Int).toNat≤35184372088832 then (laws_toIntS.l0 k l0 (List.replicate ((l0.length:Int):Int).toNat 0) 0) else (none)) else (none))=some r:=h
 clear h
 by_cases c2:0≤(l0.length:Int)
 ·rw [if_pos c2] at H
  have c2b0:=eq_true c2
  have c2b1:decide (0≤(l0.length:Int))=true:=decide_eq_true c2
  clear c2
  by_cases c3:((l0.length:Int):Int).toNat≤35184372088832
  ·rw [if_pos c3] at H
   have c3b0:=eq_true c3
   have c3b1:decide (((l0.length:Int):Int).toNat≤35184372088832)=true:=decide_eq_true c3
   clear c3
   obtain ⟨y104,hy104⟩:∃ y_:List Int,y_=(List.replicate ((l0.length:Int):Int).toNat 0):=⟨_,rfl⟩
   replace H:(laws_toIntS.l0 k l0 y104 0)=some r:=by first|(rw [hy104];with_reducible exact H)|(have H2_:=(Option.bind_some _ _).symm.trans H;rw [hy104];with_reducible exact H2_)|(have H2_:=(Option.bind_some _ _).symm.trans H;with_reducible exact H2_)|with_reducible exact H|(rw [hy104];exact H)|exact H
   have Ny104:=aM_ hy104
   clear hy104
   have H':=aM_ H
   clear H
   go_enter Try.func47,Try.ntmps47
   go_wp2_with (first|((with_reducible refine gate_dst (N:=7) rfl ?_);refine Kd.R_make (Kd.int .i64) _ 3 rfl (N:=7) rfl 22 _ _ rfl (l0.length:Int) rfl rfl Try.underlying22 (.int .i64 0) 8 info3 rfl (by decide) (by omega) 0 (ok:=fun _=>True) (okp:=fun _=>True) rfl (fun _ hk=>hk) trivial (of_decide_eq_true (by first|(with_reducible assumption)|assumption)) (Nat.le_trans (Nat.mul_le_mul_right _ (of_decide_eq_true (by first|(with_reducible assumption)|assumption):(l0.length:Int).toNat≤35184372088832)) (by omega)) (Below.refl _ _) (Nat.le_refl _) ?_;intro v105 w4 ho5 hb hg_ hnew_;clear hg_ hnew_;(first|rw [← Ny104.out] at ho5|(simp only [Int.reduceToNat] at ho5;rw [← Ny104.out] at ho5));have n0_:=aM_ (Kd.R_lower ho5 (below_size (by repeat (first|(with_reducible first|exact HB.out|apply wA_|apply wN_|apply wD_)|exact HB.out))));have n1_:=aM_ (below_step (by repeat (first|(with_reducible first|exact HB.out|apply wA_|apply wN_|apply wD_)|exact HB.out)) hb);clear HB;have HO106:=n0_;have HB:=n1_;clear n0_ n1_;clear hb ho5))
   go_loopg [4] k (fun kq v4 w'=>∃ (x3_1:List Int) (x4_1:Int),v4=.int .i64 x4_1∧Aside0 (laws_toIntS.l0 kq l0 x3_1 x4_1=some r)∧Aside0 (kq≤k)∧Aside0 (Kd.R (Kd.int .i64) 3 w' w.heap.size (fun _=>True) v105 x3_1)∧Aside0 (Below w.heap.size w w'))
   case atStart=>exact ⟨(y104),(0),(by first|rfl|(simp;done)|(simp [*];done)),H',⟨Nat.le_refl _⟩,⟨by (with_reducible repeat (first|apply rA_|apply rN_|apply rD_));exact HO106.out⟩,⟨by repeat (first|(with_reducible first|exact HB.out|apply wA_|apply wN_|apply wD_)|exact HB.out)⟩⟩
   case round =>
    clear H'
    try clear c2
    try clear c2b0
    try clear c2b1
    try clear p2
    try clear c3
    try clear c3b0
    try clear c3b1
    try clear c4
    obtain ⟨x3_1,x4_1,rfl,HA,HK1,HO_3,HB⟩:=hrel
    cases gk with
    | zero=>exact absurd HA.out (by simp [laws_toIntS.l0])
    | succ k1 =>
     have H:=HA.out
     clear HA
     simp only [laws_toIntS.l0] at H
     by_cases c6:x4_1 < (l0.length:Int)
     ·rw [if_pos c6] at H
      have c6b0:decide (x4_1 < (l0.length:Int))=true:=decide_eq_true c6
      clear c6
      by_cases c7:0≤x4_1
      ·rw [if_pos c7] at H
       have c7b0:decide (0≤x4_1)=true:=decide_eq_true c7
       clear c7
       by_cases c8:x4_1 < (x3_1.length:Int)
       ·rw [if_pos c8] at H
        have c8b0:decide (x4_1 < (x3_1.length:Int))=true:=decide_eq_true c8
        clear c8
        obtain ⟨y108,hy108⟩:∃ y_:List Int,y_=(x3_1.set (x4_1:Int).toNat (rd l0 x4_1)):=⟨_,rfl⟩
        replace H:(laws_toIntS.l0 k1 l0 y108 (wrap64 (x4_1+1)))=some r:=by first|(rw [hy108];with_reducible exact H)|(have H2_:=(Option.bind_some _ _).symm.trans H;rw [hy108];with_reducible exact H2_)|(have H2_:=(Option.bind_some _ _).symm.trans H;with_reducible exact H2_)|with_reducible exact H|(rw [hy108];exact H)|exact H
        have Ny108:=aM_ hy108
        clear hy108
        have H':=aM_ H
        clear H
        have p107:0≤(x4_1:Int):=of_decide_eq_true (by first|(with_reducible assumption)|assumption)
        have q107:x4_1 < (l0.length:Int):=of_decide_eq_true (by first|(with_reducible assumption)|assumption)
        obtain ⟨ad107,e107,hx107_0⟩:=Kd.at_int HR0.out x4_1 p107 q107
        cases e107
        replace hx107_0:=(HB.out.cell (World.block_lt_of_cell? w _ hx107_0)).trans hx107_0
        replace p107:=eq_true p107
        replace q107:=eq_true q107
        have p9:0≤(x4_1:Int):=of_decide_eq_true (by first|(with_reducible assumption)|assumption)
        have q9:(x4_1:Int) < ((x3_1.length:Int):Int):=of_decide_eq_true (by first|(with_reducible assumption)|assumption)
        obtain ⟨go9,co9,eo9,gb9,gl9,cl9,HG9⟩:=Kd.R_form HO_3.out (by omega)
        (first|cases eo9|(injection eo9 with ea_ en_ ec_;(first|subst ea_|(injection ea_ with ea_;subst ea_));subst ec_;clear en_))
        have GB9:=aM_ gb9
        have GG9:=aM_ HG9
        clear gb9 gl9 HG9
        obtain ⟨hx9_0,hf9_0⟩:=Kd.R_celln 0 HO_3.out (x4_1:Int) p9 q9
        replace p9:=eq_true p9
        replace q9:=eq_true q9
        have HP10:=Kd.R_putg HO_3.out (x4_1:Int) (rd l0 x4_1)
        go_wp2_with (first|((with_reducible refine gate_store (t:=3) (p:=20) rfl ?_);refine store_event (t:=3) (p:=20) (v:=?vo_w11) (w1:=(wr.setCell ⟨go9,(x4_1:Int).toNat,none⟩ (.int .i64 (rd l0 x4_1)))) ?hg ?ho ?hn ?hr ?_;(case ho=>rfl);(case hg=>rfl);(case hn=>rfl);(case hr=>first|(go_simp;done)|(go_simp;rfl));intro w11 hw;have hg:wr.grownBy w11 (some go9):=(by rw [hw];exact HP10.2);have hp_:Kd.R (Kd.int .i64) 3 w11 w.heap.size (fun _=>True) (.slice (some ⟨go9,0,none⟩) x3_1.length co9) y108:=(by rw [hw,Ny108.out];exact HP10.1);clear HP10;have n0_:=aM_ (hp_);have n1_:=aM_ ((by rw [hw];exact below_set (HB.out) GB9.out:Below w.heap.size w w11));clear HO_3;clear HB;have HO_3:=n0_;have HB:=n1_;clear n0_ n1_;clear hg hw hp_))
        go_roundg k1
        case measure=>have:=HK1.out;omega
        case rel=>exact ⟨(y108),(wrap64 (x4_1+1)),(by first|rfl|(simp;done)|(simp [*];done)),H',⟨by have:=HK1.out;omega⟩,⟨by (with_reducible repeat (first|apply rA_|apply rN_|apply rD_));exact HO_3.out⟩,⟨by repeat (first|(with_reducible first|exact HB.out|apply wA_|apply wN_|apply wD_)|exact HB.out)⟩⟩
       ·rw [if_neg c8] at H
        exact absurd H (by simp)
      ·rw [if_neg c7] at H
       exact absurd H (by simp)
     ·rw [if_neg c6] at H
      have c6b0:decide (x4_1 < (l0.length:Int))=false:=decide_eq_false c6
      clear c6
      obtain rfl:=Option.some.inj H
      go_wp2
      go_ret
      exact ⟨_,by first|rfl|(simp [errW_none,errW_some] <;> rfl)|(simp [*,errW_none,errW_some] <;> rfl),by (with_reducible repeat (first|apply rA_|apply rN_|apply rD_));exact HO_3.out,by repeat (first|(with_reducible first|exact HB.out|apply wA_|apply wN_|apply wD_)|exact HB.out)⟩
  ·rw [if_neg c3] at H
   exact absurd H (by simp)
 ·rw [if_neg c2] at H
  exact absurd H (by simp)

/-! ### laws_toImage: function 17 -/
def laws_toImage.f (k:Nat) (a0_0:Int) (a0_1:Int) (a0_2:Int) (a0_3:Int) (l0_4:List Int) (l0_5:List Int):Option (Int × Int × Int × Int × List Int × List Int):=(laws_toIntS.f k l0_4).bind fun t112=>((laws_toIntS.f k l0_5).bind fun t115=>(some (a0_0,a0_1,a0_2,a0_3,t112,t115)))
theorem laws_toImage.mono:∀ a0 a1 a2 a3 a4 a5 k,LeO (laws_toImage.f k a0 a1 a2 a3 a4 a5) (laws_toImage.f (k+1) a0 a1 a2 a3 a4 a5):=by
 intro a0 a1 a2 a3 a4 a5 k
 unfold laws_toImage.f
 repeat' first
   | (with_reducible exact laws_toIntS.mono _ _)
   | (with_reducible exact LeO.refl _)
   | (with_reducible exact LeO.none _)
   | (with_reducible refine LeO.ite ?_ ?_)
   | (with_reducible refine LeO.bind ?_ (fun _=>?_))
set_option maxHeartbeats 8000000 in
set_option maxRecDepth 100000 in
theorem laws_toImage.calls (k:Nat) (a0_0:Int) (a0_1:Int) (a0_2:Int) (a0_3:Int) (A0_4:Option Addr) (c0_4:Nat) (l0_4:List Int) (A0_5:Option Addr) (c0_5:Nat) (l0_5:List Int) (r1:Int) (r2:Int) (r3:Int) (r4:Int) (r5:List Int) (r6:List Int) (w:World) (hr0_4:Kd.C (Kd.int .i64) w A0_4 l0_4.length l0_4) (hc0_4:l0_4.length≤c0_4) (hr0_5:Kd.C (Kd.int .i64) w A0_5 l0_5.length l0_5) (hc0_5:l0_5.length≤c0_5) (h:laws_toImage.f k a0_0 a0_1 a0_2 a0_3 l0_4 l0_5=some (r1,r2,r3,r4,r5,r6)) :
  Calls Try.prog 17 #[.agg #[.int .i64 a0_0,.int .i64 a0_1,.int .i64 a0_2,.int .i64 a0_3,.slice A0_4 l0_4.length c0_4,.slice A0_5 l0_5.length c0_5]] w fun e w'=>∃ v4_ v5_:Value,e=.returned (.agg #[.int .i64 r1,.int .i64 r2,.int .i64 r3,.int .i64 r4,v4_,v5_])∧Kd.R (Kd.int .i64) 3 w' w.heap.size (fun k_=>some k_≠(v5_:Value).ownBlock) v4_ r5∧Kd.R (Kd.int .i64) 3 w' w.heap.size (fun k_=>some k_≠(v4_:Value).ownBlock) v5_ r6∧Below w.heap.size w w':=by
 have hu24:=Try.underlying24
 have hu27:=Try.underlying27
 have HR0_4:=aM_ hr0_4
 have HC0_4:=aM_ hc0_4
 clear hr0_4 hc0_4
 have HR0_5:=aM_ hr0_5
 have HC0_5:=aM_ hc0_5
 clear hr0_5 hc0_5
 have HB:=aM_ (Below.refl w.heap.size w)
 have H:((laws_toIntS.f k l0_4).bind fun t112=>((laws_toIntS.f k l0_5).bind fun t115=>(some (a0_0,a0_1,a0_2,a0_3,t112,t115))))=some (r1,r2,r3,r4,r5,r6):=h
 clear h
 replace H:=Option.bind_eq_some_iff.mp H
 obtain ⟨t112,A20,H⟩:=H
 replace H:((laws_toIntS.f k l0_5).bind fun t115=>(some (a0_0,a0_1,a0_2,a0_3,t112,t115)))=some (r1,r2,r3,r4,r5,r6):=H
 have A2:=aM_ A20
 clear A20
 replace H:=Option.bind_eq_some_iff.mp H
 obtain ⟨t115,A30,H⟩:=H
 replace H:(some (a0_0,a0_1,a0_2,a0_3,t112,t115))=some (r1,r2,r3,r4,r5,r6):=H
 have A3:=aM_ A30
 clear A30
 simp only [Option.some.injEq,Prod.mk.injEq] at H
 obtain ⟨rfl,rfl,rfl,rfl,rfl,rfl⟩:=H
 go_enter Try.func17,Try.ntmps17
 go_wp2_with (first|((with_reducible refine gate_dst (N:=1) rfl ?_);refine box_event ?hg (N:=1) ?hd (cs:=#[.int .i64 a0_0,.int .i64 a0_1,.int .i64 a0_2,.int .i64 a0_3,.slice A0_4 l0_4.length c0_4,.slice A0_5 l0_5.length c0_5]) (t:=24) ?hr ?_;(case hd=>rfl);(case hg=>rfl);(case hr=>first|(go_simp;done)|(go_simp;rfl));intro gb109 hg w4 hbox hb;have n0_:=aM_ (below_step (by repeat (first|(with_reducible first|exact HB.out|apply wA_|apply wN_|apply wD_)|exact HB.out)) hb);have n1_:=aM_ (hbox);have n2_:=aM_ ((by rw [hg];exact (below_size (by repeat (first|(with_reducible first|exact HB.out|apply wA_|apply wN_|apply wD_)|exact HB.out))):w.heap.size≤gb109));have n3_:=aM_ ((by rw [hg];exact (below_size (by repeat (first|(with_reducible first|exact HB.out|apply wA_|apply wN_|apply wD_)|exact HB.out))):w.heap.size≤gb109));clear HB;have HB:=n0_;have BK109:=n1_;have GW109:=n2_;have GE109:=n3_;clear n0_ n1_ n2_ n3_;clear hb hbox hg)|((with_reducible refine gate_dst (N:=2) rfl ?_);refine box_event ?hg (N:=2) ?hd (cs:=#[.int .i64 0,.int .i64 0,.int .i64 0,.int .i64 0,.slice none 0 0,.slice none 0 0]) (t:=27) ?hr ?_;(case hd=>rfl);(case hg=>rfl);(case hr=>first|(go_simp;done)|(go_simp;rfl));intro gb110 hg w5 hbox hb;have n0_:=aM_ (blk_below (g:=gb109) (by (with_reducible repeat (first|apply kN_|apply kD_|apply kA_));exact BK109.out) hb);have n1_:=aM_ (below_step (by repeat (first|(with_reducible first|exact HB.out|apply wA_|apply wN_|apply wD_|refine below_set ?_ GE109.out)|exact HB.out)) hb);have n2_:=aM_ (hbox);have n3_:=aM_ ((by rw [hg];exact (below_size (by repeat (first|(with_reducible first|exact HB.out|apply wA_|apply wN_|apply wD_|refine below_set ?_ GE109.out)|exact HB.out))):w.heap.size≤gb110));have n4_:=aM_ ((by rw [hg];exact (below_size (by repeat (first|(with_reducible first|exact HB.out|apply wA_|apply wN_|apply wD_|refine below_set ?_ GE109.out)|exact HB.out))):w.heap.size≤gb110));have n5_:=aM_ ((by rw [hg];exact Nat.ne_of_lt (blk_lt (g:=gb109) (by (with_reducible repeat (first|apply kN_|apply kD_|apply kA_));exact BK109.out)):gb109≠gb110));have n6_:=aM_ n5_.out.symm;clear BK109;clear HB;have BK109:=n0_;have HB:=n1_;have BK110:=n2_;have GW110:=n3_;have GE110:=n4_;have NB109_110:=n5_;have NB110_109:=n6_;clear n0_ n1_ n2_ n3_ n4_ n5_ n6_;clear hb hbox hg)|((with_reducible refine gate_dst (N:=3) rfl ?_);refine box_event ?hg (N:=3) ?hd (cs:=#[.int .i64 0,.int .i64 0,.int .i64 0,.int .i64 0,.slice none 0 0,.slice none 0 0]) (t:=27) ?hr ?_;(case hd=>rfl);(case hg=>rfl);(case hr=>first|(go_simp;done)|(go_simp;rfl));intro gb111 hg w6 hbox hb;have n0_:=aM_ (blk_below (g:=gb109) (by (with_reducible repeat (first|apply kN_|apply kD_|apply kA_));exact BK109.out) hb);have n1_:=aM_ (blk_below (g:=gb110) (by (with_reducible repeat (first|apply kN_|apply kD_|apply kA_));exact BK110.out) hb);have n2_:=aM_ (below_step (by repeat (first|(with_reducible first|exact HB.out|apply wA_|apply wN_|apply wD_|refine below_set ?_ GE109.out|refine below_set ?_ GE110.out)|exact HB.out)) hb);have n3_:=aM_ (hbox);have n4_:=aM_ ((by rw [hg];exact (below_size (by repeat (first|(with_reducible first|exact HB.out|apply wA_|apply wN_|apply wD_|refine below_set ?_ GE109.out|refine below_set ?_ GE110.out)|exact HB.out))):w.heap.size≤gb111));have n5_:=aM_ ((by rw [hg];exact (below_size (by repeat (first|(with_reducible first|exact HB.out|apply wA_|apply wN_|apply wD_|refine below_set ?_ GE109.out|refine below_set ?_ GE110.out)|exact HB.out))):w.heap.size≤gb111));have n6_:=aM_ ((by rw [hg];exact Nat.ne_of_lt (blk_lt (g:=gb109) (by (with_reducible repeat (first|apply kN_|apply kD_|apply kA_));exact BK109.out)):gb109≠gb111));have n7_:=aM_ n6_.out.symm;have n8_:=aM_ ((by rw [hg];exact Nat.ne_of_lt (blk_lt (g:=gb110) (by (with_reducible repeat (first|apply kN_|apply kD_|apply kA_));exact BK110.out)):gb110≠gb111));have n9_:=aM_ n8_.out.symm;clear BK109;clear BK110;clear HB;have BK109:=n0_;have BK110:=n1_;have HB:=n2_;have BK111:=n3_;have GW111:=n4_;have GE111:=n5_;have NB109_111:=n6_;have NB111_109:=n7_;have NB110_111:=n8_;have NB111_110:=n9_;clear n0_ n1_ n2_ n3_ n4_ n5_ n6_ n7_ n8_ n9_;clear hb hbox hg;have hnb7:=NB109_110.out;have hnc7:=NB110_109.out;have hnb8:=NB109_111.out;have hnc8:=NB111_109.out;obtain ⟨hcz9_0,hcz9_1,hcz9_2,hcz9_3,hcz9_4,hcz9_5⟩:=bc6 BK109.out;obtain ⟨hfz9_0,hfz9_1,hfz9_2,hfz9_3,hfz9_4,hfz9_5⟩:=bf6 BK109.out;have hnb10:=NB111_110.out;have hnc10:=NB110_111.out;obtain ⟨hcz11_0,hcz11_1,hcz11_2,hcz11_3,hcz11_4,hcz11_5⟩:=bc6 BK111.out;obtain ⟨hfz11_0,hfz11_1,hfz11_2,hfz11_3,hfz11_4,hfz11_5⟩:=bf6 BK111.out)|((with_reducible refine gate_callee (f:=47) rfl ?_);refine goesL_ (some 18) rfl rfl Try.func47 (by kernel_rfl) rfl #[.slice A0_4 l0_4.length c0_4] rfl (by (try simp only [List.map_toArray,List.map_cons,List.map_nil]);first|done|rfl|(simp only [List.length_drop,List.length_take];rfl)) ?_;(with_reducible refine (laws_toIntS.calls k _ _ l0_4 t112 _ ?side1 ?side2 A2.out).mono ?_);(case side1=>exact Kd.C_below HR0_4.out (by repeat (first|(with_reducible first|exact HB.out|apply wA_|apply wN_|apply wD_|refine below_set ?_ GE109.out|refine below_set ?_ GE110.out|refine below_set ?_ GE111.out)|exact HB.out)));(case side2=>exact HC0_4.out);rintro e w12 ⟨v113,rfl,ho0,hb⟩;refine ⟨_,rfl,?_⟩;have n0_:=aM_ (Kd.R_lower ho0 (below_size (by repeat (first|(with_reducible first|exact HB.out|apply wA_|apply wN_|apply wD_|refine below_set ?_ GE109.out|refine below_set ?_ GE110.out|refine below_set ?_ GE111.out)|exact HB.out))));have n1_:=aM_ (blk_below (g:=gb109) (o:=.cells #[.int .i64 a0_0,.int .i64 a0_1,.int .i64 a0_2,.int .i64 a0_3,.slice A0_4 l0_4.length c0_4,.slice A0_5 l0_5.length c0_5] 24 (0,0)) (by (with_reducible repeat (first|apply kN_|apply kD_|apply kA_));refine blk_far ?_ NB109_111.out _;(with_reducible repeat (first|apply kN_|apply kD_|apply kA_));refine blk_far ?_ NB109_111.out _;(with_reducible repeat (first|apply kN_|apply kD_|apply kA_));refine blk_far ?_ NB109_111.out _;(with_reducible repeat (first|apply kN_|apply kD_|apply kA_));refine blk_far ?_ NB109_111.out _;(with_reducible repeat (first|apply kN_|apply kD_|apply kA_));exact BK109.out) hb);have n2_:=aM_ (blk_below (g:=gb110) (o:=.cells #[.int .i64 0,.int .i64 0,.int .i64 0,.int .i64 0,.slice none 0 0,.slice none 0 0] 27 (0,0)) (by (with_reducible repeat (first|apply kN_|apply kD_|apply kA_));refine blk_far ?_ NB110_111.out _;(with_reducible repeat (first|apply kN_|apply kD_|apply kA_));refine blk_far ?_ NB110_111.out _;(with_reducible repeat (first|apply kN_|apply kD_|apply kA_));refine blk_far ?_ NB110_111.out _;(with_reducible repeat (first|apply kN_|apply kD_|apply kA_));refine blk_far ?_ NB110_111.out _;(with_reducible repeat (first|apply kN_|apply kD_|apply kA_));exact BK110.out) hb);have n3_:=aM_ (blk_below (g:=gb111) (o:=.cells #[.int .i64 a0_0,.int .i64 a0_1,.int .i64 a0_2,.int .i64 a0_3,.slice none 0 0,.slice none 0 0] 27 (0,0)) (by (with_reducible repeat (first|apply kN_|apply kD_|apply kA_));refine blk_put (cs:=#[.int .i64 a0_0,.int .i64 a0_1,.int .i64 a0_2,.int .i64 0,.slice none 0 0,.slice none 0 0]) ?_ 3 _ rfl;(with_reducible repeat (first|apply kN_|apply kD_|apply kA_));refine blk_put (cs:=#[.int .i64 a0_0,.int .i64 a0_1,.int .i64 0,.int .i64 0,.slice none 0 0,.slice none 0 0]) ?_ 2 _ rfl;(with_reducible repeat (first|apply kN_|apply kD_|apply kA_));refine blk_put (cs:=#[.int .i64 a0_0,.int .i64 0,.int .i64 0,.int .i64 0,.slice none 0 0,.slice none 0 0]) ?_ 1 _ rfl;(with_reducible repeat (first|apply kN_|apply kD_|apply kA_));refine blk_put (cs:=#[.int .i64 0,.int .i64 0,.int .i64 0,.int .i64 0,.slice none 0 0,.slice none 0 0]) ?_ 0 _ rfl;(with_reducible repeat (first|apply kN_|apply kD_|apply kA_));exact BK111.out) hb);have n4_:=aM_ (below_step (by repeat (first|(with_reducible first|exact HB.out|apply wA_|apply wN_|apply wD_|refine below_set ?_ GE109.out|refine below_set ?_ GE110.out|refine below_set ?_ GE111.out)|exact HB.out)) hb);clear BK109;clear BK110;clear BK111;clear HB;have HO114:=n0_;have BK109:=n1_;have BK110:=n2_;have BK111:=n3_;have HB:=n4_;clear n0_ n1_ n2_ n3_ n4_;(try clear hb);(try clear hb2);(try clear hk);(try clear hi);(try clear ho0);obtain ⟨Ao13,co13,eo13⟩:=Kd.R_slice HO114.out;subst eo13;obtain ⟨hcz14_0,hcz14_1,hcz14_2,hcz14_3,hcz14_4,hcz14_5⟩:=bc6 BK111.out;obtain ⟨hfz14_0,hfz14_1,hfz14_2,hfz14_3,hfz14_4,hfz14_5⟩:=bf6 BK111.out;obtain ⟨hcz15_0,hcz15_1,hcz15_2,hcz15_3,hcz15_4,hcz15_5⟩:=bc6 BK109.out;obtain ⟨hfz15_0,hfz15_1,hfz15_2,hfz15_3,hfz15_4,hfz15_5⟩:=bf6 BK109.out)|((with_reducible refine gate_callee (f:=47) rfl ?_);refine goesL_ (some 22) rfl rfl Try.func47 (by kernel_rfl) rfl #[.slice A0_5 l0_5.length c0_5] rfl (by (try simp only [List.map_toArray,List.map_cons,List.map_nil]);first|done|rfl|(simp only [List.length_drop,List.length_take];rfl)) ?_;(with_reducible refine (laws_toIntS.calls k _ _ l0_5 t115 _ ?side1 ?side2 A3.out).mono ?_);(case side1=>exact Kd.C_below HR0_5.out (by repeat (first|(with_reducible first|exact HB.out|apply wA_|apply wN_|apply wD_|refine below_set ?_ GE109.out|refine below_set ?_ GE110.out|refine below_set ?_ GE111.out)|exact HB.out)));(case side2=>exact HC0_5.out);rintro e w16 ⟨v116,rfl,ho0,hb⟩;refine ⟨_,rfl,?_⟩;have n0_:=aM_ (Kd.R_elder' (by (with_reducible repeat (first|apply rA_|apply rN_|apply rD_));exact (Kd.R_mono (Kd.R_far (Kd.R_types HO114.out BK111.out (by decide)) (fun _ hk=>hk.2) _) (fun _ h_=>h_.1))) (Kd.R_base ho0) hb);have n1_:=aM_ (Kd.R_lower (Kd.R_new' ho0 (Kd.R_lt (by (with_reducible repeat (first|apply rA_|apply rN_|apply rD_));exact (Kd.R_mono (Kd.R_far (Kd.R_types HO114.out BK111.out (by decide)) (fun _ hk=>hk.2) _) (fun _ h_=>h_.1))))) (below_size (by repeat (first|(with_reducible first|exact HB.out|apply wA_|apply wN_|apply wD_|refine below_set ?_ GE109.out|refine below_set ?_ GE110.out|refine below_set ?_ GE111.out)|exact HB.out))));have n2_:=aM_ (blk_below (g:=gb109) (o:=.cells #[.int .i64 a0_0,.int .i64 a0_1,.int .i64 a0_2,.int .i64 a0_3,.slice A0_4 l0_4.length c0_4,.slice A0_5 l0_5.length c0_5] 24 (0,0)) (by (with_reducible repeat (first|apply kN_|apply kD_|apply kA_));refine blk_far ?_ NB109_111.out _;(with_reducible repeat (first|apply kN_|apply kD_|apply kA_));exact BK109.out) hb);have n3_:=aM_ (blk_below (g:=gb110) (o:=.cells #[.int .i64 0,.int .i64 0,.int .i64 0,.int .i64 0,.slice none 0 0,.slice none 0 0] 27 (0,0)) (by (with_reducible repeat (first|apply kN_|apply kD_|apply kA_));refine blk_far ?_ NB110_111.out _;(with_reducible repeat (first|apply kN_|apply kD_|apply kA_));exact BK110.out) hb);have n4_:=aM_ (blk_below (g:=gb111) (o:=.cells #[.int .i64 a0_0,.int .i64 a0_1,.int .i64 a0_2,.int .i64 a0_3,.slice Ao13 t112.length co13,.slice none 0 0] 27 (0,0)) (by (with_reducible repeat (first|apply kN_|apply kD_|apply kA_));refine blk_put (cs:=#[.int .i64 a0_0,.int .i64 a0_1,.int .i64 a0_2,.int .i64 a0_3,.slice none 0 0,.slice none 0 0]) ?_ 4 _ rfl;(with_reducible repeat (first|apply kN_|apply kD_|apply kA_));exact BK111.out) hb);have n5_:=aM_ (below_step (by repeat (first|(with_reducible first|exact HB.out|apply wA_|apply wN_|apply wD_|refine below_set ?_ GE109.out|refine below_set ?_ GE110.out|refine below_set ?_ GE111.out)|exact HB.out)) hb);clear HO114;clear BK109;clear BK110;clear BK111;clear HB;have HO114:=n0_;have HO117:=n1_;have BK109:=n2_;have BK110:=n3_;have BK111:=n4_;have HB:=n5_;clear n0_ n1_ n2_ n3_ n4_ n5_;(try clear hb);(try clear hb2);(try clear hk);(try clear hi);(try clear ho0);obtain ⟨Ao17,co17,eo17⟩:=Kd.R_slice HO117.out;subst eo17;obtain ⟨hcz18_0,hcz18_1,hcz18_2,hcz18_3,hcz18_4,hcz18_5⟩:=bc6 BK111.out;obtain ⟨hfz18_0,hfz18_1,hfz18_2,hfz18_3,hfz18_4,hfz18_5⟩:=bf6 BK111.out;obtain ⟨hcz19_0,hcz19_1,hcz19_2,hcz19_3,hcz19_4,hcz19_5⟩:=bc6 BK110.out;obtain ⟨hfz19_0,hfz19_1,hfz19_2,hfz19_3,hfz19_4,hfz19_5⟩:=bf6 BK110.out))
 refine bodyPost_ret (results_cell_row rfl _ _ gb110 27 #[.int .i64 a0_0,.int .i64 a0_1,.int .i64 a0_2,.int .i64 a0_3,.slice Ao13 t112.length co13,.slice Ao17 t115.length co17] (0,0) _ rfl (by (with_reducible repeat (first|apply kN_|apply kD_|apply kA_));refine blk_put (cs:=#[.int .i64 a0_0,.int .i64 a0_1,.int .i64 a0_2,.int .i64 a0_3,.slice Ao13 t112.length co13,.slice none 0 0]) ?_ 5 _ rfl;(with_reducible repeat (first|apply kN_|apply kD_|apply kA_));refine blk_put (cs:=#[.int .i64 a0_0,.int .i64 a0_1,.int .i64 a0_2,.int .i64 a0_3,.slice none 0 0,.slice none 0 0]) ?_ 4 _ rfl;(with_reducible repeat (first|apply kN_|apply kD_|apply kA_));refine blk_put (cs:=#[.int .i64 a0_0,.int .i64 a0_1,.int .i64 a0_2,.int .i64 0,.slice none 0 0,.slice none 0 0]) ?_ 3 _ rfl;(with_reducible repeat (first|apply kN_|apply kD_|apply kA_));refine blk_put (cs:=#[.int .i64 a0_0,.int .i64 a0_1,.int .i64 0,.int .i64 0,.slice none 0 0,.slice none 0 0]) ?_ 2 _ rfl;(with_reducible repeat (first|apply kN_|apply kD_|apply kA_));refine blk_put (cs:=#[.int .i64 a0_0,.int .i64 0,.int .i64 0,.int .i64 0,.slice none 0 0,.slice none 0 0]) ?_ 1 _ rfl;(with_reducible repeat (first|apply kN_|apply kD_|apply kA_));refine blk_put (cs:=#[.int .i64 0,.int .i64 0,.int .i64 0,.int .i64 0,.slice none 0 0,.slice none 0 0]) ?_ 0 _ rfl;(with_reducible repeat (first|apply kN_|apply kD_|apply kA_));refine blk_far ?_ NB110_111.out _;(with_reducible repeat (first|apply kN_|apply kD_|apply kA_));exact BK110.out) Try.underlying27 rfl (by kernel_rfl)) rfl ?_
 exact ⟨_,_,by first|rfl|(simp [errW_none,errW_some] <;> rfl)|(simp [*,errW_none,errW_some] <;> rfl),by (with_reducible repeat (first|apply rA_|apply rN_|apply rD_));exact Kd.R_mono (Kd.R_far (Kd.R_far (Kd.R_far (Kd.R_far (Kd.R_far (Kd.R_far (Kd.R_far (Kd.R_types (Kd.R_types HO114.out BK111.out (by decide)) BK110.out (by decide)) (fun _ hk=>hk.1.2) _) (fun _ hk=>hk.2) _) (fun _ hk=>hk.2) _) (fun _ hk=>hk.2) _) (fun _ hk=>hk.2) _) (fun _ hk=>hk.2) _) (fun _ hk=>hk.2) _) (fun _ hk=>hk.1.1.2),by (with_reducible repeat (first|apply rA_|apply rN_|apply rD_));exact Kd.R_mono (Kd.R_far (Kd.R_far (Kd.R_far (Kd.R_far (Kd.R_far (Kd.R_far (Kd.R_far (Kd.R_types (Kd.R_types HO117.out BK111.out (by decide)) BK110.out (by decide)) (fun _ hk=>hk.1.2) _) (fun _ hk=>hk.2) _) (fun _ hk=>hk.2) _) (fun _ hk=>hk.2) _) (fun _ hk=>hk.2) _) (fun _ hk=>hk.2) _) (fun _ hk=>hk.2) _) (fun _ hk=>hk.1.1.2),by repeat (first|(with_reducible first|exact HB.out|apply wA_|apply wN_|apply wD_|refine below_set ?_ GE109.out|refine below_set ?_ GE110.out|refine below_set ?_ GE111.out)|exact HB.out)⟩

/-! ### laws_eqIntS: function 51 -/
def laws_eqIntS.l0:Nat → List Int → List Int → Int → Option (Bool)
 | 0,_,_,_=>none
 | k+1,x0,x1,x5=>if x5 < (x0.length:Int) then (if 0≤x5 then (if x5 < (x1.length:Int) then (if (rd x0 x5)=(rd x1 x5) then (laws_eqIntS.l0 k x0 x1 (wrap64 (x5+1))) else (some false)) else (none)) else (none)) else (some true)
def laws_eqIntS.f (k:Nat) (l0:List Int) (l1:List Int):Option (Bool):=if (l0.length:Int)=(l1.length:Int) then (laws_eqIntS.l0 k l0 l1 0) else (some false)
theorem laws_eqIntS.mono_l:∀ k,(∀ y0 y1 y2,LeO (laws_eqIntS.l0 k y0 y1 y2) (laws_eqIntS.l0 (k+1) y0 y1 y2))
 | 0=>fun _ _ _ r h=>by simp [laws_eqIntS.l0] at h
 | k+1=>by
  have ih0:=laws_eqIntS.mono_l k
  ·intro y0 y1 y2
   unfold laws_eqIntS.l0
   repeat' first
   | (with_reducible exact ih0 _ _ _)
   | (with_reducible exact LeO.refl _)
   | (with_reducible exact LeO.none _)
   | (with_reducible refine LeO.ite ?_ ?_)
   | (with_reducible refine LeO.bind ?_ (fun _=>?_))
theorem laws_eqIntS.mono:∀ a0 a1 k,LeO (laws_eqIntS.f k a0 a1) (laws_eqIntS.f (k+1) a0 a1):=by
 intro a0 a1 k
 have ih0:=laws_eqIntS.mono_l k
 unfold laws_eqIntS.f
 repeat' first
   | (with_reducible exact ih0 _ _ _)
   | (with_reducible exact LeO.refl _)
   | (with_reducible exact LeO.none _)
   | (with_reducible refine LeO.ite ?_ ?_)
   | (with_reducible refine LeO.bind ?_ (fun _=>?_))
set_option maxHeartbeats 8000000 in
set_option maxRecDepth 100000 in
theorem laws_eqIntS.calls (k:Nat) (A0:Option Addr) (c0:Nat) (l0:List Int) (A1:Option Addr) (c1:Nat) (l1:List Int) (r:Bool) (w:World) (hr0:Kd.C (Kd.int .i64) w A0 l0.length l0) (hc0:l0.length≤c0) (hr1:Kd.C (Kd.int .i64) w A1 l1.length l1) (hc1:l1.length≤c1) (h:laws_eqIntS.f k l0 l1=some r) :
  Calls Try.prog 51 #[.slice A0 l0.length c0,.slice A1 l1.length c1] w fun e w'=>e=.returned (.bool r)∧Drawn0 w w':=by
 have HR0:=aM_ hr0
 have HC0:=aM_ hc0
 clear hr0 hc0
 have HR1:=aM_ hr1
 have HC1:=aM_ hc1
 clear hr1 hc1
 have H:(if (l0.length:Int)=(l1.length:Int) then (laws_eqIntS.l0 k l0 l1 0) else (some false))=some r:=h
 clear h
 by_cases c3:(l0.length:Int)=(l1.length:Int)
 ·rw [if_pos c3] at H
  have c3b0:((l0.length:Int) == (l1.length:Int))=true:=beq_iff_eq.mpr c3
  have c3b1:((l0.length:Int) != (l1.length:Int))=false:=bne_eq_false_iff_eq.mpr c3
  have c3b2:(l0.length == l1.length)=true:=by first|simpa using c3|(simp at c3 ⊢;omega)
  clear c3
  have H':=aM_ H
  clear H
  go_enter Try.func51,Try.ntmps51
  go_wp2
  repeat (go_quiet (fail);try go_wp2)
  go_loopg [5] k (fun kq v5 w'=>∃ (x5_1:Int),v5=.int .i64 x5_1∧Aside0 (laws_eqIntS.l0 kq l0 l1 x5_1=some r)∧Aside0 (kq≤k)∧Drawn0 w w')
  case atStart=>exact ⟨(0),(by first|rfl|(simp;done)|(simp [*];done)),H',⟨Nat.le_refl _⟩,by repeat (first|exact Drawn0.refl _|apply Drawn0.step)⟩
  case round =>
   clear H'
   try clear c1
   try clear p2
   try clear c3
   try clear c3b0
   try clear c3b1
   try clear c3b2
   obtain ⟨x5_1,rfl,HA,HK1,⟨m1,rfl⟩⟩:=hrel
   cases gk with
   | zero=>exact absurd HA.out (by simp [laws_eqIntS.l0])
   | succ k1 =>
    have H:=HA.out
    clear HA
    simp only [laws_eqIntS.l0] at H
    by_cases c4:x5_1 < (l0.length:Int)
    ·rw [if_pos c4] at H
     have c4b0:decide (x5_1 < (l0.length:Int))=true:=decide_eq_true c4
     clear c4
     by_cases c5:0≤x5_1
     ·rw [if_pos c5] at H
      have c5b0:decide (0≤x5_1)=true:=decide_eq_true c5
      clear c5
      by_cases c6:x5_1 < (l1.length:Int)
      ·rw [if_pos c6] at H
       have c6b0:decide (x5_1 < (l1.length:Int))=true:=decide_eq_true c6
       clear c6
       by_cases c7:(rd l0 x5_1)=(rd l1 x5_1)
       ·rw [if_pos c7] at H
        have c7b0:((rd l0 x5_1) == (rd l1 x5_1))=true:=beq_iff_eq.mpr c7
        have c7b1:((rd l0 x5_1) != (rd l1 x5_1))=false:=bne_eq_false_iff_eq.mpr c7
        clear c7
        have H':=aM_ H
        clear H
        have p118:0≤(x5_1:Int):=of_decide_eq_true (by first|(with_reducible assumption)|assumption)
        have q118:x5_1 < (l0.length:Int):=of_decide_eq_true (by first|(with_reducible assumption)|assumption)
        obtain ⟨ad118,e118,hx118_0⟩:=Kd.at_int HR0.out x5_1 p118 q118
        cases e118
        replace p118:=eq_true p118
        replace q118:=eq_true q118
        have p119:0≤(x5_1:Int):=of_decide_eq_true (by first|(with_reducible assumption)|assumption)
        have q119:x5_1 < (l1.length:Int):=of_decide_eq_true (by first|(with_reducible assumption)|assumption)
        obtain ⟨ad119,e119,hx119_0⟩:=Kd.at_int HR1.out x5_1 p119 q119
        cases e119
        replace p119:=eq_true p119
        replace q119:=eq_true q119
        go_wp2
        repeat (go_quiet (fail);try go_wp2)
        go_roundg k1
        case measure=>have:=HK1.out;omega
        case rel=>exact ⟨(wrap64 (x5_1+1)),(by first|rfl|(simp;done)|(simp [*];done)),H',⟨by have:=HK1.out;omega⟩,by repeat (first|exact Drawn0.refl _|apply Drawn0.step)⟩
       ·rw [if_neg c7] at H
        have c7b0:((rd l0 x5_1) == (rd l1 x5_1))=false:=beq_eq_false_iff_ne.mpr c7
        have c7b1:((rd l0 x5_1) != (rd l1 x5_1))=true:=bne_iff_ne.mpr c7
        obtain rfl:=Option.some.inj H
        have p118:0≤(x5_1:Int):=of_decide_eq_true (by first|(with_reducible assumption)|assumption)
        have q118:x5_1 < (l0.length:Int):=of_decide_eq_true (by first|(with_reducible assumption)|assumption)
        obtain ⟨ad118,e118,hx118_0⟩:=Kd.at_int HR0.out x5_1 p118 q118
        cases e118
        replace p118:=eq_true p118
        replace q118:=eq_true q118
        have p119:0≤(x5_1:Int):=of_decide_eq_true (by first|(with_reducible assumption)|assumption)
        have q119:x5_1 < (l1.length:Int):=of_decide_eq_true (by first|(with_reducible assumption)|assumption)
        obtain ⟨ad119,e119,hx119_0⟩:=Kd.at_int HR1.out x5_1 p119 q119
        cases e119
        replace p119:=eq_true p119
        replace q119:=eq_true q119
        go_wp2
        repeat (go_quiet (fail);try go_wp2)
        go_ret
        exact ⟨by first|rfl|(simp;done)|(simp [*];done),by repeat (first|exact Drawn0.refl _|apply Drawn0.step)⟩
      ·rw [if_neg c6] at H
       exact absurd H (by simp)
     ·rw [if_neg c5] at H
      exact absurd H (by simp)
    ·rw [if_neg c4] at H
     have c4b0:decide (x5_1 < (l0.length:Int))=false:=decide_eq_false c4
     clear c4
     obtain rfl:=Option.some.inj H
     go_wp2
     repeat (go_quiet (fail);try go_wp2)
     go_ret
     exact ⟨by first|rfl|(simp;done)|(simp [*];done),by repeat (first|exact Drawn0.refl _|apply Drawn0.step)⟩
 ·rw [if_neg c3] at H
  have c3b0:((l0.length:Int) == (l1.length:Int))=false:=beq_eq_false_iff_ne.mpr c3
  have c3b1:((l0.length:Int) != (l1.length:Int))=true:=bne_iff_ne.mpr c3
  have c3b2:(l0.length == l1.length)=false:=by first|simpa using c3|(simp at c3 ⊢;omega)
  obtain rfl:=Option.some.inj H
  go_enter Try.func51,Try.ntmps51
  go_wp2
  repeat (go_quiet (fail);try go_wp2)
  go_ret
  exact ⟨by first|rfl|(simp;done)|(simp [*];done),by repeat (first|exact Drawn0.refl _|apply Drawn0.step)⟩

/-! ### laws_eqImage: function 19 -/
def laws_eqImage.f (k:Nat) (a0_0:Int) (a0_1:Int) (a0_2:Int) (a0_3:Int) (l0_4:List Int) (l0_5:List Int) (a1_0:Int) (a1_1:Int) (a1_2:Int) (a1_3:Int) (l1_4:List Int) (l1_5:List Int):Option (Bool):=if a0_0=a1_0 then (if a0_1=a1_1 then (if a0_2=a1_2 then (if a0_3=a1_3 then ((laws_eqIntS.f k l0_4 l1_4).bind fun t122=>(if t122=true then ((laws_eqIntS.f k l0_5 l1_5).bind fun t123=>(if t123=true then (some true) else (some false))) else (some false))) else (some false)) else (some false)) else (some false)) else (some false)
theorem laws_eqImage.mono:∀ a0 a1 a2 a3 a4 a5 a6 a7 a8 a9 a10 a11 k,LeO (laws_eqImage.f k a0 a1 a2 a3 a4 a5 a6 a7 a8 a9 a10 a11) (laws_eqImage.f (k+1) a0 a1 a2 a3 a4 a5 a6 a7 a8 a9 a10 a11):=by
 intro a0 a1 a2 a3 a4 a5 a6 a7 a8 a9 a10 a11 k
 unfold laws_eqImage.f
 repeat' first
   | (with_reducible exact laws_eqIntS.mono _ _ _)
   | (with_reducible exact LeO.refl _)
   | (with_reducible exact LeO.none _)
   | (with_reducible refine LeO.ite ?_ ?_)
   | (with_reducible refine LeO.bind ?_ (fun _=>?_))
set_option maxHeartbeats 8000000 in
set_option maxRecDepth 100000 in
theorem laws_eqImage.calls (k:Nat) (a0_0:Int) (a0_1:Int) (a0_2:Int) (a0_3:Int) (A0_4:Option Addr) (c0_4:Nat) (l0_4:List Int) (A0_5:Option Addr) (c0_5:Nat) (l0_5:List Int) (a1_0:Int) (a1_1:Int) (a1_2:Int) (a1_3:Int) (A1_4:Option Addr) (c1_4:Nat) (l1_4:List Int) (A1_5:Option Addr) (c1_5:Nat) (l1_5:List Int) (r:Bool) (w:World) (hr0_4:Kd.C (Kd.int .i64) w A0_4 l0_4.length l0_4) (hc0_4:l0_4.length≤c0_4) (hr0_5:Kd.C (Kd.int .i64) w A0_5 l0_5.length l0_5) (hc0_5:l0_5.length≤c0_5) (hr1_4:Kd.C (Kd.int .i64) w A1_4 l1_4.length l1_4) (hc1_4:l1_4.length≤c1_4) (hr1_5:Kd.C (Kd.int .i64) w A1_5 l1_5.length l1_5) (hc1_5:l1_5.length≤c1_5) (h:laws_eqImage.f k a0_0 a0_1 a0_2 a0_3 l0_4 l0_5 a1_0 a1_1 a1_2 a1_3 l1_4 l1_5=some r) :
  Calls Try.prog 19 #[.agg #[.int .i64 a0_0,.int .i64 a0_1,.int .i64 a0_2,.int .i64 a0_3,.slice A0_4 l0_4.length c0_4,.slice A0_5 l0_5.length c0_5],.agg #[.int .i64 a1_0,.int .i64 a1_1,.int .i64 a1_2,.int .i64 a1_3,.slice A1_4 l1_4.length c1_4,.slice A1_5 l1_5.length c1_5]] w fun e w'=>e=.returned (.bool r)∧Below w.heap.size w w':=by
 have hu27:=Try.underlying27
 have HR0_4:=aM_ hr0_4
 have HC0_4:=aM_ hc0_4
 clear hr0_4 hc0_4
 have HR0_5:=aM_ hr0_5
 have HC0_5:=aM_ hc0_5
 clear hr0_5 hc0_5
 have HR1_4:=aM_ hr1_4
 have HC1_4:=aM_ hc1_4
 clear hr1_4 hc1_4
 have HR1_5:=aM_ hr1_5
 have HC1_5:=aM_ hc1_5
 clear hr1_5 hc1_5
 have HB:=aM_ (Below.refl w.heap.size w)
 have H:(if a0_0=a1_0 then (if a0_1=a1_1 then (if a0_2=a1_2 then (if a0_3=a1_3 then ((laws_eqIntS.f k l0_4 l1_4).bind fun t122=>(if t122=true then ((laws_eqIntS.f k l0_5 l1_5).bind fun t123=>(if t123=true then (some true) else (some false))) else (some false))) else (some false)) else (some false)) else (some false)) else (some false))=some r:=h
 clear h
 by_cases c3:a0_0=a1_0
 ·rw [if_pos c3] at H
  have c3b0:(a0_0 == a1_0)=true:=beq_iff_eq.mpr c3
  have c3b1:(a0_0 != a1_0)=false:=bne_eq_false_iff_eq.mpr c3
  clear c3
  by_cases c4:a0_1=a1_1
  ·rw [if_pos c4] at H
   have c4b0:(a0_1 == a1_1)=true:=beq_iff_eq.mpr c4
   have c4b1:(a0_1 != a1_1)=false:=bne_eq_false_iff_eq.mpr c4
   clear c4
   by_cases c5:a0_2=a1_2
   ·rw [if_pos c5] at H
    have c5b0:(a0_2 == a1_2)=true:=beq_iff_eq.mpr c5
    have c5b1:(a0_2 != a1_2)=false:=bne_eq_false_iff_eq.mpr c5
    clear c5
    by_cases c6:a0_3=a1_3
    ·rw [if_pos c6] at H
     have c6b0:(a0_3 == a1_3)=true:=beq_iff_eq.mpr c6
     have c6b1:(a0_3 != a1_3)=false:=bne_eq_false_iff_eq.mpr c6
     clear c6
     replace H:=Option.bind_eq_some_iff.mp H
     obtain ⟨t122,A70,H⟩:=H
     replace H:(if t122=true then ((laws_eqIntS.f k l0_5 l1_5).bind fun t123=>(if t123=true then (some true) else (some false))) else (some false))=some r:=H
     have A7:=aM_ A70
     clear A70
     by_cases c8:t122=true
     ·subst c8
      have H1:((laws_eqIntS.f k l0_5 l1_5).bind fun t123=>(if t123=true then (some true) else (some false)))=some r:=by first|(rw [if_pos rfl] at H;exact H)|rfl
      clear H
      have H:=H1
      clear H1
      replace H:=Option.bind_eq_some_iff.mp H
      obtain ⟨t123,A90,H⟩:=H
      replace H:(if t123=true then (some true) else (some false))=some r:=H
      have A9:=aM_ A90
      clear A90
      by_cases c10:t123=true
      ·subst c10
       have H1:(some true)=some r:=by first|(rw [if_pos rfl] at H;exact H)|rfl
       clear H
       have H:=H1
       clear H1
       obtain rfl:=Option.some.inj H
       go_enter Try.func19,Try.ntmps19
       go_wp2_with (first|((with_reducible refine gate_dst (N:=2) rfl ?_);refine box_event ?hg (N:=2) ?hd (cs:=#[.int .i64 a0_0,.int .i64 a0_1,.int .i64 a0_2,.int .i64 a0_3,.slice A0_4 l0_4.length c0_4,.slice A0_5 l0_5.length c0_5]) (t:=27) ?hr ?_;(case hd=>rfl);(case hg=>rfl);(case hr=>first|(go_simp;done)|(go_simp;rfl));intro gb120 hg w11 hbox hb;have n0_:=aM_ (below_step (by repeat (first|(with_reducible first|exact HB.out|apply wA_|apply wN_|apply wD_)|exact HB.out)) hb);have n1_:=aM_ (hbox);have n2_:=aM_ ((by rw [hg];exact (below_size (by repeat (first|(with_reducible first|exact HB.out|apply wA_|apply wN_|apply wD_)|exact HB.out))):w.heap.size≤gb120));have n3_:=aM_ ((by rw [hg];exact (below_size (by repeat (first|(with_reducible first|exact HB.out|apply wA_|apply wN_|apply wD_)|exact HB.out))):w.heap.size≤gb120));clear HB;have HB:=n0_;have BK120:=n1_;have GW120:=n2_;have GE120:=n3_;clear n0_ n1_ n2_ n3_;clear hb hbox hg)|((with_reducible refine gate_dst (N:=3) rfl ?_);refine box_event ?hg (N:=3) ?hd (cs:=#[.int .i64 a1_0,.int .i64 a1_1,.int .i64 a1_2,.int .i64 a1_3,.slice A1_4 l1_4.length c1_4,.slice A1_5 l1_5.length c1_5]) (t:=27) ?hr ?_;(case hd=>rfl);(case hg=>rfl);(case hr=>first|(go_simp;done)|(go_simp;rfl));intro gb121 hg w12 hbox hb;have n0_:=aM_ (blk_below (g:=gb120) (by (with_reducible repeat (first|apply kN_|apply kD_|apply kA_));exact BK120.out) hb);have n1_:=aM_ (below_step (by repeat (first|(with_reducible first|exact HB.out|apply wA_|apply wN_|apply wD_|refine below_set ?_ GE120.out)|exact HB.out)) hb);have n2_:=aM_ (hbox);have n3_:=aM_ ((by rw [hg];exact (below_size (by repeat (first|(with_reducible first|exact HB.out|apply wA_|apply wN_|apply wD_|refine below_set ?_ GE120.out)|exact HB.out))):w.heap.size≤gb121));have n4_:=aM_ ((by rw [hg];exact (below_size (by repeat (first|(with_reducible first|exact HB.out|apply wA_|apply wN_|apply wD_|refine below_set ?_ GE120.out)|exact HB.out))):w.heap.size≤gb121));have n5_:=aM_ ((by rw [hg];exact Nat.ne_of_lt (blk_lt (g:=gb120) (by (with_reducible repeat (first|apply kN_|apply kD_|apply kA_));exact BK120.out)):gb120≠gb121));have n6_:=aM_ n5_.out.symm;clear BK120;clear HB;have BK120:=n0_;have HB:=n1_;have BK121:=n2_;have GW121:=n3_;have GE121:=n4_;have NB120_121:=n5_;have NB121_120:=n6_;clear n0_ n1_ n2_ n3_ n4_ n5_ n6_;clear hb hbox hg;have hnb13:=NB120_121.out;have hnc13:=NB121_120.out;obtain ⟨hcz14_0,hcz14_1,hcz14_2,hcz14_3,hcz14_4,hcz14_5⟩:=bc6 BK120.out;obtain ⟨hfz14_0,hfz14_1,hfz14_2,hfz14_3,hfz14_4,hfz14_5⟩:=bf6 BK120.out;obtain ⟨hcz15_0,hcz15_1,hcz15_2,hcz15_3,hcz15_4,hcz15_5⟩:=bc6 BK121.out;obtain ⟨hfz15_0,hfz15_1,hfz15_2,hfz15_3,hfz15_4,hfz15_5⟩:=bf6 BK121.out)|((with_reducible refine gate_callee (f:=51) rfl ?_);refine goesL_ (some 29) rfl rfl Try.func51 (by kernel_rfl) rfl #[.slice A0_4 l0_4.length c0_4,.slice A1_4 l1_4.length c1_4] rfl (by (try simp only [List.map_toArray,List.map_cons,List.map_nil]);first|done|rfl|(simp only [List.length_drop,List.length_take];rfl)) ?_;(with_reducible refine (laws_eqIntS.calls k _ _ l0_4 _ _ l1_4 true _ ?side1 ?side2 ?side3 ?side4 A7.out).mono ?_);(case side1=>repeat (first|exact (Kd.C_below HR0_4.out HB.out)|(with_reducible refine Kd.C_alloc ?_ _)|(with_reducible refine Kd.C_drewN ?_ _)|(with_reducible refine Kd.C_drew ?_)));(case side2=>exact HC0_4.out);(case side3=>repeat (first|exact (Kd.C_below HR1_4.out HB.out)|(with_reducible refine Kd.C_alloc ?_ _)|(with_reducible refine Kd.C_drewN ?_ _)|(with_reducible refine Kd.C_drew ?_)));(case side4=>exact HC1_4.out);rintro e w' ⟨rfl,⟨nd,rfl⟩⟩;refine ⟨_,rfl,?_⟩)|((with_reducible refine gate_callee (f:=51) rfl ?_);refine goesL_ (some 35) rfl rfl Try.func51 (by kernel_rfl) rfl #[.slice A0_5 l0_5.length c0_5,.slice A1_5 l1_5.length c1_5] rfl (by (try simp only [List.map_toArray,List.map_cons,List.map_nil]);first|done|rfl|(simp only [List.length_drop,List.length_take];rfl)) ?_;(with_reducible refine (laws_eqIntS.calls k _ _ l0_5 _ _ l1_5 true _ ?side1 ?side2 ?side3 ?side4 A9.out).mono ?_);(case side1=>repeat (first|exact (Kd.C_below HR0_5.out (by repeat (first|(with_reducible first|exact HB.out|apply wA_|apply wN_|apply wD_|refine below_set ?_ GE120.out|refine below_set ?_ GE121.out)|exact HB.out)))|(with_reducible refine Kd.C_alloc ?_ _)|(with_reducible refine Kd.C_drewN ?_ _)|(with_reducible refine Kd.C_drew ?_)));(case side2=>exact HC0_5.out);(case side3=>repeat (first|exact (Kd.C_below HR1_5.out (by repeat (first|(with_reducible first|exact HB.out|apply wA_|apply wN_|apply wD_|refine below_set ?_ GE120.out|refine below_set ?_ GE121.out)|exact HB.out)))|(with_reducible refine Kd.C_alloc ?_ _)|(with_reducible refine Kd.C_drewN ?_ _)|(with_reducible refine Kd.C_drew ?_)));(case side4=>exact HC1_5.out);rintro e w' ⟨rfl,⟨nd,rfl⟩⟩;refine ⟨_,rfl,?_⟩))
       go_ret
       exact ⟨by first|rfl|(simp [errW_none,errW_some] <;> rfl)|(simp [*,errW_none,errW_some] <;> rfl),by repeat (first|(with_reducible first|exact HB.out|apply wA_|apply wN_|apply wD_|refine below_set ?_ GE120.out|refine below_set ?_ GE121.out)|exact HB.out)⟩
      ·replace c10:=Bool.eq_false_iff.mpr c10
       subst c10
       have H1:(some false)=some r:=by first|(rw [if_neg (show ¬ (false=true) by decide)] at H;exact H)|rfl
       clear H
       have H:=H1
       clear H1
       obtain rfl:=Option.some.inj H
       go_enter Try.func19,Try.ntmps19
       go_wp2_with (first|((with_reducible refine gate_dst (N:=2) rfl ?_);refine box_event ?hg (N:=2) ?hd (cs:=#[.int .i64 a0_0,.int .i64 a0_1,.int .i64 a0_2,.int .i64 a0_3,.slice A0_4 l0_4.length c0_4,.slice A0_5 l0_5.length c0_5]) (t:=27) ?hr ?_;(case hd=>rfl);(case hg=>rfl);(case hr=>first|(go_simp;done)|(go_simp;rfl));intro gb120 hg w16 hbox hb;have n0_:=aM_ (below_step (by repeat (first|(with_reducible first|exact HB.out|apply wA_|apply wN_|apply wD_)|exact HB.out)) hb);have n1_:=aM_ (hbox);have n2_:=aM_ ((by rw [hg];exact (below_size (by repeat (first|(with_reducible first|exact HB.out|apply wA_|apply wN_|apply wD_)|exact HB.out))):w.heap.size≤gb120));have n3_:=aM_ ((by rw [hg];exact (below_size (by repeat (first|(with_reducible first|exact HB.out|apply wA_|apply wN_|apply wD_)|exact HB.out))):w.heap.size≤gb120));clear HB;have HB:=n0_;have BK120:=n1_;have GW120:=n2_;have GE120:=n3_;clear n0_ n1_ n2_ n3_;clear hb hbox hg)|((with_reducible refine gate_dst (N:=3) rfl ?_);refine box_event ?hg (N:=3) ?hd (cs:=#[.int .i64 a1_0,.int .i64 a1_1,.int .i64 a1_2,.int .i64 a1_3,.slice A1_4 l1_4.length c1_4,.slice A1_5 l1_5.length c1_5]) (t:=27) ?hr ?_;(case hd=>rfl);(case hg=>rfl);(case hr=>first|(go_simp;done)|(go_simp;rfl));intro gb121 hg w17 hbox hb;have n0_:=aM_ (blk_below (g:=gb120) (by (with_reducible repeat (first|apply kN_|apply kD_|apply kA_));exact BK120.out) hb);have n1_:=aM_ (below_step (by repeat (first|(with_reducible first|exact HB.out|apply wA_|apply wN_|apply wD_|refine below_set ?_ GE120.out)|exact HB.out)) hb);have n2_:=aM_ (hbox);have n3_:=aM_ ((by rw [hg];exact (below_size (by repeat (first|(with_reducible first|exact HB.out|apply wA_|apply wN_|apply wD_|refine below_set ?_ GE120.out)|exact HB.out))):w.heap.size≤gb121));have n4_:=aM_ ((by rw [hg];exact (below_size (by repeat (first|(with_reducible first|exact HB.out|apply wA_|apply wN_|apply wD_|refine below_set ?_ GE120.out)|exact HB.out))):w.heap.size≤gb121));have n5_:=aM_ ((by rw [hg];exact Nat.ne_of_lt (blk_lt (g:=gb120) (by (with_reducible repeat (first|apply kN_|apply kD_|apply kA_));exact BK120.out)):gb120≠gb121));have n6_:=aM_ n5_.out.symm;clear BK120;clear HB;have BK120:=n0_;have HB:=n1_;have BK121:=n2_;have GW121:=n3_;have GE121:=n4_;have NB120_121:=n5_;have NB121_120:=n6_;clear n0_ n1_ n2_ n3_ n4_ n5_ n6_;clear hb hbox hg;have hnb18:=NB120_121.out;have hnc18:=NB121_120.out;obtain ⟨hcz19_0,hcz19_1,hcz19_2,hcz19_3,hcz19_4,hcz19_5⟩:=bc6 BK120.out;obtain ⟨hfz19_0,hfz19_1,hfz19_2,hfz19_3,hfz19_4,hfz19_5⟩:=bf6 BK120.out;obtain ⟨hcz20_0,hcz20_1,hcz20_2,hcz20_3,hcz20_4,hcz20_5⟩:=bc6 BK121.out;obtain ⟨hfz20_0,hfz20_1,hfz20_2,hfz20_3,hfz20_4,hfz20_5⟩:=bf6 BK121.out)|((with_reducible refine gate_callee (f:=51) rfl ?_);refine goesL_ (some 29) rfl rfl Try.func51 (by kernel_rfl) rfl #[.slice A0_4 l0_4.length c0_4,.slice A1_4 l1_4.length c1_4] rfl (by (try simp only [List.map_toArray,List.map_cons,List.map_nil]);first|done|rfl|(simp only [List.length_drop,List.length_take];rfl)) ?_;(with_reducible refine (laws_eqIntS.calls k _ _ l0_4 _ _ l1_4 true _ ?side1 ?side2 ?side3 ?side4 A7.out).mono ?_);(case side1=>repeat (first|exact (Kd.C_below HR0_4.out HB.out)|(with_reducible refine Kd.C_alloc ?_ _)|(with_reducible refine Kd.C_drewN ?_ _)|(with_reducible refine Kd.C_drew ?_)));(case side2=>exact HC0_4.out);(case side3=>repeat (first|exact (Kd.C_below HR1_4.out HB.out)|(with_reducible refine Kd.C_alloc ?_ _)|(with_reducible refine Kd.C_drewN ?_ _)|(with_reducible refine Kd.C_drew ?_)));(case side4=>exact HC1_4.out);rintro e w' ⟨rfl,⟨nd,rfl⟩⟩;refine ⟨_,rfl,?_⟩)|((with_reducible refine gate_callee (f:=51) rfl ?_);refine goesL_ (some 35) rfl rfl Try.func51 (by kernel_rfl) rfl #[.slice A0_5 l0_5.length c0_5,.slice A1_5 l1_5.length c1_5] rfl (by (try simp only [List.map_toArray,List.map_cons,List.map_nil]);first|done|rfl|(simp only [List.length_drop,List.length_take];rfl)) ?_;(with_reducible refine (laws_eqIntS.calls k _ _ l0_5 _ _ l1_5 false _ ?side1 ?side2 ?side3 ?side4 A9.out).mono ?_);(case side1=>repeat (first|exact (Kd.C_below HR0_5.out (by repeat (first|(with_reducible first|exact HB.out|apply wA_|apply wN_|apply wD_|refine below_set ?_ GE120.out|refine below_set ?_ GE121.out)|exact HB.out)))|(with_reducible refine Kd.C_alloc ?_ _)|(with_reducible refine Kd.C_drewN ?_ _)|(with_reducible refine Kd.C_drew ?_)));(case side2=>exact HC0_5.out);(case side3=>repeat (first|exact (Kd.C_below HR1_5.out (by repeat (first|(with_reducible first|exact HB.out|apply wA_|apply wN_|apply wD_|refine below_set ?_ GE120.out|refine below_set ?_ GE121.out)|exact HB.out)))|(with_reducible refine Kd.C_alloc ?_ _)|(with_reducible refine Kd.C_drewN ?_ _)|(with_reducible refine Kd.C_drew ?_)));(case side4=>exact HC1_5.out);rintro e w' ⟨rfl,⟨nd,rfl⟩⟩;refine ⟨_,rfl,?_⟩))
       go_ret
       exact ⟨by first|rfl|(simp [errW_none,errW_some] <;> rfl)|(simp [*,errW_none,errW_some] <;> rfl),by repeat (first|(with_reducible first|exact HB.out|apply wA_|apply wN_|apply wD_|refine below_set ?_ GE120.out|refine below_set ?_ GE121.out)|exact HB.out)⟩
     ·replace c8:=Bool.eq_false_iff.mpr c8
      subst c8
      have H1:(some false)=some r:=by first|(rw [if_neg (show ¬ (false=true) by decide)] at H;exact H)|rfl
      clear H
      have H:=H1
      clear H1
      obtain rfl:=Option.some.inj H
      go_enter Try.func19,Try.ntmps19
      go_wp2_with (first|((with_reducible refine gate_dst (N:=2) rfl ?_);refine box_event ?hg (N:=2) ?hd (cs:=#[.int .i64 a0_0,.int .i64 a0_1,.int .i64 a0_2,.int .i64 a0_3,.slice A0_4 l0_4.length c0_4,.slice A0_5 l0_5.length c0_5]) (t:=27) ?hr ?_;(case hd=>rfl);(case hg=>rfl);(case hr=>first|(go_simp;done)|(go_simp;rfl));intro gb120 hg w21 hbox hb;have n0_:=aM_ (below_step (by repeat (first|(with_reducible first|exact HB.out|apply wA_|apply wN_|apply wD_)|exact HB.out)) hb);have n1_:=aM_ (hbox);have n2_:=aM_ ((by rw [hg];exact (below_size (by repeat (first|(with_reducible first|exact HB.out|apply wA_|apply wN_|apply wD_)|exact HB.out))):w.heap.size≤gb120));have n3_:=aM_ ((by rw [hg];exact (below_size (by repeat (first|(with_reducible first|exact HB.out|apply wA_|apply wN_|apply wD_)|exact HB.out))):w.heap.size≤gb120));clear HB;have HB:=n0_;have BK120:=n1_;have GW120:=n2_;have GE120:=n3_;clear n0_ n1_ n2_ n3_;clear hb hbox hg)|((with_reducible refine gate_dst (N:=3) rfl ?_);refine box_event ?hg (N:=3) ?hd (cs:=#[.int .i64 a1_0,.int .i64 a1_1,.int .i64 a1_2,.int .i64 a1_3,.slice A1_4 l1_4.length c1_4,.slice A1_5 l1_5.length c1_5]) (t:=27) ?hr ?_;(case hd=>rfl);(case hg=>rfl);(case hr=>first|(go_simp;done)|(go_simp;rfl));intro gb121 hg w22 hbox hb;have n0_:=aM_ (blk_below (g:=gb120) (by (with_reducible repeat (first|apply kN_|apply kD_|apply kA_));exact BK120.out) hb);have n1_:=aM_ (below_step (by repeat (first|(with_reducible first|exact HB.out|apply wA_|apply wN_|apply wD_|refine below_set ?_ GE120.out)|exact HB.out)) hb);have n2_:=aM_ (hbox);have n3_:=aM_ ((by rw [hg];exact (below_size (by repeat (first|(with_reducible first|exact HB.out|apply wA_|apply wN_|apply wD_|refine below_set ?_ GE120.out)|exact HB.out))):w.heap.size≤gb121));have n4_:=aM_ ((by rw [hg];exact (below_size (by repeat (first|(with_reducible first|exact HB.out|apply wA_|apply wN_|apply wD_|refine below_set ?_ GE120.out)|exact HB.out))):w.heap.size≤gb121));have n5_:=aM_ ((by rw [hg];exact Nat.ne_of_lt (blk_lt (g:=gb120) (by (with_reducible repeat (first|apply kN_|apply kD_|apply kA_));exact BK120.out)):gb120≠gb121));have n6_:=aM_ n5_.out.symm;clear BK120;clear HB;have BK120:=n0_;have HB:=n1_;have BK121:=n2_;have GW121:=n3_;have GE121:=n4_;have NB120_121:=n5_;have NB121_120:=n6_;clear n0_ n1_ n2_ n3_ n4_ n5_ n6_;clear hb hbox hg;have hnb23:=NB120_121.out;have hnc23:=NB121_120.out;obtain ⟨hcz24_0,hcz24_1,hcz24_2,hcz24_3,hcz24_4,hcz24_5⟩:=bc6 BK120.out;obtain ⟨hfz24_0,hfz24_1,hfz24_2,hfz24_3,hfz24_4,hfz24_5⟩:=bf6 BK120.out;obtain ⟨hcz25_0,hcz25_1,hcz25_2,hcz25_3,hcz25_4,hcz25_5⟩:=bc6 BK121.out;obtain ⟨hfz25_0,hfz25_1,hfz25_2,hfz25_3,hfz25_4,hfz25_5⟩:=bf6 BK121.out)|((with_reducible refine gate_callee (f:=51) rfl ?_);refine goesL_ (some 29) rfl rfl Try.func51 (by kernel_rfl) rfl #[.slice A0_4 l0_4.length c0_4,.slice A1_4 l1_4.length c1_4] rfl (by (try simp only [List.map_toArray,List.map_cons,List.map_nil]);first|done|rfl|(simp only [List.length_drop,List.length_take];rfl)) ?_;(with_reducible refine (laws_eqIntS.calls k _ _ l0_4 _ _ l1_4 false _ ?side1 ?side2 ?side3 ?side4 A7.out).mono ?_);(case side1=>repeat (first|exact (Kd.C_below HR0_4.out HB.out)|(with_reducible refine Kd.C_alloc ?_ _)|(with_reducible refine Kd.C_drewN ?_ _)|(with_reducible refine Kd.C_drew ?_)));(case side2=>exact HC0_4.out);(case side3=>repeat (first|exact (Kd.C_below HR1_4.out HB.out)|(with_reducible refine Kd.C_alloc ?_ _)|(with_reducible refine Kd.C_drewN ?_ _)|(with_reducible refine Kd.C_drew ?_)));(case side4=>exact HC1_4.out);rintro e w' ⟨rfl,⟨nd,rfl⟩⟩;refine ⟨_,rfl,?_⟩))
      go_ret
      exact ⟨by first|rfl|(simp [errW_none,errW_some] <;> rfl)|(simp [*,errW_none,errW_some] <;> rfl),by repeat (first|(with_reducible first|exact HB.out|apply wA_|apply wN_|apply wD_|refine below_set ?_ GE120.out|refine below_set ?_ GE121.out)|exact HB.out)⟩
    ·rw [if_neg c6] at H
     have c6b0:(a0_3 == a1_3)=false:=beq_eq_false_iff_ne.mpr c6
     have c6b1:(a0_3 != a1_3)=true:=bne_iff_ne.mpr c6
     obtain rfl:=Option.some.inj H
     go_enter Try.func19,Try.ntmps19
     go_wp2_with (first|((with_reducible refine gate_dst (N:=2) rfl ?_);refine box_event ?hg (N:=2) ?hd (cs:=#[.int .i64 a0_0,.int .i64 a0_1,.int .i64 a0_2,.int .i64 a0_3,.slice A0_4 l0_4.length c0_4,.slice A0_5 l0_5.length c0_5]) (t:=27) ?hr ?_;(case hd=>rfl);(case hg=>rfl);(case hr=>first|(go_simp;done)|(go_simp;rfl));intro gb120 hg w26 hbox hb;have n0_:=aM_ (below_step (by repeat (first|(with_reducible first|exact HB.out|apply wA_|apply wN_|apply wD_)|exact HB.out)) hb);have n1_:=aM_ (hbox);have n2_:=aM_ ((by rw [hg];exact (below_size (by repeat (first|(with_reducible first|exact HB.out|apply wA_|apply wN_|apply wD_)|exact HB.out))):w.heap.size≤gb120));have n3_:=aM_ ((by rw [hg];exact (below_size (by repeat (first|(with_reducible first|exact HB.out|apply wA_|apply wN_|apply wD_)|exact HB.out))):w.heap.size≤gb120));clear HB;have HB:=n0_;have BK120:=n1_;have GW120:=n2_;have GE120:=n3_;clear n0_ n1_ n2_ n3_;clear hb hbox hg)|((with_reducible refine gate_dst (N:=3) rfl ?_);refine box_event ?hg (N:=3) ?hd (cs:=#[.int .i64 a1_0,.int .i64 a1_1,.int .i64 a1_2,.int .i64 a1_3,.slice A1_4 l1_4.length c1_4,.slice A1_5 l1_5.length c1_5]) (t:=27) ?hr ?_;(case hd=>rfl);(case hg=>rfl);(case hr=>first|(go_simp;done)|(go_simp;rfl));intro gb121 hg w27 hbox hb;have n0_:=aM_ (blk_below (g:=gb120) (by (with_reducible repeat (first|apply kN_|apply kD_|apply kA_));exact BK120.out) hb);have n1_:=aM_ (below_step (by repeat (first|(with_reducible first|exact HB.out|apply wA_|apply wN_|apply wD_|refine below_set ?_ GE120.out)|exact HB.out)) hb);have n2_:=aM_ (hbox);have n3_:=aM_ ((by rw [hg];exact (below_size (by repeat (first|(with_reducible first|exact HB.out|apply wA_|apply wN_|apply wD_|refine below_set ?_ GE120.out)|exact HB.out))):w.heap.size≤gb121));have n4_:=aM_ ((by rw [hg];exact (below_size (by repeat (first|(with_reducible first|exact HB.out|apply wA_|apply wN_|apply wD_|refine below_set ?_ GE120.out)|exact HB.out))):w.heap.size≤gb121));have n5_:=aM_ ((by rw [hg];exact Nat.ne_of_lt (blk_lt (g:=gb120) (by (with_reducible repeat (first|apply kN_|apply kD_|apply kA_));exact BK120.out)):gb120≠gb121));have n6_:=aM_ n5_.out.symm;clear BK120;clear HB;have BK120:=n0_;have HB:=n1_;have BK121:=n2_;have GW121:=n3_;have GE121:=n4_;have NB120_121:=n5_;have NB121_120:=n6_;clear n0_ n1_ n2_ n3_ n4_ n5_ n6_;clear hb hbox hg;have hnb28:=NB120_121.out;have hnc28:=NB121_120.out;obtain ⟨hcz29_0,hcz29_1,hcz29_2,hcz29_3,hcz29_4,hcz29_5⟩:=bc6 BK120.out;obtain ⟨hfz29_0,hfz29_1,hfz29_2,hfz29_3,hfz29_4,hfz29_5⟩:=bf6 BK120.out;obtain ⟨hcz30_0,hcz30_1,hcz30_2,hcz30_3,hcz30_4,hcz30_5⟩:=bc6 BK121.out;obtain ⟨hfz30_0,hfz30_1,hfz30_2,hfz30_3,hfz30_4,hfz30_5⟩:=bf6 BK121.out))
     go_ret
     exact ⟨by first|rfl|(simp [errW_none,errW_some] <;> rfl)|(simp [*,errW_none,errW_some] <;> rfl),by repeat (first|(with_reducible first|exact HB.out|apply wA_|apply wN_|apply wD_|refine below_set ?_ GE120.out|refine below_set ?_ GE121.out)|exact HB.out)⟩
   ·rw [if_neg c5] at H
    have c5b0:(a0_2 == a1_2)=false:=beq_eq_false_iff_ne.mpr c5
    have c5b1:(a0_2 != a1_2)=true:=bne_iff_ne.mpr c5
    obtain rfl:=Option.some.inj H
    go_enter Try.func19,Try.ntmps19
    go_wp2_with (first|((with_reducible refine gate_dst (N:=2) rfl ?_);refine box_event ?hg (N:=2) ?hd (cs:=#[.int .i64 a0_0,.int .i64 a0_1,.int .i64 a0_2,.int .i64 a0_3,.slice A0_4 l0_4.length c0_4,.slice A0_5 l0_5.length c0_5]) (t:=27) ?hr ?_;(case hd=>rfl);(case hg=>rfl);(case hr=>first|(go_simp;done)|(go_simp;rfl));intro gb120 hg w31 hbox hb;have n0_:=aM_ (below_step (by repeat (first|(with_reducible first|exact HB.out|apply wA_|apply wN_|apply wD_)|exact HB.out)) hb);have n1_:=aM_ (hbox);have n2_:=aM_ ((by rw [hg];exact (below_size (by repeat (first|(with_reducible first|exact HB.out|apply wA_|apply wN_|apply wD_)|exact HB.out))):w.heap.size≤gb120));have n3_:=aM_ ((by rw [hg];exact (below_size (by repeat (first|(with_reducible first|exact HB.out|apply wA_|apply wN_|apply wD_)|exact HB.out))):w.heap.size≤gb120));clear HB;have HB:=n0_;have BK120:=n1_;have GW120:=n2_;have GE120:=n3_;clear n0_ n1_ n2_ n3_;clear hb hbox hg)|((with_reducible refine gate_dst (N:=3) rfl ?_);refine box_event ?hg (N:=3) ?hd (cs:=#[.int .i64 a1_0,.int .i64 a1_1,.int .i64 a1_2,.int .i64 a1_3,.slice A1_4 l1_4.length c1_4,.slice A1_5 l1_5.length c1_5]) (t:=27) ?hr ?_;(case hd=>rfl);(case hg=>rfl);(case hr=>first|(go_simp;done)|(go_simp;rfl));intro gb121 hg w32 hbox hb;have n0_:=aM_ (blk_below (g:=gb120) (by (with_reducible repeat (first|apply kN_|apply kD_|apply kA_));exact BK120.out) hb);have n1_:=aM_ (below_step (by repeat (first|(with_reducible first|exact HB.out|apply wA_|apply wN_|apply wD_|refine below_set ?_ GE120.out)|exact HB.out)) hb);have n2_:=aM_ (hbox);have n3_:=aM_ ((by rw [hg];exact (below_size (by repeat (first|(with_reducible first|exact HB.out|apply wA_|apply wN_|apply wD_|refine below_set ?_ GE120.out)|exact HB.out))):w.heap.size≤gb121));have n4_:=aM_ ((by rw [hg];exact (below_size (by repeat (first|(with_reducible first|exact HB.out|apply wA_|apply wN_|apply wD_|refine below_set ?_ GE120.out)|exact HB.out))):w.heap.size≤gb121));have n5_:=aM_ ((by rw [hg];exact Nat.ne_of_lt (blk_lt (g:=gb120) (by (with_reducible repeat (first|apply kN_|apply kD_|apply kA_));exact BK120.out)):gb120≠gb121));have n6_:=aM_ n5_.out.symm;clear BK120;clear HB;have BK120:=n0_;have HB:=n1_;have BK121:=n2_;have GW121:=n3_;have GE121:=n4_;have NB120_121:=n5_;have NB121_120:=n6_;clear n0_ n1_ n2_ n3_ n4_ n5_ n6_;clear hb hbox hg;have hnb33:=NB120_121.out;have hnc33:=NB121_120.out;obtain ⟨hcz34_0,hcz34_1,hcz34_2,hcz34_3,hcz34_4,hcz34_5⟩:=bc6 BK120.out;obtain ⟨hfz34_0,hfz34_1,hfz34_2,hfz34_3,hfz34_4,hfz34_5⟩:=bf6 BK120.out;obtain ⟨hcz35_0,hcz35_1,hcz35_2,hcz35_3,hcz35_4,hcz35_5⟩:=bc6 BK121.out;obtain ⟨hfz35_0,hfz35_1,hfz35_2,hfz35_3,hfz35_4,hfz35_5⟩:=bf6 BK121.out))
    go_ret
    exact ⟨by first|rfl|(simp [errW_none,errW_some] <;> rfl)|(simp [*,errW_none,errW_some] <;> rfl),by repeat (first|(with_reducible first|exact HB.out|apply wA_|apply wN_|apply wD_|refine below_set ?_ GE120.out|refine below_set ?_ GE121.out)|exact HB.out)⟩
  ·rw [if_neg c4] at H
   have c4b0:(a0_1 == a1_1)=false:=beq_eq_false_iff_ne.mpr c4
   have c4b1:(a0_1 != a1_1)=true:=bne_iff_ne.mpr c4
   obtain rfl:=Option.some.inj H
   go_enter Try.func19,Try.ntmps19
   go_wp2_with (first|((with_reducible refine gate_dst (N:=2) rfl ?_);refine box_event ?hg (N:=2) ?hd (cs:=#[.int .i64 a0_0,.int .i64 a0_1,.int .i64 a0_2,.int .i64 a0_3,.slice A0_4 l0_4.length c0_4,.slice A0_5 l0_5.length c0_5]) (t:=27) ?hr ?_;(case hd=>rfl);(case hg=>rfl);(case hr=>first|(go_simp;done)|(go_simp;rfl));intro gb120 hg w36 hbox hb;have n0_:=aM_ (below_step (by repeat (first|(with_reducible first|exact HB.out|apply wA_|apply wN_|apply wD_)|exact HB.out)) hb);have n1_:=aM_ (hbox);have n2_:=aM_ ((by rw [hg];exact (below_size (by repeat (first|(with_reducible first|exact HB.out|apply wA_|apply wN_|apply wD_)|exact HB.out))):w.heap.size≤gb120));have n3_:=aM_ ((by rw [hg];exact (below_size (by repeat (first|(with_reducible first|exact HB.out|apply wA_|apply wN_|apply wD_)|exact HB.out))):w.heap.size≤gb120));clear HB;have HB:=n0_;have BK120:=n1_;have GW120:=n2_;have GE120:=n3_;clear n0_ n1_ n2_ n3_;clear hb hbox hg)|((with_reducible refine gate_dst (N:=3) rfl ?_);refine box_event ?hg (N:=3) ?hd (cs:=#[.int .i64 a1_0,.int .i64 a1_1,.int .i64 a1_2,.int .i64 a1_3,.slice A1_4 l1_4.length c1_4,.slice A1_5 l1_5.length c1_5]) (t:=27) ?hr ?_;(case hd=>rfl);(case hg=>rfl);(case hr=>first|(go_simp;done)|(go_simp;rfl));intro gb121 hg w37 hbox hb;have n0_:=aM_ (blk_below (g:=gb120) (by (with_reducible repeat (first|apply kN_|apply kD_|apply kA_));exact BK120.out) hb);have n1_:=aM_ (below_step (by repeat (first|(with_reducible first|exact HB.out|apply wA_|apply wN_|apply wD_|refine below_set ?_ GE120.out)|exact HB.out)) hb);have n2_:=aM_ (hbox);have n3_:=aM_ ((by rw [hg];exact (below_size (by repeat (first|(with_reducible first|exact HB.out|apply wA_|apply wN_|apply wD_|refine below_set ?_ GE120.out)|exact HB.out))):w.heap.size≤gb121));have n4_:=aM_ ((by rw [hg];exact (below_size (by repeat (first|(with_reducible first|exact HB.out|apply wA_|apply wN_|apply wD_|refine below_set ?_ GE120.out)|exact HB.out))):w.heap.size≤gb121));have n5_:=aM_ ((by rw [hg];exact Nat.ne_of_lt (blk_lt (g:=gb120) (by (with_reducible repeat (first|apply kN_|apply kD_|apply kA_));exact BK120.out)):gb120≠gb121));have n6_:=aM_ n5_.out.symm;clear BK120;clear HB;have BK120:=n0_;have HB:=n1_;have BK121:=n2_;have GW121:=n3_;have GE121:=n4_;have NB120_121:=n5_;have NB121_120:=n6_;clear n0_ n1_ n2_ n3_ n4_ n5_ n6_;clear hb hbox hg;have hnb38:=NB120_121.out;have hnc38:=NB121_120.out;obtain ⟨hcz39_0,hcz39_1,hcz39_2,hcz39_3,hcz39_4,hcz39_5⟩:=bc6 BK120.out;obtain ⟨hfz39_0,hfz39_1,hfz39_2,hfz39_3,hfz39_4,hfz39_5⟩:=bf6 BK120.out;obtain ⟨hcz40_0,hcz40_1,hcz40_2,hcz40_3,hcz40_4,hcz40_5⟩:=bc6 BK121.out;obtain ⟨hfz40_0,hfz40_1,hfz40_2,hfz40_3,hfz40_4,hfz40_5⟩:=bf6 BK121.out))
   go_ret
   exact ⟨by first|rfl|(simp [errW_none,errW_some] <;> rfl)|(simp [*,errW_none,errW_some] <;> rfl),by repeat (first|(with_reducible first|exact HB.out|apply wA_|apply wN_|apply wD_|refine below_set ?_ GE120.out|refine below_set ?_ GE121.out)|exact HB.out)⟩
 ·rw [if_neg c3] at H
  have c3b0:(a0_0 == a1_0)=false:=beq_eq_false_iff_ne.mpr c3
  have c3b1:(a0_0 != a1_0)=true:=bne_iff_ne.mpr c3
  obtain rfl:=Option.some.inj H
  go_enter Try.func19,Try.ntmps19
  go_wp2_with (first|((with_reducible refine gate_dst (N:=2) rfl ?_);refine box_event ?hg (N:=2) ?hd (cs:=#[.int .i64 a0_0,.int .i64 a0_1,.int .i64 a0_2,.int .i64 a0_3,.slice A0_4 l0_4.length c0_4,.slice A0_5 l0_5.length c0_5]) (t:=27) ?hr ?_;(case hd=>rfl);(case hg=>rfl);(case hr=>first|(go_simp;done)|(go_simp;rfl));intro gb120 hg w41 hbox hb;have n0_:=aM_ (below_step (by repeat (first|(with_reducible first|exact HB.out|apply wA_|apply wN_|apply wD_)|exact HB.out)) hb);have n1_:=aM_ (hbox);have n2_:=aM_ ((by rw [hg];exact (below_size (by repeat (first|(with_reducible first|exact HB.out|apply wA_|apply wN_|apply wD_)|exact HB.out))):w.heap.size≤gb120));have n3_:=aM_ ((by rw [hg];exact (below_size (by repeat (first|(with_reducible first|exact HB.out|apply wA_|apply wN_|apply wD_)|exact HB.out))):w.heap.size≤gb120));clear HB;have HB:=n0_;have BK120:=n1_;have GW120:=n2_;have GE120:=n3_;clear n0_ n1_ n2_ n3_;clear hb hbox hg)|((with_reducible refine gate_dst (N:=3) rfl ?_);refine box_event ?hg (N:=3) ?hd (cs:=#[.int .i64 a1_0,.int .i64 a1_1,.int .i64 a1_2,.int .i64 a1_3,.slice A1_4 l1_4.length c1_4,.slice A1_5 l1_5.length c1_5]) (t:=27) ?hr ?_;(case hd=>rfl);(case hg=>rfl);(case hr=>first|(go_simp;done)|(go_simp;rfl));intro gb121 hg w42 hbox hb;have n0_:=aM_ (blk_below (g:=gb120) (by (with_reducible repeat (first|apply kN_|apply kD_|apply kA_));exact BK120.out) hb);have n1_:=aM_ (below_step (by repeat (first|(with_reducible first|exact HB.out|apply wA_|apply wN_|apply wD_|refine below_set ?_ GE120.out)|exact HB.out)) hb);have n2_:=aM_ (hbox);have n3_:=aM_ ((by rw [hg];exact (below_size (by repeat (first|(with_reducible first|exact HB.out|apply wA_|apply wN_|apply wD_|refine below_set ?_ GE120.out)|exact HB.out))):w.heap.size≤gb121));have n4_:=aM_ ((by rw [hg];exact (below_size (by repeat (first|(with_reducible first|exact HB.out|apply wA_|apply wN_|apply wD_|refine below_set ?_ GE120.out)|exact HB.out))):w.heap.size≤gb121));have n5_:=aM_ ((by rw [hg];exact Nat.ne_of_lt (blk_lt (g:=gb120) (by (with_reducible repeat (first|apply kN_|apply kD_|apply kA_));exact BK120.out)):gb120≠gb121));have n6_:=aM_ n5_.out.symm;clear BK120;clear HB;have BK120:=n0_;have HB:=n1_;have BK121:=n2_;have GW121:=n3_;have GE121:=n4_;have NB120_121:=n5_;have NB121_120:=n6_;clear n0_ n1_ n2_ n3_ n4_ n5_ n6_;clear hb hbox hg;have hnb43:=NB120_121.out;have hnc43:=NB121_120.out;obtain ⟨hcz44_0,hcz44_1,hcz44_2,hcz44_3,hcz44_4,hcz44_5⟩:=bc6 BK120.out;obtain ⟨hfz44_0,hfz44_1,hfz44_2,hfz44_3,hfz44_4,hfz44_5⟩:=bf6 BK120.out;obtain ⟨hcz45_0,hcz45_1,hcz45_2,hcz45_3,hcz45_4,hcz45_5⟩:=bc6 BK121.out;obtain ⟨hfz45_0,hfz45_1,hfz45_2,hfz45_3,hfz45_4,hfz45_5⟩:=bf6 BK121.out))
  go_ret
  exact ⟨by first|rfl|(simp [errW_none,errW_some] <;> rfl)|(simp [*,errW_none,errW_some] <;> rfl),by repeat (first|(with_reducible first|exact HB.out|apply wA_|apply wN_|apply wD_|refine below_set ?_ GE120.out|refine below_set ?_ GE121.out)|exact HB.out)⟩

/-! ### laws_markIntS: function 59 -/
def laws_markIntS.l0:Nat → List Int → Int → Int → Option (Int × List Int)
 | 0,_,_,_=>none
 | k+1,x0,x1,x5=>if x5 < (x0.length:Int) then (if 0≤x5 then (laws_markIntS.l0 k (x0.set (x5:Int).toNat x1) (wrap64 (x1+1)) (wrap64 (x5+1))) else (none)) else (some (x1,x0))
def laws_markIntS.f (k:Nat) (l0:List Int) (a1:Int):Option (Int × List Int):=laws_markIntS.l0 k l0 a1 0
theorem laws_markIntS.mono_l:∀ k,(∀ y0 y1 y2,LeO (laws_markIntS.l0 k y0 y1 y2) (laws_markIntS.l0 (k+1) y0 y1 y2))
 | 0=>fun _ _ _ r h=>by simp [laws_markIntS.l0] at h
 | k+1=>by
  have ih0:=laws_markIntS.mono_l k
  ·intro y0 y1 y2
   unfold laws_markIntS.l0
   repeat' first
   | (with_reducible exact ih0 _ _ _)
   | (with_reducible exact LeO.refl _)
   | (with_reducible exact LeO.none _)
   | (with_reducible refine LeO.ite ?_ ?_)
   | (with_reducible refine LeO.bind ?_ (fun _=>?_))
theorem laws_markIntS.mono:∀ a0 a1 k,LeO (laws_markIntS.f k a0 a1) (laws_markIntS.f (k+1) a0 a1):=by
 intro a0 a1 k
 have ih0:=laws_markIntS.mono_l k
 unfold laws_markIntS.f
 repeat' first
   | (with_reducible exact ih0 _ _ _)
   | (with_reducible exact LeO.refl _)
   | (with_reducible exact LeO.none _)
   | (with_reducible refine LeO.ite ?_ ?_)
   | (with_reducible refine LeO.bind ?_ (fun _=>?_))
set_option maxHeartbeats 8000000 in
set_option maxRecDepth 100000 in
theorem laws_markIntS.calls (k:Nat) (P0_:Nat → Prop) (u9000_:Value) (l0:List Int) (a1:Int) (r1:Int) (r2:List Int) (w0 w:World) (hB:Below w0.heap.size w0 w) (ho0:Kd.R (Kd.int .i64) 3 w w0.heap.size P0_ u9000_ l0) (h:laws_markIntS.f k l0 a1=some (r1,r2)) :
  Calls Try.prog 59 #[u9000_,.int .i64 a1] w fun e w'=>e=.returned (.int .i64 r1)∧Kd.R (Kd.int .i64) 3 w' w0.heap.size (fun k_=>(P0_ k_ ∨ w.heap.size≤k_)) u9000_ r2∧Below w0.heap.size w0 w'∧Kept w w' (fun k_=>P0_ k_):=by
 have HO0:=aM_ (show Kd.R (Kd.int .i64) 3 w w0.heap.size (fun k_=>(P0_ k_ ∨ w.heap.size≤k_)) u9000_ l0 from Kd.R_mono ho0 (fun k_ hk=>(.inl hk)))
 have HK:=aM_ (Kept.refl w (fun k_=>P0_ k_))
 have HW0:=aM_ hB.size
 have HB:=aM_ hB
 clear hB
 have H:(laws_markIntS.l0 k l0 a1 0)=some (r1,r2):=h
 clear h
 have H':=aM_ H
 clear H
 go_enter Try.func59,Try.ntmps59
 go_wp2
 go_loopg [1,5] k (fun kq v1 v5 w'=>∃ (x0_1:List Int) (x1_1:Int) (x5_1:Int),v1=.int .i64 x1_1∧v5=.int .i64 x5_1∧Aside0 (laws_markIntS.l0 kq x0_1 x1_1 x5_1=some (r1,r2))∧Aside0 (kq≤k)∧Aside0 (Kd.R (Kd.int .i64) 3 w' w0.heap.size (fun k_=>(P0_ k_ ∨ w.heap.size≤k_)) u9000_ x0_1)∧Aside0 (Kept w w' (fun k_=>P0_ k_))∧Aside0 (Below w0.heap.size w0 w'))
 case atStart=>exact ⟨(l0),(a1),(0),(by first|rfl|(simp;done)|(simp [*];done)),(by first|rfl|(simp;done)|(simp [*];done)),H',⟨Nat.le_refl _⟩,⟨by (with_reducible repeat (first|apply rA_|apply rN_|apply rD_));exact HO0.out⟩,⟨by repeat (first|(with_reducible first|exact HK.out|apply Kept.alloc|apply Kept.drewN|apply Kept.drew)|exact HK.out)⟩,⟨by repeat (first|(with_reducible first|exact HB.out|apply wA_|apply wN_|apply wD_)|exact HB.out)⟩⟩
 case round =>
  clear H'
  try clear p2
  obtain ⟨x0_1,x1_1,x5_1,rfl,rfl,HA,HK1,HO_0,HK,HB⟩:=hrel
  cases gk with
  | zero=>exact absurd HA.out (by simp [laws_markIntS.l0])
  | succ k1 =>
   have H:=HA.out
   clear HA
   simp only [laws_markIntS.l0] at H
   by_cases c3:x5_1 < (x0_1.length:Int)
   ·rw [if_pos c3] at H
    have c3b0:decide (x5_1 < (x0_1.length:Int))=true:=decide_eq_true c3
    clear c3
    by_cases c4:0≤x5_1
    ·rw [if_pos c4] at H
     have c4b0:decide (0≤x5_1)=true:=decide_eq_true c4
     clear c4
     obtain ⟨y124,hy124⟩:∃ y_:List Int,y_=(x0_1.set (x5_1:Int).toNat x1_1):=⟨_,rfl⟩
     replace H:(laws_markIntS.l0 k1 y124 (wrap64 (x1_1+1)) (wrap64 (x5_1+1)))=some (r1,r2):=by first|(rw [hy124];with_reducible exact H)|(have H2_:=(Option.bind_some _ _).symm.trans H;rw [hy124];with_reducible exact H2_)|(have H2_:=(Option.bind_some _ _).symm.trans H;with_reducible exact H2_)|with_reducible exact H|(rw [hy124];exact H)|exact H
     have Ny124:=aM_ hy124
     clear hy124
     have H':=aM_ H
     clear H
     obtain ⟨Ao6,co6,eo6⟩:=Kd.R_slice HO_0.out
     subst eo6
     have p5:0≤(x5_1:Int):=of_decide_eq_true (by first|(with_reducible assumption)|assumption)
     have q5:(x5_1:Int) < ((x0_1.length:Int):Int):=of_decide_eq_true (by first|(with_reducible assumption)|assumption)
     obtain ⟨go5,co5,eo5,gb5,gl5,cl5,HG5⟩:=Kd.R_form HO_0.out (by omega)
     (first|cases eo5|(injection eo5 with ea_ en_ ec_;(first|subst ea_|(injection ea_ with ea_;subst ea_));subst ec_;clear en_))
     have GB5:=aM_ gb5
     have GG5:=aM_ HG5
     clear gb5 gl5 HG5
     have HMgo5:=aM_ (show (P0_ go5 ∨ w.heap.size≤go5) from (HO_0.out.1 _ rfl))
     obtain ⟨hx5_0,hf5_0⟩:=Kd.R_celln 0 HO_0.out (x5_1:Int) p5 q5
     replace p5:=eq_true p5
     replace q5:=eq_true q5
     have HP7:=Kd.R_putg HO_0.out (x5_1:Int) x1_1
     go_wp2_with (first|((with_reducible refine gate_store (t:=3) (p:=15) rfl ?_);refine store_event (t:=3) (p:=15) (v:=?vo_w8) (w1:=(wr.setCell ⟨go5,(x5_1:Int).toNat,none⟩ (.int .i64 x1_1))) ?hg ?ho ?hn ?hr ?_;(case ho=>rfl);(case hg=>rfl);(case hn=>rfl);(case hr=>first|(go_simp;done)|(go_simp;rfl));intro w8 hw;have hg:wr.grownBy w8 (some go5):=(by rw [hw];exact HP7.2);have hp_:Kd.R (Kd.int .i64) 3 w8 w0.heap.size (fun k_=>(P0_ k_ ∨ w.heap.size≤k_)) (.slice (some ⟨go5,0,none⟩) x0_1.length co6) y124:=(by rw [hw,Ny124.out];exact HP7.1);clear HP7;have n0_:=aM_ (hp_);have n1_:=aM_ ((by rw [hw];exact below_set (HB.out) GB5.out:Below w0.heap.size w0 w8));have n2_:=aM_ (Kept.of_grown (S:=(fun k_=>P0_ k_)) hg (by repeat (first|(with_reducible first|exact HK.out|apply Kept.alloc|apply Kept.drewN|apply Kept.drew)|exact HK.out)) (fun k_ e_=>(HO_0.out.1 k_ e_)));clear HO_0;clear HB;clear HK;have HO_0:=n0_;have HB:=n1_;have HK:=n2_;clear n0_ n1_ n2_;clear hg hw hp_))
     go_roundg k1
     case measure=>have:=HK1.out;omega
     case rel=>exact ⟨(y124),(wrap64 (x1_1+1)),(wrap64 (x5_1+1)),(by first|rfl|(simp;done)|(simp [*];done)),(by first|rfl|(simp;done)|(simp [*];done)),H',⟨by have:=HK1.out;omega⟩,⟨by (with_reducible repeat (first|apply rA_|apply rN_|apply rD_));exact HO_0.out⟩,⟨by repeat (first|(with_reducible first|exact HK.out|apply Kept.alloc|apply Kept.drewN|apply Kept.drew)|exact HK.out)⟩,⟨by repeat (first|(with_reducible first|exact HB.out|apply wA_|apply wN_|apply wD_)|exact HB.out)⟩⟩
    ·rw [if_neg c4] at H
     exact absurd H (by simp)
   ·rw [if_neg c3] at H
    have c3b0:decide (x5_1 < (x0_1.length:Int))=false:=decide_eq_false c3
    clear c3
    simp only [Option.some.injEq,Prod.mk.injEq] at H
    obtain ⟨rfl,rfl⟩:=H
    obtain ⟨Ao9,co9,eo9⟩:=Kd.R_slice HO_0.out
    subst eo9
    go_wp2
    go_ret
    exact ⟨by first|rfl|(simp [errW_none,errW_some] <;> rfl)|(simp [*,errW_none,errW_some] <;> rfl),by (with_reducible repeat (first|apply rA_|apply rN_|apply rD_));exact HO_0.out,by repeat (first|(with_reducible first|exact HB.out|apply wA_|apply wN_|apply wD_)|exact HB.out),by repeat (first|(with_reducible first|exact HK.out|apply Kept.alloc|apply Kept.drewN|apply Kept.drew)|exact HK.out)⟩

/-! ### laws_markImage: function 28 -/
def laws_markImage.f (k:Nat) (a0_0:Int) (a0_1:Int) (a0_2:Int) (a0_3:Int) (l0_4:List Int) (l0_5:List Int) (a1:Int):Option (Int × List Int × List Int):=(laws_markIntS.f k l0_4 a1).bind fun bt126=>((laws_markIntS.f k l0_5 bt126.1).bind fun bt128=>(some (bt128.1,bt126.2,bt128.2)))
theorem laws_markImage.mono:∀ a0 a1 a2 a3 a4 a5 a6 k,LeO (laws_markImage.f k a0 a1 a2 a3 a4 a5 a6) (laws_markImage.f (k+1) a0 a1 a2 a3 a4 a5 a6):=by
 intro a0 a1 a2 a3 a4 a5 a6 k
 unfold laws_markImage.f
 repeat' first
   | (with_reducible exact laws_markIntS.mono _ _ _)
   | (with_reducible exact LeO.refl _)
   | (with_reducible exact LeO.none _)
   | (with_reducible refine LeO.ite ?_ ?_)
   | (with_reducible refine LeO.bind ?_ (fun _=>?_))
set_option maxHeartbeats 8000000 in
set_option maxRecDepth 100000 in
theorem laws_markImage.calls (k:Nat) (a0_0:Int) (a0_1:Int) (a0_2:Int) (a0_3:Int) (P0_4_:Nat → Prop) (u9000_:Value) (l0_4:List Int) (P0_5_:Nat → Prop) (u9001_:Value) (l0_5:List Int) (a1:Int) (r1:Int) (r2:List Int) (r3:List Int) (w0 w:World) (hB:Below w0.heap.size w0 w) (ho0_4:Kd.R (Kd.int .i64) 3 w w0.heap.size P0_4_ u9000_ l0_4) (hp0_4_0_5:∀ k_,P0_4_ k_ → ¬ P0_5_ k_) (ho0_5:Kd.R (Kd.int .i64) 3 w w0.heap.size P0_5_ u9001_ l0_5) (hp0_5_0_4:∀ k_,P0_5_ k_ → ¬ P0_4_ k_) (h:laws_markImage.f k a0_0 a0_1 a0_2 a0_3 l0_4 l0_5 a1=some (r1,r2,r3)) :
  Calls Try.prog 28 #[.agg #[.int .i64 a0_0,.int .i64 a0_1,.int .i64 a0_2,.int .i64 a0_3,u9000_,u9001_],.int .i64 a1] w fun e w'=>e=.returned (.int .i64 r1)∧Kd.R (Kd.int .i64) 3 w' w0.heap.size (fun k_=>((P0_4_ k_ ∨ P0_5_ k_) ∨ w.heap.size≤k_)) u9000_ r2∧Kd.R (Kd.int .i64) 3 w' w0.heap.size (fun k_=>((P0_4_ k_ ∨ P0_5_ k_) ∨ w.heap.size≤k_)) u9001_ r3∧Below w0.heap.size w0 w'∧Kept w w' (fun k_=>P0_4_ k_ ∨ P0_5_ k_):=by
 have hu27:=Try.underlying27
 have HO0_4:=aM_ (show Kd.R (Kd.int .i64) 3 w w0.heap.size (fun k_=>((P0_4_ k_ ∨ P0_5_ k_) ∨ w.heap.size≤k_)∧some k_≠(u9001_:Value).ownBlock) u9000_ l0_4 from Kd.R_mono ho0_4 (fun k_ hk=>⟨(.inl (.inl hk)),fun e_=>hp0_4_0_5 k_ hk (ho0_5.1 k_ e_.symm)⟩))
 have HO0_5:=aM_ (show Kd.R (Kd.int .i64) 3 w w0.heap.size (fun k_=>((P0_4_ k_ ∨ P0_5_ k_) ∨ w.heap.size≤k_)∧some k_≠(u9000_:Value).ownBlock) u9001_ l0_5 from Kd.R_mono ho0_5 (fun k_ hk=>⟨(.inl (.inr hk)),fun e_=>hp0_5_0_4 k_ hk (ho0_4.1 k_ e_.symm)⟩))
 have HK:=aM_ (Kept.refl w (fun k_=>P0_4_ k_ ∨ P0_5_ k_))
 have HW0:=aM_ hB.size
 have HB:=aM_ hB
 clear hB
 have H:((laws_markIntS.f k l0_4 a1).bind fun bt126=>((laws_markIntS.f k l0_5 bt126.1).bind fun bt128=>(some (bt128.1,bt126.2,bt128.2))))=some (r1,r2,r3):=h
 clear h
 replace H:=Option.bind_eq_some_iff.mp H
 obtain ⟨⟨t126,t127⟩,A30,H⟩:=H
 replace H:((laws_markIntS.f k l0_5 t126).bind fun bt128=>(some (bt128.1,t127,bt128.2)))=some (r1,r2,r3):=H
 have A3:=aM_ A30
 clear A30
 replace H:=Option.bind_eq_some_iff.mp H
 obtain ⟨⟨t128,t129⟩,A40,H⟩:=H
 replace H:(some (t128,t127,t129))=some (r1,r2,r3):=H
 have A4:=aM_ A40
 clear A40
 simp only [Option.some.injEq,Prod.mk.injEq] at H
 obtain ⟨rfl,rfl,rfl⟩:=H
 obtain ⟨Ao5,co5,eo5⟩:=Kd.R_slice HO0_4.out
 subst eo5
 obtain ⟨Ao6,co6,eo6⟩:=Kd.R_slice HO0_5.out
 subst eo6
 go_enter Try.func28,Try.ntmps28
 go_wp2_with (first|((with_reducible refine gate_dst (N:=2) rfl ?_);refine box_event ?hg (N:=2) ?hd (cs:=#[.int .i64 a0_0,.int .i64 a0_1,.int .i64 a0_2,.int .i64 a0_3,.slice Ao5 l0_4.length co5,.slice Ao6 l0_5.length co6]) (t:=27) ?hr ?_;(case hd=>rfl);(case hg=>rfl);(case hr=>first|(go_simp;done)|(go_simp;rfl));intro gb125 hg w7 hbox hb;have n0_:=aM_ (Kd.R_below (by (with_reducible repeat (first|apply rA_|apply rN_|apply rD_));exact HO0_4.out) hb);have n1_:=aM_ (Kd.R_below (by (with_reducible repeat (first|apply rA_|apply rN_|apply rD_));exact HO0_5.out) hb);have n2_:=aM_ (Kept.below (S:=(fun k_=>P0_4_ k_ ∨ P0_5_ k_)) (by repeat (first|(with_reducible first|exact HK.out|apply Kept.alloc|apply Kept.drewN|apply Kept.drew)|exact HK.out)) hb);have n3_:=aM_ (below_step (by repeat (first|(with_reducible first|exact HB.out|apply wA_|apply wN_|apply wD_)|exact HB.out)) hb);have n4_:=aM_ (hbox);have n5_:=aM_ ((by rw [hg];exact (by first|exact HK.out.1|exact (show Kept w _ (fun k_=>P0_4_ k_ ∨ P0_5_ k_) from by repeat (first|(with_reducible first|exact HK.out|apply Kept.alloc|apply Kept.drewN|apply Kept.drew)|exact HK.out)).1):w.heap.size≤gb125));have n6_:=aM_ ((by rw [hg];exact (below_size (by repeat (first|(with_reducible first|exact HB.out|apply wA_|apply wN_|apply wD_)|exact HB.out))):w0.heap.size≤gb125));clear HO0_4;clear HO0_5;clear HK;clear HB;have HO0_4:=n0_;have HO0_5:=n1_;have HK:=n2_;have HB:=n3_;have BK125:=n4_;have GW125:=n5_;have GE125:=n6_;clear n0_ n1_ n2_ n3_ n4_ n5_ n6_;clear hb hbox hg;obtain ⟨hcz8_0,hcz8_1,hcz8_2,hcz8_3,hcz8_4,hcz8_5⟩:=bc6 BK125.out;obtain ⟨hfz8_0,hfz8_1,hfz8_2,hfz8_3,hfz8_4,hfz8_5⟩:=bf6 BK125.out)|((with_reducible refine gate_callee (f:=59) rfl ?_);refine goesL_ (some 8) rfl rfl Try.func59 (by kernel_rfl) rfl #[.slice Ao5 l0_4.length co5,.int .i64 a1] rfl (by (try simp only [List.map_toArray,List.map_cons,List.map_nil]);first|done|rfl|(simp only [List.length_drop,List.length_take];rfl)) ?_;(with_reducible refine (laws_markIntS.calls k (fun k_=>some k_=(.slice Ao5 l0_4.length co5:Value).ownBlock) (.slice Ao5 l0_4.length co5) l0_4 a1 t126 t127 w0 _ ?side1 ?side2 A3.out).mono ?_);(case side1=>repeat (first|(with_reducible first|exact HB.out|apply wA_|apply wN_|apply wD_|refine below_set ?_ GE125.out)|exact HB.out));(case side2=>exact Kd.R_tight rfl HO0_4.out);rintro e w9 ⟨rfl,hy0,hb,hkp⟩;refine ⟨_,rfl,?_⟩;have n0_:=aM_ (Kd.R_reok rfl hy0 (fun k_ e_=>HO0_4.out.1 k_ e_));have n1_:=aM_ (Kd.R_mono (ok':=fun k_=>((P0_4_ k_ ∨ P0_5_ k_) ∨ w.heap.size≤k_)∧some k_≠(.slice Ao5 l0_4.length co5:Value).ownBlock) (Kd.R_keptB (HO0_5.out) hkp (fun k_ hk_ hs_=>(hk_.2) hs_)) (fun k_ hk_=>⟨hk_.1.1,hk_.1.2⟩));have n2_:=aM_ (blk_kept (by (with_reducible repeat (first|apply kN_|apply kD_|apply kA_));exact BK125.out) hkp (fun hs_=>(fun e_=>(Kd.R_ne HO0_4.out BK125.out (by decide)) e_) hs_));have n3_:=aM_ (Kept.then_ (S:=(fun k_=>P0_4_ k_ ∨ P0_5_ k_)) (by repeat (first|(with_reducible first|exact HK.out|apply Kept.alloc|apply Kept.drewN|apply Kept.drew|refine Kept.setCell ?_ (.inr GW125.out) _)|exact HK.out)) hkp (fun k_ hs_=>(fun e_=>(HO0_4.out.1 k_ e_.symm).1) hs_));have n4_:=aM_ (hb);clear HO0_4;clear HO0_5;clear BK125;clear HK;clear HB;have HO0_4:=n0_;have HO0_5:=n1_;have BK125:=n2_;have HK:=n3_;have HB:=n4_;clear n0_ n1_ n2_ n3_ n4_;(try clear hb);(try clear hkp);(try clear hy0);obtain ⟨hcz10_0,hcz10_1,hcz10_2,hcz10_3,hcz10_4,hcz10_5⟩:=bc6 BK125.out;obtain ⟨hfz10_0,hfz10_1,hfz10_2,hfz10_3,hfz10_4,hfz10_5⟩:=bf6 BK125.out)|((with_reducible refine gate_callee (f:=59) rfl ?_);refine goesL_ (some 12) rfl rfl Try.func59 (by kernel_rfl) rfl #[.slice Ao6 l0_5.length co6,.int .i64 t126] rfl (by (try simp only [List.map_toArray,List.map_cons,List.map_nil]);first|done|rfl|(simp only [List.length_drop,List.length_take];rfl)) ?_;(with_reducible refine (laws_markIntS.calls k (fun k_=>some k_=(.slice Ao6 l0_5.length co6:Value).ownBlock) (.slice Ao6 l0_5.length co6) l0_5 t126 t128 t129 w0 _ ?side1 ?side2 A4.out).mono ?_);(case side1=>repeat (first|(with_reducible first|exact HB.out|apply wA_|apply wN_|apply wD_|refine below_set ?_ GE125.out)|exact HB.out));(case side2=>exact Kd.R_tight rfl HO0_5.out);rintro e w11 ⟨rfl,hy0,hb,hkp⟩;refine ⟨_,rfl,?_⟩;have n0_:=aM_ (Kd.R_mono (ok':=fun k_=>((P0_4_ k_ ∨ P0_5_ k_) ∨ w.heap.size≤k_)∧some k_≠(.slice Ao6 l0_5.length co6:Value).ownBlock) (Kd.R_keptB (HO0_4.out) hkp (fun k_ hk_ hs_=>(hk_.2) hs_)) (fun k_ hk_=>⟨hk_.1.1,hk_.1.2⟩));have n1_:=aM_ (Kd.R_reok rfl hy0 (fun k_ e_=>HO0_5.out.1 k_ e_));have n2_:=aM_ (blk_kept (by (with_reducible repeat (first|apply kN_|apply kD_|apply kA_));exact BK125.out) hkp (fun hs_=>(fun e_=>(Kd.R_ne HO0_5.out BK125.out (by decide)) e_) hs_));have n3_:=aM_ (Kept.then_ (S:=(fun k_=>P0_4_ k_ ∨ P0_5_ k_)) (by repeat (first|(with_reducible first|exact HK.out|apply Kept.alloc|apply Kept.drewN|apply Kept.drew|refine Kept.setCell ?_ (.inr GW125.out) _)|exact HK.out)) hkp (fun k_ hs_=>(fun e_=>(HO0_5.out.1 k_ e_.symm).1) hs_));have n4_:=aM_ (hb);clear HO0_4;clear HO0_5;clear BK125;clear HK;clear HB;have HO0_4:=n0_;have HO0_5:=n1_;have BK125:=n2_;have HK:=n3_;have HB:=n4_;clear n0_ n1_ n2_ n3_ n4_;(try clear hb);(try clear hkp);(try clear hy0)))
 go_ret
 exact ⟨by first|rfl|(simp [errW_none,errW_some] <;> rfl)|(simp [*,errW_none,errW_some] <;> rfl),by (with_reducible repeat (first|apply rA_|apply rN_|apply rD_));exact Kd.R_mono HO0_4.out (fun _ hk=>hk.1),by (with_reducible repeat (first|apply rA_|apply rN_|apply rD_));exact Kd.R_mono HO0_5.out (fun _ hk=>hk.1),by repeat (first|(with_reducible first|exact HB.out|apply wA_|apply wN_|apply wD_|refine below_set ?_ GE125.out)|exact HB.out),by repeat (first|(with_reducible first|exact HK.out|apply Kept.alloc|apply Kept.drewN|apply Kept.drew|refine Kept.setCell ?_ (.inr GW125.out) _)|exact HK.out)⟩

/-! ### laws_heldIntS: function 60 -/
def laws_heldIntS.l0:Nat → List Int → Int → Int → Option (Int)
 | 0,_,_,_=>none
 | k+1,x0,x1,x5=>if x5 < (x0.length:Int) then (if 0≤x5 then (if (rd x0 x5)=x1 then (laws_heldIntS.l0 k x0 (wrap64 (x1+1)) (wrap64 (x5+1))) else (some (-1))) else (none)) else (some x1)
def laws_heldIntS.f (k:Nat) (l0:List Int) (a1:Int):Option (Int):=laws_heldIntS.l0 k l0 a1 0
theorem laws_heldIntS.mono_l:∀ k,(∀ y0 y1 y2,LeO (laws_heldIntS.l0 k y0 y1 y2) (laws_heldIntS.l0 (k+1) y0 y1 y2))
 | 0=>fun _ _ _ r h=>by simp [laws_heldIntS.l0] at h
 | k+1=>by
  have ih0:=laws_heldIntS.mono_l k
  ·intro y0 y1 y2
   unfold laws_heldIntS.l0
   repeat' first
   | (with_reducible exact ih0 _ _ _)
   | (with_reducible exact LeO.refl _)
   | (with_reducible exact LeO.none _)
   | (with_reducible refine LeO.ite ?_ ?_)
   | (with_reducible refine LeO.bind ?_ (fun _=>?_))
theorem laws_heldIntS.mono:∀ a0 a1 k,LeO (laws_heldIntS.f k a0 a1) (laws_heldIntS.f (k+1) a0 a1):=by
 intro a0 a1 k
 have ih0:=laws_heldIntS.mono_l k
 unfold laws_heldIntS.f
 repeat' first
   | (with_reducible exact ih0 _ _ _)
   | (with_reducible exact LeO.refl _)
   | (with_reducible exact LeO.none _)
   | (with_reducible refine LeO.ite ?_ ?_)
   | (with_reducible refine LeO.bind ?_ (fun _=>?_))
set_option maxHeartbeats 8000000 in
set_option maxRecDepth 100000 in
theorem laws_heldIntS.calls (k:Nat) (A0:Option Addr) (c0:Nat) (l0:List Int) (a1:Int) (r:Int) (w:World) (hr0:Kd.C (Kd.int .i64) w A0 l0.length l0) (hc0:l0.length≤c0) (h:laws_heldIntS.f k l0 a1=some r) :
  Calls Try.prog 60 #[.slice A0 l0.length c0,.int .i64 a1] w fun e w'=>e=.returned (.int .i64 r)∧Drawn0 w w':=by
 have HR0:=aM_ hr0
 have HC0:=aM_ hc0
 clear hr0 hc0
 have H:(laws_heldIntS.l0 k l0 a1 0)=some r:=h
 clear h
 have H':=aM_ H
 clear H
 go_enter Try.func60,Try.ntmps60
 go_wp2
 go_loopg [1,5] k (fun kq v1 v5 w'=>∃ (x1_1:Int) (x5_1:Int),v1=.int .i64 x1_1∧v5=.int .i64 x5_1∧Aside0 (laws_heldIntS.l0 kq l0 x1_1 x5_1=some r)∧Aside0 (kq≤k)∧Drawn0 w w')
 case atStart=>exact ⟨(a1),(0),(by first|rfl|(simp;done)|(simp [*];done)),(by first|rfl|(simp;done)|(simp [*];done)),H',⟨Nat.le_refl _⟩,by repeat (first|exact Drawn0.refl _|apply Drawn0.step)⟩
 case round =>
  clear H'
  try clear p2
  obtain ⟨x1_1,x5_1,rfl,rfl,HA,HK1,⟨m1,rfl⟩⟩:=hrel
  cases gk with
  | zero=>exact absurd HA.out (by simp [laws_heldIntS.l0])
  | succ k1 =>
   have H:=HA.out
   clear HA
   simp only [laws_heldIntS.l0] at H
   by_cases c3:x5_1 < (l0.length:Int)
   ·rw [if_pos c3] at H
    have c3b0:decide (x5_1 < (l0.length:Int))=true:=decide_eq_true c3
    clear c3
    by_cases c4:0≤x5_1
    ·rw [if_pos c4] at H
     have c4b0:decide (0≤x5_1)=true:=decide_eq_true c4
     clear c4
     by_cases c5:(rd l0 x5_1)=x1_1
     ·rw [if_pos c5] at H
      have c5b0:((rd l0 x5_1) == x1_1)=true:=beq_iff_eq.mpr c5
      have c5b1:((rd l0 x5_1) != x1_1)=false:=bne_eq_false_iff_eq.mpr c5
      clear c5
      have H':=aM_ H
      clear H
      have p130:0≤(x5_1:Int):=of_decide_eq_true (by first|(with_reducible assumption)|assumption)
      have q130:x5_1 < (l0.length:Int):=of_decide_eq_true (by first|(with_reducible assumption)|assumption)
      obtain ⟨ad130,e130,hx130_0⟩:=Kd.at_int HR0.out x5_1 p130 q130
      cases e130
      replace p130:=eq_true p130
      replace q130:=eq_true q130
      go_wp2
      go_roundg k1
      case measure=>have:=HK1.out;omega
      case rel=>exact ⟨(wrap64 (x1_1+1)),(wrap64 (x5_1+1)),(by first|rfl|(simp;done)|(simp [*];done)),(by first|rfl|(simp;done)|(simp [*];done)),H',⟨by have:=HK1.out;omega⟩,by repeat (first|exact Drawn0.refl _|apply Drawn0.step)⟩
     ·rw [if_neg c5] at H
      have c5b0:((rd l0 x5_1) == x1_1)=false:=beq_eq_false_iff_ne.mpr c5
      have c5b1:((rd l0 x5_1) != x1_1)=true:=bne_iff_ne.mpr c5
      obtain rfl:=Option.some.inj H
      have p130:0≤(x5_1:Int):=of_decide_eq_true (by first|(with_reducible assumption)|assumption)
      have q130:x5_1 < (l0.length:Int):=of_decide_eq_true (by first|(with_reducible assumption)|assumption)
      obtain ⟨ad130,e130,hx130_0⟩:=Kd.at_int HR0.out x5_1 p130 q130
      cases e130
      replace p130:=eq_true p130
      replace q130:=eq_true q130
      go_wp2
      go_ret
      exact ⟨by first|rfl|(simp;done)|(simp [*];done),by repeat (first|exact Drawn0.refl _|apply Drawn0.step)⟩
    ·rw [if_neg c4] at H
     exact absurd H (by simp)
   ·rw [if_neg c3] at H
    have c3b0:decide (x5_1 < (l0.length:Int))=false:=decide_eq_false c3
    clear c3
    obtain rfl:=Option.some.inj H
    go_wp2
    go_ret
    exact ⟨by first|rfl|(simp;done)|(simp [*];done),by repeat (first|exact Drawn0.refl _|apply Drawn0.step)⟩

/-! ### laws_heldImage: function 29 -/
def laws_heldImage.f (k:Nat) (a0_0:Int) (a0_1:Int) (a0_2:Int) (a0_3:Int) (l0_4:List Int) (l0_5:List Int) (a1:Int):Option (Int):=(laws_heldIntS.f k l0_4 a1).bind fun t132=>(if t132 < 0 then (some (-1)) else ((laws_heldIntS.f k l0_5 t132).bind fun t133=>(if t133 < 0 then (some (-1)) else (some t133))))
theorem laws_heldImage.mono:∀ a0 a1 a2 a3 a4 a5 a6 k,LeO (laws_heldImage.f k a0 a1 a2 a3 a4 a5 a6) (laws_heldImage.f (k+1) a0 a1 a2 a3 a4 a5 a6):=by
 intro a0 a1 a2 a3 a4 a5 a6 k
 unfold laws_heldImage.f
 repeat' first
   | (with_reducible exact laws_heldIntS.mono _ _ _)
   | (with_reducible exact LeO.refl _)
   | (with_reducible exact LeO.none _)
   | (with_reducible refine LeO.ite ?_ ?_)
   | (with_reducible refine LeO.bind ?_ (fun _=>?_))
set_option maxHeartbeats 8000000 in
set_option maxRecDepth 100000 in
theorem laws_heldImage.calls (k:Nat) (a0_0:Int) (a0_1:Int) (a0_2:Int) (a0_3:Int) (A0_4:Option Addr) (c0_4:Nat) (l0_4:List Int) (A0_5:Option Addr) (c0_5:Nat) (l0_5:List Int) (a1:Int) (r:Int) (w:World) (hr0_4:Kd.C (Kd.int .i64) w A0_4 l0_4.length l0_4) (hc0_4:l0_4.length≤c0_4) (hr0_5:Kd.C (Kd.int .i64) w A0_5 l0_5.length l0_5) (hc0_5:l0_5.length≤c0_5) (h:laws_heldImage.f k a0_0 a0_1 a0_2 a0_3 l0_4 l0_5 a1=some r) :
  Calls Try.prog 29 #[.agg #[.int .i64 a0_0,.int .i64 a0_1,.int .i64 a0_2,.int .i64 a0_3,.slice A0_4 l0_4.length c0_4,.slice A0_5 l0_5.length c0_5],.int .i64 a1] w fun e w'=>e=.returned (.int .i64 r)∧Below w.heap.size w w':=by
 have hu27:=Try.underlying27
 have HR0_4:=aM_ hr0_4
 have HC0_4:=aM_ hc0_4
 clear hr0_4 hc0_4
 have HR0_5:=aM_ hr0_5
 have HC0_5:=aM_ hc0_5
 clear hr0_5 hc0_5
 have HB:=aM_ (Below.refl w.heap.size w)
 have H:((laws_heldIntS.f k l0_4 a1).bind fun t132=>(if t132 < 0 then (some (-1)) else ((laws_heldIntS.f k l0_5 t132).bind fun t133=>(if t133 < 0 then (some (-1)) else (some t133)))))=some r:=h
 clear h
 replace H:=Option.bind_eq_some_iff.mp H
 obtain ⟨t132,A30,H⟩:=H
 replace H:(if t132 < 0 then (some (-1)) else ((laws_heldIntS.f k l0_5 t132).bind fun t133=>(if t133 < 0 then (some (-1)) else (some t133))))=some r:=H
 have A3:=aM_ A30
 clear A30
 by_cases c4:t132 < 0
 ·rw [if_pos c4] at H
  have c4b0:decide (t132 < 0)=true:=decide_eq_true c4
  clear c4
  obtain rfl:=Option.some.inj H
  go_enter Try.func29,Try.ntmps29
  go_wp2_with (first|((with_reducible refine gate_dst (N:=2) rfl ?_);refine box_event ?hg (N:=2) ?hd (cs:=#[.int .i64 a0_0,.int .i64 a0_1,.int .i64 a0_2,.int .i64 a0_3,.slice A0_4 l0_4.length c0_4,.slice A0_5 l0_5.length c0_5]) (t:=27) ?hr ?_;(case hd=>rfl);(case hg=>rfl);(case hr=>first|(go_simp;done)|(go_simp;rfl));intro gb131 hg w5 hbox hb;have n0_:=aM_ (below_step (by repeat (first|(with_reducible first|exact HB.out|apply wA_|apply wN_|apply wD_)|exact HB.out)) hb);have n1_:=aM_ (hbox);have n2_:=aM_ ((by rw [hg];exact (below_size (by repeat (first|(with_reducible first|exact HB.out|apply wA_|apply wN_|apply wD_)|exact HB.out))):w.heap.size≤gb131));have n3_:=aM_ ((by rw [hg];exact (below_size (by repeat (first|(with_reducible first|exact HB.out|apply wA_|apply wN_|apply wD_)|exact HB.out))):w.heap.size≤gb131));clear HB;have HB:=n0_;have BK131:=n1_;have GW131:=n2_;have GE131:=n3_;clear n0_ n1_ n2_ n3_;clear hb hbox hg;obtain ⟨hcz6_0,hcz6_1,hcz6_2,hcz6_3,hcz6_4,hcz6_5⟩:=bc6 BK131.out;obtain ⟨hfz6_0,hfz6_1,hfz6_2,hfz6_3,hfz6_4,hfz6_5⟩:=bf6 BK131.out)|((with_reducible refine gate_callee (f:=60) rfl ?_);refine goesL_ (some 8) rfl rfl Try.func60 (by kernel_rfl) rfl #[.slice A0_4 l0_4.length c0_4,.int .i64 a1] rfl (by (try simp only [List.map_toArray,List.map_cons,List.map_nil]);first|done|rfl|(simp only [List.length_drop,List.length_take];rfl)) ?_;(with_reducible refine (laws_heldIntS.calls k _ _ l0_4 a1 t132 _ ?side1 ?side2 A3.out).mono ?_);(case side1=>repeat (first|exact (Kd.C_below HR0_4.out HB.out)|(with_reducible refine Kd.C_alloc ?_ _)|(with_reducible refine Kd.C_drewN ?_ _)|(with_reducible refine Kd.C_drew ?_)));(case side2=>exact HC0_4.out);rintro e w' ⟨rfl,⟨nd,rfl⟩⟩;refine ⟨_,rfl,?_⟩))
  go_ret
  exact ⟨by first|rfl|(simp [errW_none,errW_some] <;> rfl)|(simp [*,errW_none,errW_some] <;> rfl),by repeat (first|(with_reducible first|exact HB.out|apply wA_|apply wN_|apply wD_|refine below_set ?_ GE131.out)|exact HB.out)⟩
 ·rw [if_neg c4] at H
  have c4b0:decide (t132 < 0)=false:=decide_eq_false c4
  clear c4
  replace H:=Option.bind_eq_some_iff.mp H
  obtain ⟨t133,A70,H⟩:=H
  replace H:(if t133 < 0 then (some (-1)) else (some t133))=some r:=H
  have A7:=aM_ A70
  clear A70
  by_cases c8:t133 < 0
  ·rw [if_pos c8] at H
   have c8b0:decide (t133 < 0)=true:=decide_eq_true c8
   clear c8
   obtain rfl:=Option.some.inj H
   go_enter Try.func29,Try.ntmps29
   go_wp2_with (first|((with_reducible refine gate_dst (N:=2) rfl ?_);refine box_event ?hg (N:=2) ?hd (cs:=#[.int .i64 a0_0,.int .i64 a0_1,.int .i64 a0_2,.int .i64 a0_3,.slice A0_4 l0_4.length c0_4,.slice A0_5 l0_5.length c0_5]) (t:=27) ?hr ?_;(case hd=>rfl);(case hg=>rfl);(case hr=>first|(go_simp;done)|(go_simp;rfl));intro gb131 hg w9 hbox hb;have n0_:=aM_ (below_step (by repeat (first|(with_reducible first|exact HB.out|apply wA_|apply wN_|apply wD_)|exact HB.out)) hb);have n1_:=aM_ (hbox);have n2_:=aM_ ((by rw [hg];exact (below_size (by repeat (first|(with_reducible first|exact HB.out|apply wA_|apply wN_|apply wD_)|exact HB.out))):w.heap.size≤gb131));have n3_:=aM_ ((by rw [hg];exact (below_size (by repeat (first|(with_reducible first|exact HB.out|apply wA_|apply wN_|apply wD_)|exact HB.out))):w.heap.size≤gb131));clear HB;have HB:=n0_;have BK131:=n1_;have GW131:=n2_;have GE131:=n3_;clear n0_ n1_ n2_ n3_;clear hb hbox hg;obtain ⟨hcz10_0,hcz10_1,hcz10_2,hcz10_3,hcz10_4,hcz10_5⟩:=bc6 BK131.out;obtain ⟨hfz10_0,hfz10_1,hfz10_2,hfz10_3,hfz10_4,hfz10_5⟩:=bf6 BK131.out)|((with_reducible refine gate_callee (f:=60) rfl ?_);refine goesL_ (some 8) rfl rfl Try.func60 (by kernel_rfl) rfl #[.slice A0_4 l0_4.length c0_4,.int .i64 a1] rfl (by (try simp only [List.map_toArray,List.map_cons,List.map_nil]);first|done|rfl|(simp only [List.length_drop,List.length_take];rfl)) ?_;(with_reducible refine (laws_heldIntS.calls k _ _ l0_4 a1 t132 _ ?side1 ?side2 A3.out).mono ?_);(case side1=>repeat (first|exact (Kd.C_below HR0_4.out HB.out)|(with_reducible refine Kd.C_alloc ?_ _)|(with_reducible refine Kd.C_drewN ?_ _)|(with_reducible refine Kd.C_drew ?_)));(case side2=>exact HC0_4.out);rintro e w' ⟨rfl,⟨nd,rfl⟩⟩;refine ⟨_,rfl,?_⟩)|((with_reducible refine gate_callee (f:=60) rfl ?_);refine goesL_ (some 14) rfl rfl Try.func60 (by kernel_rfl) rfl #[.slice A0_5 l0_5.length c0_5,.int .i64 t132] rfl (by (try simp only [List.map_toArray,List.map_cons,List.map_nil]);first|done|rfl|(simp only [List.length_drop,List.length_take];rfl)) ?_;(with_reducible refine (laws_heldIntS.calls k _ _ l0_5 t132 t133 _ ?side1 ?side2 A7.out).mono ?_);(case side1=>repeat (first|exact (Kd.C_below HR0_5.out (by repeat (first|(with_reducible first|exact HB.out|apply wA_|apply wN_|apply wD_|refine below_set ?_ GE131.out)|exact HB.out)))|(with_reducible refine Kd.C_alloc ?_ _)|(with_reducible refine Kd.C_drewN ?_ _)|(with_reducible refine Kd.C_drew ?_)));(case side2=>exact HC0_5.out);rintro e w' ⟨rfl,⟨nd,rfl⟩⟩;refine ⟨_,rfl,?_⟩))
   go_ret
   exact ⟨by first|rfl|(simp [errW_none,errW_some] <;> rfl)|(simp [*,errW_none,errW_some] <;> rfl),by repeat (first|(with_reducible first|exact HB.out|apply wA_|apply wN_|apply wD_|refine below_set ?_ GE131.out)|exact HB.out)⟩
  ·rw [if_neg c8] at H
   have c8b0:decide (t133 < 0)=false:=decide_eq_false c8
   clear c8
   obtain rfl:=Option.some.inj H
   go_enter Try.func29,Try.ntmps29
   go_wp2_with (first|((with_reducible refine gate_dst (N:=2) rfl ?_);refine box_event ?hg (N:=2) ?hd (cs:=#[.int .i64 a0_0,.int .i64 a0_1,.int .i64 a0_2,.int .i64 a0_3,.slice A0_4 l0_4.length c0_4,.slice A0_5 l0_5.length c0_5]) (t:=27) ?hr ?_;(case hd=>rfl);(case hg=>rfl);(case hr=>first|(go_simp;done)|(go_simp;rfl));intro gb131 hg w11 hbox hb;have n0_:=aM_ (below_step (by repeat (first|(with_reducible first|exact HB.out|apply wA_|apply wN_|apply wD_)|exact HB.out)) hb);have n1_:=aM_ (hbox);have n2_:=aM_ ((by rw [hg];exact (below_size (by repeat (first|(with_reducible first|exact HB.out|apply wA_|apply wN_|apply wD_)|exact HB.out))):w.heap.size≤gb131));have n3_:=aM_ ((by rw [hg];exact (below_size (by repeat (first|(with_reducible first|exact HB.out|apply wA_|apply wN_|apply wD_)|exact HB.out))):w.heap.size≤gb131));clear HB;have HB:=n0_;have BK131:=n1_;have GW131:=n2_;have GE131:=n3_;clear n0_ n1_ n2_ n3_;clear hb hbox hg;obtain ⟨hcz12_0,hcz12_1,hcz12_2,hcz12_3,hcz12_4,hcz12_5⟩:=bc6 BK131.out;obtain ⟨hfz12_0,hfz12_1,hfz12_2,hfz12_3,hfz12_4,hfz12_5⟩:=bf6 BK131.out)|((with_reducible refine gate_callee (f:=60) rfl ?_);refine goesL_ (some 8) rfl rfl Try.func60 (by kernel_rfl) rfl #[.slice A0_4 l0_4.length c0_4,.int .i64 a1] rfl (by (try simp only [List.map_toArray,List.map_cons,List.map_nil]);first|done|rfl|(simp only [List.length_drop,List.length_take];rfl)) ?_;(with_reducible refine (laws_heldIntS.calls k _ _ l0_4 a1 t132 _ ?side1 ?side2 A3.out).mono ?_);(case side1=>repeat (first|exact (Kd.C_below HR0_4.out HB.out)|(with_reducible refine Kd.C_alloc ?_ _)|(with_reducible refine Kd.C_drewN ?_ _)|(with_reducible refine Kd.C_drew ?_)));(case side2=>exact HC0_4.out);rintro e w' ⟨rfl,⟨nd,rfl⟩⟩;refine ⟨_,rfl,?_⟩)|((with_reducible refine gate_callee (f:=60) rfl ?_);refine goesL_ (some 14) rfl rfl Try.func60 (by kernel_rfl) rfl #[.slice A0_5 l0_5.length c0_5,.int .i64 t132] rfl (by (try simp only [List.map_toArray,List.map_cons,List.map_nil]);first|done|rfl|(simp only [List.length_drop,List.length_take];rfl)) ?_;(with_reducible refine (laws_heldIntS.calls k _ _ l0_5 t132 t133 _ ?side1 ?side2 A7.out).mono ?_);(case side1=>repeat (first|exact (Kd.C_below HR0_5.out (by repeat (first|(with_reducible first|exact HB.out|apply wA_|apply wN_|apply wD_|refine below_set ?_ GE131.out)|exact HB.out)))|(with_reducible refine Kd.C_alloc ?_ _)|(with_reducible refine Kd.C_drewN ?_ _)|(with_reducible refine Kd.C_drew ?_)));(case side2=>exact HC0_5.out);rintro e w' ⟨rfl,⟨nd,rfl⟩⟩;refine ⟨_,rfl,?_⟩))
   go_ret
   exact ⟨by first|rfl|(simp [errW_none,errW_some] <;> rfl)|(simp [*,errW_none,errW_some] <;> rfl),by repeat (first|(with_reducible first|exact HB.out|apply wA_|apply wN_|apply wD_|refine below_set ?_ GE131.out)|exact HB.out)⟩

end Go.Proofs.Ytkjfefiphdloiaa.PFnExactImageCut
