/- What the functions that the law comes to compute, as plain functions, and that the machine's calls come to just that: written by a program for this claim, and turned where Lean did not take it. No condition. -/
import Derived.Test.YtagbmaapahhmpaaHFnImagePalx0
namespace Go.Proofs.Ytagbmaapahhmpaa.PFnImagePal
open Go.RowKit Go.Proofs.YtagbmaapahhmpaaW.PrintWords Go.Proofs.YtagbmaapahhmpaaW.PrintLast Go.Proofs.YtagbmaapahhmpaaW.PrintMore
attribute [local go_sem] max2_int min2_int max_two min_two max_three min_three max_four min_four   -- for this text's walks alone
set_option linter.unusedVariables false
set_option linter.unusedSimpArgs false

/-! ### laws_wiInts: function 23 -/
def laws_wiInts.l0:Nat → List Int → List Int → Int → Option (Bool)
 | 0,_,_,_=>none
 | k+1,x0,x1,x5=>if x5 < (x0.length:Int) then (if 0≤x5 then (if x5 < (x1.length:Int) then (if (rd x0 x5)=(rd x1 x5) then (laws_wiInts.l0 k x0 x1 (wrap64 (x5+1))) else (some false)) else (none)) else (none)) else (some true)
def laws_wiInts.f (k:Nat) (l0:List Int) (l1:List Int):Option (Bool):=if (l0.length:Int)=(l1.length:Int) then (laws_wiInts.l0 k l0 l1 0) else (some false)
theorem laws_wiInts.mono_l:∀ k,(∀ y0 y1 y2,LeO (laws_wiInts.l0 k y0 y1 y2) (laws_wiInts.l0 (k+1) y0 y1 y2))
 | 0=>fun _ _ _ r h=>by simp [laws_wiInts.l0] at h
 | k+1=>by
  have ih0:=laws_wiInts.mono_l k
  ·intro y0 y1 y2
   unfold laws_wiInts.l0
   repeat' first
   | (with_reducible exact ih0 _ _ _)
   | (with_reducible exact LeO.refl _)
   | (with_reducible exact LeO.none _)
   | (with_reducible refine LeO.ite ?_ ?_)
   | (with_reducible refine LeO.bind ?_ (fun _=>?_))
theorem laws_wiInts.mono:∀ a0 a1 k,LeO (laws_wiInts.f k a0 a1) (laws_wiInts.f (k+1) a0 a1):=by
 intro a0 a1 k;have ih0:=laws_wiInts.mono_l k
 unfold laws_wiInts.f
 repeat' first
   | (with_reducible exact ih0 _ _ _)
   | (with_reducible exact LeO.refl _)
   | (with_reducible exact LeO.none _)
   | (with_reducible refine LeO.ite ?_ ?_)
   | (with_reducible refine LeO.bind ?_ (fun _=>?_))
set_option maxHeartbeats 8000000 in
set_option maxRecDepth 100000 in
theorem laws_wiInts.calls (k:Nat) (A0:Option Addr) (c0:Nat) (l0:List Int) (A1:Option Addr) (c1:Nat) (l1:List Int) (r:Bool) (w:World) (hr0:Kd.C (Kd.int .i64) w A0 l0.length l0) (hc0:l0.length≤c0) (hr1:Kd.C (Kd.int .i64) w A1 l1.length l1) (hc1:l1.length≤c1) (h:laws_wiInts.f k l0 l1=some r) :
  Calls Try.prog 23 #[.slice A0 l0.length c0,.slice A1 l1.length c1] w fun e w'=>e=.returned (.bool r)∧Drawn0 w w':=by
 have HR0:=aM_ hr0;have HC0:=aM_ hc0;clear hr0 hc0;have HR1:=aM_ hr1;have HC1:=aM_ hc1;clear hr1 hc1;have H:(if (l0.length:Int)=(l1.length:Int) then (laws_wiInts.l0 k l0 l1 0) else (some false))=some r:=h;clear h
 by_cases c3:(l0.length:Int)=(l1.length:Int)
 ·rw [if_pos c3] at H;have c3b0:((l0.length:Int) == (l1.length:Int))=true:=beq_iff_eq.mpr c3;have c3b1:((l0.length:Int) != (l1.length:Int))=false:=bne_eq_false_iff_eq.mpr c3
  have c3b2:(l0.length == l1.length)=true:=by first|simpa using c3|(simp at c3 ⊢;omega)
  clear c3;have H':=aM_ H;clear H
  go_enter Try.func23,Try.ntmps23
  go_wp2
  repeat (go_quiet (fail);try go_wp2)
  go_loopg [5] k (fun kq v5 w'=>∃ (x5_1:Int),v5=.int .i64 x5_1∧Aside0 (laws_wiInts.l0 kq l0 l1 x5_1=some r)∧Aside0 (kq≤k)∧Drawn0 w w')
  case atStart=>exact ⟨(0),(by first|rfl|(simp;done)|(simp [*];done)),H',⟨Nat.le_refl _⟩,by repeat (first|exact Drawn0.refl _|apply Drawn0.step)⟩
  case round =>
   clear H';(try clear c1);(try clear c2);(try clear p2);(try clear c3);(try clear c3b0);(try clear c3b1);(try clear c3b2);obtain ⟨x5_1,rfl,HA,HK1,⟨m1,rfl⟩⟩:=hrel
   cases gk with
   | zero=>exact absurd HA.out (by simp [laws_wiInts.l0])
   | succ k1 =>
    have H:=HA.out;clear HA;simp only [laws_wiInts.l0] at H
    by_cases c4:x5_1 < (l0.length:Int)
    ·rw [if_pos c4] at H;have c4b0:decide (x5_1 < (l0.length:Int))=true:=decide_eq_true c4;clear c4
     by_cases c5:0≤x5_1
     ·rw [if_pos c5] at H;have c5b0:decide (0≤x5_1)=true:=decide_eq_true c5;clear c5
      by_cases c6:x5_1 < (l1.length:Int)
      ·rw [if_pos c6] at H;have c6b0:decide (x5_1 < (l1.length:Int))=true:=decide_eq_true c6;clear c6
       by_cases c7:(rd l0 x5_1)=(rd l1 x5_1)
       ·rw [if_pos c7] at H;have c7b0:((rd l0 x5_1) == (rd l1 x5_1))=true:=beq_iff_eq.mpr c7;have c7b1:((rd l0 x5_1) != (rd l1 x5_1))=false:=bne_eq_false_iff_eq.mpr c7;clear c7;have H':=aM_ H;clear H;have p374:0≤(x5_1:Int):=of_decide_eq_true (by first|(with_reducible assumption)|assumption);have q374:x5_1 < (l0.length:Int):=of_decide_eq_true (by first|(with_reducible assumption)|assumption);obtain ⟨ad374,e374,hx374_0⟩:=Kd.at_int HR0.out x5_1 p374 q374;cases e374;replace p374:=eq_true p374;replace q374:=eq_true q374;have p375:0≤(x5_1:Int):=of_decide_eq_true (by first|(with_reducible assumption)|assumption);have q375:x5_1 < (l1.length:Int):=of_decide_eq_true (by first|(with_reducible assumption)|assumption);obtain ⟨ad375,e375,hx375_0⟩:=Kd.at_int HR1.out x5_1 p375 q375;cases e375;replace p375:=eq_true p375;replace q375:=eq_true q375;go_wp2
        repeat (go_quiet (fail);try go_wp2)
        go_roundg k1
        case measure=>have:=HK1.out;omega
        case rel=>exact ⟨(wrap64 (x5_1+1)),(by first|rfl|(simp;done)|(simp [*];done)),H',⟨by have:=HK1.out;omega⟩,by repeat (first|exact Drawn0.refl _|apply Drawn0.step)⟩
       ·rw [if_neg c7] at H;have c7b0:((rd l0 x5_1) == (rd l1 x5_1))=false:=beq_eq_false_iff_ne.mpr c7;have c7b1:((rd l0 x5_1) != (rd l1 x5_1))=true:=bne_iff_ne.mpr c7;obtain rfl:=Option.some.inj H;have p374:0≤(x5_1:Int):=of_decide_eq_true (by first|(with_reducible assumption)|assumption);have q374:x5_1 < (l0.length:Int):=of_decide_eq_true (by first|(with_reducible assumption)|assumption);obtain ⟨ad374,e374,hx374_0⟩:=Kd.at_int HR0.out x5_1 p374 q374;cases e374;replace p374:=eq_true p374;replace q374:=eq_true q374;have p375:0≤(x5_1:Int):=of_decide_eq_true (by first|(with_reducible assumption)|assumption);have q375:x5_1 < (l1.length:Int):=of_decide_eq_true (by first|(with_reducible assumption)|assumption);obtain ⟨ad375,e375,hx375_0⟩:=Kd.at_int HR1.out x5_1 p375 q375;cases e375;replace p375:=eq_true p375;replace q375:=eq_true q375;go_wp2
        repeat (go_quiet (fail);try go_wp2)
        go_ret
        exact ⟨by first|rfl|(simp;done)|(simp [*];done),by repeat (first|exact Drawn0.refl _|apply Drawn0.step)⟩
      ·rw [if_neg c6] at H;exact absurd H (by simp)
     ·rw [if_neg c5] at H;exact absurd H (by simp)
    ·rw [if_neg c4] at H;have c4b0:decide (x5_1 < (l0.length:Int))=false:=decide_eq_false c4;clear c4;obtain rfl:=Option.some.inj H;go_wp2
     repeat (go_quiet (fail);try go_wp2)
     go_ret
     exact ⟨by first|rfl|(simp;done)|(simp [*];done),by repeat (first|exact Drawn0.refl _|apply Drawn0.step)⟩
 ·rw [if_neg c3] at H;have c3b0:((l0.length:Int) == (l1.length:Int))=false:=beq_eq_false_iff_ne.mpr c3;have c3b1:((l0.length:Int) != (l1.length:Int))=true:=bne_iff_ne.mpr c3
  have c3b2:(l0.length == l1.length)=false:=by first|simpa using c3|(simp at c3 ⊢;omega)
  obtain rfl:=Option.some.inj H
  go_enter Try.func23,Try.ntmps23
  go_wp2
  repeat (go_quiet (fail);try go_wp2)
  go_ret
  exact ⟨by first|rfl|(simp;done)|(simp [*];done),by repeat (first|exact Drawn0.refl _|apply Drawn0.step)⟩

/-! ### laws_wiImage: function 8 -/
def laws_wiImage.f (k:Nat) (a0_0:Int) (a0_1:Int) (a0_2:Int) (a0_3:Int) (l0_4:List Int) (l0_5:List Int) (a1_0:Int) (a1_1:Int) (a1_2:Int) (a1_3:Int) (l1_4:List Int) (l1_5:List Int):Option (Bool):=if a0_0=a1_0 then (if a0_1=a1_1 then (if a0_2=a1_2 then (if a0_3=a1_3 then ((laws_wiInts.f k l0_4 l1_4).bind fun t378=>(if t378=true then ((laws_wiInts.f k l0_5 l1_5).bind fun t379=>(some t379)) else (some false))) else (some false)) else (some false)) else (some false)) else (some false)
theorem laws_wiImage.mono:∀ a0 a1 a2 a3 a4 a5 a6 a7 a8 a9 a10 a11 k,LeO (laws_wiImage.f k a0 a1 a2 a3 a4 a5 a6 a7 a8 a9 a10 a11) (laws_wiImage.f (k+1) a0 a1 a2 a3 a4 a5 a6 a7 a8 a9 a10 a11):=by
 intro a0 a1 a2 a3 a4 a5 a6 a7 a8 a9 a10 a11 k
 unfold laws_wiImage.f
 repeat' first
   | (with_reducible exact laws_wiInts.mono _ _ _)
   | (with_reducible exact LeO.refl _)
   | (with_reducible exact LeO.none _)
   | (with_reducible refine LeO.ite ?_ ?_)
   | (with_reducible refine LeO.bind ?_ (fun _=>?_))
set_option maxHeartbeats 8000000 in
set_option maxRecDepth 100000 in
theorem laws_wiImage.calls (k:Nat) (a0_0:Int) (a0_1:Int) (a0_2:Int) (a0_3:Int) (A0_4:Option Addr) (c0_4:Nat) (l0_4:List Int) (A0_5:Option Addr) (c0_5:Nat) (l0_5:List Int) (a1_0:Int) (a1_1:Int) (a1_2:Int) (a1_3:Int) (A1_4:Option Addr) (c1_4:Nat) (l1_4:List Int) (A1_5:Option Addr) (c1_5:Nat) (l1_5:List Int) (r:Bool) (w:World) (hr0_4:Kd.C (Kd.int .i64) w A0_4 l0_4.length l0_4) (hc0_4:l0_4.length≤c0_4) (hr0_5:Kd.C (Kd.int .i64) w A0_5 l0_5.length l0_5) (hc0_5:l0_5.length≤c0_5) (hr1_4:Kd.C (Kd.int .i64) w A1_4 l1_4.length l1_4) (hc1_4:l1_4.length≤c1_4) (hr1_5:Kd.C (Kd.int .i64) w A1_5 l1_5.length l1_5) (hc1_5:l1_5.length≤c1_5) (h:laws_wiImage.f k a0_0 a0_1 a0_2 a0_3 l0_4 l0_5 a1_0 a1_1 a1_2 a1_3 l1_4 l1_5=some r) :
  Calls Try.prog 8 #[.agg #[.int .i64 a0_0,.int .i64 a0_1,.int .i64 a0_2,.int .i64 a0_3,.slice A0_4 l0_4.length c0_4,.slice A0_5 l0_5.length c0_5],.agg #[.int .i64 a1_0,.int .i64 a1_1,.int .i64 a1_2,.int .i64 a1_3,.slice A1_4 l1_4.length c1_4,.slice A1_5 l1_5.length c1_5]] w fun e w'=>e=.returned (.bool r)∧Below w.heap.size w w':=by
 have hu25:=Try.underlying25;have HR0_4:=aM_ hr0_4;have HC0_4:=aM_ hc0_4;clear hr0_4 hc0_4;have HR0_5:=aM_ hr0_5;have HC0_5:=aM_ hc0_5;clear hr0_5 hc0_5;have HR1_4:=aM_ hr1_4;have HC1_4:=aM_ hc1_4;clear hr1_4 hc1_4;have HR1_5:=aM_ hr1_5;have HC1_5:=aM_ hc1_5;clear hr1_5 hc1_5;have HB:=aM_ (Below.refl w.heap.size w);have H:(if a0_0=a1_0 then (if a0_1=a1_1 then (if a0_2=a1_2 then (if a0_3=a1_3 then ((laws_wiInts.f k l0_4 l1_4).bind fun t378=>(if t378=true then ((laws_wiInts.f k l0_5 l1_5).bind fun t379=>(some t379)) else (some false))) else (some false)) else (some false)) else (some false)) else (some false))=some r:=h;clear h
 by_cases c3:a0_0=a1_0
 ·rw [if_pos c3] at H;have c3b0:(a0_0 == a1_0)=true:=beq_iff_eq.mpr c3;have c3b1:(a0_0 != a1_0)=false:=bne_eq_false_iff_eq.mpr c3;clear c3
  by_cases c4:a0_1=a1_1
  ·rw [if_pos c4] at H;have c4b0:(a0_1 == a1_1)=true:=beq_iff_eq.mpr c4;have c4b1:(a0_1 != a1_1)=false:=bne_eq_false_iff_eq.mpr c4;clear c4
   by_cases c5:a0_2=a1_2
   ·rw [if_pos c5] at H;have c5b0:(a0_2 == a1_2)=true:=beq_iff_eq.mpr c5;have c5b1:(a0_2 != a1_2)=false:=bne_eq_false_iff_eq.mpr c5;clear c5
    by_cases c6:a0_3=a1_3
    ·rw [if_pos c6] at H;have c6b0:(a0_3 == a1_3)=true:=beq_iff_eq.mpr c6;have c6b1:(a0_3 != a1_3)=false:=bne_eq_false_iff_eq.mpr c6;clear c6;replace H:=Option.bind_eq_some_iff.mp H;obtain ⟨t378,A70,H⟩:=H;(try dsimp only at H);have A7:=aM_ A70;clear A70
     by_cases c8:t378=true
     ·subst c8
      have H1:((laws_wiInts.f k l0_5 l1_5).bind fun t379=>(some t379))=some r:=by first|(rw [if_pos rfl] at H;exact H)|rfl
      clear H;have H:=H1;clear H1;replace H:=Option.bind_eq_some_iff.mp H;obtain ⟨t379,A90,H⟩:=H;(try dsimp only at H);have A9:=aM_ A90;clear A90;obtain rfl:=Option.some.inj H
      go_enter Try.func8,Try.ntmps8
      go_wp2_with (first|((with_reducible refine gate_dst (N:=2) rfl ?_);refine box_event ?hg (N:=2) ?hd (cs:=#[.int .i64 a0_0,.int .i64 a0_1,.int .i64 a0_2,.int .i64 a0_3,.slice A0_4 l0_4.length c0_4,.slice A0_5 l0_5.length c0_5]) (t:=25) ?hr ?_;(case hd=>rfl);(case hg=>rfl);(case hr=>first|(go_simp;done)|(go_simp;rfl));intro gb376 hg w10 hbox hb;have n0_:=aM_ (below_step (hb_ HB) hb);have n1_:=aM_ (hbox);have n2_:=aM_ ((by rw [hg];exact (below_size (hb_ HB)):w.heap.size≤gb376));have n3_:=aM_ ((by rw [hg];exact (below_size (hb_ HB)):w.heap.size≤gb376));clear HB;have HB:=n0_;have BK376:=n1_;have GW376:=n2_;have GE376:=n3_;clear n0_ n1_ n2_ n3_;clear hb hbox hg)|((with_reducible refine gate_dst (N:=3) rfl ?_);refine box_event ?hg (N:=3) ?hd (cs:=#[.int .i64 a1_0,.int .i64 a1_1,.int .i64 a1_2,.int .i64 a1_3,.slice A1_4 l1_4.length c1_4,.slice A1_5 l1_5.length c1_5]) (t:=25) ?hr ?_;(case hd=>rfl);(case hg=>rfl);(case hr=>first|(go_simp;done)|(go_simp;rfl));intro gb377 hg w11 hbox hb;have n0_:=aM_ (blk_below (g:=gb376) (bk_ BK376) hb);have n1_:=aM_ (below_step (hs_ HB GE376.out) hb);have n2_:=aM_ (hbox);have n3_:=aM_ ((by rw [hg];exact (below_size (hs_ HB GE376.out)):w.heap.size≤gb377));have n4_:=aM_ ((by rw [hg];exact (below_size (hs_ HB GE376.out)):w.heap.size≤gb377));have n5_:=aM_ ((by rw [hg];exact Nat.ne_of_lt (blk_lt (g:=gb376) (bk_ BK376)):gb376≠gb377));have n6_:=aM_ n5_.out.symm;clear BK376;clear HB;have BK376:=n0_;have HB:=n1_;have BK377:=n2_;have GW377:=n3_;have GE377:=n4_;have NB376_377:=n5_;have NB377_376:=n6_;clear n0_ n1_ n2_ n3_ n4_ n5_ n6_;clear hb hbox hg;have hnb12:=NB376_377.out;have hnc12:=NB377_376.out;obtain ⟨hcz13_0,hcz13_1,hcz13_2,hcz13_3,hcz13_4,hcz13_5⟩:=bc6 BK376.out;obtain ⟨hfz13_0,hfz13_1,hfz13_2,hfz13_3,hfz13_4,hfz13_5⟩:=bf6 BK376.out;obtain ⟨hcz14_0,hcz14_1,hcz14_2,hcz14_3,hcz14_4,hcz14_5⟩:=bc6 BK377.out;obtain ⟨hfz14_0,hfz14_1,hfz14_2,hfz14_3,hfz14_4,hfz14_5⟩:=bf6 BK377.out)|(go_at_call 23;(with_reducible refine (laws_wiInts.calls k _ _ l0_4 _ _ l1_4 true _ ?side1 ?side2 ?side3 ?side4 A7.out).mono ?_);(case side1=>repeat (first|exact (Kd.C_below HR0_4.out HB.out)|(with_reducible refine Kd.C_alloc ?_ _)|(with_reducible refine Kd.C_drewN ?_ _)|(with_reducible refine Kd.C_drew ?_)));(case side2=>exact HC0_4.out);(case side3=>repeat (first|exact (Kd.C_below HR1_4.out HB.out)|(with_reducible refine Kd.C_alloc ?_ _)|(with_reducible refine Kd.C_drewN ?_ _)|(with_reducible refine Kd.C_drew ?_)));(case side4=>exact HC1_4.out);rintro e w' ⟨rfl,⟨nd,rfl⟩⟩)|(go_at_call 23;(with_reducible refine (laws_wiInts.calls k _ _ l0_5 _ _ l1_5 t379 _ ?side1 ?side2 ?side3 ?side4 A9.out).mono ?_);(case side1=>repeat (first|exact (Kd.C_below HR0_5.out (ht_ HB GE376.out GE377.out))|(with_reducible refine Kd.C_alloc ?_ _)|(with_reducible refine Kd.C_drewN ?_ _)|(with_reducible refine Kd.C_drew ?_)));(case side2=>exact HC0_5.out);(case side3=>repeat (first|exact (Kd.C_below HR1_5.out (ht_ HB GE376.out GE377.out))|(with_reducible refine Kd.C_alloc ?_ _)|(with_reducible refine Kd.C_drewN ?_ _)|(with_reducible refine Kd.C_drew ?_)));(case side4=>exact HC1_5.out);rintro e w' ⟨rfl,⟨nd,rfl⟩⟩))
      go_ret
      exact ⟨by first|rfl|(simp [errW_none,errW_some] <;> rfl)|(simp [*,errW_none,errW_some] <;> rfl),by repeat (first|(with_reducible first|exact HB.out|apply wA_|apply wN_|apply wD_|refine below_set ?_ GE376.out|refine below_set ?_ GE377.out)|exact HB.out)⟩
     ·replace c8:=Bool.eq_false_iff.mpr c8;subst c8
      have H1:(some false)=some r:=by first|(rw [if_neg (show ¬ (false=true) by decide)] at H;exact H)|rfl
      clear H;have H:=H1;clear H1;obtain rfl:=Option.some.inj H
      go_enter Try.func8,Try.ntmps8
      go_wp2_with (first|((with_reducible refine gate_dst (N:=2) rfl ?_);refine box_event ?hg (N:=2) ?hd (cs:=#[.int .i64 a0_0,.int .i64 a0_1,.int .i64 a0_2,.int .i64 a0_3,.slice A0_4 l0_4.length c0_4,.slice A0_5 l0_5.length c0_5]) (t:=25) ?hr ?_;(case hd=>rfl);(case hg=>rfl);(case hr=>first|(go_simp;done)|(go_simp;rfl));intro gb376 hg w15 hbox hb;have n0_:=aM_ (below_step (hb_ HB) hb);have n1_:=aM_ (hbox);have n2_:=aM_ ((by rw [hg];exact (below_size (hb_ HB)):w.heap.size≤gb376));have n3_:=aM_ ((by rw [hg];exact (below_size (hb_ HB)):w.heap.size≤gb376));clear HB;have HB:=n0_;have BK376:=n1_;have GW376:=n2_;have GE376:=n3_;clear n0_ n1_ n2_ n3_;clear hb hbox hg)|((with_reducible refine gate_dst (N:=3) rfl ?_);refine box_event ?hg (N:=3) ?hd (cs:=#[.int .i64 a1_0,.int .i64 a1_1,.int .i64 a1_2,.int .i64 a1_3,.slice A1_4 l1_4.length c1_4,.slice A1_5 l1_5.length c1_5]) (t:=25) ?hr ?_;(case hd=>rfl);(case hg=>rfl);(case hr=>first|(go_simp;done)|(go_simp;rfl));intro gb377 hg w16 hbox hb;have n0_:=aM_ (blk_below (g:=gb376) (bk_ BK376) hb);have n1_:=aM_ (below_step (hs_ HB GE376.out) hb);have n2_:=aM_ (hbox);have n3_:=aM_ ((by rw [hg];exact (below_size (hs_ HB GE376.out)):w.heap.size≤gb377));have n4_:=aM_ ((by rw [hg];exact (below_size (hs_ HB GE376.out)):w.heap.size≤gb377));have n5_:=aM_ ((by rw [hg];exact Nat.ne_of_lt (blk_lt (g:=gb376) (bk_ BK376)):gb376≠gb377));have n6_:=aM_ n5_.out.symm;clear BK376;clear HB;have BK376:=n0_;have HB:=n1_;have BK377:=n2_;have GW377:=n3_;have GE377:=n4_;have NB376_377:=n5_;have NB377_376:=n6_;clear n0_ n1_ n2_ n3_ n4_ n5_ n6_;clear hb hbox hg;have hnb17:=NB376_377.out;have hnc17:=NB377_376.out;obtain ⟨hcz18_0,hcz18_1,hcz18_2,hcz18_3,hcz18_4,hcz18_5⟩:=bc6 BK376.out;obtain ⟨hfz18_0,hfz18_1,hfz18_2,hfz18_3,hfz18_4,hfz18_5⟩:=bf6 BK376.out;obtain ⟨hcz19_0,hcz19_1,hcz19_2,hcz19_3,hcz19_4,hcz19_5⟩:=bc6 BK377.out;obtain ⟨hfz19_0,hfz19_1,hfz19_2,hfz19_3,hfz19_4,hfz19_5⟩:=bf6 BK377.out)|(go_at_call 23;(with_reducible refine (laws_wiInts.calls k _ _ l0_4 _ _ l1_4 false _ ?side1 ?side2 ?side3 ?side4 A7.out).mono ?_);(case side1=>repeat (first|exact (Kd.C_below HR0_4.out HB.out)|(with_reducible refine Kd.C_alloc ?_ _)|(with_reducible refine Kd.C_drewN ?_ _)|(with_reducible refine Kd.C_drew ?_)));(case side2=>exact HC0_4.out);(case side3=>repeat (first|exact (Kd.C_below HR1_4.out HB.out)|(with_reducible refine Kd.C_alloc ?_ _)|(with_reducible refine Kd.C_drewN ?_ _)|(with_reducible refine Kd.C_drew ?_)));(case side4=>exact HC1_4.out);rintro e w' ⟨rfl,⟨nd,rfl⟩⟩))
      go_ret
      exact ⟨by first|rfl|(simp [errW_none,errW_some] <;> rfl)|(simp [*,errW_none,errW_some] <;> rfl),by repeat (first|(with_reducible first|exact HB.out|apply wA_|apply wN_|apply wD_|refine below_set ?_ GE376.out|refine below_set ?_ GE377.out)|exact HB.out)⟩
    ·rw [if_neg c6] at H;have c6b0:(a0_3 == a1_3)=false:=beq_eq_false_iff_ne.mpr c6;have c6b1:(a0_3 != a1_3)=true:=bne_iff_ne.mpr c6;obtain rfl:=Option.some.inj H
     go_enter Try.func8,Try.ntmps8
     go_wp2_with (first|((with_reducible refine gate_dst (N:=2) rfl ?_);refine box_event ?hg (N:=2) ?hd (cs:=#[.int .i64 a0_0,.int .i64 a0_1,.int .i64 a0_2,.int .i64 a0_3,.slice A0_4 l0_4.length c0_4,.slice A0_5 l0_5.length c0_5]) (t:=25) ?hr ?_;(case hd=>rfl);(case hg=>rfl);(case hr=>first|(go_simp;done)|(go_simp;rfl));intro gb376 hg w20 hbox hb;have n0_:=aM_ (below_step (hb_ HB) hb);have n1_:=aM_ (hbox);have n2_:=aM_ ((by rw [hg];exact (below_size (hb_ HB)):w.heap.size≤gb376));have n3_:=aM_ ((by rw [hg];exact (below_size (hb_ HB)):w.heap.size≤gb376));clear HB;have HB:=n0_;have BK376:=n1_;have GW376:=n2_;have GE376:=n3_;clear n0_ n1_ n2_ n3_;clear hb hbox hg)|((with_reducible refine gate_dst (N:=3) rfl ?_);refine box_event ?hg (N:=3) ?hd (cs:=#[.int .i64 a1_0,.int .i64 a1_1,.int .i64 a1_2,.int .i64 a1_3,.slice A1_4 l1_4.length c1_4,.slice A1_5 l1_5.length c1_5]) (t:=25) ?hr ?_;(case hd=>rfl);(case hg=>rfl);(case hr=>first|(go_simp;done)|(go_simp;rfl));intro gb377 hg w21 hbox hb;have n0_:=aM_ (blk_below (g:=gb376) (bk_ BK376) hb);have n1_:=aM_ (below_step (hs_ HB GE376.out) hb);have n2_:=aM_ (hbox);have n3_:=aM_ ((by rw [hg];exact (below_size (hs_ HB GE376.out)):w.heap.size≤gb377));have n4_:=aM_ ((by rw [hg];exact (below_size (hs_ HB GE376.out)):w.heap.size≤gb377));have n5_:=aM_ ((by rw [hg];exact Nat.ne_of_lt (blk_lt (g:=gb376) (bk_ BK376)):gb376≠gb377));have n6_:=aM_ n5_.out.symm;clear BK376;clear HB;have BK376:=n0_;have HB:=n1_;have BK377:=n2_;have GW377:=n3_;have GE377:=n4_;have NB376_377:=n5_;have NB377_376:=n6_;clear n0_ n1_ n2_ n3_ n4_ n5_ n6_;clear hb hbox hg;have hnb22:=NB376_377.out;have hnc22:=NB377_376.out;obtain ⟨hcz23_0,hcz23_1,hcz23_2,hcz23_3,hcz23_4,hcz23_5⟩:=bc6 BK376.out;obtain ⟨hfz23_0,hfz23_1,hfz23_2,hfz23_3,hfz23_4,hfz23_5⟩:=bf6 BK376.out;obtain ⟨hcz24_0,hcz24_1,hcz24_2,hcz24_3,hcz24_4,hcz24_5⟩:=bc6 BK377.out;obtain ⟨hfz24_0,hfz24_1,hfz24_2,hfz24_3,hfz24_4,hfz24_5⟩:=bf6 BK377.out))
     go_ret
     exact ⟨by first|rfl|(simp [errW_none,errW_some] <;> rfl)|(simp [*,errW_none,errW_some] <;> rfl),by repeat (first|(with_reducible first|exact HB.out|apply wA_|apply wN_|apply wD_|refine below_set ?_ GE376.out|refine below_set ?_ GE377.out)|exact HB.out)⟩
   ·rw [if_neg c5] at H;have c5b0:(a0_2 == a1_2)=false:=beq_eq_false_iff_ne.mpr c5;have c5b1:(a0_2 != a1_2)=true:=bne_iff_ne.mpr c5;obtain rfl:=Option.some.inj H
    go_enter Try.func8,Try.ntmps8
    go_wp2_with (first|((with_reducible refine gate_dst (N:=2) rfl ?_);refine box_event ?hg (N:=2) ?hd (cs:=#[.int .i64 a0_0,.int .i64 a0_1,.int .i64 a0_2,.int .i64 a0_3,.slice A0_4 l0_4.length c0_4,.slice A0_5 l0_5.length c0_5]) (t:=25) ?hr ?_;(case hd=>rfl);(case hg=>rfl);(case hr=>first|(go_simp;done)|(go_simp;rfl));intro gb376 hg w25 hbox hb;have n0_:=aM_ (below_step (hb_ HB) hb);have n1_:=aM_ (hbox);have n2_:=aM_ ((by rw [hg];exact (below_size (hb_ HB)):w.heap.size≤gb376));have n3_:=aM_ ((by rw [hg];exact (below_size (hb_ HB)):w.heap.size≤gb376));clear HB;have HB:=n0_;have BK376:=n1_;have GW376:=n2_;have GE376:=n3_;clear n0_ n1_ n2_ n3_;clear hb hbox hg)|((with_reducible refine gate_dst (N:=3) rfl ?_);refine box_event ?hg (N:=3) ?hd (cs:=#[.int .i64 a1_0,.int .i64 a1_1,.int .i64 a1_2,.int .i64 a1_3,.slice A1_4 l1_4.length c1_4,.slice A1_5 l1_5.length c1_5]) (t:=25) ?hr ?_;(case hd=>rfl);(case hg=>rfl);(case hr=>first|(go_simp;done)|(go_simp;rfl));intro gb377 hg w26 hbox hb;have n0_:=aM_ (blk_below (g:=gb376) (bk_ BK376) hb);have n1_:=aM_ (below_step (hs_ HB GE376.out) hb);have n2_:=aM_ (hbox);have n3_:=aM_ ((by rw [hg];exact (below_size (hs_ HB GE376.out)):w.heap.size≤gb377));have n4_:=aM_ ((by rw [hg];exact (below_size (hs_ HB GE376.out)):w.heap.size≤gb377));have n5_:=aM_ ((by rw [hg];exact Nat.ne_of_lt (blk_lt (g:=gb376) (bk_ BK376)):gb376≠gb377));have n6_:=aM_ n5_.out.symm;clear BK376;clear HB;have BK376:=n0_;have HB:=n1_;have BK377:=n2_;have GW377:=n3_;have GE377:=n4_;have NB376_377:=n5_;have NB377_376:=n6_;clear n0_ n1_ n2_ n3_ n4_ n5_ n6_;clear hb hbox hg;have hnb27:=NB376_377.out;have hnc27:=NB377_376.out;obtain ⟨hcz28_0,hcz28_1,hcz28_2,hcz28_3,hcz28_4,hcz28_5⟩:=bc6 BK376.out;obtain ⟨hfz28_0,hfz28_1,hfz28_2,hfz28_3,hfz28_4,hfz28_5⟩:=bf6 BK376.out;obtain ⟨hcz29_0,hcz29_1,hcz29_2,hcz29_3,hcz29_4,hcz29_5⟩:=bc6 BK377.out;obtain ⟨hfz29_0,hfz29_1,hfz29_2,hfz29_3,hfz29_4,hfz29_5⟩:=bf6 BK377.out))
    go_ret
    exact ⟨by first|rfl|(simp [errW_none,errW_some] <;> rfl)|(simp [*,errW_none,errW_some] <;> rfl),by repeat (first|(with_reducible first|exact HB.out|apply wA_|apply wN_|apply wD_|refine below_set ?_ GE376.out|refine below_set ?_ GE377.out)|exact HB.out)⟩
  ·rw [if_neg c4] at H;have c4b0:(a0_1 == a1_1)=false:=beq_eq_false_iff_ne.mpr c4;have c4b1:(a0_1 != a1_1)=true:=bne_iff_ne.mpr c4;obtain rfl:=Option.some.inj H
   go_enter Try.func8,Try.ntmps8
   go_wp2_with (first|((with_reducible refine gate_dst (N:=2) rfl ?_);refine box_event ?hg (N:=2) ?hd (cs:=#[.int .i64 a0_0,.int .i64 a0_1,.int .i64 a0_2,.int .i64 a0_3,.slice A0_4 l0_4.length c0_4,.slice A0_5 l0_5.length c0_5]) (t:=25) ?hr ?_;(case hd=>rfl);(case hg=>rfl);(case hr=>first|(go_simp;done)|(go_simp;rfl));intro gb376 hg w30 hbox hb;have n0_:=aM_ (below_step (hb_ HB) hb);have n1_:=aM_ (hbox);have n2_:=aM_ ((by rw [hg];exact (below_size (hb_ HB)):w.heap.size≤gb376));have n3_:=aM_ ((by rw [hg];exact (below_size (hb_ HB)):w.heap.size≤gb376));clear HB;have HB:=n0_;have BK376:=n1_;have GW376:=n2_;have GE376:=n3_;clear n0_ n1_ n2_ n3_;clear hb hbox hg)|((with_reducible refine gate_dst (N:=3) rfl ?_);refine box_event ?hg (N:=3) ?hd (cs:=#[.int .i64 a1_0,.int .i64 a1_1,.int .i64 a1_2,.int .i64 a1_3,.slice A1_4 l1_4.length c1_4,.slice A1_5 l1_5.length c1_5]) (t:=25) ?hr ?_;(case hd=>rfl);(case hg=>rfl);(case hr=>first|(go_simp;done)|(go_simp;rfl));intro gb377 hg w31 hbox hb;have n0_:=aM_ (blk_below (g:=gb376) (bk_ BK376) hb);have n1_:=aM_ (below_step (hs_ HB GE376.out) hb);have n2_:=aM_ (hbox);have n3_:=aM_ ((by rw [hg];exact (below_size (hs_ HB GE376.out)):w.heap.size≤gb377));have n4_:=aM_ ((by rw [hg];exact (below_size (hs_ HB GE376.out)):w.heap.size≤gb377));have n5_:=aM_ ((by rw [hg];exact Nat.ne_of_lt (blk_lt (g:=gb376) (bk_ BK376)):gb376≠gb377));have n6_:=aM_ n5_.out.symm;clear BK376;clear HB;have BK376:=n0_;have HB:=n1_;have BK377:=n2_;have GW377:=n3_;have GE377:=n4_;have NB376_377:=n5_;have NB377_376:=n6_;clear n0_ n1_ n2_ n3_ n4_ n5_ n6_;clear hb hbox hg;have hnb32:=NB376_377.out;have hnc32:=NB377_376.out;obtain ⟨hcz33_0,hcz33_1,hcz33_2,hcz33_3,hcz33_4,hcz33_5⟩:=bc6 BK376.out;obtain ⟨hfz33_0,hfz33_1,hfz33_2,hfz33_3,hfz33_4,hfz33_5⟩:=bf6 BK376.out;obtain ⟨hcz34_0,hcz34_1,hcz34_2,hcz34_3,hcz34_4,hcz34_5⟩:=bc6 BK377.out;obtain ⟨hfz34_0,hfz34_1,hfz34_2,hfz34_3,hfz34_4,hfz34_5⟩:=bf6 BK377.out))
   go_ret
   exact ⟨by first|rfl|(simp [errW_none,errW_some] <;> rfl)|(simp [*,errW_none,errW_some] <;> rfl),by repeat (first|(with_reducible first|exact HB.out|apply wA_|apply wN_|apply wD_|refine below_set ?_ GE376.out|refine below_set ?_ GE377.out)|exact HB.out)⟩
 ·rw [if_neg c3] at H;have c3b0:(a0_0 == a1_0)=false:=beq_eq_false_iff_ne.mpr c3;have c3b1:(a0_0 != a1_0)=true:=bne_iff_ne.mpr c3;obtain rfl:=Option.some.inj H
  go_enter Try.func8,Try.ntmps8
  go_wp2_with (first|((with_reducible refine gate_dst (N:=2) rfl ?_);refine box_event ?hg (N:=2) ?hd (cs:=#[.int .i64 a0_0,.int .i64 a0_1,.int .i64 a0_2,.int .i64 a0_3,.slice A0_4 l0_4.length c0_4,.slice A0_5 l0_5.length c0_5]) (t:=25) ?hr ?_;(case hd=>rfl);(case hg=>rfl);(case hr=>first|(go_simp;done)|(go_simp;rfl));intro gb376 hg w35 hbox hb;have n0_:=aM_ (below_step (hb_ HB) hb);have n1_:=aM_ (hbox);have n2_:=aM_ ((by rw [hg];exact (below_size (hb_ HB)):w.heap.size≤gb376));have n3_:=aM_ ((by rw [hg];exact (below_size (hb_ HB)):w.heap.size≤gb376));clear HB;have HB:=n0_;have BK376:=n1_;have GW376:=n2_;have GE376:=n3_;clear n0_ n1_ n2_ n3_;clear hb hbox hg)|((with_reducible refine gate_dst (N:=3) rfl ?_);refine box_event ?hg (N:=3) ?hd (cs:=#[.int .i64 a1_0,.int .i64 a1_1,.int .i64 a1_2,.int .i64 a1_3,.slice A1_4 l1_4.length c1_4,.slice A1_5 l1_5.length c1_5]) (t:=25) ?hr ?_;(case hd=>rfl);(case hg=>rfl);(case hr=>first|(go_simp;done)|(go_simp;rfl));intro gb377 hg w36 hbox hb;have n0_:=aM_ (blk_below (g:=gb376) (bk_ BK376) hb);have n1_:=aM_ (below_step (hs_ HB GE376.out) hb);have n2_:=aM_ (hbox);have n3_:=aM_ ((by rw [hg];exact (below_size (hs_ HB GE376.out)):w.heap.size≤gb377));have n4_:=aM_ ((by rw [hg];exact (below_size (hs_ HB GE376.out)):w.heap.size≤gb377));have n5_:=aM_ ((by rw [hg];exact Nat.ne_of_lt (blk_lt (g:=gb376) (bk_ BK376)):gb376≠gb377));have n6_:=aM_ n5_.out.symm;clear BK376;clear HB;have BK376:=n0_;have HB:=n1_;have BK377:=n2_;have GW377:=n3_;have GE377:=n4_;have NB376_377:=n5_;have NB377_376:=n6_;clear n0_ n1_ n2_ n3_ n4_ n5_ n6_;clear hb hbox hg;have hnb37:=NB376_377.out;have hnc37:=NB377_376.out;obtain ⟨hcz38_0,hcz38_1,hcz38_2,hcz38_3,hcz38_4,hcz38_5⟩:=bc6 BK376.out;obtain ⟨hfz38_0,hfz38_1,hfz38_2,hfz38_3,hfz38_4,hfz38_5⟩:=bf6 BK376.out;obtain ⟨hcz39_0,hcz39_1,hcz39_2,hcz39_3,hcz39_4,hcz39_5⟩:=bc6 BK377.out;obtain ⟨hfz39_0,hfz39_1,hfz39_2,hfz39_3,hfz39_4,hfz39_5⟩:=bf6 BK377.out))
  go_ret
  exact ⟨by first|rfl|(simp [errW_none,errW_some] <;> rfl)|(simp [*,errW_none,errW_some] <;> rfl),by repeat (first|(with_reducible first|exact HB.out|apply wA_|apply wN_|apply wD_|refine below_set ?_ GE376.out|refine below_set ?_ GE377.out)|exact HB.out)⟩

end Go.Proofs.Ytagbmaapahhmpaa.PFnImagePal
