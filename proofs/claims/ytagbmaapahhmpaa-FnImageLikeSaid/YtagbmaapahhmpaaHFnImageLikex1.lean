/- What the functions that the law comes to compute, as plain functions, and that the machine's calls come to just that: written by a program for this claim, and turned where Lean did not take it. No condition. -/
import Derived.Test.YtagbmaapahhmpaaHFnImageLikex0
namespace Go.Proofs.Ytagbmaapahhmpaa.PFnImageLike
open Go.RowKit Go.Proofs.YtagbmaapahhmpaaW.PrintWords Go.Proofs.YtagbmaapahhmpaaW.PrintLast Go.Proofs.YtagbmaapahhmpaaW.PrintMore
attribute [local go_sem] max2_int min2_int max_two min_two max_three min_three max_four min_four   -- for this text's walks alone
set_option linter.unusedVariables false
set_option linter.unusedSimpArgs false

/-! ### laws_wiInts: function 23 -/
def laws_wiInts.l0:Nat → List Int → List Int → Int → Option (Bool)
 | 0,_,_,_=>none
 | k+1,x0,x1,x5=>if x5 < (x0.length:Int) then (if 0≤x5 then (if x5 < (x1.length:Int) then (if (rd x0 x5)=(rd x1 x5) then (laws_wiInts.l0 k x0 x1 (wrap64 (x5+1))) else (some false)) else (none)) else (none)) else (some true)
def laws_wiInts.f (k:Nat) (l0:List Int) (l1:List Int):Option (Bool):=if (l0.length:Int)=(l1.length:Int) then (laws_wiInts.l0 k l0 l1 0) else (some false)
theorem laws_wiInts.mono_l:∀ k,(∀ y0 y1 y2,LeO (laws_wiInts.l0 k y0 y1 y2) (laws_wiInts.l0 (k+1) y0 y1 y2))
 | 0=>fun _ _ _ r h=>by simp [laws_wiInts.l0] at h
 | k+1=>by
  have ih0:=laws_wiInts.mono_l k
  ·intro y0 y1 y2
   unfold laws_wiInts.l0
   repeat' first
   | (with_reducible exact ih0 _ _ _)
   | (with_reducible exact LeO.refl _)
   | (with_reducible exact LeO.none _)
   | (with_reducible refine LeO.ite ?_ ?_)
   | (with_reducible refine LeO.bind ?_ (fun _=>?_))
theorem laws_wiInts.mono:∀ a0 a1 k,LeO (laws_wiInts.f k a0 a1) (laws_wiInts.f (k+1) a0 a1):=by
 intro a0 a1 k;have ih0:=laws_wiInts.mono_l k
 unfold laws_wiInts.f
 repeat' first
   | (with_reducible exact ih0 _ _ _)
   | (with_reducible exact LeO.refl _)
   | (with_reducible exact LeO.none _)
   | (with_reducible refine LeO.ite ?_ ?_)
   | (with_reducible refine LeO.bind ?_ (fun _=>?_))
set_option maxHeartbeats 8000000 in
set_option maxRecDepth 100000 in
theorem laws_wiInts.calls (k:Nat) (A0:Option Addr) (c0:Nat) (l0:List Int) (A1:Option Addr) (c1:Nat) (l1:List Int) (r:Bool) (w:World) (hr0:Kd.C (Kd.int .i64) w A0 l0.length l0) (hc0:l0.length≤c0) (hr1:Kd.C (Kd.int .i64) w A1 l1.length l1) (hc1:l1.length≤c1) (h:laws_wiInts.f k l0 l1=some r) :
  Calls Try.prog 23 #[.slice A0 l0.length c0,.slice A1 l1.length c1] w fun e w'=>e=.returned (.bool r)∧Drawn0 w w':=by
 have HR0:=aM_ hr0;have HC0:=aM_ hc0;clear hr0 hc0;have HR1:=aM_ hr1;have HC1:=aM_ hc1;clear hr1 hc1;have H:(if (l0.length:Int)=(l1.length:Int) then (laws_wiInts.l0 k l0 l1 0) else (some false))=some r:=h;clear h
 by_cases c3:(l0.length:Int)=(l1.length:Int)
 ·rw [if_pos c3] at H;have c3b0:((l0.length:Int) == (l1.length:Int))=true:=beq_iff_eq.mpr c3;have c3b1:((l0.length:Int) != (l1.length:Int))=false:=bne_eq_false_iff_eq.mpr c3
  have c3b2:(l0.length == l1.length)=true:=by first|simpa using c3|(simp at c3 ⊢;omega)
  clear c3;have H':=aM_ H;clear H
  go_enter Try.func23,Try.ntmps23
  go_wp2
  repeat (go_quiet (fail);try go_wp2)
  go_loopg [5] k (fun kq v5 w'=>∃ (x5_1:Int),v5=.int .i64 x5_1∧Aside0 (laws_wiInts.l0 kq l0 l1 x5_1=some r)∧Aside0 (kq≤k)∧Drawn0 w w')
  case atStart=>exact ⟨(0),sm_,H',⟨Nat.le_refl _⟩,by repeat (first|exact Drawn0.refl _|apply Drawn0.step)⟩
  case round =>
   clear H';(try clear c1 c2 p2 c3 c3b0 c3b1 c3b2);obtain ⟨x5_1,rfl,HA,HK1,⟨m1,rfl⟩⟩:=hrel
   cases gk with
   | zero=>exact absurd HA.out (by simp [laws_wiInts.l0])
   | succ k1 =>
    have H:=HA.out;clear HA;simp only [laws_wiInts.l0] at H
    by_cases c4:x5_1 < (l0.length:Int)
    ·rw [if_pos c4] at H;have c4b0:decide (x5_1 < (l0.length:Int))=true:=decide_eq_true c4;clear c4
     by_cases c5:0≤x5_1
     ·rw [if_pos c5] at H;have c5b0:decide (0≤x5_1)=true:=decide_eq_true c5;clear c5
      by_cases c6:x5_1 < (l1.length:Int)
      ·rw [if_pos c6] at H;have c6b0:decide (x5_1 < (l1.length:Int))=true:=decide_eq_true c6;clear c6
       by_cases c7:(rd l0 x5_1)=(rd l1 x5_1)
       ·rw [if_pos c7] at H;have c7b0:((rd l0 x5_1) == (rd l1 x5_1))=true:=beq_iff_eq.mpr c7;have c7b1:((rd l0 x5_1) != (rd l1 x5_1))=false:=bne_eq_false_iff_eq.mpr c7;clear c7;have H':=aM_ H;clear H;have p101:0≤(x5_1:Int):=of_decide_eq_true (by first|(with_reducible assumption)|assumption);have q101:x5_1 < (l0.length:Int):=of_decide_eq_true (by first|(with_reducible assumption)|assumption);obtain ⟨ad101,e101,hx101_0⟩:=Kd.at_int HR0.out x5_1 p101 q101;cases e101;replace p101:=eq_true p101;replace q101:=eq_true q101;have p102:0≤(x5_1:Int):=of_decide_eq_true (by first|(with_reducible assumption)|assumption);have q102:x5_1 < (l1.length:Int):=of_decide_eq_true (by first|(with_reducible assumption)|assumption);obtain ⟨ad102,e102,hx102_0⟩:=Kd.at_int HR1.out x5_1 p102 q102;cases e102;replace p102:=eq_true p102;replace q102:=eq_true q102;go_wp2
        repeat (go_quiet (fail);try go_wp2)
        go_roundg k1
        case measure=>have:=HK1.out;omega
        case rel=>exact ⟨(wrap64 (x5_1+1)),sm_,H',⟨by have:=HK1.out;omega⟩,by repeat (first|exact Drawn0.refl _|apply Drawn0.step)⟩
       ·rw [if_neg c7] at H;have c7b0:((rd l0 x5_1) == (rd l1 x5_1))=false:=beq_eq_false_iff_ne.mpr c7;have c7b1:((rd l0 x5_1) != (rd l1 x5_1))=true:=bne_iff_ne.mpr c7;obtain rfl:=Option.some.inj H;have p101:0≤(x5_1:Int):=of_decide_eq_true (by first|(with_reducible assumption)|assumption);have q101:x5_1 < (l0.length:Int):=of_decide_eq_true (by first|(with_reducible assumption)|assumption);obtain ⟨ad101,e101,hx101_0⟩:=Kd.at_int HR0.out x5_1 p101 q101;cases e101;replace p101:=eq_true p101;replace q101:=eq_true q101;have p102:0≤(x5_1:Int):=of_decide_eq_true (by first|(with_reducible assumption)|assumption);have q102:x5_1 < (l1.length:Int):=of_decide_eq_true (by first|(with_reducible assumption)|assumption);obtain ⟨ad102,e102,hx102_0⟩:=Kd.at_int HR1.out x5_1 p102 q102;cases e102;replace p102:=eq_true p102;replace q102:=eq_true q102;go_wp2
        repeat (go_quiet (fail);try go_wp2)
        go_ret
        exact ⟨by first|rfl|(simp;done)|(simp [*];done),by repeat (first|exact Drawn0.refl _|apply Drawn0.step)⟩
      ·rw [if_neg c6] at H;exact absurd H (by simp)
     ·rw [if_neg c5] at H;exact absurd H (by simp)
    ·rw [if_neg c4] at H;have c4b0:decide (x5_1 < (l0.length:Int))=false:=decide_eq_false c4;clear c4;obtain rfl:=Option.some.inj H;go_wp2
     repeat (go_quiet (fail);try go_wp2)
     go_ret
     exact ⟨by first|rfl|(simp;done)|(simp [*];done),by repeat (first|exact Drawn0.refl _|apply Drawn0.step)⟩
 ·rw [if_neg c3] at H;have c3b0:((l0.length:Int) == (l1.length:Int))=false:=beq_eq_false_iff_ne.mpr c3;have c3b1:((l0.length:Int) != (l1.length:Int))=true:=bne_iff_ne.mpr c3
  have c3b2:(l0.length == l1.length)=false:=by first|simpa using c3|(simp at c3 ⊢;omega)
  obtain rfl:=Option.some.inj H
  go_enter Try.func23,Try.ntmps23
  go_wp2
  repeat (go_quiet (fail);try go_wp2)
  go_ret
  exact ⟨by first|rfl|(simp;done)|(simp [*];done),by repeat (first|exact Drawn0.refl _|apply Drawn0.step)⟩

/-! ### laws_wiImage: function 8 -/
def laws_wiImage.f (k:Nat) (a0_0:Int) (a0_1:Int) (a0_2:Int) (a0_3:Int) (l0_4:List Int) (l0_5:List Int) (a1_0:Int) (a1_1:Int) (a1_2:Int) (a1_3:Int) (l1_4:List Int) (l1_5:List Int):Option (Bool):=if a0_0=a1_0 then (if a0_1=a1_1 then (if a0_2=a1_2 then (if a0_3=a1_3 then ((laws_wiInts.f k l0_4 l1_4).bind fun t105=>(if t105=true then ((laws_wiInts.f k l0_5 l1_5).bind fun t106=>(some t106)) else (some false))) else (some false)) else (some false)) else (some false)) else (some false)
theorem laws_wiImage.mono:∀ a0 a1 a2 a3 a4 a5 a6 a7 a8 a9 a10 a11 k,LeO (laws_wiImage.f k a0 a1 a2 a3 a4 a5 a6 a7 a8 a9 a10 a11) (laws_wiImage.f (k+1) a0 a1 a2 a3 a4 a5 a6 a7 a8 a9 a10 a11):=by
 intro a0 a1 a2 a3 a4 a5 a6 a7 a8 a9 a10 a11 k
 unfold laws_wiImage.f
 repeat' first
   | (with_reducible exact laws_wiInts.mono _ _ _)
   | (with_reducible exact LeO.refl _)
   | (with_reducible exact LeO.none _)
   | (with_reducible refine LeO.ite ?_ ?_)
   | (with_reducible refine LeO.bind ?_ (fun _=>?_))
set_option maxHeartbeats 8000000 in
set_option maxRecDepth 100000 in
theorem laws_wiImage.calls (k:Nat) (a0_0:Int) (a0_1:Int) (a0_2:Int) (a0_3:Int) (A0_4:Option Addr) (c0_4:Nat) (l0_4:List Int) (A0_5:Option Addr) (c0_5:Nat) (l0_5:List Int) (a1_0:Int) (a1_1:Int) (a1_2:Int) (a1_3:Int) (A1_4:Option Addr) (c1_4:Nat) (l1_4:List Int) (A1_5:Option Addr) (c1_5:Nat) (l1_5:List Int) (r:Bool) (w:World) (hr0_4:Kd.C (Kd.int .i64) w A0_4 l0_4.length l0_4) (hc0_4:l0_4.length≤c0_4) (hr0_5:Kd.C (Kd.int .i64) w A0_5 l0_5.length l0_5) (hc0_5:l0_5.length≤c0_5) (hr1_4:Kd.C (Kd.int .i64) w A1_4 l1_4.length l1_4) (hc1_4:l1_4.length≤c1_4) (hr1_5:Kd.C (Kd.int .i64) w A1_5 l1_5.length l1_5) (hc1_5:l1_5.length≤c1_5) (h:laws_wiImage.f k a0_0 a0_1 a0_2 a0_3 l0_4 l0_5 a1_0 a1_1 a1_2 a1_3 l1_4 l1_5=some r) :
  Calls Try.prog 8 #[.agg #[.int .i64 a0_0,.int .i64 a0_1,.int .i64 a0_2,.int .i64 a0_3,.slice A0_4 l0_4.length c0_4,.slice A0_5 l0_5.length c0_5],.agg #[.int .i64 a1_0,.int .i64 a1_1,.int .i64 a1_2,.int .i64 a1_3,.slice A1_4 l1_4.length c1_4,.slice A1_5 l1_5.length c1_5]] w fun e w'=>e=.returned (.bool r)∧Below w.heap.size w w':=by
 have hu25:=Try.underlying25;have HR0_4:=aM_ hr0_4;have HC0_4:=aM_ hc0_4;clear hr0_4 hc0_4;have HR0_5:=aM_ hr0_5;have HC0_5:=aM_ hc0_5;clear hr0_5 hc0_5;have HR1_4:=aM_ hr1_4;have HC1_4:=aM_ hc1_4;clear hr1_4 hc1_4;have HR1_5:=aM_ hr1_5;have HC1_5:=aM_ hc1_5;clear hr1_5 hc1_5;have HB:=aM_ (Below.refl w.heap.size w);have H:(if a0_0=a1_0 then (if a0_1=a1_1 then (if a0_2=a1_2 then (if a0_3=a1_3 then ((laws_wiInts.f k l0_4 l1_4).bind fun t105=>(if t105=true then ((laws_wiInts.f k l0_5 l1_5).bind fun t106=>(some t106)) else (some false))) else (some false)) else (some false)) else (some false)) else (some false))=some r:=h;clear h
 by_cases c3:a0_0=a1_0
 ·rw [if_pos c3] at H;have c3b0:(a0_0 == a1_0)=true:=beq_iff_eq.mpr c3;have c3b1:(a0_0 != a1_0)=false:=bne_eq_false_iff_eq.mpr c3;clear c3
  by_cases c4:a0_1=a1_1
  ·rw [if_pos c4] at H;have c4b0:(a0_1 == a1_1)=true:=beq_iff_eq.mpr c4;have c4b1:(a0_1 != a1_1)=false:=bne_eq_false_iff_eq.mpr c4;clear c4
   by_cases c5:a0_2=a1_2
   ·rw [if_pos c5] at H;have c5b0:(a0_2 == a1_2)=true:=beq_iff_eq.mpr c5;have c5b1:(a0_2 != a1_2)=false:=bne_eq_false_iff_eq.mpr c5;clear c5
    by_cases c6:a0_3=a1_3
    ·rw [if_pos c6] at H;have c6b0:(a0_3 == a1_3)=true:=beq_iff_eq.mpr c6;have c6b1:(a0_3 != a1_3)=false:=bne_eq_false_iff_eq.mpr c6;clear c6;replace H:=Option.bind_eq_some_iff.mp H;obtain ⟨t105,A70,H⟩:=H;(try dsimp only at H);have A7:=aM_ A70;clear A70
     by_cases c8:t105=true
     ·subst c8
      have H1:((laws_wiInts.f k l0_5 l1_5).bind fun t106=>(some t106))=some r:=by first|(rw [if_pos rfl] at H;exact H)|rfl
      clear H;have H:=H1;clear H1;replace H:=Option.bind_eq_some_iff.mp H;obtain ⟨t106,A90,H⟩:=H;(try dsimp only at H);have A9:=aM_ A90;clear A90;obtain rfl:=Option.some.inj H
      go_enter Try.func8,Try.ntmps8
      go_wp2_with (first|((with_reducible refine gate_dst (N:=2) rfl ?_);refine bE_ 2 #[.int .i64 a0_0,.int .i64 a0_1,.int .i64 a0_2,.int .i64 a0_3,.slice A0_4 l0_4.length c0_4,.slice A0_5 l0_5.length c0_5] 25 ?_;intro gb103 hg w10 hbox hb;have BK103:=aM_ (hbox);have GW103:=aM_ ((by rw [hg];exact (below_size (hb_ HB)):w.heap.size≤gb103));have GE103:=GW103;replace HB:=aM_ (below_step (hb_ HB) hb);clear hb hbox hg)|((with_reducible refine gate_dst (N:=3) rfl ?_);refine bE_ 3 #[.int .i64 a1_0,.int .i64 a1_1,.int .i64 a1_2,.int .i64 a1_3,.slice A1_4 l1_4.length c1_4,.slice A1_5 l1_5.length c1_5] 25 ?_;intro gb104 hg w11 hbox hb;have BK104:=aM_ (hbox);have GW104:=aM_ ((by rw [hg];exact (below_size (hs_ HB GE103.out)):w.heap.size≤gb104));have GE104:=GW104;replace HB:=aM_ (below_step (hs_ HB GE103.out) hb);have NB103_104:=aM_ ((by rw [hg];exact Nat.ne_of_lt (blk_lt (g:=gb103) (bk_ BK103)):gb103≠gb104));replace BK103:=bW_ BK103 hb;have NB104_103:=aM_ NB103_104.out.symm;clear hb hbox hg;have hnb12:=NB103_104.out;have hnc12:=NB104_103.out;obtain ⟨z13_0,z13_1,z13_2,z13_3,z13_4,z13_5⟩:=bc6 BK103.out;obtain ⟨y13_0,y13_1,y13_2,y13_3,y13_4,y13_5⟩:=bf6 BK103.out;obtain ⟨z14_0,z14_1,z14_2,z14_3,z14_4,z14_5⟩:=bc6 BK104.out;obtain ⟨y14_0,y14_1,y14_2,y14_3,y14_4,y14_5⟩:=bf6 BK104.out)|(go_at_call 23;(with_reducible refine (laws_wiInts.calls k _ _ l0_4 _ _ l1_4 true _ ?side1 ?side2 ?side3 ?side4 A7.out).mono ?_);(case side1=>exact co_ (Kd.C_below HR0_4.out HB.out));(case side2=>exact HC0_4.out);(case side3=>exact co_ (Kd.C_below HR1_4.out HB.out));(case side4=>exact HC1_4.out);rintro e w' ⟨rfl,⟨nd,rfl⟩⟩)|(go_at_call 23;(with_reducible refine (laws_wiInts.calls k _ _ l0_5 _ _ l1_5 t106 _ ?side1 ?side2 ?side3 ?side4 A9.out).mono ?_);(case side1=>exact co_ (Kd.C_below HR0_5.out (ht_ HB GE103.out GE104.out)));(case side2=>exact HC0_5.out);(case side3=>exact co_ (Kd.C_below HR1_5.out (ht_ HB GE103.out GE104.out)));(case side4=>exact HC1_5.out);rintro e w' ⟨rfl,⟨nd,rfl⟩⟩))
      go_ret
      exact ⟨by first|rfl|(simp [errW_none,errW_some] <;> rfl)|(simp [*,errW_none,errW_some] <;> rfl),by repeat (first|(with_reducible first|exact HB.out|apply wA_|apply wN_|apply wD_|refine below_set ?_ GE103.out|refine below_set ?_ GE104.out)|exact HB.out)⟩
     ·replace c8:=Bool.eq_false_iff.mpr c8;subst c8
      have H1:(some false)=some r:=by first|(rw [if_neg (show ¬ (false=true) by decide)] at H;exact H)|rfl
      clear H;have H:=H1;clear H1;obtain rfl:=Option.some.inj H
      go_enter Try.func8,Try.ntmps8
      go_wp2_with (first|((with_reducible refine gate_dst (N:=2) rfl ?_);refine bE_ 2 #[.int .i64 a0_0,.int .i64 a0_1,.int .i64 a0_2,.int .i64 a0_3,.slice A0_4 l0_4.length c0_4,.slice A0_5 l0_5.length c0_5] 25 ?_;intro gb103 hg w15 hbox hb;have BK103:=aM_ (hbox);have GW103:=aM_ ((by rw [hg];exact (below_size (hb_ HB)):w.heap.size≤gb103));have GE103:=GW103;replace HB:=aM_ (below_step (hb_ HB) hb);clear hb hbox hg)|((with_reducible refine gate_dst (N:=3) rfl ?_);refine bE_ 3 #[.int .i64 a1_0,.int .i64 a1_1,.int .i64 a1_2,.int .i64 a1_3,.slice A1_4 l1_4.length c1_4,.slice A1_5 l1_5.length c1_5] 25 ?_;intro gb104 hg w16 hbox hb;have BK104:=aM_ (hbox);have GW104:=aM_ ((by rw [hg];exact (below_size (hs_ HB GE103.out)):w.heap.size≤gb104));have GE104:=GW104;replace HB:=aM_ (below_step (hs_ HB GE103.out) hb);have NB103_104:=aM_ ((by rw [hg];exact Nat.ne_of_lt (blk_lt (g:=gb103) (bk_ BK103)):gb103≠gb104));replace BK103:=bW_ BK103 hb;have NB104_103:=aM_ NB103_104.out.symm;clear hb hbox hg;have hnb17:=NB103_104.out;have hnc17:=NB104_103.out;obtain ⟨z18_0,z18_1,z18_2,z18_3,z18_4,z18_5⟩:=bc6 BK103.out;obtain ⟨y18_0,y18_1,y18_2,y18_3,y18_4,y18_5⟩:=bf6 BK103.out;obtain ⟨z19_0,z19_1,z19_2,z19_3,z19_4,z19_5⟩:=bc6 BK104.out;obtain ⟨y19_0,y19_1,y19_2,y19_3,y19_4,y19_5⟩:=bf6 BK104.out)|(go_at_call 23;(with_reducible refine (laws_wiInts.calls k _ _ l0_4 _ _ l1_4 false _ ?side1 ?side2 ?side3 ?side4 A7.out).mono ?_);(case side1=>exact co_ (Kd.C_below HR0_4.out HB.out));(case side2=>exact HC0_4.out);(case side3=>exact co_ (Kd.C_below HR1_4.out HB.out));(case side4=>exact HC1_4.out);rintro e w' ⟨rfl,⟨nd,rfl⟩⟩))
      go_ret
      exact ⟨by first|rfl|(simp [errW_none,errW_some] <;> rfl)|(simp [*,errW_none,errW_some] <;> rfl),by repeat (first|(with_reducible first|exact HB.out|apply wA_|apply wN_|apply wD_|refine below_set ?_ GE103.out|refine below_set ?_ GE104.out)|exact HB.out)⟩
    ·rw [if_neg c6] at H;have c6b0:(a0_3 == a1_3)=false:=beq_eq_false_iff_ne.mpr c6;have c6b1:(a0_3 != a1_3)=true:=bne_iff_ne.mpr c6;obtain rfl:=Option.some.inj H
     go_enter Try.func8,Try.ntmps8
     go_wp2_with (first|((with_reducible refine gate_dst (N:=2) rfl ?_);refine bE_ 2 #[.int .i64 a0_0,.int .i64 a0_1,.int .i64 a0_2,.int .i64 a0_3,.slice A0_4 l0_4.length c0_4,.slice A0_5 l0_5.length c0_5] 25 ?_;intro gb103 hg w20 hbox hb;have BK103:=aM_ (hbox);have GW103:=aM_ ((by rw [hg];exact (below_size (hb_ HB)):w.heap.size≤gb103));have GE103:=GW103;replace HB:=aM_ (below_step (hb_ HB) hb);clear hb hbox hg)|((with_reducible refine gate_dst (N:=3) rfl ?_);refine bE_ 3 #[.int .i64 a1_0,.int .i64 a1_1,.int .i64 a1_2,.int .i64 a1_3,.slice A1_4 l1_4.length c1_4,.slice A1_5 l1_5.length c1_5] 25 ?_;intro gb104 hg w21 hbox hb;have BK104:=aM_ (hbox);have GW104:=aM_ ((by rw [hg];exact (below_size (hs_ HB GE103.out)):w.heap.size≤gb104));have GE104:=GW104;replace HB:=aM_ (below_step (hs_ HB GE103.out) hb);have NB103_104:=aM_ ((by rw [hg];exact Nat.ne_of_lt (blk_lt (g:=gb103) (bk_ BK103)):gb103≠gb104));replace BK103:=bW_ BK103 hb;have NB104_103:=aM_ NB103_104.out.symm;clear hb hbox hg;have hnb22:=NB103_104.out;have hnc22:=NB104_103.out;obtain ⟨z23_0,z23_1,z23_2,z23_3,z23_4,z23_5⟩:=bc6 BK103.out;obtain ⟨y23_0,y23_1,y23_2,y23_3,y23_4,y23_5⟩:=bf6 BK103.out;obtain ⟨z24_0,z24_1,z24_2,z24_3,z24_4,z24_5⟩:=bc6 BK104.out;obtain ⟨y24_0,y24_1,y24_2,y24_3,y24_4,y24_5⟩:=bf6 BK104.out))
     go_ret
     exact ⟨by first|rfl|(simp [errW_none,errW_some] <;> rfl)|(simp [*,errW_none,errW_some] <;> rfl),by repeat (first|(with_reducible first|exact HB.out|apply wA_|apply wN_|apply wD_|refine below_set ?_ GE103.out|refine below_set ?_ GE104.out)|exact HB.out)⟩
   ·rw [if_neg c5] at H;have c5b0:(a0_2 == a1_2)=false:=beq_eq_false_iff_ne.mpr c5;have c5b1:(a0_2 != a1_2)=true:=bne_iff_ne.mpr c5;obtain rfl:=Option.some.inj H
    go_enter Try.func8,Try.ntmps8
    go_wp2_with (first|((with_reducible refine gate_dst (N:=2) rfl ?_);refine bE_ 2 #[.int .i64 a0_0,.int .i64 a0_1,.int .i64 a0_2,.int .i64 a0_3,.slice A0_4 l0_4.length c0_4,.slice A0_5 l0_5.length c0_5] 25 ?_;intro gb103 hg w25 hbox hb;have BK103:=aM_ (hbox);have GW103:=aM_ ((by rw [hg];exact (below_size (hb_ HB)):w.heap.size≤gb103));have GE103:=GW103;replace HB:=aM_ (below_step (hb_ HB) hb);clear hb hbox hg)|((with_reducible refine gate_dst (N:=3) rfl ?_);refine bE_ 3 #[.int .i64 a1_0,.int .i64 a1_1,.int .i64 a1_2,.int .i64 a1_3,.slice A1_4 l1_4.length c1_4,.slice A1_5 l1_5.length c1_5] 25 ?_;intro gb104 hg w26 hbox hb;have BK104:=aM_ (hbox);have GW104:=aM_ ((by rw [hg];exact (below_size (hs_ HB GE103.out)):w.heap.size≤gb104));have GE104:=GW104;replace HB:=aM_ (below_step (hs_ HB GE103.out) hb);have NB103_104:=aM_ ((by rw [hg];exact Nat.ne_of_lt (blk_lt (g:=gb103) (bk_ BK103)):gb103≠gb104));replace BK103:=bW_ BK103 hb;have NB104_103:=aM_ NB103_104.out.symm;clear hb hbox hg;have hnb27:=NB103_104.out;have hnc27:=NB104_103.out;obtain ⟨z28_0,z28_1,z28_2,z28_3,z28_4,z28_5⟩:=bc6 BK103.out;obtain ⟨y28_0,y28_1,y28_2,y28_3,y28_4,y28_5⟩:=bf6 BK103.out;obtain ⟨z29_0,z29_1,z29_2,z29_3,z29_4,z29_5⟩:=bc6 BK104.out;obtain ⟨y29_0,y29_1,y29_2,y29_3,y29_4,y29_5⟩:=bf6 BK104.out))
    go_ret
    exact ⟨by first|rfl|(simp [errW_none,errW_some] <;> rfl)|(simp [*,errW_none,errW_some] <;> rfl),by repeat (first|(with_reducible first|exact HB.out|apply wA_|apply wN_|apply wD_|refine below_set ?_ GE103.out|refine below_set ?_ GE104.out)|exact HB.out)⟩
  ·rw [if_neg c4] at H;have c4b0:(a0_1 == a1_1)=false:=beq_eq_false_iff_ne.mpr c4;have c4b1:(a0_1 != a1_1)=true:=bne_iff_ne.mpr c4;obtain rfl:=Option.some.inj H
   go_enter Try.func8,Try.ntmps8
   go_wp2_with (first|((with_reducible refine gate_dst (N:=2) rfl ?_);refine bE_ 2 #[.int .i64 a0_0,.int .i64 a0_1,.int .i64 a0_2,.int .i64 a0_3,.slice A0_4 l0_4.length c0_4,.slice A0_5 l0_5.length c0_5] 25 ?_;intro gb103 hg w30 hbox hb;have BK103:=aM_ (hbox);have GW103:=aM_ ((by rw [hg];exact (below_size (hb_ HB)):w.heap.size≤gb103));have GE103:=GW103;replace HB:=aM_ (below_step (hb_ HB) hb);clear hb hbox hg)|((with_reducible refine gate_dst (N:=3) rfl ?_);refine bE_ 3 #[.int .i64 a1_0,.int .i64 a1_1,.int .i64 a1_2,.int .i64 a1_3,.slice A1_4 l1_4.length c1_4,.slice A1_5 l1_5.length c1_5] 25 ?_;intro gb104 hg w31 hbox hb;have BK104:=aM_ (hbox);have GW104:=aM_ ((by rw [hg];exact (below_size (hs_ HB GE103.out)):w.heap.size≤gb104));have GE104:=GW104;replace HB:=aM_ (below_step (hs_ HB GE103.out) hb);have NB103_104:=aM_ ((by rw [hg];exact Nat.ne_of_lt (blk_lt (g:=gb103) (bk_ BK103)):gb103≠gb104));replace BK103:=bW_ BK103 hb;have NB104_103:=aM_ NB103_104.out.symm;clear hb hbox hg;have hnb32:=NB103_104.out;have hnc32:=NB104_103.out;obtain ⟨z33_0,z33_1,z33_2,z33_3,z33_4,z33_5⟩:=bc6 BK103.out;obtain ⟨y33_0,y33_1,y33_2,y33_3,y33_4,y33_5⟩:=bf6 BK103.out;obtain ⟨z34_0,z34_1,z34_2,z34_3,z34_4,z34_5⟩:=bc6 BK104.out;obtain ⟨y34_0,y34_1,y34_2,y34_3,y34_4,y34_5⟩:=bf6 BK104.out))
   go_ret
   exact ⟨by first|rfl|(simp [errW_none,errW_some] <;> rfl)|(simp [*,errW_none,errW_some] <;> rfl),by repeat (first|(with_reducible first|exact HB.out|apply wA_|apply wN_|apply wD_|refine below_set ?_ GE103.out|refine below_set ?_ GE104.out)|exact HB.out)⟩
 ·rw [if_neg c3] at H;have c3b0:(a0_0 == a1_0)=false:=beq_eq_false_iff_ne.mpr c3;have c3b1:(a0_0 != a1_0)=true:=bne_iff_ne.mpr c3;obtain rfl:=Option.some.inj H
  go_enter Try.func8,Try.ntmps8
  go_wp2_with (first|((with_reducible refine gate_dst (N:=2) rfl ?_);refine bE_ 2 #[.int .i64 a0_0,.int .i64 a0_1,.int .i64 a0_2,.int .i64 a0_3,.slice A0_4 l0_4.length c0_4,.slice A0_5 l0_5.length c0_5] 25 ?_;intro gb103 hg w35 hbox hb;have BK103:=aM_ (hbox);have GW103:=aM_ ((by rw [hg];exact (below_size (hb_ HB)):w.heap.size≤gb103));have GE103:=GW103;replace HB:=aM_ (below_step (hb_ HB) hb);clear hb hbox hg)|((with_reducible refine gate_dst (N:=3) rfl ?_);refine bE_ 3 #[.int .i64 a1_0,.int .i64 a1_1,.int .i64 a1_2,.int .i64 a1_3,.slice A1_4 l1_4.length c1_4,.slice A1_5 l1_5.length c1_5] 25 ?_;intro gb104 hg w36 hbox hb;have BK104:=aM_ (hbox);have GW104:=aM_ ((by rw [hg];exact (below_size (hs_ HB GE103.out)):w.heap.size≤gb104));have GE104:=GW104;replace HB:=aM_ (below_step (hs_ HB GE103.out) hb);have NB103_104:=aM_ ((by rw [hg];exact Nat.ne_of_lt (blk_lt (g:=gb103) (bk_ BK103)):gb103≠gb104));replace BK103:=bW_ BK103 hb;have NB104_103:=aM_ NB103_104.out.symm;clear hb hbox hg;have hnb37:=NB103_104.out;have hnc37:=NB104_103.out;obtain ⟨z38_0,z38_1,z38_2,z38_3,z38_4,z38_5⟩:=bc6 BK103.out;obtain ⟨y38_0,y38_1,y38_2,y38_3,y38_4,y38_5⟩:=bf6 BK103.out;obtain ⟨z39_0,z39_1,z39_2,z39_3,z39_4,z39_5⟩:=bc6 BK104.out;obtain ⟨y39_0,y39_1,y39_2,y39_3,y39_4,y39_5⟩:=bf6 BK104.out))
  go_ret
  exact ⟨by first|rfl|(simp [errW_none,errW_some] <;> rfl)|(simp [*,errW_none,errW_some] <;> rfl),by repeat (first|(with_reducible first|exact HB.out|apply wA_|apply wN_|apply wD_|refine below_set ?_ GE103.out|refine below_set ?_ GE104.out)|exact HB.out)⟩

/-! ### impl_smallDepth: function 39 -/
def impl_smallDepth.f (a0:Int):Option (Bool):=if a0=1 then (some true) else (if a0=2 then (some true) else (if a0=4 then (some true) else (some (a0 == 8))))
set_option maxHeartbeats 8000000 in
set_option maxRecDepth 100000 in
theorem impl_smallDepth.calls (a0:Int) (r:Bool) (w:World) (h:impl_smallDepth.f a0=some r) :
  Calls Try.prog 39 #[.int .i64 a0] w fun e w'=>e=.returned (.bool r)∧Drawn0 w w':=by
 have H:(if a0=1 then (some true) else (if a0=2 then (some true) else (if a0=4 then (some true) else (some (a0 == 8)))))=some r:=h;clear h
 by_cases c2:a0=1
 ·rw [if_pos c2] at H;have c2b0:(a0 == 1)=true:=beq_iff_eq.mpr c2;have c2b1:(a0 != 1)=false:=bne_eq_false_iff_eq.mpr c2;clear c2;obtain rfl:=Option.some.inj H
  go_enter Try.func39,Try.ntmps39
  go_wp2
  go_ret
  exact ⟨by first|rfl|(simp;done)|(simp [*];done),by repeat (first|exact Drawn0.refl _|apply Drawn0.step)⟩
 ·rw [if_neg c2] at H;have c2b0:(a0 == 1)=false:=beq_eq_false_iff_ne.mpr c2;have c2b1:(a0 != 1)=true:=bne_iff_ne.mpr c2
  by_cases c3:a0=2
  ·rw [if_pos c3] at H;have c3b0:(a0 == 2)=true:=beq_iff_eq.mpr c3;have c3b1:(a0 != 2)=false:=bne_eq_false_iff_eq.mpr c3;clear c3;obtain rfl:=Option.some.inj H
   go_enter Try.func39,Try.ntmps39
   go_wp2
   go_ret
   exact ⟨by first|rfl|(simp;done)|(simp [*];done),by repeat (first|exact Drawn0.refl _|apply Drawn0.step)⟩
  ·rw [if_neg c3] at H;have c3b0:(a0 == 2)=false:=beq_eq_false_iff_ne.mpr c3;have c3b1:(a0 != 2)=true:=bne_iff_ne.mpr c3
   by_cases c4:a0=4
   ·rw [if_pos c4] at H;have c4b0:(a0 == 4)=true:=beq_iff_eq.mpr c4;have c4b1:(a0 != 4)=false:=bne_eq_false_iff_eq.mpr c4;clear c4;obtain rfl:=Option.some.inj H
    go_enter Try.func39,Try.ntmps39
    go_wp2
    go_ret
    exact ⟨by first|rfl|(simp;done)|(simp [*];done),by repeat (first|exact Drawn0.refl _|apply Drawn0.step)⟩
   ·rw [if_neg c4] at H;have c4b0:(a0 == 4)=false:=beq_eq_false_iff_ne.mpr c4;have c4b1:(a0 != 4)=true:=bne_iff_ne.mpr c4;obtain rfl:=Option.some.inj H
    go_enter Try.func39,Try.ntmps39
    go_wp2
    go_ret
    exact ⟨by first|rfl|(simp;done)|(simp [*];done),by repeat (first|exact Drawn0.refl _|apply Drawn0.step)⟩

/-! ### impl_depthOk: function 24 -/
def impl_depthOk.j0:Nat → Int → Int → Bool → Option (Bool)
 | 0,_,_,_=>none
 | k+1,x1,x5,x6=>if x6=true then ((impl_smallDepth.f x1).bind fun t107=>(some t107)) else (if x5=2 then (some (x1 == 24)) else (if x5=3 then (some (x1 == 32)) else (some false)))
def impl_depthOk.f (k:Nat) (a0:Int) (a1:Int):Option (Bool):=if a0=1 then (impl_depthOk.j0 k a1 a0 (a0 == 1)) else (impl_depthOk.j0 k a1 a0 (a0 == 4))
theorem impl_depthOk.mono_l:∀ k,(∀ y0 y1 y2,LeO (impl_depthOk.j0 k y0 y1 y2) (impl_depthOk.j0 (k+1) y0 y1 y2))
 | 0=>fun _ _ _ r h=>by simp [impl_depthOk.j0] at h
 | k+1=>by
  have ih0:=impl_depthOk.mono_l k
  ·intro y0 y1 y2
   unfold impl_depthOk.j0
   repeat' first
   | (with_reducible exact ih0 _ _ _)
   | (with_reducible exact LeO.refl _)
   | (with_reducible exact LeO.none _)
   | (with_reducible refine LeO.ite ?_ ?_)
   | (with_reducible refine LeO.bind ?_ (fun _=>?_))
theorem impl_depthOk.mono:∀ a0 a1 k,LeO (impl_depthOk.f k a0 a1) (impl_depthOk.f (k+1) a0 a1):=by
 intro a0 a1 k;have ih0:=impl_depthOk.mono_l k
 unfold impl_depthOk.f
 repeat' first
   | (with_reducible exact ih0 _ _ _)
   | (with_reducible exact LeO.refl _)
   | (with_reducible exact LeO.none _)
   | (with_reducible refine LeO.ite ?_ ?_)
   | (with_reducible refine LeO.bind ?_ (fun _=>?_))
set_option maxHeartbeats 8000000 in
set_option maxRecDepth 100000 in
theorem impl_depthOk.calls (k:Nat) (a0:Int) (a1:Int) (r:Bool) (w:World) (h:impl_depthOk.f k a0 a1=some r) :
  Calls Try.prog 24 #[.int .i64 a0,.int .i64 a1] w fun e w'=>e=.returned (.bool r)∧Drawn0 w w':=by
 have H:(if a0=1 then (impl_depthOk.j0 k a1 a0 (a0 == 1)) else (impl_depthOk.j0 k a1 a0 (a0 == 4)))=some r:=h;clear h;have HC3:=aM_ H;clear H
 go_enter Try.func24,Try.ntmps24
 go_upto_if 6 with (fail)
 go_cut [6] (fun v6 wc=>∃ (kq:Nat) (x6_2:Bool),v6=.bool x6_2∧Aside0 (impl_depthOk.j0 kq a1 a0 x6_2=some r)∧Aside0 (kq≤k)∧Drawn0 w wc)
 case first =>
  have H:=HC3.out;clear HC3
  by_cases c4:a0=1
  ·rw [if_pos c4] at H;have c4b0:(a0 == 1)=true:=beq_iff_eq.mpr c4;have c4b1:(a0 != 1)=false:=bne_eq_false_iff_eq.mpr c4;clear c4
   (first|rw [c4b0]|(simp only [i64_w,i32_w];rw [c4b0])|skip)
   have H':=aM_ H;clear H;go_wp2
   go_meet
   case rel=>exact ⟨_,((a0 == 1)),sm_,H',⟨by first|omega|exact Nat.le_refl _⟩,by repeat (first|exact Drawn0.refl _|apply Drawn0.step)⟩
  ·rw [if_neg c4] at H;have c4b0:(a0 == 1)=false:=beq_eq_false_iff_ne.mpr c4;have c4b1:(a0 != 1)=true:=bne_iff_ne.mpr c4
   (first|rw [c4b0]|(simp only [i64_w,i32_w];rw [c4b0])|skip)
   have H':=aM_ H;clear H;go_wp2
   go_meet
   case rel=>exact ⟨_,((a0 == 4)),sm_,H',⟨by first|omega|exact Nat.le_refl _⟩,by repeat (first|exact Drawn0.refl _|apply Drawn0.step)⟩
 case rest =>
  clear HC3;(try clear c2 p2 c4 c4b0 c4b1);obtain ⟨kq,x6_2,rfl,HA,HJ2,⟨mc2,rfl⟩⟩:=hcut
  cases kq with
  | zero=>exact absurd HA.out (by simp [impl_depthOk.j0])
  | succ kj2 =>
   have H:=HA.out;clear HA;simp only [impl_depthOk.j0] at H
   by_cases c5:x6_2=true
   ·subst c5
    have H1:((impl_smallDepth.f a1).bind fun t107=>(some t107))=some r:=by first|(rw [if_pos rfl] at H;exact H)|rfl
    clear H;have H:=H1;clear H1;replace H:=Option.bind_eq_some_iff.mp H;obtain ⟨t107,A60,H⟩:=H;(try dsimp only at H);have A6:=aM_ A60;clear A60;obtain rfl:=Option.some.inj H
    go_wp2_with (first|((with_reducible refine gate_callee (f:=39) rfl ?_);refine goesL_ (some 10) rfl rfl Try.func39 (by kernel_rfl) rfl #[.int .i64 a1] rfl am_ ?_;(with_reducible refine (impl_smallDepth.calls a1 t107 _ A6.out).mono ?_);rintro e w' ⟨rfl,⟨nd,rfl⟩⟩;refine ⟨_,rfl,?_⟩))
    go_ret
    exact ⟨by first|rfl|(simp;done)|(simp [*];done),by repeat (first|exact Drawn0.refl _|apply Drawn0.step)⟩
   ·replace c5:=Bool.eq_false_iff.mpr c5;subst c5
    have H1:(if a0=2 then (some (a1 == 24)) else (if a0=3 then (some (a1 == 32)) else (some false)))=some r:=by first|(rw [if_neg (show ¬ (false=true) by decide)] at H;exact H)|rfl
    clear H;have H:=H1;clear H1
    by_cases c7:a0=2
    ·rw [if_pos c7] at H;have c7b0:(a0 == 2)=true:=beq_iff_eq.mpr c7;have c7b1:(a0 != 2)=false:=bne_eq_false_iff_eq.mpr c7;clear c7;obtain rfl:=Option.some.inj H;go_wp2
     go_ret
     exact ⟨by first|rfl|(simp;done)|(simp [*];done),by repeat (first|exact Drawn0.refl _|apply Drawn0.step)⟩
    ·rw [if_neg c7] at H;have c7b0:(a0 == 2)=false:=beq_eq_false_iff_ne.mpr c7;have c7b1:(a0 != 2)=true:=bne_iff_ne.mpr c7
     by_cases c8:a0=3
     ·rw [if_pos c8] at H;have c8b0:(a0 == 3)=true:=beq_iff_eq.mpr c8;have c8b1:(a0 != 3)=false:=bne_eq_false_iff_eq.mpr c8;clear c8;obtain rfl:=Option.some.inj H;go_wp2
      go_ret
      exact ⟨by first|rfl|(simp;done)|(simp [*];done),by repeat (first|exact Drawn0.refl _|apply Drawn0.step)⟩
     ·rw [if_neg c8] at H;have c8b0:(a0 == 3)=false:=beq_eq_false_iff_ne.mpr c8;have c8b1:(a0 != 3)=true:=bne_iff_ne.mpr c8;obtain rfl:=Option.some.inj H;go_wp2
      go_ret
      exact ⟨by first|rfl|(simp;done)|(simp [*];done),by repeat (first|exact Drawn0.refl _|apply Drawn0.step)⟩

/-! ### impl_in: function 25 -/
def impl_in.f (a0:Int) (a1:Int) (a2:Int):Option (Bool):=if a0 ≥ a1 then (some (decide (a0≤a2))) else (some false)
set_option maxHeartbeats 8000000 in
set_option maxRecDepth 100000 in
theorem impl_in.calls (a0:Int) (a1:Int) (a2:Int) (r:Bool) (w:World) (h:impl_in.f a0 a1 a2=some r) :
  Calls Try.prog 25 #[.int .i64 a0,.int .i64 a1,.int .i64 a2] w fun e w'=>e=.returned (.bool r)∧Drawn0 w w':=by
 have H:(if a0 ≥ a1 then (some (decide (a0≤a2))) else (some false))=some r:=h;clear h
 by_cases c4:a0 ≥ a1
 ·rw [if_pos c4] at H;have c4b0:decide (a1≤a0)=true:=decide_eq_true c4;clear c4;obtain rfl:=Option.some.inj H
  go_enter Try.func25,Try.ntmps25
  go_wp2
  go_ret
  exact ⟨by first|rfl|(simp;done)|(simp [*];done),by repeat (first|exact Drawn0.refl _|apply Drawn0.step)⟩
 ·rw [if_neg c4] at H;have c4b0:decide (a1≤a0)=false:=decide_eq_false c4;clear c4;obtain rfl:=Option.some.inj H
  go_enter Try.func25,Try.ntmps25
  go_wp2
  go_ret
  exact ⟨by first|rfl|(simp;done)|(simp [*];done),by repeat (first|exact Drawn0.refl _|apply Drawn0.step)⟩

/-! ### impl_outside: function 26 -/
def impl_outside.f (l0:List Int) (a1:Int):Option Bool:=some (l0.any fun n=>!(decide (0≤n∧n≤a1)))
theorem impl_outside.pred (n most:Int) (g:Nat) (w:World) (hc:w.cell? ⟨g,0,none⟩=some (.int .i64 most)) :
  Calls Try.prog 41 #[.int .i64 n,.pointer (some ⟨g,0,none⟩)] w fun e w'=>e=.returned (.bool (!(decide (0≤n∧n≤most))))∧Drawn0 w w':=by
 have hin:impl_in.f n 0 most=some (decide (0≤n∧n≤most)):=by
  unfold impl_in.f
  by_cases h:n ≥ 0
  ·rw [if_pos h];congr 1;rw [Bool.eq_iff_iff];simp;omega
  ·rw [if_neg h];congr 1;symm;rw [decide_eq_false_iff_not];omega
 have HIN:=aM_ hin;clear hin
 go_enter Try.func41,Try.ntmps41
 go_wp2_with (go_at_call 25;refine (impl_in.calls n 0 most _ _ HIN.out).mono ?_;rintro e w' ⟨rfl,hd⟩;obtain ⟨⟨m,rfl⟩⟩:=hd)
 go_ret
 exact ⟨by first|rfl|simp,by repeat (first|exact Drawn0.refl _|apply Drawn0.step)⟩
theorem impl_outside.index (A0:Option Addr) (c0:Nat) (l0:List Int) (most:Int) (g:Nat) (w:World) (hr0:Kd.C (Kd.int .i64) w A0 l0.length l0) (hc:w.cell? ⟨g,0,none⟩=some (.int .i64 most)) :
  Calls Try.prog 44 #[.slice A0 l0.length c0,.func (.func 41) #[] #[.pointer (some ⟨g,0,none⟩)]] w fun e w'=>∃ r:Int,e=.returned (.int .i64 r)∧Aside0 (decide (r ≥ 0)=l0.any fun n=>!(decide (0≤n∧n≤most)))∧Drawn0 w w':=by
 have HR0:=aM_ hr0
 have HP:=fun (n:Int) (m:Nat)=>impl_outside.pred n most g (w.drewN m) hc
 have HPA:=aM_ HP;clear HP hr0 hc
 go_enter Try.func44,Try.ntmps44
 go_wp2
 go_loopw [8] (fun v8 wr=>∃ x:Int,v8=.int .i64 x∧Aside0 (0≤x∧x≤(l0.length:Int))∧Aside0 (∀ j:Nat,(j:Int) < x → 0≤rd l0 j∧rd l0 j≤most)∧Drawn0 w wr) (fun v8 _=>l0.length - (intOf v8).toNat)
 case atStart=>exact ⟨0,rfl,⟨by omega,by omega⟩,⟨fun j hj=>by omega⟩,Drawn0.refl _⟩
 case round =>
  obtain ⟨x,rfl,HX,HJ,⟨m1,rfl⟩⟩:=hrel;have hn:l0.length≤9223372036854775807:=HR0.out.2.1;obtain ⟨x0,x1⟩:=HX.out
  by_cases hlt:x < (l0.length:Int)
  ·have hx:=HPA.out (rd l0 x) m1;have c4b0:decide (x < (l0.length:Int))=true:=decide_eq_true hlt;obtain ⟨ad,e,hcell⟩:=Kd.at_int HR0.out x x0 hlt;cases e;have hcell2:(w.drewN m1).cell? (ad.add x.toNat)=some (.int .i64 (rd l0 x)):=hcell;clear hcell
   by_cases hb:0≤rd l0 x∧rd l0 x≤most
   ·have e1:(!(decide (0≤rd l0 x∧rd l0 x≤most)))=false:=by simp [hb]
    rw [e1] at hx;have HB:=aM_ hb;have HXX:=aM_ hx;have HLT:=aM_ hlt;clear e1 hb hx
    go_wp2_with (go_at_call 41;refine (HXX.out).mono ?_;rintro e w' ⟨rfl,hd⟩;obtain ⟨⟨m,rfl⟩⟩:=hd)
    go_roundw
    case rel=>exact ⟨x+1,by go_num,⟨by omega,by omega⟩,⟨fun j hj=>by
     by_cases hjx:(j:Int) < x
     ·exact HJ.out j hjx
     ·have:(j:Int)=x:=by omega
      rw [this];exact HB.out⟩,by repeat (first|exact Drawn0.refl _|apply Drawn0.step)⟩
    case measure=>simp [intOf];omega
   ·have e1:(!(decide (0≤rd l0 x∧rd l0 x≤most)))=true:=by simp [hb]
    rw [e1] at hx;have HB:=aM_ hb;have HXX:=aM_ hx;have HLT:=aM_ hlt;clear e1 hb hx
    go_wp2_with (go_at_call 41;refine (HXX.out).mono ?_;rintro e w' ⟨rfl,hd⟩;obtain ⟨⟨m,rfl⟩⟩:=hd)
    go_ret
    refine ⟨x,rfl,⟨?_⟩,by repeat (first|exact Drawn0.refl _|apply Drawn0.step)⟩;rw [decide_eq_true (show x ≥ 0 from x0)]
    symm
    rw [List.any_eq_true];refine ⟨rd l0 x,?_,by have h9:=HB.out;simp only [Bool.not_eq_true',decide_eq_false_iff_not];exact h9⟩
    unfold rd
    rw [List.getD_eq_getElem?_getD,List.getElem?_eq_getElem (by omega)]
    exact List.getElem_mem _
  ·have c4b0:decide (x < (l0.length:Int))=false:=decide_eq_false hlt;have HLT:=aM_ hlt;clear hlt;go_wp2
   go_ret
   refine ⟨-1,rfl,⟨?_⟩,by repeat (first|exact Drawn0.refl _|apply Drawn0.step)⟩;rw [decide_eq_false (show ¬ ((-1:Int) ≥ 0) by omega)]
   symm
   rw [List.any_eq_false];intro n hn2;obtain ⟨j,hj,rfl⟩:=List.mem_iff_getElem.1 hn2;have hl:=HLT.out;have:=HJ.out j (by omega)
   unfold rd at this
   rw [Int.toNat_natCast,List.getD_eq_getElem?_getD,List.getElem?_eq_getElem hj] at this
   simpa using this
theorem impl_outside.contains (A0:Option Addr) (c0:Nat) (l0:List Int) (most:Int) (g:Nat) (w:World) (hr0:Kd.C (Kd.int .i64) w A0 l0.length l0) (hc:w.cell? ⟨g,0,none⟩=some (.int .i64 most)) :
  Calls Try.prog 40 #[.slice A0 l0.length c0,.func (.func 41) #[] #[.pointer (some ⟨g,0,none⟩)]] w fun e w'=>e=.returned (.bool (l0.any fun n=>!(decide (0≤n∧n≤most))))∧Drawn0 w w':=by
 have hx:=impl_outside.index A0 c0 l0 most g w hr0 hc;have HX:=aM_ hx;clear hx hr0 hc;generalize (l0.any fun n=>!(decide (0≤n∧n≤most)))=b at HX ⊢
 go_enter Try.func40,Try.ntmps40
 go_wp2_with (go_at_call 44;refine (HX.out).mono ?_;rintro e w' ⟨r,rfl,HD,hd⟩;obtain ⟨⟨m,rfl⟩⟩:=hd)
 go_ret
 refine ⟨?_,by repeat (first|exact Drawn0.refl _|apply Drawn0.step)⟩;rw [← HD.out]
 rfl
theorem impl_outside.calls (A0:Option Addr) (c0:Nat) (l0:List Int) (a1:Int) (r:Bool) (w:World) (hr0:Kd.C (Kd.int .i64) w A0 l0.length l0) (hc0:l0.length≤c0) (h:impl_outside.f l0 a1=some r) :
  Calls Try.prog 26 #[.slice A0 l0.length c0,.int .i64 a1] w fun e w'=>e=.returned (.bool r)∧Below w.heap.size w w':=by
 have hmf:∀ (fn:Fn) (first cap:Array Value) (w:World),(Instr.makeFunc fn first cap).run Try.prog w=.ok (.func fn first cap) w:=fun _ _ _ _=>rfl
 have hb:Below w.heap.size w (w.alloc (.cells #[.int .i64 a1] 3)):=(Below.refl _ _).alloc (Nat.le_refl _) _;have hcell:(w.alloc (.cells #[.int .i64 a1] 3)).cell? ⟨w.heap.size,0,none⟩=some (.int .i64 a1):=by
  rw [World.cell?_alloc_at _ _ _ _ rfl];rfl
 have hx:=impl_outside.contains A0 c0 l0 a1 w.heap.size (w.alloc (.cells #[.int .i64 a1] 3)) (Kd.C_below hr0 hb) hcell;obtain rfl:(l0.any fun n=>!(decide (0≤n∧n≤a1)))=r:=Option.some.inj h;have HX:=aM_ hx;clear hx hcell hr0 h;generalize (l0.any fun n=>!(decide (0≤n∧n≤a1)))=b at HX ⊢
 go_enter Try.func26,Try.ntmps26
 go_wp2_with (go_at_call 40;refine (HX.out).mono ?_;rintro e w' ⟨rfl,hd⟩)
 go_ret
 exact ⟨rfl,Below.trans hb (hd.below.mono (by simp))⟩

end Go.Proofs.Ytagbmaapahhmpaa.PFnImageLike
