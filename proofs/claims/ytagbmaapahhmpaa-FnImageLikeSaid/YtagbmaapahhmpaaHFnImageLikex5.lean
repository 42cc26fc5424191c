/- What the functions that the law comes to compute, as plain functions, and that the machine's calls come to just that: written by a program for this claim, and turned where Lean did not take it. No condition. -/
import Derived.Test.YtagbmaapahhmpaaHFnImageLikex0
namespace Go.Proofs.Ytagbmaapahhmpaa.PFnImageLike
open Go.RowKit Go.Proofs.YtagbmaapahhmpaaW.PrintWords Go.Proofs.YtagbmaapahhmpaaW.PrintLast Go.Proofs.YtagbmaapahhmpaaW.PrintMore
attribute [local go_sem] max2_int min2_int max_two min_two max_three min_three max_four min_four   -- for this text's walks alone
set_option linter.unusedVariables false
set_option linter.unusedSimpArgs false

/-! ### spec_l1Pow: function 22 -/
def spec_l1Pow.l0:Nat → Int → Int → Int → Option (Int)
 | 0,_,_,_=>none
 | k+1,x0,x3,x4=>if x4 < x0 then (spec_l1Pow.l0 k x0 (wrap64 (x3 * 2)) (wrap64 (x4+1))) else (some x3)
def spec_l1Pow.f (k:Nat) (a0:Int):Option (Int):=spec_l1Pow.l0 k a0 1 0
theorem spec_l1Pow.mono_l:∀ k,(∀ y0 y1 y2,LeO (spec_l1Pow.l0 k y0 y1 y2) (spec_l1Pow.l0 (k+1) y0 y1 y2))
 | 0=>fun _ _ _ r h=>by simp [spec_l1Pow.l0] at h
 | k+1=>by
  have ih0:=spec_l1Pow.mono_l k
  ·intro y0 y1 y2
   unfold spec_l1Pow.l0
   repeat' first
   | (with_reducible exact ih0 _ _ _)
   | (with_reducible exact LeO.refl _)
   | (with_reducible exact LeO.none _)
   | (with_reducible refine LeO.ite ?_ ?_)
   | (with_reducible refine LeO.bind ?_ (fun _=>?_))
theorem spec_l1Pow.mono:∀ a0 k,LeO (spec_l1Pow.f k a0) (spec_l1Pow.f (k+1) a0):=by
 intro a0 k;have ih0:=spec_l1Pow.mono_l k
 unfold spec_l1Pow.f
 repeat' first
   | (with_reducible exact ih0 _ _ _)
   | (with_reducible exact LeO.refl _)
   | (with_reducible exact LeO.none _)
   | (with_reducible refine LeO.ite ?_ ?_)
   | (with_reducible refine LeO.bind ?_ (fun _=>?_))
set_option maxHeartbeats 8000000 in
set_option maxRecDepth 100000 in
theorem spec_l1Pow.calls (k:Nat) (a0:Int) (r:Int) (w:World) (h:spec_l1Pow.f k a0=some r) :
  Calls Try.prog 22 #[.int .i64 a0] w fun e w'=>e=.returned (.int .i64 r)∧Drawn0 w w':=by
 have H:(spec_l1Pow.l0 k a0 1 0)=some r:=h;clear h;have H':=aM_ H;clear H
 go_enter Try.func22,Try.ntmps22
 go_wp2
 go_loopg [3,4] k (fun kq v3 v4 w'=>∃ (x3_1:Int) (x4_1:Int),v3=.int .i64 x3_1∧v4=.int .i64 x4_1∧Aside0 (spec_l1Pow.l0 kq a0 x3_1 x4_1=some r)∧Aside0 (kq≤k)∧Drawn0 w w')
 case atStart=>exact ⟨(1),(0),sm_,sm_,H',⟨Nat.le_refl _⟩,by repeat (first|exact Drawn0.refl _|apply Drawn0.step)⟩
 case round =>
  clear H';obtain ⟨x3_1,x4_1,rfl,rfl,HA,HK1,⟨m1,rfl⟩⟩:=hrel
  cases gk with
  | zero=>exact absurd HA.out (by simp [spec_l1Pow.l0])
  | succ k1 =>
   have H:=HA.out;clear HA;simp only [spec_l1Pow.l0] at H
   by_cases c2:x4_1 < a0
   ·rw [if_pos c2] at H;have c2b0:decide (x4_1 < a0)=true:=decide_eq_true c2;clear c2;have H':=aM_ H;clear H;go_wp2
    go_roundg k1
    case measure=>have:=HK1.out;omega
    case rel=>exact ⟨(wrap64 (x3_1 * 2)),(wrap64 (x4_1+1)),sm_,sm_,H',⟨by have:=HK1.out;omega⟩,by repeat (first|exact Drawn0.refl _|apply Drawn0.step)⟩
   ·rw [if_neg c2] at H;have c2b0:decide (x4_1 < a0)=false:=decide_eq_false c2;clear c2;obtain rfl:=Option.some.inj H;go_wp2
    go_ret
    exact ⟨by first|rfl|(simp;done)|(simp [*];done),by repeat (first|exact Drawn0.refl _|apply Drawn0.step)⟩

/-! ### spec_l8Depth: function 33 -/
def spec_l8Depth.j0:Nat → Int → Int → Bool → Option (Bool)
 | 0,_,_,_=>none
 | k+1,x1,x5,x6=>if x6=true then (if x1=1 then (some true) else (if x1=2 then (some true) else (if x1=4 then (some true) else (some (x1 == 8))))) else (if x5=2 then (some (x1 == 24)) else (if x5=3 then (some (x1 == 32)) else (some false)))
def spec_l8Depth.f (k:Nat) (a0:Int) (a1:Int):Option (Bool):=if a0=1 then (spec_l8Depth.j0 k a1 a0 (a0 == 1)) else (spec_l8Depth.j0 k a1 a0 (a0 == 4))
theorem spec_l8Depth.mono_l:∀ k,(∀ y0 y1 y2,LeO (spec_l8Depth.j0 k y0 y1 y2) (spec_l8Depth.j0 (k+1) y0 y1 y2))
 | 0=>fun _ _ _ r h=>by simp [spec_l8Depth.j0] at h
 | k+1=>by
  have ih0:=spec_l8Depth.mono_l k
  ·intro y0 y1 y2
   unfold spec_l8Depth.j0
   repeat' first
   | (with_reducible exact ih0 _ _ _)
   | (with_reducible exact LeO.refl _)
   | (with_reducible exact LeO.none _)
   | (with_reducible refine LeO.ite ?_ ?_)
   | (with_reducible refine LeO.bind ?_ (fun _=>?_))
theorem spec_l8Depth.mono:∀ a0 a1 k,LeO (spec_l8Depth.f k a0 a1) (spec_l8Depth.f (k+1) a0 a1):=by
 intro a0 a1 k;have ih0:=spec_l8Depth.mono_l k
 unfold spec_l8Depth.f
 repeat' first
   | (with_reducible exact ih0 _ _ _)
   | (with_reducible exact LeO.refl _)
   | (with_reducible exact LeO.none _)
   | (with_reducible refine LeO.ite ?_ ?_)
   | (with_reducible refine LeO.bind ?_ (fun _=>?_))
set_option maxHeartbeats 8000000 in
set_option maxRecDepth 100000 in
theorem spec_l8Depth.calls (k:Nat) (a0:Int) (a1:Int) (r:Bool) (w:World) (h:spec_l8Depth.f k a0 a1=some r) :
  Calls Try.prog 33 #[.int .i64 a0,.int .i64 a1] w fun e w'=>e=.returned (.bool r)∧Drawn0 w w':=by
 have H:(if a0=1 then (spec_l8Depth.j0 k a1 a0 (a0 == 1)) else (spec_l8Depth.j0 k a1 a0 (a0 == 4)))=some r:=h;clear h;have HC3:=aM_ H;clear H
 go_enter Try.func33,Try.ntmps33
 go_upto_if 6 with (fail)
 go_cut [6] (fun v6 wc=>∃ (kq:Nat) (x6_2:Bool),v6=.bool x6_2∧Aside0 (spec_l8Depth.j0 kq a1 a0 x6_2=some r)∧Aside0 (kq≤k)∧Drawn0 w wc)
 case first =>
  have H:=HC3.out;clear HC3
  by_cases c4:a0=1
  ·rw [if_pos c4] at H;have c4b0:(a0 == 1)=true:=beq_iff_eq.mpr c4;have c4b1:(a0 != 1)=false:=bne_eq_false_iff_eq.mpr c4;clear c4
   (first|rw [c4b0]|(simp only [i64_w,i32_w];rw [c4b0])|skip)
   have H':=aM_ H;clear H;go_wp2
   go_meet
   case rel=>exact ⟨_,((a0 == 1)),sm_,H',⟨by first|omega|exact Nat.le_refl _⟩,by repeat (first|exact Drawn0.refl _|apply Drawn0.step)⟩
  ·rw [if_neg c4] at H;have c4b0:(a0 == 1)=false:=beq_eq_false_iff_ne.mpr c4;have c4b1:(a0 != 1)=true:=bne_iff_ne.mpr c4
   (first|rw [c4b0]|(simp only [i64_w,i32_w];rw [c4b0])|skip)
   have H':=aM_ H;clear H;go_wp2
   go_meet
   case rel=>exact ⟨_,((a0 == 4)),sm_,H',⟨by first|omega|exact Nat.le_refl _⟩,by repeat (first|exact Drawn0.refl _|apply Drawn0.step)⟩
 case rest =>
  clear HC3;(try clear p2 c3 c4 c4b0 c4b1);obtain ⟨kq,x6_2,rfl,HA,HJ2,⟨mc2,rfl⟩⟩:=hcut
  cases kq with
  | zero=>exact absurd HA.out (by simp [spec_l8Depth.j0])
  | succ kj2 =>
   have H:=HA.out;clear HA;simp only [spec_l8Depth.j0] at H
   by_cases c5:x6_2=true
   ·subst c5
    have H1:(if a1=1 then (some true) else (if a1=2 then (some true) else (if a1=4 then (some true) else (some (a1 == 8)))))=some r:=by first|(rw [if_pos rfl] at H;exact H)|rfl
    clear H;have H:=H1;clear H1
    by_cases c6:a1=1
    ·rw [if_pos c6] at H;have c6b0:(a1 == 1)=true:=beq_iff_eq.mpr c6;have c6b1:(a1 != 1)=false:=bne_eq_false_iff_eq.mpr c6;clear c6;obtain rfl:=Option.some.inj H;go_wp2
     go_ret
     exact ⟨by first|rfl|(simp;done)|(simp [*];done),by repeat (first|exact Drawn0.refl _|apply Drawn0.step)⟩
    ·rw [if_neg c6] at H;have c6b0:(a1 == 1)=false:=beq_eq_false_iff_ne.mpr c6;have c6b1:(a1 != 1)=true:=bne_iff_ne.mpr c6
     by_cases c7:a1=2
     ·rw [if_pos c7] at H;have c7b0:(a1 == 2)=true:=beq_iff_eq.mpr c7;have c7b1:(a1 != 2)=false:=bne_eq_false_iff_eq.mpr c7;clear c7;obtain rfl:=Option.some.inj H;go_wp2
      go_ret
      exact ⟨by first|rfl|(simp;done)|(simp [*];done),by repeat (first|exact Drawn0.refl _|apply Drawn0.step)⟩
     ·rw [if_neg c7] at H;have c7b0:(a1 == 2)=false:=beq_eq_false_iff_ne.mpr c7;have c7b1:(a1 != 2)=true:=bne_iff_ne.mpr c7
      by_cases c8:a1=4
      ·rw [if_pos c8] at H;have c8b0:(a1 == 4)=true:=beq_iff_eq.mpr c8;have c8b1:(a1 != 4)=false:=bne_eq_false_iff_eq.mpr c8;clear c8;obtain rfl:=Option.some.inj H;go_wp2
       go_ret
       exact ⟨by first|rfl|(simp;done)|(simp [*];done),by repeat (first|exact Drawn0.refl _|apply Drawn0.step)⟩
      ·rw [if_neg c8] at H;have c8b0:(a1 == 4)=false:=beq_eq_false_iff_ne.mpr c8;have c8b1:(a1 != 4)=true:=bne_iff_ne.mpr c8;obtain rfl:=Option.some.inj H;go_wp2
       go_ret
       exact ⟨by first|rfl|(simp;done)|(simp [*];done),by repeat (first|exact Drawn0.refl _|apply Drawn0.step)⟩
   ·replace c5:=Bool.eq_false_iff.mpr c5;subst c5
    have H1:(if a0=2 then (some (a1 == 24)) else (if a0=3 then (some (a1 == 32)) else (some false)))=some r:=by first|(rw [if_neg (show ¬ (false=true) by decide)] at H;exact H)|rfl
    clear H;have H:=H1;clear H1
    by_cases c9:a0=2
    ·rw [if_pos c9] at H;have c9b0:(a0 == 2)=true:=beq_iff_eq.mpr c9;have c9b1:(a0 != 2)=false:=bne_eq_false_iff_eq.mpr c9;clear c9;obtain rfl:=Option.some.inj H;go_wp2
     go_ret
     exact ⟨by first|rfl|(simp;done)|(simp [*];done),by repeat (first|exact Drawn0.refl _|apply Drawn0.step)⟩
    ·rw [if_neg c9] at H;have c9b0:(a0 == 2)=false:=beq_eq_false_iff_ne.mpr c9;have c9b1:(a0 != 2)=true:=bne_iff_ne.mpr c9
     by_cases c10:a0=3
     ·rw [if_pos c10] at H;have c10b0:(a0 == 3)=true:=beq_iff_eq.mpr c10;have c10b1:(a0 != 3)=false:=bne_eq_false_iff_eq.mpr c10;clear c10;obtain rfl:=Option.some.inj H;go_wp2
      go_ret
      exact ⟨by first|rfl|(simp;done)|(simp [*];done),by repeat (first|exact Drawn0.refl _|apply Drawn0.step)⟩
     ·rw [if_neg c10] at H;have c10b0:(a0 == 3)=false:=beq_eq_false_iff_ne.mpr c10;have c10b1:(a0 != 3)=true:=bne_iff_ne.mpr c10;obtain rfl:=Option.some.inj H;go_wp2
      go_ret
      exact ⟨by first|rfl|(simp;done)|(simp [*];done),by repeat (first|exact Drawn0.refl _|apply Drawn0.step)⟩

/-! ### spec_l1In: function 34 -/
def spec_l1In.f (a0:Int) (a1:Int) (a2:Int):Option (Bool):=if a0 ≥ a1 then (some (decide (a0≤a2))) else (some false)
set_option maxHeartbeats 8000000 in
set_option maxRecDepth 100000 in
theorem spec_l1In.calls (a0:Int) (a1:Int) (a2:Int) (r:Bool) (w:World) (h:spec_l1In.f a0 a1 a2=some r) :
  Calls Try.prog 34 #[.int .i64 a0,.int .i64 a1,.int .i64 a2] w fun e w'=>e=.returned (.bool r)∧Drawn0 w w':=by
 have H:(if a0 ≥ a1 then (some (decide (a0≤a2))) else (some false))=some r:=h;clear h
 by_cases c4:a0 ≥ a1
 ·rw [if_pos c4] at H;have c4b0:decide (a1≤a0)=true:=decide_eq_true c4;clear c4;obtain rfl:=Option.some.inj H
  go_enter Try.func34,Try.ntmps34
  go_wp2
  go_ret
  exact ⟨by first|rfl|(simp;done)|(simp [*];done),by repeat (first|exact Drawn0.refl _|apply Drawn0.step)⟩
 ·rw [if_neg c4] at H;have c4b0:decide (a1≤a0)=false:=decide_eq_false c4;clear c4;obtain rfl:=Option.some.inj H
  go_enter Try.func34,Try.ntmps34
  go_wp2
  go_ret
  exact ⟨by first|rfl|(simp;done)|(simp [*];done),by repeat (first|exact Drawn0.refl _|apply Drawn0.step)⟩

/-! ### spec_l8Colors: function 35 -/
def spec_l8Colors.l0:Nat → Int → Int → Int → Int → Int → List Int → List Int → Option (Bool)
 | 0,_,_,_,_,_,_,_=>none
 | k+1,x3,x127000,x127001,x127002,x127003,x127004,x127005=>if x3 < (x127004.length:Int) then (if 0≤x3 then ((spec_l1In.f (rd x127004 x3) 0 16777215).bind fun t128=>(if t128=true then (spec_l8Colors.l0 k (wrap64 (x3+1)) x127000 x127001 x127002 x127003 x127004 x127005) else (some false))) else (none)) else (if x127000=4 then ((spec_l1Pow.f k x127001).bind fun t129=>((spec_l1In.f (x127004.length:Int) 1 t129).bind fun t130=>(some t130))) else (some ((x127004.length:Int) == 0)))
def spec_l8Colors.f (k:Nat) (a0_0:Int) (a0_1:Int) (a0_2:Int) (a0_3:Int) (l0_4:List Int) (l0_5:List Int):Option (Bool):=spec_l8Colors.l0 k 0 a0_0 a0_1 a0_2 a0_3 l0_4 l0_5
theorem spec_l8Colors.mono_l:∀ k,(∀ y0 y1 y2 y3 y4 y5 y6,LeO (spec_l8Colors.l0 k y0 y1 y2 y3 y4 y5 y6) (spec_l8Colors.l0 (k+1) y0 y1 y2 y3 y4 y5 y6))
 | 0=>fun _ _ _ _ _ _ _ r h=>by simp [spec_l8Colors.l0] at h
 | k+1=>by
  have ih0:=spec_l8Colors.mono_l k
  ·intro y0 y1 y2 y3 y4 y5 y6
   unfold spec_l8Colors.l0
   repeat' first
   | (with_reducible exact ih0 _ _ _ _ _ _ _)
   | (with_reducible exact spec_l1Pow.mono _ _)
   | (with_reducible exact LeO.refl _)
   | (with_reducible exact LeO.none _)
   | (with_reducible refine LeO.ite ?_ ?_)
   | (with_reducible refine LeO.bind ?_ (fun _=>?_))
theorem spec_l8Colors.mono:∀ a0 a1 a2 a3 a4 a5 k,LeO (spec_l8Colors.f k a0 a1 a2 a3 a4 a5) (spec_l8Colors.f (k+1) a0 a1 a2 a3 a4 a5):=by
 intro a0 a1 a2 a3 a4 a5 k;have ih0:=spec_l8Colors.mono_l k
 unfold spec_l8Colors.f
 repeat' first
   | (with_reducible exact ih0 _ _ _ _ _ _ _)
   | (with_reducible exact spec_l1Pow.mono _ _)
   | (with_reducible exact LeO.refl _)
   | (with_reducible exact LeO.none _)
   | (with_reducible refine LeO.ite ?_ ?_)
   | (with_reducible refine LeO.bind ?_ (fun _=>?_))
set_option maxHeartbeats 8000000 in
set_option maxRecDepth 100000 in
theorem spec_l8Colors.calls (k:Nat) (a0_0:Int) (a0_1:Int) (a0_2:Int) (a0_3:Int) (A0_4:Option Addr) (c0_4:Nat) (l0_4:List Int) (A0_5:Option Addr) (c0_5:Nat) (l0_5:List Int) (r:Bool) (w:World) (hr0_4:Kd.C (Kd.int .i64) w A0_4 l0_4.length l0_4) (hc0_4:l0_4.length≤c0_4) (hr0_5:Kd.C (Kd.int .i64) w A0_5 l0_5.length l0_5) (hc0_5:l0_5.length≤c0_5) (h:spec_l8Colors.f k a0_0 a0_1 a0_2 a0_3 l0_4 l0_5=some r) :
  Calls Try.prog 35 #[.agg #[.int .i64 a0_0,.int .i64 a0_1,.int .i64 a0_2,.int .i64 a0_3,.slice A0_4 l0_4.length c0_4,.slice A0_5 l0_5.length c0_5]] w fun e w'=>e=.returned (.bool r)∧Below w.heap.size w w':=by
 have hu25:=Try.underlying25;have HR0_4:=aM_ hr0_4;have HC0_4:=aM_ hc0_4;clear hr0_4 hc0_4;have HR0_5:=aM_ hr0_5;have HC0_5:=aM_ hc0_5;clear hr0_5 hc0_5;have HB:=aM_ (Below.refl w.heap.size w);have H:(spec_l8Colors.l0 k 0 a0_0 a0_1 a0_2 a0_3 l0_4 l0_5)=some r:=h;clear h;have H':=aM_ H;clear H
 go_enter Try.func35,Try.ntmps35
 go_wp2_with (first|((with_reducible refine gate_dst (N:=1) rfl ?_);refine bE_ 1 #[.int .i64 a0_0,.int .i64 a0_1,.int .i64 a0_2,.int .i64 a0_3,.slice A0_4 l0_4.length c0_4,.slice A0_5 l0_5.length c0_5] 25 ?_;intro gb126 hg w2 hbox hb;have BK126:=aM_ (hbox);have GW126:=aM_ ((by rw [hg];exact (below_size (hb_ HB)):w.heap.size≤gb126));have GE126:=GW126;replace HB:=aM_ (below_step (hb_ HB) hb);clear hb hbox hg))
 repeat (go_quiet (first|((with_reducible refine gate_dst (N:=1) rfl ?_);refine bE_ 1 #[.int .i64 a0_0,.int .i64 a0_1,.int .i64 a0_2,.int .i64 a0_3,.slice A0_4 l0_4.length c0_4,.slice A0_5 l0_5.length c0_5] 25 ?_;intro gb126 hg w2 hbox hb;have BK126:=aM_ (hbox);have GW126:=aM_ ((by rw [hg];exact (below_size (hb_ HB)):w.heap.size≤gb126));have GE126:=GW126;replace HB:=aM_ (below_step (hb_ HB) hb);clear hb hbox hg));try go_wp2_with (first|((with_reducible refine gate_dst (N:=1) rfl ?_);refine bE_ 1 #[.int .i64 a0_0,.int .i64 a0_1,.int .i64 a0_2,.int .i64 a0_3,.slice A0_4 l0_4.length c0_4,.slice A0_5 l0_5.length c0_5] 25 ?_;intro gb126 hg w2 hbox hb;have BK126:=aM_ (hbox);have GW126:=aM_ ((by rw [hg];exact (below_size (hb_ HB)):w.heap.size≤gb126));have GE126:=GW126;replace HB:=aM_ (below_step (hb_ HB) hb);clear hb hbox hg)))
 go_loopg [3] k (fun kq v3 w'=>∃ (x3_1:Int),v3=.int .i64 x3_1∧Aside0 (spec_l8Colors.l0 kq x3_1 a0_0 a0_1 a0_2 a0_3 l0_4 l0_5=some r)∧Aside0 (kq≤k)∧Aside0 (w'.heap[gb126]?=some (.cells #[.int .i64 a0_0,.int .i64 a0_1,.int .i64 a0_2,.int .i64 a0_3,(.slice A0_4 l0_4.length c0_4),(.slice A0_5 l0_5.length c0_5)] 25 (0,0)))∧Aside0 (Below w.heap.size w w'))
 case atStart=>exact ⟨(0),sm_,H',⟨Nat.le_refl _⟩,⟨by (with_reducible repeat (first|apply kN_|apply kD_|apply kA_));exact BK126.out⟩,⟨by repeat (first|(with_reducible first|exact HB.out|apply wA_|apply wN_|apply wD_|refine below_set ?_ GE126.out)|exact HB.out)⟩⟩
 case round =>
  clear H';(try clear p2);obtain ⟨x3_1,rfl,HA,HK1,BK126,HB⟩:=hrel
  cases gk with
  | zero=>exact absurd HA.out (by simp [spec_l8Colors.l0])
  | succ k1 =>
   have H:=HA.out;clear HA;simp only [spec_l8Colors.l0] at H
   by_cases c3:x3_1 < (l0_4.length:Int)
   ·rw [if_pos c3] at H;have c3b0:decide (x3_1 < (l0_4.length:Int))=true:=decide_eq_true c3;clear c3
    by_cases c4:0≤x3_1
    ·rw [if_pos c4] at H;have c4b0:decide (0≤x3_1)=true:=decide_eq_true c4;clear c4;replace H:=Option.bind_eq_some_iff.mp H;obtain ⟨t128,A50,H⟩:=H;(try dsimp only at H);have A5:=aM_ A50;clear A50
     by_cases c6:t128=true
     ·subst c6
      have H1:(spec_l8Colors.l0 k1 (wrap64 (x3_1+1)) a0_0 a0_1 a0_2 a0_3 l0_4 l0_5)=some r:=by first|(rw [if_pos rfl] at H;exact H)|rfl
      clear H;have H:=H1;clear H1;have H':=aM_ H;clear H;obtain ⟨z7_0,z7_1,z7_2,z7_3,z7_4,z7_5⟩:=bc6 BK126.out;obtain ⟨y7_0,y7_1,y7_2,y7_3,y7_4,y7_5⟩:=bf6 BK126.out;have p127:0≤(x3_1:Int):=of_decide_eq_true (by first|(with_reducible assumption)|assumption);have q127:x3_1 < (l0_4.length:Int):=of_decide_eq_true (by first|(with_reducible assumption)|assumption);obtain ⟨ad127,e127,hx127_0⟩:=Kd.at_int HR0_4.out x3_1 p127 q127;cases e127;replace hx127_0:=(HB.out.cell (World.block_lt_of_cell? w _ hx127_0)).trans hx127_0;replace p127:=eq_true p127;replace q127:=eq_true q127
      go_wp2_with (first|(go_at_call 34;(with_reducible refine (spec_l1In.calls (rd l0_4 x3_1) 0 16777215 true _ A5.out).mono ?_);rintro e w' ⟨rfl,⟨nd,rfl⟩⟩;(try first|exact ⟨rfl,_,World.drewN_drewN _ _ _⟩|exact ⟨rfl,_,Eq.trans (World.drewN_drewN _ _ _) (congrArg (World.drewN _) (Nat.add_assoc _ _ _))⟩)))
      repeat (go_quiet (first|(go_at_call 34;(with_reducible refine (spec_l1In.calls (rd l0_4 x3_1) 0 16777215 true _ A5.out).mono ?_);rintro e w' ⟨rfl,⟨nd,rfl⟩⟩;(try first|exact ⟨rfl,_,World.drewN_drewN _ _ _⟩|exact ⟨rfl,_,Eq.trans (World.drewN_drewN _ _ _) (congrArg (World.drewN _) (Nat.add_assoc _ _ _))⟩)));try go_wp2_with (first|(go_at_call 34;(with_reducible refine (spec_l1In.calls (rd l0_4 x3_1) 0 16777215 true _ A5.out).mono ?_);rintro e w' ⟨rfl,⟨nd,rfl⟩⟩;(try first|exact ⟨rfl,_,World.drewN_drewN _ _ _⟩|exact ⟨rfl,_,Eq.trans (World.drewN_drewN _ _ _) (congrArg (World.drewN _) (Nat.add_assoc _ _ _))⟩))))
      go_roundg k1
      case measure=>have:=HK1.out;omega
      case rel=>exact ⟨(wrap64 (x3_1+1)),sm_,H',⟨by have:=HK1.out;omega⟩,⟨by (with_reducible repeat (first|apply kN_|apply kD_|apply kA_));exact BK126.out⟩,⟨by repeat (first|(with_reducible first|exact HB.out|apply wA_|apply wN_|apply wD_|refine below_set ?_ GE126.out)|exact HB.out)⟩⟩
     ·replace c6:=Bool.eq_false_iff.mpr c6;subst c6
      have H1:(some false)=some r:=by first|(rw [if_neg (show ¬ (false=true) by decide)] at H;exact H)|rfl
      clear H;have H:=H1;clear H1;obtain rfl:=Option.some.inj H;obtain ⟨z8_0,z8_1,z8_2,z8_3,z8_4,z8_5⟩:=bc6 BK126.out;obtain ⟨y8_0,y8_1,y8_2,y8_3,y8_4,y8_5⟩:=bf6 BK126.out;have p127:0≤(x3_1:Int):=of_decide_eq_true (by first|(with_reducible assumption)|assumption);have q127:x3_1 < (l0_4.length:Int):=of_decide_eq_true (by first|(with_reducible assumption)|assumption);obtain ⟨ad127,e127,hx127_0⟩:=Kd.at_int HR0_4.out x3_1 p127 q127;cases e127;replace hx127_0:=(HB.out.cell (World.block_lt_of_cell? w _ hx127_0)).trans hx127_0;replace p127:=eq_true p127;replace q127:=eq_true q127
      go_wp2_with (first|(go_at_call 34;(with_reducible refine (spec_l1In.calls (rd l0_4 x3_1) 0 16777215 false _ A5.out).mono ?_);rintro e w' ⟨rfl,⟨nd,rfl⟩⟩;(try first|exact ⟨rfl,_,World.drewN_drewN _ _ _⟩|exact ⟨rfl,_,Eq.trans (World.drewN_drewN _ _ _) (congrArg (World.drewN _) (Nat.add_assoc _ _ _))⟩)))
      repeat (go_quiet (first|(go_at_call 34;(with_reducible refine (spec_l1In.calls (rd l0_4 x3_1) 0 16777215 false _ A5.out).mono ?_);rintro e w' ⟨rfl,⟨nd,rfl⟩⟩;(try first|exact ⟨rfl,_,World.drewN_drewN _ _ _⟩|exact ⟨rfl,_,Eq.trans (World.drewN_drewN _ _ _) (congrArg (World.drewN _) (Nat.add_assoc _ _ _))⟩)));try go_wp2_with (first|(go_at_call 34;(with_reducible refine (spec_l1In.calls (rd l0_4 x3_1) 0 16777215 false _ A5.out).mono ?_);rintro e w' ⟨rfl,⟨nd,rfl⟩⟩;(try first|exact ⟨rfl,_,World.drewN_drewN _ _ _⟩|exact ⟨rfl,_,Eq.trans (World.drewN_drewN _ _ _) (congrArg (World.drewN _) (Nat.add_assoc _ _ _))⟩))))
      go_ret
      exact ⟨by first|rfl|(simp [errW_none,errW_some] <;> rfl)|(simp [*,errW_none,errW_some] <;> rfl),by repeat (first|(with_reducible first|exact HB.out|apply wA_|apply wN_|apply wD_|refine below_set ?_ GE126.out)|exact HB.out)⟩
    ·rw [if_neg c4] at H;exact absurd H (by simp)
   ·rw [if_neg c3] at H;have c3b0:decide (x3_1 < (l0_4.length:Int))=false:=decide_eq_false c3;clear c3
    by_cases c9:a0_0=4
    ·rw [if_pos c9] at H;have c9b0:(a0_0 == 4)=true:=beq_iff_eq.mpr c9;have c9b1:(a0_0 != 4)=false:=bne_eq_false_iff_eq.mpr c9;clear c9;replace H:=Option.bind_eq_some_iff.mp H;obtain ⟨t129,A100,H⟩:=H;(try dsimp only at H);have A10:=aM_ A100;clear A100;replace H:=Option.bind_eq_some_iff.mp H;obtain ⟨t130,A110,H⟩:=H;(try dsimp only at H);have A11:=aM_ A110;clear A110;obtain rfl:=Option.some.inj H;obtain ⟨z12_0,z12_1,z12_2,z12_3,z12_4,z12_5⟩:=bc6 BK126.out;obtain ⟨y12_0,y12_1,y12_2,y12_3,y12_4,y12_5⟩:=bf6 BK126.out
     go_wp2_with (first|(go_at_call 22;(with_reducible refine (spec_l1Pow.calls k1 a0_1 t129 _ A10.out).mono ?_);rintro e w' ⟨rfl,⟨nd,rfl⟩⟩;(try first|exact ⟨rfl,_,World.drewN_drewN _ _ _⟩|exact ⟨rfl,_,Eq.trans (World.drewN_drewN _ _ _) (congrArg (World.drewN _) (Nat.add_assoc _ _ _))⟩))|(go_at_call 34;(with_reducible refine (spec_l1In.calls (l0_4.length:Int) 1 t129 t130 _ A11.out).mono ?_);rintro e w' ⟨rfl,⟨nd,rfl⟩⟩;(try first|exact ⟨rfl,_,World.drewN_drewN _ _ _⟩|exact ⟨rfl,_,Eq.trans (World.drewN_drewN _ _ _) (congrArg (World.drewN _) (Nat.add_assoc _ _ _))⟩)))
     repeat (go_quiet (first|(go_at_call 22;(with_reducible refine (spec_l1Pow.calls k1 a0_1 t129 _ A10.out).mono ?_);rintro e w' ⟨rfl,⟨nd,rfl⟩⟩;(try first|exact ⟨rfl,_,World.drewN_drewN _ _ _⟩|exact ⟨rfl,_,Eq.trans (World.drewN_drewN _ _ _) (congrArg (World.drewN _) (Nat.add_assoc _ _ _))⟩))|(go_at_call 34;(with_reducible refine (spec_l1In.calls (l0_4.length:Int) 1 t129 t130 _ A11.out).mono ?_);rintro e w' ⟨rfl,⟨nd,rfl⟩⟩;(try first|exact ⟨rfl,_,World.drewN_drewN _ _ _⟩|exact ⟨rfl,_,Eq.trans (World.drewN_drewN _ _ _) (congrArg (World.drewN _) (Nat.add_assoc _ _ _))⟩)));try go_wp2_with (first|(go_at_call 22;(with_reducible refine (spec_l1Pow.calls k1 a0_1 t129 _ A10.out).mono ?_);rintro e w' ⟨rfl,⟨nd,rfl⟩⟩;(try first|exact ⟨rfl,_,World.drewN_drewN _ _ _⟩|exact ⟨rfl,_,Eq.trans (World.drewN_drewN _ _ _) (congrArg (World.drewN _) (Nat.add_assoc _ _ _))⟩))|(go_at_call 34;(with_reducible refine (spec_l1In.calls (l0_4.length:Int) 1 t129 t130 _ A11.out).mono ?_);rintro e w' ⟨rfl,⟨nd,rfl⟩⟩;(try first|exact ⟨rfl,_,World.drewN_drewN _ _ _⟩|exact ⟨rfl,_,Eq.trans (World.drewN_drewN _ _ _) (congrArg (World.drewN _) (Nat.add_assoc _ _ _))⟩))))
     go_ret
     exact ⟨by first|rfl|(simp [errW_none,errW_some] <;> rfl)|(simp [*,errW_none,errW_some] <;> rfl),by repeat (first|(with_reducible first|exact HB.out|apply wA_|apply wN_|apply wD_|refine below_set ?_ GE126.out)|exact HB.out)⟩
    ·rw [if_neg c9] at H;have c9b0:(a0_0 == 4)=false:=beq_eq_false_iff_ne.mpr c9;have c9b1:(a0_0 != 4)=true:=bne_iff_ne.mpr c9;obtain rfl:=Option.some.inj H;obtain ⟨z13_0,z13_1,z13_2,z13_3,z13_4,z13_5⟩:=bc6 BK126.out;obtain ⟨y13_0,y13_1,y13_2,y13_3,y13_4,y13_5⟩:=bf6 BK126.out;go_wp2
     repeat (go_quiet (fail);try go_wp2)
     go_ret
     exact ⟨by first|rfl|(simp [errW_none,errW_some] <;> rfl)|(simp [*,errW_none,errW_some] <;> rfl),by repeat (first|(with_reducible first|exact HB.out|apply wA_|apply wN_|apply wD_|refine below_set ?_ GE126.out)|exact HB.out)⟩

end Go.Proofs.Ytagbmaapahhmpaa.PFnImageLike
