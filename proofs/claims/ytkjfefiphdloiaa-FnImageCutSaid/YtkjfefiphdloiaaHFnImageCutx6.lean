/- What the functions that the law comes to compute, as plain functions, and that the machine's calls come to just that: written by a program for this claim, and turned where Lean did not take it. No condition. -/
import Derived.Test.YtkjfefiphdloiaaHFnImageCutx0
import Derived.Test.YtkjfefiphdloiaaHFnImageCutx1
import Derived.Test.YtkjfefiphdloiaaHFnImageCutx2
import Derived.Test.YtkjfefiphdloiaaHFnImageCutx5
namespace Go.Proofs.Ytkjfefiphdloiaa.PFnImageCut
open Go.RowKit Go.Proofs.YtkjfefiphdloiaaW.PrintWords Go.Proofs.YtkjfefiphdloiaaW.PrintLast Go.Proofs.YtkjfefiphdloiaaW.PrintMore
attribute [local go_sem] max2_int min2_int max_two min_two max_three min_three max_four min_four   -- for this text's walks alone
set_option linter.unusedVariables false
set_option linter.unusedSimpArgs false

/-! ### spec_ImageCut: function 32 -/
mutual
def spec_ImageCut.j0:Nat → Int → Int → Int → Int → Bool → Int → Int → Int → Int → List Int → List Int → Option (Int × Int × Int × Int × List Int × List Int × Bool)
 | 0,_,_,_,_,_,_,_,_,_,_,_=>none
 | k+1,x1,x2,x3,x4,x49,x139000,x139001,x139002,x139003,x139004,x139005=>if x49=true then (some (0,0,0,0,([]:List Int),([]:List Int),false)) else ((spec_l8Blank.f x139000 x139001 x139002 x139003 x139004 x139005 x3 x4).bind fun bt145=>(spec_ImageCut.l0 k x1 x2 x3 x4 0 x139000 x139001 x139002 x139003 x139004 x139005 bt145.1 bt145.2.1 bt145.2.2.1 bt145.2.2.2.1 bt145.2.2.2.2.1 bt145.2.2.2.2.2))
def spec_ImageCut.l0:Nat → Int → Int → Int → Int → Int → Int → Int → Int → Int → List Int → List Int → Int → Int → Int → Int → List Int → List Int → Option (Int × Int × Int × Int × List Int × List Int × Bool)
 | 0,_,_,_,_,_,_,_,_,_,_,_,_,_,_,_,_,_=>none
 | k+1,x1,x2,x3,x4,x13,x139000,x139001,x139002,x139003,x139004,x139005,x156000,x156001,x156002,x156003,x156004,x156005=>if x13 < x4 then (if 0≤(wrap64 ((wrap64 ((wrap64 (x2+x13)) * x139002))+x1)) then (if (wrap64 ((wrap64 ((wrap64 (x2+x13)) * x139002))+x1))≤(wrap64 ((wrap64 ((wrap64 ((wrap64 (x2+x13)) * x139002))+x1))+x3)) then (if (wrap64 ((wrap64 ((wrap64 ((wrap64 (x2+x13)) * x139002))+x1))+x3))≤(x139005.length:Int) then (if x156005.length+((x139005.take ((wrap64 ((wrap64 ((wrap64 ((wrap64 (x2+x13)) * x139002))+x1))+x3)):Int).toNat).drop ((wrap64 ((wrap64 ((wrap64 (x2+x13)) * x139002))+x1)):Int).toNat).length < 17592186044416 then (spec_ImageCut.l0 k x1 x2 x3 x4 (wrap64 (x13+1)) x139000 x139001 x139002 x139003 x139004 x139005 x156000 x156001 x156002 x156003 x156004 (x156005 ++ ((x139005.take ((wrap64 ((wrap64 ((wrap64 ((wrap64 (x2+x13)) * x139002))+x1))+x3)):Int).toNat).drop ((wrap64 ((wrap64 ((wrap64 (x2+x13)) * x139002))+x1)):Int).toNat))) else (none)) else (none)) else (none)) else (none)) else (some (x156000,x156001,x156002,x156003,x156004,x156005,true))
end
def spec_ImageCut.f (k:Nat) (a0_0:Int) (a0_1:Int) (a0_2:Int) (a0_3:Int) (l0_4:List Int) (l0_5:List Int) (a1:Int) (a2:Int) (a3:Int) (a4:Int):Option (Int × Int × Int × Int × List Int × List Int × Bool):=(spec_ImageOk.f k a0_0 a0_1 a0_2 a0_3 l0_4 l0_5).bind fun t140=>(if t140=true then ((spec_l1In.f a3 1 a0_2).bind fun t141=>(if t141=true then ((spec_l1In.f a4 1 a0_3).bind fun t142=>(if t142=true then ((spec_l1In.f a1 0 (wrap64 (a0_2 - a3))).bind fun t143=>(if t143=true then ((spec_l1In.f a2 0 (wrap64 (a0_3 - a4))).bind fun t144=>(spec_ImageCut.j0 k a1 a2 a3 a4 (!t144) a0_0 a0_1 a0_2 a0_3 l0_4 l0_5)) else (spec_ImageCut.j0 k a1 a2 a3 a4 true a0_0 a0_1 a0_2 a0_3 l0_4 l0_5))) else (spec_ImageCut.j0 k a1 a2 a3 a4 true a0_0 a0_1 a0_2 a0_3 l0_4 l0_5))) else (spec_ImageCut.j0 k a1 a2 a3 a4 true a0_0 a0_1 a0_2 a0_3 l0_4 l0_5))) else (spec_ImageCut.j0 k a1 a2 a3 a4 true a0_0 a0_1 a0_2 a0_3 l0_4 l0_5))
theorem spec_ImageCut.mono_l:∀ k,(∀ y0 y1 y2 y3 y4 y5 y6 y7 y8 y9 y10,LeO (spec_ImageCut.j0 k y0 y1 y2 y3 y4 y5 y6 y7 y8 y9 y10) (spec_ImageCut.j0 (k+1) y0 y1 y2 y3 y4 y5 y6 y7 y8 y9 y10))∧(∀ y0 y1 y2 y3 y4 y5 y6 y7 y8 y9 y10 y11 y12 y13 y14 y15 y16,LeO (spec_ImageCut.l0 k y0 y1 y2 y3 y4 y5 y6 y7 y8 y9 y10 y11 y12 y13 y14 y15 y16) (spec_ImageCut.l0 (k+1) y0 y1 y2 y3 y4 y5 y6 y7 y8 y9 y10 y11 y12 y13 y14 y15 y16))
 | 0=>⟨fun _ _ _ _ _ _ _ _ _ _ _ r h=>by simp [spec_ImageCut.j0] at h,fun _ _ _ _ _ _ _ _ _ _ _ _ _ _ _ _ _ r h=>by simp [spec_ImageCut.l0] at h⟩
 | k+1=>by
  obtain ⟨ih0,ih1⟩:=spec_ImageCut.mono_l k
  refine ⟨?_,?_⟩
  ·intro y0 y1 y2 y3 y4 y5 y6 y7 y8 y9 y10
   unfold spec_ImageCut.j0
   repeat' first
   | (with_reducible exact ih0 _ _ _ _ _ _ _ _ _ _ _)
   | (with_reducible exact ih1 _ _ _ _ _ _ _ _ _ _ _ _ _ _ _ _ _)
   | (with_reducible exact spec_ImageOk.mono _ _ _ _ _ _ _)
   | (with_reducible exact LeO.refl _)
   | (with_reducible exact LeO.none _)
   | (with_reducible refine LeO.ite ?_ ?_)
   | (with_reducible refine LeO.bind ?_ (fun _=>?_))
  ·intro y0 y1 y2 y3 y4 y5 y6 y7 y8 y9 y10 y11 y12 y13 y14 y15 y16
   unfold spec_ImageCut.l0
   repeat' first
   | (with_reducible exact ih0 _ _ _ _ _ _ _ _ _ _ _)
   | (with_reducible exact ih1 _ _ _ _ _ _ _ _ _ _ _ _ _ _ _ _ _)
   | (with_reducible exact spec_ImageOk.mono _ _ _ _ _ _ _)
   | (with_reducible exact LeO.refl _)
   | (with_reducible exact LeO.none _)
   | (with_reducible refine LeO.ite ?_ ?_)
   | (with_reducible refine LeO.bind ?_ (fun _=>?_))
theorem spec_ImageCut.mono:∀ a0 a1 a2 a3 a4 a5 a6 a7 a8 a9 k,LeO (spec_ImageCut.f k a0 a1 a2 a3 a4 a5 a6 a7 a8 a9) (spec_ImageCut.f (k+1) a0 a1 a2 a3 a4 a5 a6 a7 a8 a9):=by
 intro a0 a1 a2 a3 a4 a5 a6 a7 a8 a9 k
 obtain ⟨ih0,ih1⟩:=spec_ImageCut.mono_l k
 unfold spec_ImageCut.f
 repeat' first
   | (with_reducible exact ih0 _ _ _ _ _ _ _ _ _ _ _)
   | (with_reducible exact ih1 _ _ _ _ _ _ _ _ _ _ _ _ _ _ _ _ _)
   | (with_reducible exact spec_ImageOk.mono _ _ _ _ _ _ _)
   | (with_reducible exact LeO.refl _)
   | (with_reducible exact LeO.none _)
   | (with_reducible refine LeO.ite ?_ ?_)
   | (with_reducible refine LeO.bind ?_ (fun _=>?_))
def spec_ImageCut.T8:Bool × List (List Nat × List Nat):=(true,[([],[]),([0],[0]),([],[]),([2],[2]),([],[]),([],[]),([],[]),([5,6],[5,6]),([3,4,7],[3,4,7]),([1,8],[1,8]),([0,1,2,3,4,5,6,7,8,9],[]),([10,9,9,0,1,2,3,4,5,6,7,8,9],[9,10])])
def spec_ImageCut.B8:List Nat:=[0,1,0,4,0,0,0,96,252,511,1023,2047]
theorem spec_ImageCut.tab8:rtab .any (opsOf Try.f32 8)=spec_ImageCut.T8:=by kernel_rfl
theorem spec_ImageCut.bits8:waitsOk spec_ImageCut.T8.2 spec_ImageCut.B8=true:=by kernel_rfl
set_option maxHeartbeats 8000000 in
set_option maxRecDepth 100000 in
theorem spec_ImageCut.calls (k:Nat) (a0_0:Int) (a0_1:Int) (a0_2:Int) (a0_3:Int) (A0_4:Option Addr) (c0_4:Nat) (l0_4:List Int) (A0_5:Option Addr) (c0_5:Nat) (l0_5:List Int) (a1:Int) (a2:Int) (a3:Int) (a4:Int) (r1:Int) (r2:Int) (r3:Int) (r4:Int) (r5:List Int) (r6:List Int) (r7:Bool) (w:World) (hr0_4:Kd.C (Kd.int .i64) w A0_4 l0_4.length l0_4) (hc0_4:l0_4.length≤c0_4) (hr0_5:Kd.C (Kd.int .i64) w A0_5 l0_5.length l0_5) (hc0_5:l0_5.length≤c0_5) (h:spec_ImageCut.f k a0_0 a0_1 a0_2 a0_3 l0_4 l0_5 a1 a2 a3 a4=some (r1,r2,r3,r4,r5,r6,r7)) :
  Calls Try.prog 32 #[.agg #[.int .i64 a0_0,.int .i64 a0_1,.int .i64 a0_2,.int .i64 a0_3,.slice A0_4 l0_4.length c0_4,.slice A0_5 l0_5.length c0_5],.int .i64 a1,.int .i64 a2,.int .i64 a3,.int .i64 a4] w fun e w'=>∃ v4_ v5_:Value,e=.returned (.tuple #[.agg #[.int .i64 r1,.int .i64 r2,.int .i64 r3,.int .i64 r4,v4_,v5_],.bool r7])∧Kd.R (Kd.int .i64) 3 w' w.heap.size (fun k_=>some k_≠(v5_:Value).ownBlock) v4_ r5∧Kd.R (Kd.int .i64) 3 w' w.heap.size (fun k_=>some k_≠(v4_:Value).ownBlock) v5_ r6∧Below w.heap.size w w':=by
 have hu27:=Try.underlying27
 have HR0_4:=aM_ hr0_4
 have HC0_4:=aM_ hc0_4
 clear hr0_4 hc0_4
 have HR0_5:=aM_ hr0_5
 have HC0_5:=aM_ hc0_5
 clear hr0_5 hc0_5
 have HB:=aM_ (Below.refl w.heap.size w)
 have H:((spec_ImageOk.f k a0_0 a0_1 a0_2 a0_3 l0_4 l0_5).bind fun t140=>(if t140=true then ((spec_l1In.f a3 1 a0_2).bind fun t141=>(if t141=true then ((spec_l1In.f a4 1 a0_3).bind fun t142=>(if t142=true then ((spec_l1In.f a1 0 (wrap64 (a0_2 - a3))).bind fun t143=>(if t143=true then ((spec_l1In.f a2 0 (wrap64 (a0_3 - a4))).bind fun t144=>(spec_ImageCut.j0 k a1 a2 a3 a4 (!t144) a0_0 a0_1 a0_2 a0_3 l0_4 l0_5)) else (spec_ImageCut.j0 k a1 a2 a3 a4 true a0_0 a0_1 a0_2 a0_3 l0_4 l0_5))) else (spec_ImageCut.j0 k a1 a2 a3 a4 true a0_0 a0_1 a0_2 a0_3 l0_4 l0_5))) else (spec_ImageCut.j0 k a1 a2 a3 a4 true a0_0 a0_1 a0_2 a0_3 l0_4 l0_5))) else (spec_ImageCut.j0 k a1 a2 a3 a4 true a0_0 a0_1 a0_2 a0_3 l0_4 l0_5)))=some (r1,r2,r3,r4,r5,r6,r7):=h
 clear h
 have HC6:=aM_ H
 clear H
 go_enter Try.func32,Try.ntmps32
 go_upto_region 1 with (first|((with_reducible refine gate_dst (N:=5) rfl ?_);refine box_event ?hg (N:=5) ?hd (cs:=#[.int .i64 a0_0,.int .i64 a0_1,.int .i64 a0_2,.int .i64 a0_3,.slice A0_4 l0_4.length c0_4,.slice A0_5 l0_5.length c0_5]) (t:=27) ?hr ?_;(case hd=>rfl);(case hg=>rfl);(case hr=>first|(go_simp;done)|(go_simp;rfl));intro gb138 hg w7 hbox hb;have n0_:=aM_ (below_step (by repeat (first|(with_reducible first|exact HB.out|apply wA_|apply wN_|apply wD_)|exact HB.out)) hb);have n1_:=aM_ (hbox);have n2_:=aM_ ((by rw [hg];exact (below_size (by repeat (first|(with_reducible first|exact HB.out|apply wA_|apply wN_|apply wD_)|exact HB.out))):w.heap.size≤gb138));have n3_:=aM_ ((by rw [hg];exact (below_size (by repeat (first|(with_reducible first|exact HB.out|apply wA_|apply wN_|apply wD_)|exact HB.out))):w.heap.size≤gb138));clear HB;have HB:=n0_;have BK138:=n1_;have GW138:=n2_;have GE138:=n3_;clear n0_ n1_ n2_ n3_;clear hb hbox hg)|((with_reducible refine gate_dst (N:=10) rfl ?_);refine box_event ?hg (N:=10) ?hd (cs:=#[.int .i64 0,.int .i64 0,.int .i64 0,.int .i64 0,.slice none 0 0,.slice none 0 0]) (t:=27) ?hr ?_;(case hd=>rfl);(case hg=>rfl);(case hr=>first|(go_simp;done)|(go_simp;rfl));intro gb139 hg w8 hbox hb;have n0_:=aM_ (blk_below (g:=gb138) (by (with_reducible repeat (first|apply kN_|apply kD_|apply kA_));exact BK138.out) hb);have n1_:=aM_ (below_step (by repeat (first|(with_reducible first|exact HB.out|apply wA_|apply wN_|apply wD_|refine below_set ?_ GE138.out)|exact HB.out)) hb);have n2_:=aM_ (hbox);have n3_:=aM_ ((by rw [hg];exact (below_size (by repeat (first|(with_reducible first|exact HB.out|apply wA_|apply wN_|apply wD_|refine below_set ?_ GE138.out)|exact HB.out))):w.heap.size≤gb139));have n4_:=aM_ ((by rw [hg];exact (below_size (by repeat (first|(with_reducible first|exact HB.out|apply wA_|apply wN_|apply wD_|refine below_set ?_ GE138.out)|exact HB.out))):w.heap.size≤gb139));have n5_:=aM_ ((by rw [hg];exact Nat.ne_of_lt (blk_lt (g:=gb138) (by (with_reducible repeat (first|apply kN_|apply kD_|apply kA_));exact BK138.out)):gb138≠gb139));have n6_:=aM_ n5_.out.symm;clear BK138;clear HB;have BK138:=n0_;have HB:=n1_;have BK139:=n2_;have GW139:=n3_;have GE139:=n4_;have NB138_139:=n5_;have NB139_138:=n6_;clear n0_ n1_ n2_ n3_ n4_ n5_ n6_;clear hb hbox hg))
 (try simp only [Act.put,sA_,s0_,s1_])
 go_cut [49] (fun v49 wc=>∃ (kq:Nat) (x49_5:Bool),v49=.bool x49_5∧Aside0 (spec_ImageCut.j0 kq a1 a2 a3 a4 x49_5 a0_0 a0_1 a0_2 a0_3 l0_4 l0_5=some (r1,r2,r3,r4,r5,r6,r7))∧Aside0 (kq≤k)∧Aside0 (wc.heap[gb138]?=some (.cells #[.int .i64 a0_0,.int .i64 a0_1,.int .i64 a0_2,.int .i64 a0_3,(.slice A0_4 l0_4.length c0_4),(.slice A0_5 l0_5.length c0_5)] 27 (0,0)))∧Aside0 (wc.heap[gb139]?=some (.cells #[.int .i64 0,.int .i64 0,.int .i64 0,.int .i64 0,(.slice none 0 0),(.slice none 0 0)] 27 (0,0)))∧Aside0 (Below w.heap.size w wc))
 case first =>
  have H:=HC6.out
  clear HC6
  replace H:=Option.bind_eq_some_iff.mp H
  obtain ⟨t140,A90,H⟩:=H
  replace H:(if t140=true then ((spec_l1In.f a3 1 a0_2).bind fun t141=>(if t141=true then ((spec_l1In.f a4 1 a0_3).bind fun t142=>(if t142=true then ((spec_l1In.f a1 0 (wrap64 (a0_2 - a3))).bind fun t143=>(if t143=true then ((spec_l1In.f a2 0 (wrap64 (a0_3 - a4))).bind fun t144=>(spec_ImageCut.j0 k a1 a2 a3 a4 (!t144) a0_0 a0_1 a0_2 a0_3 l0_4 l0_5)) else (spec_ImageCut.j0 k a1 a2 a3 a4 true a0_0 a0_1 a0_2 a0_3 l0_4 l0_5))) else (spec_ImageCut.j0 k a1 a2 a3 a4 true a0_0 a0_1 a0_2 a0_3 l0_4 l0_5))) else (spec_ImageCut.j0 k a1 a2 a3 a4 true a0_0 a0_1 a0_2 a0_3 l0_4 l0_5))) else (spec_ImageCut.j0 k a1 a2 a3 a4 true a0_0 a0_1 a0_2 a0_3 l0_4 l0_5))=some (r1,r2,r3,r4,r5,r6,r7):=H
  have A9:=aM_ A90
  clear A90
  by_cases c10:t140=true
  ·subst c10
   have H1:((spec_l1In.f a3 1 a0_2).bind fun t141=>(if t141=true then ((spec_l1In.f a4 1 a0_3).bind fun t142=>(if t142=true then ((spec_l1In.f a1 0 (wrap64 (a0_2 - a3))).bind fun t143=>(if t143=true then ((spec_l1In.f a2 0 (wrap64 (a0_3 - a4))).bind fun t144=>(spec_ImageCut.j0 k a1 a2 a3 a4 (!t144) a0_0 a0_1 a0_2 a0_3 l0_4 l0_5)) else (spec_ImageCut.j0 k a1 a2 a3 a4 true a0_0 a0_1 a0_2 a0_3 l0_4 l0_5))) else (spec_ImageCut.j0 k a1 a2 a3 a4 true a0_0 a0_1 a0_2 a0_3 l0_4 l0_5))) else (spec_ImageCut.j0 k a1 a2 a3 a4 true a0_0 a0_1 a0_2 a0_3 l0_4 l0_5)))=some (r1,r2,r3,r4,r5,r6,r7):=by first|(rw [if_pos rfl] at H;exact H)|rfl
   clear H
   have H:=H1
   clear H1
   replace H:=Option.bind_eq_some_iff.mp H
   obtain ⟨t141,A110,H⟩:=H
   replace H:(if t141=true then ((spec_l1In.f a4 1 a0_3).bind fun t142=>(if t142=true then ((spec_l1In.f a1 0 (wrap64 (a0_2 - a3))).bind fun t143=>(if t143=true then ((spec_l1In.f a2 0 (wrap64 (a0_3 - a4))).bind fun t144=>(spec_ImageCut.j0 k a1 a2 a3 a4 (!t144) a0_0 a0_1 a0_2 a0_3 l0_4 l0_5)) else (spec_ImageCut.j0 k a1 a2 a3 a4 true a0_0 a0_1 a0_2 a0_3 l0_4 l0_5))) else (spec_ImageCut.j0 k a1 a2 a3 a4 true a0_0 a0_1 a0_2 a0_3 l0_4 l0_5))) else (spec_ImageCut.j0 k a1 a2 a3 a4 true a0_0 a0_1 a0_2 a0_3 l0_4 l0_5))=some (r1,r2,r3,r4,r5,r6,r7):=H
   have A11:=aM_ A110
   clear A110
   by_cases c12:t141=true
   ·subst c12
    have H1:((spec_l1In.f a4 1 a0_3).bind fun t142=>(if t142=true then ((spec_l1In.f a1 0 (wrap64 (a0_2 - a3))).bind fun t143=>(if t143=true then ((spec_l1In.f a2 0 (wrap64 (a0_3 - a4))).bind fun t144=>(spec_ImageCut.j0 k a1 a2 a3 a4 (!t144) a0_0 a0_1 a0_2 a0_3 l0_4 l0_5)) else (spec_ImageCut.j0 k a1 a2 a3 a4 true a0_0 a0_1 a0_2 a0_3 l0_4 l0_5))) else (spec_ImageCut.j0 k a1 a2 a3 a4 true a0_0 a0_1 a0_2 a0_3 l0_4 l0_5)))=some (r1,r2,r3,r4,r5,r6,r7):=by first|(rw [if_pos rfl] at H;exact H)|rfl
    clear H
    have H:=H1
    clear H1
    replace H:=Option.bind_eq_some_iff.mp H
    obtain ⟨t142,A130,H⟩:=H
    replace H:(if t142=true then ((spec_l1In.f a1 0 (wrap64 (a0_2 - a3))).bind fun t143=>(if t143=true then ((spec_l1In.f a2 0 (wrap64 (a0_3 - a4))).bind fun t144=>(spec_ImageCut.j0 k a1 a2 a3 a4 (!t144) a0_0 a0_1 a0_2 a0_3 l0_4 l0_5)) else (spec_ImageCut.j0 k a1 a2 a3 a4 true a0_0 a0_1 a0_2 a0_3 l0_4 l0_5))) else (spec_ImageCut.j0 k a1 a2 a3 a4 true a0_0 a0_1 a0_2 a0_3 l0_4 l0_5))=some (r1,r2,r3,r4,r5,r6,r7):=H
    have A13:=aM_ A130
    clear A130
    by_cases c14:t142=true
    ·subst c14
     have H1:((spec_l1In.f a1 0 (wrap64 (a0_2 - a3))).bind fun t143=>(if t143=true then ((spec_l1In.f a2 0 (wrap64 (a0_3 - a4))).bind fun t144=>(spec_ImageCut.j0 k a1 a2 a3 a4 (!t144) a0_0 a0_1 a0_2 a0_3 l0_4 l0_5)) else (spec_ImageCut.j0 k a1 a2 a3 a4 true a0_0 a0_1 a0_2 a0_3 l0_4 l0_5)))=some (r1,r2,r3,r4,r5,r6,r7):=by first|(rw [if_pos rfl] at H;exact H)|rfl
     clear H
     have H:=H1
     clear H1
     replace H:=Option.bind_eq_some_iff.mp H
     obtain ⟨t143,A150,H⟩:=H
     replace H:(if t143=true then ((spec_l1In.f a2 0 (wrap64 (a0_3 - a4))).bind fun t144=>(spec_ImageCut.j0 k a1 a2 a3 a4 (!t144) a0_0 a0_1 a0_2 a0_3 l0_4 l0_5)) else (spec_ImageCut.j0 k a1 a2 a3 a4 true a0_0 a0_1 a0_2 a0_3 l0_4 l0_5))=some (r1,r2,r3,r4,r5,r6,r7):=H
     have A15:=aM_ A150
     clear A150
     by_cases c16:t143=true
     ·subst c16
      have H1:((spec_l1In.f a2 0 (wrap64 (a0_3 - a4))).bind fun t144=>(spec_ImageCut.j0 k a1 a2 a3 a4 (!t144) a0_0 a0_1 a0_2 a0_3 l0_4 l0_5))=some (r1,r2,r3,r4,r5,r6,r7):=by first|(rw [if_pos rfl] at H;exact H)|rfl
      clear H
      have H:=H1
      clear H1
      replace H:=Option.bind_eq_some_iff.mp H
      obtain ⟨t144,A170,H⟩:=H
      replace H:(spec_ImageCut.j0 k a1 a2 a3 a4 (!t144) a0_0 a0_1 a0_2 a0_3 l0_4 l0_5)=some (r1,r2,r3,r4,r5,r6,r7):=H
      have A17:=aM_ A170
      clear A170
      have H':=aM_ H
      clear H
      have hnb18:=NB138_139.out
      have hnc18:=NB139_138.out
      obtain ⟨hcz19_0,hcz19_1,hcz19_2,hcz19_3,hcz19_4,hcz19_5⟩:=bc6 BK138.out
      obtain ⟨hfz19_0,hfz19_1,hfz19_2,hfz19_3,hfz19_4,hfz19_5⟩:=bf6 BK138.out
      go_wp2_with (first|((with_reducible refine gate_callee (f:=16) rfl ?_);refine goesL_ (some 16) rfl rfl Try.func16 (by kernel_rfl) rfl #[.agg #[.int .i64 a0_0,.int .i64 a0_1,.int .i64 a0_2,.int .i64 a0_3,.slice A0_4 l0_4.length c0_4,.slice A0_5 l0_5.length c0_5]] rfl (by (try simp only [List.map_toArray,List.map_cons,List.map_nil]);first|done|rfl|(simp only [List.length_drop,List.length_take];rfl)) ?_;(with_reducible refine (spec_ImageOk.calls k a0_0 a0_1 a0_2 a0_3 _ _ l0_4 _ _ l0_5 true _ ?side1 ?side2 ?side3 ?side4 A9.out).mono ?_);(case side1=>repeat (first|exact (Kd.C_below HR0_4.out HB.out)|(with_reducible refine Kd.C_alloc ?_ _)|(with_reducible refine Kd.C_drewN ?_ _)|(with_reducible refine Kd.C_drew ?_)));(case side2=>exact HC0_4.out);(case side3=>repeat (first|exact (Kd.C_below HR0_5.out HB.out)|(with_reducible refine Kd.C_alloc ?_ _)|(with_reducible refine Kd.C_drewN ?_ _)|(with_reducible refine Kd.C_drew ?_)));(case side4=>exact HC0_5.out);rintro e w20 ⟨rfl,hb⟩;refine ⟨_,rfl,?_⟩;have n0_:=aM_ (blk_below (g:=gb138) (by (with_reducible repeat (first|apply kN_|apply kD_|apply kA_));exact BK138.out) hb);have n1_:=aM_ (blk_below (g:=gb139) (by (with_reducible repeat (first|apply kN_|apply kD_|apply kA_));exact BK139.out) hb);have n2_:=aM_ (below_step (by repeat (first|(with_reducible first|exact HB.out|apply wA_|apply wN_|apply wD_|refine below_set ?_ GE138.out|refine below_set ?_ GE139.out)|exact HB.out)) hb);clear BK138;clear BK139;clear HB;have BK138:=n0_;have BK139:=n1_;have HB:=n2_;clear n0_ n1_ n2_;(try clear hb);(try clear hb2);(try clear hk);(try clear hi);obtain ⟨hcz21_0,hcz21_1,hcz21_2,hcz21_3,hcz21_4,hcz21_5⟩:=bc6 BK138.out;obtain ⟨hfz21_0,hfz21_1,hfz21_2,hfz21_3,hfz21_4,hfz21_5⟩:=bf6 BK138.out)|(go_at_call 44;(with_reducible refine (spec_l1In.calls a3 1 a0_2 true _ A11.out).mono ?_);rintro e w' ⟨rfl,⟨nd,rfl⟩⟩)|(go_at_call 44;(with_reducible refine (spec_l1In.calls a4 1 a0_3 true _ A13.out).mono ?_);rintro e w' ⟨rfl,⟨nd,rfl⟩⟩)|(go_at_call 44;(with_reducible refine (spec_l1In.calls a1 0 (wrap64 (a0_2 - a3)) true _ A15.out).mono ?_);rintro e w' ⟨rfl,⟨nd,rfl⟩⟩)|(go_at_call 44;(with_reducible refine (spec_l1In.calls a2 0 (wrap64 (a0_3 - a4)) t144 _ A17.out).mono ?_);rintro e w' ⟨rfl,⟨nd,rfl⟩⟩))
      go_meet
      case rel=>exact ⟨_,(!t144),(by first|rfl|(simp;done)|(simp [*];done)),H',⟨by first|omega|exact Nat.le_refl _⟩,⟨by (with_reducible repeat (first|apply kN_|apply kD_|apply kA_));exact BK138.out⟩,⟨by (with_reducible repeat (first|apply kN_|apply kD_|apply kA_));exact BK139.out⟩,⟨by repeat (first|(with_reducible first|exact HB.out|apply wA_|apply wN_|apply wD_|refine below_set ?_ GE138.out|refine below_set ?_ GE139.out)|exact HB.out)⟩⟩
     ·replace c16:=Bool.eq_false_iff.mpr c16
      subst c16
      have H1:(spec_ImageCut.j0 k a1 a2 a3 a4 true a0_0 a0_1 a0_2 a0_3 l0_4 l0_5)=some (r1,r2,r3,r4,r5,r6,r7):=by first|(rw [if_neg (show ¬ (false=true) by decide)] at H;exact H)|rfl
      clear H
      have H:=H1
      clear H1
      have H':=aM_ H
      clear H
      have hnb22:=NB138_139.out
      have hnc22:=NB139_138.out
      obtain ⟨hcz23_0,hcz23_1,hcz23_2,hcz23_3,hcz23_4,hcz23_5⟩:=bc6 BK138.out
      obtain ⟨hfz23_0,hfz23_1,hfz23_2,hfz23_3,hfz23_4,hfz23_5⟩:=bf6 BK138.out
      go_wp2_with (first|((with_reducible refine gate_callee (f:=16) rfl ?_);refine goesL_ (some 16) rfl rfl Try.func16 (by kernel_rfl) rfl #[.agg #[.int .i64 a0_0,.int .i64 a0_1,.int .i64 a0_2,.int .i64 a0_3,.slice A0_4 l0_4.length c0_4,.slice A0_5 l0_5.length c0_5]] rfl (by (try simp only [List.map_toArray,List.map_cons,List.map_nil]);first|done|rfl|(simp only [List.length_drop,List.length_take];rfl)) ?_;(with_reducible refine (spec_ImageOk.calls k a0_0 a0_1 a0_2 a0_3 _ _ l0_4 _ _ l0_5 true _ ?side1 ?side2 ?side3 ?side4 A9.out).mono ?_);(case side1=>repeat (first|exact (Kd.C_below HR0_4.out HB.out)|(with_reducible refine Kd.C_alloc ?_ _)|(with_reducible refine Kd.C_drewN ?_ _)|(with_reducible refine Kd.C_drew ?_)));(case side2=>exact HC0_4.out);(case side3=>repeat (first|exact (Kd.C_below HR0_5.out HB.out)|(with_reducible refine Kd.C_alloc ?_ _)|(with_reducible refine Kd.C_drewN ?_ _)|(with_reducible refine Kd.C_drew ?_)));(case side4=>exact HC0_5.out);rintro e w24 ⟨rfl,hb⟩;refine ⟨_,rfl,?_⟩;have n0_:=aM_ (blk_below (g:=gb138) (by (with_reducible repeat (first|apply kN_|apply kD_|apply kA_));exact BK138.out) hb);have n1_:=aM_ (blk_below (g:=gb139) (by (with_reducible repeat (first|apply kN_|apply kD_|apply kA_));exact BK139.out) hb);have n2_:=aM_ (below_step (by repeat (first|(with_reducible first|exact HB.out|apply wA_|apply wN_|apply wD_|refine below_set ?_ GE138.out|refine below_set ?_ GE139.out)|exact HB.out)) hb);clear BK138;clear BK139;clear HB;have BK138:=n0_;have BK139:=n1_;have HB:=n2_;clear n0_ n1_ n2_;(try clear hb);(try clear hb2);(try clear hk);(try clear hi);obtain ⟨hcz25_0,hcz25_1,hcz25_2,hcz25_3,hcz25_4,hcz25_5⟩:=bc6 BK138.out;obtain ⟨hfz25_0,hfz25_1,hfz25_2,hfz25_3,hfz25_4,hfz25_5⟩:=bf6 BK138.out)|(go_at_call 44;(with_reducible refine (spec_l1In.calls a3 1 a0_2 true _ A11.out).mono ?_);rintro e w' ⟨rfl,⟨nd,rfl⟩⟩)|(go_at_call 44;(with_reducible refine (spec_l1In.calls a4 1 a0_3 true _ A13.out).mono ?_);rintro e w' ⟨rfl,⟨nd,rfl⟩⟩)|(go_at_call 44;(with_reducible refine (spec_l1In.calls a1 0 (wrap64 (a0_2 - a3)) false _ A15.out).mono ?_);rintro e w' ⟨rfl,⟨nd,rfl⟩⟩))
      go_meet
      case rel=>exact ⟨_,(true),(by first|rfl|(simp;done)|(simp [*];done)),H',⟨by first|omega|exact Nat.le_refl _⟩,⟨by (with_reducible repeat (first|apply kN_|apply kD_|apply kA_));exact BK138.out⟩,⟨by (with_reducible repeat (first|apply kN_|apply kD_|apply kA_));exact BK139.out⟩,⟨by repeat (first|(with_reducible first|exact HB.out|apply wA_|apply wN_|apply wD_|refine below_set ?_ GE138.out|refine below_set ?_ GE139.out)|exact HB.out)⟩⟩
    ·replace c14:=Bool.eq_false_iff.mpr c14
     subst c14
     have H1:(spec_ImageCut.j0 k a1 a2 a3 a4 true a0_0 a0_1 a0_2 a0_3 l0_4 l0_5)=some (r1,r2,r3,r4,r5,r6,r7):=by first|(rw [if_neg (show ¬ (false=true) by decide)] at H;exact H)|rfl
     clear H
     have H:=H1
     clear H1
     have H':=aM_ H
     clear H
     have hnb26:=NB138_139.out
     have hnc26:=NB139_138.out
     obtain ⟨hcz27_0,hcz27_1,hcz27_2,hcz27_3,hcz27_4,hcz27_5⟩:=bc6 BK138.out
     obtain ⟨hfz27_0,hfz27_1,hfz27_2,hfz27_3,hfz27_4,hfz27_5⟩:=bf6 BK138.out
     go_wp2_with (first|((with_reducible refine gate_callee (f:=16) rfl ?_);refine goesL_ (some 16) rfl rfl Try.func16 (by kernel_rfl) rfl #[.agg #[.int .i64 a0_0,.int .i64 a0_1,.int .i64 a0_2,.int .i64 a0_3,.slice A0_4 l0_4.length c0_4,.slice A0_5 l0_5.length c0_5]] rfl (by (try simp only [List.map_toArray,List.map_cons,List.map_nil]);first|done|rfl|(simp only [List.length_drop,List.length_take];rfl)) ?_;(with_reducible refine (spec_ImageOk.calls k a0_0 a0_1 a0_2 a0_3 _ _ l0_4 _ _ l0_5 true _ ?side1 ?side2 ?side3 ?side4 A9.out).mono ?_);(case side1=>repeat (first|exact (Kd.C_below HR0_4.out HB.out)|(with_reducible refine Kd.C_alloc ?_ _)|(with_reducible refine Kd.C_drewN ?_ _)|(with_reducible refine Kd.C_drew ?_)));(case side2=>exact HC0_4.out);(case side3=>repeat (first|exact (Kd.C_below HR0_5.out HB.out)|(with_reducible refine Kd.C_alloc ?_ _)|(with_reducible refine Kd.C_drewN ?_ _)|(with_reducible refine Kd.C_drew ?_)));(case side4=>exact HC0_5.out);rintro e w28 ⟨rfl,hb⟩;refine ⟨_,rfl,?_⟩;have n0_:=aM_ (blk_below (g:=gb138) (by (with_reducible repeat (first|apply kN_|apply kD_|apply kA_));exact BK138.out) hb);have n1_:=aM_ (blk_below (g:=gb139) (by (with_reducible repeat (first|apply kN_|apply kD_|apply kA_));exact BK139.out) hb);have n2_:=aM_ (below_step (by repeat (first|(with_reducible first|exact HB.out|apply wA_|apply wN_|apply wD_|refine below_set ?_ GE138.out|refine below_set ?_ GE139.out)|exact HB.out)) hb);clear BK138;clear BK139;clear HB;have BK138:=n0_;have BK139:=n1_;have HB:=n2_;clear n0_ n1_ n2_;(try clear hb);(try clear hb2);(try clear hk);(try clear hi);obtain ⟨hcz29_0,hcz29_1,hcz29_2,hcz29_3,hcz29_4,hcz29_5⟩:=bc6 BK138.out;obtain ⟨hfz29_0,hfz29_1,hfz29_2,hfz29_3,hfz29_4,hfz29_5⟩:=bf6 BK138.out)|(go_at_call 44;(with_reducible refine (spec_l1In.calls a3 1 a0_2 true _ A11.out).mono ?_);rintro e w' ⟨rfl,⟨nd,rfl⟩⟩)|(go_at_call 44;(with_reducible refine (spec_l1In.calls a4 1 a0_3 false _ A13.out).mono ?_);rintro e w' ⟨rfl,⟨nd,rfl⟩⟩))
     go_meet
     case rel=>exact ⟨_,(true),(by first|rfl|(simp;done)|(simp [*];done)),H',⟨by first|omega|exact Nat.le_refl _⟩,⟨by (with_reducible repeat (first|apply kN_|apply kD_|apply kA_));exact BK138.out⟩,⟨by (with_reducible repeat (first|apply kN_|apply kD_|apply kA_));exact BK139.out⟩,⟨by repeat (first|(with_reducible first|exact HB.out|apply wA_|apply wN_|apply wD_|refine below_set ?_ GE138.out|refine below_set ?_ GE139.out)|exact HB.out)⟩⟩
   ·replace c12:=Bool.eq_false_iff.mpr c12
    subst c12
    have H1:(spec_ImageCut.j0 k a1 a2 a3 a4 true a0_0 a0_1 a0_2 a0_3 l0_4 l0_5)=some (r1,r2,r3,r4,r5,r6,r7):=by first|(rw [if_neg (show ¬ (false=true) by decide)] at H;exact H)|rfl
    clear H
    have H:=H1
    clear H1
    have H':=aM_ H
    clear H
    have hnb30:=NB138_139.out
    have hnc30:=NB139_138.out
    obtain ⟨hcz31_0,hcz31_1,hcz31_2,hcz31_3,hcz31_4,hcz31_5⟩:=bc6 BK138.out
    obtain ⟨hfz31_0,hfz31_1,hfz31_2,hfz31_3,hfz31_4,hfz31_5⟩:=bf6 BK138.out
    go_wp2_with (first|((with_reducible refine gate_callee (f:=16) rfl ?_);refine goesL_ (some 16) rfl rfl Try.func16 (by kernel_rfl) rfl #[.agg #[.int .i64 a0_0,.int .i64 a0_1,.int .i64 a0_2,.int .i64 a0_3,.slice A0_4 l0_4.length c0_4,.slice A0_5 l0_5.length c0_5]] rfl (by (try simp only [List.map_toArray,List.map_cons,List.map_nil]);first|done|rfl|(simp only [List.length_drop,List.length_take];rfl)) ?_;(with_reducible refine (spec_ImageOk.calls k a0_0 a0_1 a0_2 a0_3 _ _ l0_4 _ _ l0_5 true _ ?side1 ?side2 ?side3 ?side4 A9.out).mono ?_);(case side1=>repeat (first|exact (Kd.C_below HR0_4.out HB.out)|(with_reducible refine Kd.C_alloc ?_ _)|(with_reducible refine Kd.C_drewN ?_ _)|(with_reducible refine Kd.C_drew ?_)));(case side2=>exact HC0_4.out);(case side3=>repeat (first|exact (Kd.C_below HR0_5.out HB.out)|(with_reducible refine Kd.C_alloc ?_ _)|(with_reducible refine Kd.C_drewN ?_ _)|(with_reducible refine Kd.C_drew ?_)));(case side4=>exact HC0_5.out);rintro e w32 ⟨rfl,hb⟩;refine ⟨_,rfl,?_⟩;have n0_:=aM_ (blk_below (g:=gb138) (by (with_reducible repeat (first|apply kN_|apply kD_|apply kA_));exact BK138.out) hb);have n1_:=aM_ (blk_below (g:=gb139) (by (with_reducible repeat (first|apply kN_|apply kD_|apply kA_));exact BK139.out) hb);have n2_:=aM_ (below_step (by repeat (first|(with_reducible first|exact HB.out|apply wA_|apply wN_|apply wD_|refine below_set ?_ GE138.out|refine below_set ?_ GE139.out)|exact HB.out)) hb);clear BK138;clear BK139;clear HB;have BK138:=n0_;have BK139:=n1_;have HB:=n2_;clear n0_ n1_ n2_;(try clear hb);(try clear hb2);(try clear hk);(try clear hi);obtain ⟨hcz33_0,hcz33_1,hcz33_2,hcz33_3,hcz33_4,hcz33_5⟩:=bc6 BK138.out;obtain ⟨hfz33_0,hfz33_1,hfz33_2,hfz33_3,hfz33_4,hfz33_5⟩:=bf6 BK138.out)|(go_at_call 44;(with_reducible refine (spec_l1In.calls a3 1 a0_2 false _ A11.out).mono ?_);rintro e w' ⟨rfl,⟨nd,rfl⟩⟩))
    go_meet
    case rel=>exact ⟨_,(true),(by first|rfl|(simp;done)|(simp [*];done)),H',⟨by first|omega|exact Nat.le_refl _⟩,⟨by (with_reducible repeat (first|apply kN_|apply kD_|apply kA_));exact BK138.out⟩,⟨by (with_reducible repeat (first|apply kN_|apply kD_|apply kA_));exact BK139.out⟩,⟨by repeat (first|(with_reducible first|exact HB.out|apply wA_|apply wN_|apply wD_|refine below_set ?_ GE138.out|refine below_set ?_ GE139.out)|exact HB.out)⟩⟩
  ·replace c10:=Bool.eq_false_iff.mpr c10
   subst c10
   have H1:(spec_ImageCut.j0 k a1 a2 a3 a4 true a0_0 a0_1 a0_2 a0_3 l0_4 l0_5)=some (r1,r2,r3,r4,r5,r6,r7):=by first|(rw [if_neg (show ¬ (false=true) by decide)] at H;exact H)|rfl
   clear H
   have H:=H1
   clear H1
   have H':=aM_ H
   clear H
   have hnb34:=NB138_139.out
   have hnc34:=NB139_138.out
   obtain ⟨hcz35_0,hcz35_1,hcz35_2,hcz35_3,hcz35_4,hcz35_5⟩:=bc6 BK138.out
   obtain ⟨hfz35_0,hfz35_1,hfz35_2,hfz35_3,hfz35_4,hfz35_5⟩:=bf6 BK138.out
   go_wp2_with (first|((with_reducible refine gate_callee (f:=16) rfl ?_);refine goesL_ (some 16) rfl rfl Try.func16 (by kernel_rfl) rfl #[.agg #[.int .i64 a0_0,.int .i64 a0_1,.int .i64 a0_2,.int .i64 a0_3,.slice A0_4 l0_4.length c0_4,.slice A0_5 l0_5.length c0_5]] rfl (by (try simp only [List.map_toArray,List.map_cons,List.map_nil]);first|done|rfl|(simp only [List.length_drop,List.length_take];rfl)) ?_;(with_reducible refine (spec_ImageOk.calls k a0_0 a0_1 a0_2 a0_3 _ _ l0_4 _ _ l0_5 false _ ?side1 ?side2 ?side3 ?side4 A9.out).mono ?_);(case side1=>repeat (first|exact (Kd.C_below HR0_4.out HB.out)|(with_reducible refine Kd.C_alloc ?_ _)|(with_reducible refine Kd.C_drewN ?_ _)|(with_reducible refine Kd.C_drew ?_)));(case side2=>exact HC0_4.out);(case side3=>repeat (first|exact (Kd.C_below HR0_5.out HB.out)|(with_reducible refine Kd.C_alloc ?_ _)|(with_reducible refine Kd.C_drewN ?_ _)|(with_reducible refine Kd.C_drew ?_)));(case side4=>exact HC0_5.out);rintro e w36 ⟨rfl,hb⟩;refine ⟨_,rfl,?_⟩;have n0_:=aM_ (blk_below (g:=gb138) (by (with_reducible repeat (first|apply kN_|apply kD_|apply kA_));exact BK138.out) hb);have n1_:=aM_ (blk_below (g:=gb139) (by (with_reducible repeat (first|apply kN_|apply kD_|apply kA_));exact BK139.out) hb);have n2_:=aM_ (below_step (by repeat (first|(with_reducible first|exact HB.out|apply wA_|apply wN_|apply wD_|refine below_set ?_ GE138.out|refine below_set ?_ GE139.out)|exact HB.out)) hb);clear BK138;clear BK139;clear HB;have BK138:=n0_;have BK139:=n1_;have HB:=n2_;clear n0_ n1_ n2_;(try clear hb);(try clear hb2);(try clear hk);(try clear hi)))
   go_meet
   case rel=>exact ⟨_,(true),(by first|rfl|(simp;done)|(simp [*];done)),H',⟨by first|omega|exact Nat.le_refl _⟩,⟨by (with_reducible repeat (first|apply kN_|apply kD_|apply kA_));exact BK138.out⟩,⟨by (with_reducible repeat (first|apply kN_|apply kD_|apply kA_));exact BK139.out⟩,⟨by repeat (first|(with_reducible first|exact HB.out|apply wA_|apply wN_|apply wD_|refine below_set ?_ GE138.out|refine below_set ?_ GE139.out)|exact HB.out)⟩⟩
 case rest =>
  clear HC6
  try clear c1
  try clear c2
  try clear p2
  try clear c3
  try clear p6
  try clear c10
  try clear c12
  try clear c14
  try clear c16
  try clear c18
  try clear c22
  try clear c26
  try clear c30
  try clear c32
  try clear c34
  try clear hcz19_0 hcz19_1 hcz19_2 hcz19_3 hcz19_4 hcz19_5
  try clear hcz21_0 hcz21_1 hcz21_2 hcz21_3 hcz21_4 hcz21_5
  try clear hcz23_0 hcz23_1 hcz23_2 hcz23_3 hcz23_4 hcz23_5
  try clear hcz25_0 hcz25_1 hcz25_2 hcz25_3 hcz25_4 hcz25_5
  try clear hcz27_0 hcz27_1 hcz27_2 hcz27_3 hcz27_4 hcz27_5
  try clear hcz29_0 hcz29_1 hcz29_2 hcz29_3 hcz29_4 hcz29_5
  try clear hcz31_0 hcz31_1 hcz31_2 hcz31_3 hcz31_4 hcz31_5
  try clear hcz33_0 hcz33_1 hcz33_2 hcz33_3 hcz33_4 hcz33_5
  try clear hcz35_0 hcz35_1 hcz35_2 hcz35_3 hcz35_4 hcz35_5
  try clear hfz19_0 hfz19_1 hfz19_2 hfz19_3 hfz19_4 hfz19_5
  try clear hfz21_0 hfz21_1 hfz21_2 hfz21_3 hfz21_4 hfz21_5
  try clear hfz23_0 hfz23_1 hfz23_2 hfz23_3 hfz23_4 hfz23_5
  try clear hfz25_0 hfz25_1 hfz25_2 hfz25_3 hfz25_4 hfz25_5
  try clear hfz27_0 hfz27_1 hfz27_2 hfz27_3 hfz27_4 hfz27_5
  try clear hfz29_0 hfz29_1 hfz29_2 hfz29_3 hfz29_4 hfz29_5
  try clear hfz31_0 hfz31_1 hfz31_2 hfz31_3 hfz31_4 hfz31_5
  try clear hfz33_0 hfz33_1 hfz33_2 hfz33_3 hfz33_4 hfz33_5
  try clear hfz35_0 hfz35_1 hfz35_2 hfz35_3 hfz35_4 hfz35_5
  obtain ⟨kq,x49_5,rfl,HA,HJ5,BK138,BK139,HB⟩:=hcut
  cases kq with
  | zero=>exact absurd HA.out (by simp [spec_ImageCut.j0])
  | succ kj5 =>
   have H:=HA.out
   clear HA
   simp only [spec_ImageCut.j0] at H
   by_cases c37:x49_5=true
   ·subst c37
    have H1:(some (0,0,0,0,([]:List Int),([]:List Int),false))=some (r1,r2,r3,r4,r5,r6,r7):=by first|(rw [if_pos rfl] at H;exact H)|rfl
    clear H
    have H:=H1
    clear H1
    simp only [Option.some.injEq,Prod.mk.injEq] at H
    obtain ⟨rfl,rfl,rfl,rfl,rfl,rfl,rfl⟩:=H
    have hnb38:=NB139_138.out
    have hnc38:=NB138_139.out
    obtain ⟨hcz39_0,hcz39_1,hcz39_2,hcz39_3,hcz39_4,hcz39_5⟩:=bc6 BK139.out
    obtain ⟨hfz39_0,hfz39_1,hfz39_2,hfz39_3,hfz39_4,hfz39_5⟩:=bf6 BK139.out
    go_wp2
    refine bodyPost_ret (results_ct rfl _ _ gb139 27 #[.int .i64 0,.int .i64 0,.int .i64 0,.int .i64 0,.slice none 0 0,.slice none 0 0] (0,0) _ rfl (by (with_reducible repeat (first|apply kN_|apply kD_|apply kA_));refine blk_put (cs:=#[.int .i64 0,.int .i64 0,.int .i64 0,.int .i64 0,.slice none 0 0,.slice none 0 0]) ?_ 5 _ rfl;(with_reducible repeat (first|apply kN_|apply kD_|apply kA_));refine blk_put (cs:=#[.int .i64 0,.int .i64 0,.int .i64 0,.int .i64 0,.slice none 0 0,.slice none 0 0]) ?_ 4 _ rfl;(with_reducible repeat (first|apply kN_|apply kD_|apply kA_));refine blk_put (cs:=#[.int .i64 0,.int .i64 0,.int .i64 0,.int .i64 0,.slice none 0 0,.slice none 0 0]) ?_ 3 _ rfl;(with_reducible repeat (first|apply kN_|apply kD_|apply kA_));refine blk_put (cs:=#[.int .i64 0,.int .i64 0,.int .i64 0,.int .i64 0,.slice none 0 0,.slice none 0 0]) ?_ 2 _ rfl;(with_reducible repeat (first|apply kN_|apply kD_|apply kA_));refine blk_put (cs:=#[.int .i64 0,.int .i64 0,.int .i64 0,.int .i64 0,.slice none 0 0,.slice none 0 0]) ?_ 1 _ rfl;(with_reducible repeat (first|apply kN_|apply kD_|apply kA_));refine blk_put (cs:=#[.int .i64 0,.int .i64 0,.int .i64 0,.int .i64 0,.slice none 0 0,.slice none 0 0]) ?_ 0 _ rfl;(with_reducible repeat (first|apply kN_|apply kD_|apply kA_));exact BK139.out) Try.underlying27 rfl (by kernel_rfl)) rfl ?_
    exact ⟨_,_,by first|rfl|(simp [errW_none,errW_some] <;> rfl)|(simp [*,errW_none,errW_some] <;> rfl),by first|exact Kd.R_nil _ _ _ _ _|exact Kd.N_nil _ _ _ _ _|exact Kd.V_nil _ _ _ _ _|exact Kd.Q_nil _ _ _ _ _|exact Kd.S_nil _ _ _ _ _,by first|exact Kd.R_nil _ _ _ _ _|exact Kd.N_nil _ _ _ _ _|exact Kd.V_nil _ _ _ _ _|exact Kd.Q_nil _ _ _ _ _|exact Kd.S_nil _ _ _ _ _,by repeat (first|(with_reducible first|exact HB.out|apply wA_|apply wN_|apply wD_|refine below_set ?_ GE138.out|refine below_set ?_ GE139.out)|exact HB.out)⟩
   ·replace c37:=Bool.eq_false_iff.mpr c37
    subst c37
    have H1:((spec_l8Blank.f a0_0 a0_1 a0_2 a0_3 l0_4 l0_5 a3 a4).bind fun bt145=>(spec_ImageCut.l0 kj5 a1 a2 a3 a4 0 a0_0 a0_1 a0_2 a0_3 l0_4 l0_5 bt145.1 bt145.2.1 bt145.2.2.1 bt145.2.2.2.1 bt145.2.2.2.2.1 bt145.2.2.2.2.2))=some (r1,r2,r3,r4,r5,r6,r7):=by first|(rw [if_neg (show ¬ (false=true) by decide)] at H;exact H)|rfl
    clear H
    have H:=H1
    clear H1
    replace H:=Option.bind_eq_some_iff.mp H
    obtain ⟨⟨t145,t146,t147,t148,t149,t152⟩,A400,H⟩:=H
    replace H:(spec_ImageCut.l0 kj5 a1 a2 a3 a4 0 a0_0 a0_1 a0_2 a0_3 l0_4 l0_5 t145 t146 t147 t148 t149 t152)=some (r1,r2,r3,r4,r5,r6,r7):=H
    have A40:=aM_ A400
    clear A400
    have H':=aM_ H
    clear H
    have hnb41:=NB138_139.out
    have hnc41:=NB139_138.out
    obtain ⟨hcz42_0,hcz42_1,hcz42_2,hcz42_3,hcz42_4,hcz42_5⟩:=bc6 BK138.out
    obtain ⟨hfz42_0,hfz42_1,hfz42_2,hfz42_3,hfz42_4,hfz42_5⟩:=bf6 BK138.out
    go_wp2_with (first|((with_reducible refine gate_callee (f:=56) rfl ?_);refine goesL_ (some 54) rfl rfl Try.func56 (by kernel_rfl) rfl #[.agg #[.int .i64 a0_0,.int .i64 a0_1,.int .i64 a0_2,.int .i64 a0_3,.slice A0_4 l0_4.length c0_4,.slice A0_5 l0_5.length c0_5],.int .i64 a3,.int .i64 a4] rfl (by (try simp only [List.map_toArray,List.map_cons,List.map_nil]);first|done|rfl|(simp only [List.length_drop,List.length_take];rfl)) ?_;(with_reducible refine (spec_l8Blank.calls a0_0 a0_1 a0_2 a0_3 _ _ l0_4 _ _ l0_5 a3 a4 t145 t146 t147 t148 t149 t152 _ ?side1 ?side2 ?side3 ?side4 A40.out).mono ?_);(case side1=>repeat (first|exact (Kd.C_below HR0_4.out HB.out)|(with_reducible refine Kd.C_alloc ?_ _)|(with_reducible refine Kd.C_drewN ?_ _)|(with_reducible refine Kd.C_drew ?_)));(case side2=>exact HC0_4.out);(case side3=>repeat (first|exact (Kd.C_below HR0_5.out HB.out)|(with_reducible refine Kd.C_alloc ?_ _)|(with_reducible refine Kd.C_drewN ?_ _)|(with_reducible refine Kd.C_drew ?_)));(case side4=>exact HC0_5.out);rintro e w43 ⟨v150,v153,rfl,ho0,ho1,hb⟩;refine ⟨_,rfl,?_⟩;have n0_:=aM_ (Kd.R_lower ho0 (below_size (by repeat (first|(with_reducible first|exact HB.out|apply wA_|apply wN_|apply wD_|refine below_set ?_ GE138.out|refine below_set ?_ GE139.out)|exact HB.out))));have n1_:=aM_ (Kd.R_lower ho1 (below_size (by repeat (first|(with_reducible first|exact HB.out|apply wA_|apply wN_|apply wD_|refine below_set ?_ GE138.out|refine below_set ?_ GE139.out)|exact HB.out))));have n2_:=aM_ (blk_below (g:=gb138) (by (with_reducible repeat (first|apply kN_|apply kD_|apply kA_));exact BK138.out) hb);have n3_:=aM_ (blk_below (g:=gb139) (by (with_reducible repeat (first|apply kN_|apply kD_|apply kA_));exact BK139.out) hb);have n4_:=aM_ (below_step (by repeat (first|(with_reducible first|exact HB.out|apply wA_|apply wN_|apply wD_|refine below_set ?_ GE138.out|refine below_set ?_ GE139.out)|exact HB.out)) hb);clear BK138;clear BK139;clear HB;have HO151:=n0_;have HO154:=n1_;have BK138:=n2_;have BK139:=n3_;have HB:=n4_;clear n0_ n1_ n2_ n3_ n4_;(try clear hb);(try clear hb2);(try clear hk);(try clear hi);(try clear ho0);(try clear ho1))|((with_reducible refine gate_dst (N:=12) rfl ?_);refine box_event ?hg (N:=12) ?hd (cs:=#[.int .i64 0,.int .i64 0,.int .i64 0,.int .i64 0,.slice none 0 0,.slice none 0 0]) (t:=27) ?hr ?_;(case hd=>rfl);(case hg=>rfl);(case hr=>first|(go_simp;done)|(go_simp;rfl));intro gb155 hg w44 hbox hb;have n0_:=aM_ (Kd.R_below (by (with_reducible repeat (first|apply rA_|apply rN_|apply rD_));exact HO151.out) hb);have n1_:=aM_ (Kd.R_below (by (with_reducible repeat (first|apply rA_|apply rN_|apply rD_));exact HO154.out) hb);have n2_:=aM_ (blk_below (g:=gb138) (by (with_reducible repeat (first|apply kN_|apply kD_|apply kA_));exact BK138.out) hb);have n3_:=aM_ (blk_below (g:=gb139) (by (with_reducible repeat (first|apply kN_|apply kD_|apply kA_));exact BK139.out) hb);have n4_:=aM_ (below_step (by repeat (first|(with_reducible first|exact HB.out|apply wA_|apply wN_|apply wD_|refine below_set ?_ GE138.out|refine below_set ?_ GE139.out)|exact HB.out)) hb);have n5_:=aM_ (hbox);have n6_:=aM_ ((by rw [hg];exact (below_size (by repeat (first|(with_reducible first|exact HB.out|apply wA_|apply wN_|apply wD_|refine below_set ?_ GE138.out|refine below_set ?_ GE139.out)|exact HB.out))):w.heap.size≤gb155));have n7_:=aM_ ((by rw [hg];exact (below_size (by repeat (first|(with_reducible first|exact HB.out|apply wA_|apply wN_|apply wD_|refine below_set ?_ GE138.out|refine below_set ?_ GE139.out)|exact HB.out))):w.heap.size≤gb155));have n8_:=aM_ ((by rw [hg];exact Nat.ne_of_lt (blk_lt (g:=gb138) (by (with_reducible repeat (first|apply kN_|apply kD_|apply kA_));exact BK138.out)):gb138≠gb155));have n9_:=aM_ n8_.out.symm;have n10_:=aM_ ((by rw [hg];exact Nat.ne_of_lt (blk_lt (g:=gb139) (by (with_reducible repeat (first|apply kN_|apply kD_|apply kA_));exact BK139.out)):gb139≠gb155));have n11_:=aM_ n10_.out.symm;clear HO151;clear HO154;clear BK138;clear BK139;clear HB;have HO151:=n0_;have HO154:=n1_;have BK138:=n2_;have BK139:=n3_;have HB:=n4_;have BK155:=n5_;have GW155:=n6_;have GE155:=n7_;have NB138_155:=n8_;have NB155_138:=n9_;have NB139_155:=n10_;have NB155_139:=n11_;clear n0_ n1_ n2_ n3_ n4_ n5_ n6_ n7_ n8_ n9_ n10_ n11_;clear hb hbox hg;have hnb45:=NB155_138.out;have hnc45:=NB138_155.out;have hnb46:=NB155_139.out;have hnc46:=NB139_155.out;obtain ⟨hcz47_0,hcz47_1,hcz47_2,hcz47_3,hcz47_4,hcz47_5⟩:=bc6 BK155.out;obtain ⟨hfz47_0,hfz47_1,hfz47_2,hfz47_3,hfz47_4,hfz47_5⟩:=bf6 BK155.out;obtain ⟨Ao48,co48,eo48⟩:=Kd.R_slice HO151.out;subst eo48;obtain ⟨Ao49,co49,eo49⟩:=Kd.R_slice HO154.out;subst eo49))
    go_loopg [13] kj5 (fun kq v13 w'=>∃ (x13_2:Int) (x156005_2:List Int) (u156005:Value),v13=.int .i64 x13_2∧Aside0 (spec_ImageCut.l0 kq a1 a2 a3 a4 x13_2 a0_0 a0_1 a0_2 a0_3 l0_4 l0_5 t145 t146 t147 t148 t149 x156005_2=some (r1,r2,r3,r4,r5,r6,r7))∧Aside0 (kq≤kj5)∧Aside0 (Kd.R (Kd.int .i64) 3 w' w.heap.size (fun k_=>some k_≠(u156005:Value).ownBlock) (.slice Ao48 t149.length co48) t149)∧Aside0 (Kd.R (Kd.int .i64) 3 w' w.heap.size (fun k_=>some k_≠((.slice Ao48 t149.length co48):Value).ownBlock) u156005 x156005_2)∧Aside0 (w'.heap[gb138]?=some (.cells #[.int .i64 a0_0,.int .i64 a0_1,.int .i64 a0_2,.int .i64 a0_3,(.slice A0_4 l0_4.length c0_4),(.slice A0_5 l0_5.length c0_5)] 27 (0,0)))∧Aside0 (w'.heap[gb139]?=some (.cells #[.int .i64 0,.int .i64 0,.int .i64 0,.int .i64 0,(.slice none 0 0),(.slice none 0 0)] 27 (0,0)))∧Aside0 (w'.heap[gb155]?=some (.cells #[.int .i64 t145,.int .i64 t146,.int .i64 t147,.int .i64 t148,(.slice Ao48 t149.length co48),u156005] 27 (0,0)))∧Aside0 (Below w.heap.size w w'))
    case atStart=>exact ⟨(0),(t152),(.slice Ao49 t152.length co49),(by first|rfl|(simp;done)|(simp [*];done)),H',⟨Nat.le_refl _⟩,⟨by (with_reducible repeat (first|apply rA_|apply rN_|apply rD_));exact Kd.R_mono (Kd.R_far (Kd.R_far (Kd.R_far (Kd.R_far (Kd.R_far (Kd.R_far (Kd.R_types HO151.out BK155.out (by decide)) (fun _ hk=>hk.2) _) (fun _ hk=>hk.2) _) (fun _ hk=>hk.2) _) (fun _ hk=>hk.2) _) (fun _ hk=>hk.2) _) (fun _ hk=>hk.2) _) (fun _ hk=>hk.1)⟩,⟨by (with_reducible repeat (first|apply rA_|apply rN_|apply rD_));exact Kd.R_mono (Kd.R_far (Kd.R_far (Kd.R_far (Kd.R_far (Kd.R_far (Kd.R_far (Kd.R_types HO154.out BK155.out (by decide)) (fun _ hk=>hk.2) _) (fun _ hk=>hk.2) _) (fun _ hk=>hk.2) _) (fun _ hk=>hk.2) _) (fun _ hk=>hk.2) _) (fun _ hk=>hk.2) _) (fun _ hk=>hk.1)⟩,⟨by (with_reducible repeat (first|apply kN_|apply kD_|apply kA_));refine blk_far ?_ NB138_155.out _;(with_reducible repeat (first|apply kN_|apply kD_|apply kA_));refine blk_far ?_ NB138_155.out _;(with_reducible repeat (first|apply kN_|apply kD_|apply kA_));refine blk_far ?_ NB138_155.out _;(with_reducible repeat (first|apply kN_|apply kD_|apply kA_));refine blk_far ?_ NB138_155.out _;(with_reducible repeat (first|apply kN_|apply kD_|apply kA_));refine blk_far ?_ NB138_155.out _;(with_reducible repeat (first|apply kN_|apply kD_|apply kA_));refine blk_far ?_ NB138_155.out _;(with_reducible repeat (first|apply kN_|apply kD_|apply kA_));exact BK138.out⟩,⟨by (with_reducible repeat (first|apply kN_|apply kD_|apply kA_));refine blk_far ?_ NB139_155.out _;(with_reducible repeat (first|apply kN_|apply kD_|apply kA_));refine blk_far ?_ NB139_155.out _;(with_reducible repeat (first|apply kN_|apply kD_|apply kA_));refine blk_far ?_ NB139_155.out _;(with_reducible repeat (first|apply kN_|apply kD_|apply kA_));refine blk_far ?_ NB139_155.out _;(with_reducible repeat (first|apply kN_|apply kD_|apply kA_));refine blk_far ?_ NB139_155.out _;(with_reducible repeat (first|apply kN_|apply kD_|apply kA_));refine blk_far ?_ NB139_155.out _;(with_reducible repeat (first|apply kN_|apply kD_|apply kA_));exact BK139.out⟩,⟨by (with_reducible repeat (first|apply kN_|apply kD_|apply kA_));refine blk_put (cs:=#[.int .i64 t145,.int .i64 t146,.int .i64 t147,.int .i64 t148,.slice Ao48 t149.length co48,.slice none 0 0]) ?_ 5 _ rfl;(with_reducible repeat (first|apply kN_|apply kD_|apply kA_));refine blk_put (cs:=#[.int .i64 t145,.int .i64 t146,.int .i64 t147,.int .i64 t148,.slice none 0 0,.slice none 0 0]) ?_ 4 _ rfl;(with_reducible repeat (first|apply kN_|apply kD_|apply kA_));refine blk_put (cs:=#[.int .i64 t145,.int .i64 t146,.int .i64 t147,.int .i64 0,.slice none 0 0,.slice none 0 0]) ?_ 3 _ rfl;(with_reducible repeat (first|apply kN_|apply kD_|apply kA_));refine blk_put (cs:=#[.int .i64 t145,.int .i64 t146,.int .i64 0,.int .i64 0,.slice none 0 0,.slice none 0 0]) ?_ 2 _ rfl;(with_reducible repeat (first|apply kN_|apply kD_|apply kA_));refine blk_put (cs:=#[.int .i64 t145,.int .i64 0,.int .i64 0,.int .i64 0,.slice none 0 0,.slice none 0 0]) ?_ 1 _ rfl;(with_reducible repeat (first|apply kN_|apply kD_|apply kA_));refine blk_put (cs:=#[.int .i64 0,.int .i64 0,.int .i64 0,.int .i64 0,.slice none 0 0,.slice none 0 0]) ?_ 0 _ rfl;(with_reducible repeat (first|apply kN_|apply kD_|apply kA_));exact BK155.out⟩,⟨by repeat (first|(with_reducible first|exact HB.out|apply wA_|apply wN_|apply wD_|refine below_set ?_ GE138.out|refine below_set ?_ GE139.out|refine below_set ?_ GE155.out)|exact HB.out)⟩⟩
    case round =>
     clear H'
     try clear c1
     try clear c2
     try clear p2
     try clear c3
     try clear c4
     try clear c5
     try clear p6
     try clear c10
     try clear c12
     try clear c14
     try clear c16
     try clear c18
     try clear c22
     try clear c26
     try clear c30
     try clear c32
     try clear c34
     try clear c37
     try clear c38
     try clear c41
     try clear c45
     try clear c46
     try clear hcz19_0 hcz19_1 hcz19_2 hcz19_3 hcz19_4 hcz19_5
     try clear hcz21_0 hcz21_1 hcz21_2 hcz21_3 hcz21_4 hcz21_5
     try clear hcz23_0 hcz23_1 hcz23_2 hcz23_3 hcz23_4 hcz23_5
     try clear hcz25_0 hcz25_1 hcz25_2 hcz25_3 hcz25_4 hcz25_5
     try clear hcz27_0 hcz27_1 hcz27_2 hcz27_3 hcz27_4 hcz27_5
     try clear hcz29_0 hcz29_1 hcz29_2 hcz29_3 hcz29_4 hcz29_5
     try clear hcz31_0 hcz31_1 hcz31_2 hcz31_3 hcz31_4 hcz31_5
     try clear hcz33_0 hcz33_1 hcz33_2 hcz33_3 hcz33_4 hcz33_5
     try clear hcz35_0 hcz35_1 hcz35_2 hcz35_3 hcz35_4 hcz35_5
     try clear hcz39_0 hcz39_1 hcz39_2 hcz39_3 hcz39_4 hcz39_5
     try clear hcz42_0 hcz42_1 hcz42_2 hcz42_3 hcz42_4 hcz42_5
     try clear hcz47_0 hcz47_1 hcz47_2 hcz47_3 hcz47_4 hcz47_5
     try clear hfz19_0 hfz19_1 hfz19_2 hfz19_3 hfz19_4 hfz19_5
     try clear hfz21_0 hfz21_1 hfz21_2 hfz21_3 hfz21_4 hfz21_5
     try clear hfz23_0 hfz23_1 hfz23_2 hfz23_3 hfz23_4 hfz23_5
     try clear hfz25_0 hfz25_1 hfz25_2 hfz25_3 hfz25_4 hfz25_5
     try clear hfz27_0 hfz27_1 hfz27_2 hfz27_3 hfz27_4 hfz27_5
     try clear hfz29_0 hfz29_1 hfz29_2 hfz29_3 hfz29_4 hfz29_5
     try clear hfz31_0 hfz31_1 hfz31_2 hfz31_3 hfz31_4 hfz31_5
     try clear hfz33_0 hfz33_1 hfz33_2 hfz33_3 hfz33_4 hfz33_5
     try clear hfz35_0 hfz35_1 hfz35_2 hfz35_3 hfz35_4 hfz35_5
     try clear hfz39_0 hfz39_1 hfz39_2 hfz39_3 hfz39_4 hfz39_5
     try clear hfz42_0 hfz42_1 hfz42_2 hfz42_3 hfz42_4 hfz42_5
     try clear hfz47_0 hfz47_1 hfz47_2 hfz47_3 hfz47_4 hfz47_5
     try clear p2
     try clear p6
     obtain ⟨x13_2,x156005_2,u156005,rfl,HA,HK2,HO_156004,HO_156005,BK138,BK139,BK155,HB⟩:=hrel
     cases gk with
     | zero=>exact absurd HA.out (by simp [spec_ImageCut.l0])
     | succ k2 =>
      have H:=HA.out
      clear HA
      simp only [spec_ImageCut.l0] at H
      by_cases c50:x13_2 < a4
      ·rw [if_pos c50] at H
       have c50b0:decide (x13_2 < a4)=true:=decide_eq_true c50
       clear c50
       obtain ⟨ji51,hji51⟩:∃ j_:Int,(wrap64 ((wrap64 ((wrap64 (a2+x13_2)) * a0_2))+a1))=j_:=⟨_,rfl⟩
       replace H:(if 0≤(ji51) then (if (ji51)≤(wrap64 ((ji51)+a3)) then (if (wrap64 ((ji51)+a3))≤(l0_5.length:Int) then (if x156005_2.length+((l0_5.take ((wrap64 ((ji51)+a3)):Int).toNat).drop ((ji51):Int).toNat).length < 17592186044416 then (spec_ImageCut.l0 k2 a1 a2 a3 a4 (wrap64 (x13_2+1)) a0_0 a0_1 a0_2 a0_3 l0_4 l0_5 t145 t146 t147 t148 t149 (x156005_2 ++ ((l0_5.take ((wrap64 ((ji51)+a3)):Int).toNat).drop ((ji51):Int).toNat))) else (none)) else (none)) else (none)) else (none))=some (r1,r2,r3,r4,r5,r6,r7):=by first|(rw [hji51] at H;exact H)|(simp only [hji51] at H ⊢;exact H)
       have hji51w:(IntKind.i64.wrap ((wrap64 ((wrap64 (a2+x13_2)) * a0_2))+a1))=ji51:=(i64_w _).trans hji51
       by_cases c52:0≤(ji51)
       ·rw [if_pos c52] at H
        have c52b0:=eq_true c52
        have c52b1:decide (0≤(ji51))=true:=decide_eq_true c52
        clear c52
        by_cases c53:(ji51)≤(wrap64 ((ji51)+a3))
        ·rw [if_pos c53] at H
         have c53b0:=eq_true c53
         have c53b1:decide ((ji51)≤(wrap64 ((ji51)+a3)))=true:=decide_eq_true c53
         by_cases c54:(wrap64 ((ji51)+a3))≤(l0_5.length:Int)
         ·rw [if_pos c54] at H
          have c54b0:=eq_true c54
          have c54b1:decide ((wrap64 ((ji51)+a3))≤(l0_5.length:Int))=true:=decide_eq_true c54
          by_cases c55:x156005_2.length+((l0_5.take ((wrap64 ((ji51)+a3)):Int).toNat).drop ((ji51):Int).toNat).length < 17592186044416
          ·rw [if_pos c55] at H
           have LMc55:=aM_ c55
           clear c55
           obtain ⟨y157,hy157⟩:∃ y_:List Int,y_=(x156005_2 ++ ((l0_5.take ((wrap64 ((ji51)+a3)):Int).toNat).drop ((ji51):Int).toNat)):=⟨_,rfl⟩
           replace H:(spec_ImageCut.l0 k2 a1 a2 a3 a4 (wrap64 (x13_2+1)) a0_0 a0_1 a0_2 a0_3 l0_4 l0_5 t145 t146 t147 t148 t149 y157)=some (r1,r2,r3,r4,r5,r6,r7):=by first|(rw [hy157];with_reducible exact H)|(have H2_:=(Option.bind_some _ _).symm.trans H;rw [hy157];with_reducible exact H2_)|(have H2_:=(Option.bind_some _ _).symm.trans H;with_reducible exact H2_)|with_reducible exact H|(rw [hy157];exact H)|exact H
           have Ny157:=aM_ hy157
           clear hy157
           have H':=aM_ H
           clear H
           have hnb56:=NB138_139.out
           have hnc56:=NB139_138.out
           have hnb57:=NB138_155.out
           have hnc57:=NB155_138.out
           obtain ⟨hcz58_0,hcz58_1,hcz58_2,hcz58_3,hcz58_4,hcz58_5⟩:=bc6 BK138.out
           obtain ⟨hfz58_0,hfz58_1,hfz58_2,hfz58_3,hfz58_4,hfz58_5⟩:=bf6 BK138.out
           try go_wp2
           have n0_:=aM_ (rD_ HO_156004.out)
           have n1_:=aM_ (rD_ HO_156005.out)
           have n2_:=aM_ (kD_ BK138.out)
           have n3_:=aM_ (kD_ BK139.out)
           have n4_:=aM_ (kD_ BK155.out)
           have n5_:=aM_ (wD_ HB.out)
           clear HO_156004
           clear HO_156005
           clear BK138
           clear BK139
           clear BK155
           clear HB
           have HO_156004:=n0_
           have HO_156005:=n1_
           have BK138:=n2_
           have BK139:=n3_
           have BK155:=n4_
           have HB:=n5_
           clear n0_ n1_ n2_ n3_ n4_ n5_
           obtain ⟨i060,hi060,_,hsz60,_⟩:=info_parts info3
           obtain ⟨A60,hcut60,hA60,hC60⟩:=print_mid_of (P:=Try.prog) (Value.int .i64) 0 22 3 .i64 .i64 Try.underlying22 hi060 hsz60 A0_5 c0_5 l0_5 (ji51) (wrap64 ((ji51)+a3)) (of_decide_eq_true (by first|(with_reducible assumption)|assumption)) (by first|omega|exact of_decide_eq_true (by first|(with_reducible assumption)|assumption)) (of_decide_eq_true (by first|(with_reducible assumption)|assumption)) HC0_5.out
           have HR156:=aM_ (Kd.C_of_reads (h1:=fun _=>rfl) (hA60 _ (Kd.reads_of_C HR0_5.out)))
           have HC156:=aM_ hC60
           clear hA60 hC60 hi060 hsz60
           refine start_ (n:=12) (S:=fun w'=>w'.cell? ⟨gb155,0,none⟩=some (.int .i64 t145)∧w'.cell? ⟨gb155,1,none⟩=some (.int .i64 t146)∧w'.cell? ⟨gb155,2,none⟩=some (.int .i64 t147)∧w'.cell? ⟨gb155,3,none⟩=some (.int .i64 t148)∧w'.cell? ⟨gb155,4,none⟩=some (.slice Ao48 t149.length co48)∧w'.cell? ⟨gb155,5,none⟩=some (u156005)∧w'.cell? ⟨gb138,0,none⟩=some (.int .i64 a0_0)∧w'.cell? ⟨gb138,1,none⟩=some (.int .i64 a0_1)∧w'.cell? ⟨gb138,2,none⟩=some (.int .i64 a0_2)∧w'.cell? ⟨gb138,3,none⟩=some (.int .i64 a0_3)∧w'.cell? ⟨gb138,4,none⟩=some (.slice A0_4 l0_4.length c0_4)∧w'.cell? ⟨gb138,5,none⟩=some (.slice A0_5 l0_5.length c0_5)) (ds:=[11]) #[false,false,false,false,false,false,false,false,false,false,false,false] (by kernel_rfl) rfl rfl (bc12 BK155.out BK138.out) (fun hHeld=>?_);refine with_tabW spec_ImageCut.tab8 spec_ImageCut.bits8 (fun HT_ HW_=>?_)
           generalize wr.drew=w59 at HO_156004 HO_156005 BK138 BK139 BK155 HB HR156 hHeld ⊢
           refine pure_ (i:=0) (N:=some 68) (v:=?_) (a':=?_) #[true,false,false,false,false,false,false,false,false,false,false,false] rfl rfl (any_of HT_.out (by kernel_rfl)) (fun _ _ _ h=>h) (Or.inl ⟨by rfl,?_⟩) ?_ ?_
           rotate_left
           ·intro w'
            go_simp
            with_reducible rfl
           rotate_left
           ·simp only [Act.put,sA_,s0_,s1_,i64_w,i32_w]
            rfl
           refine pure_ (i:=2) (N:=some 70) (v:=?_) (a':=?_) #[true,false,true,false,false,false,false,false,false,false,false,false] rfl rfl (any_of HT_.out (by kernel_rfl)) (fun _ _ _ h=>h) (Or.inl ⟨by rfl,?_⟩) ?_ ?_
           rotate_left
           ·intro w'
            go_simp
            with_reducible rfl
           rotate_left
           ·simp only [Act.put,sA_,s0_,s1_,i64_w,i32_w]
            rfl
           refine pure_ (i:=4) (N:=some 72) (v:=?_) (a':=?_) #[true,false,true,false,true,false,false,false,false,false,false,false] rfl rfl (any_of HT_.out (by kernel_rfl)) (fun _ _ _ h=>h) (Or.inl ⟨by rfl,?_⟩) ?_ ?_
           rotate_left
           ·intro w'
            go_simp
            with_reducible rfl
           rotate_left
           ·simp only [Act.put,sA_,s0_,s1_,i64_w,i32_w]
            rfl
           refine pure_ (i:=5) (N:=some 73) (v:=?_) (a':=?_) #[true,false,true,false,true,true,false,false,false,false,false,false] rfl rfl (any_of HT_.out (by kernel_rfl)) (fun _ _ _ h=>h) (Or.inl ⟨by rfl,?_⟩) ?_ ?_
           rotate_left
           ·intro w'
            go_simp
            with_reducible rfl
           rotate_left
           ·simp only [Act.put,sA_,s0_,s1_,i64_w,i32_w]
            rfl
           refine pure_ (i:=6) (N:=some 74) (v:=?_) (a':=?_) #[true,false,true,false,true,true,true,false,false,false,false,false] rfl rfl (any_of HT_.out (by kernel_rfl)) (fun _ _ _ h=>h) (Or.inl ⟨by rfl,?_⟩) ?_ ?_
           rotate_left
           ·intro w'
            go_simp
            with_reducible rfl
           rotate_left
           ·simp only [Act.put,sA_,s0_,s1_,i64_w,i32_w]
            rfl
           refine pure_ (i:=7) (N:=some 75) (v:=?_) (a':=?_) #[true,false,true,false,true,true,true,true,false,false,false,false] rfl rfl (any_of HT_.out (by kernel_rfl)) (fun _ _ _ h=>h) (Or.inl ⟨by rfl,?_⟩) ?_ ?_
           rotate_left
           ·intro w'
            go_simp
            with_reducible rfl
           rotate_left
           ·simp only [Act.put,sA_,s0_,s1_,i64_w,i32_w]
            rfl
           refine take_ (i:=1) (N:=some 69) (v:=?_) (a':=?_) #[true,true,true,false,true,true,true,true,false,false,false,false] rfl rfl (take_ofW HT_.out HW_.out (by kernel_rfl)) (fun _ _ _ h=>h) (Or.inl ⟨by rfl,?_⟩) hHeld ?_ ?_
           rotate_left
           ·rintro w' ⟨s0,s1,s2,s3,s4,s5,s6,s7,s8,s9,s10,s11⟩
            go_simp
            with_reducible rfl
           rotate_left
           ·simp only [Act.put,sA_,s0_,s1_,i64_w,i32_w]
            rfl
           refine take_ (i:=3) (N:=some 71) (v:=?_) (a':=?_) #[true,true,true,true,true,true,true,true,false,false,false,false] rfl rfl (take_ofW HT_.out HW_.out (by kernel_rfl)) (fun _ _ _ h=>h) (Or.inl ⟨by rfl,?_⟩) hHeld ?_ ?_
           rotate_left
           ·rintro w' ⟨s0,s1,s2,s3,s4,s5,s6,s7,s8,s9,s10,s11⟩
            go_simp
            with_reducible rfl
           rotate_left
           ·simp only [Act.put,sA_,s0_,s1_,i64_w,i32_w]
            rfl
           refine pure_ (i:=8) (N:=some 76) (v:=?_) (a':=?_) #[true,true,true,true,true,true,true,true,true,false,false,false] rfl rfl (any_of HT_.out (by kernel_rfl)) (fun _ _ _ h=>h) (Or.inl ⟨by rfl,?_⟩) ?_ ?_
           rotate_left
           ·intro w'
            go_simp
            with_reducible rfl
           rotate_left
           ·simp only [Act.put,sA_,s0_,s1_,i64_w,i32_w]
            rfl
           refine one_ (i:=9) (N:=some 77) #[true,true,true,true,true,true,true,true,true,true,false,false] rfl rfl (one_of HT_.out (by kernel_rfl)) (by decide) (fun K hK=>?_)
           refine Kd.R_append_rows_step (Kd.int .i64) (w0:=w) w.heap.size (by rfl) (.tmp 69) (.tmp 76) 22 3 (.int .i64 0) 8 rfl Try.underlying22 info3 rfl (by decide) (by omega) u156005 x156005_2 ((l0_5.take ((wrap64 ((ji51)+a3)):Int).toNat).drop ((ji51):Int).toNat) _ _ _ (fun k_=>some k_≠(.slice Ao48 t149.length co48:Value).ownBlock) (fun _=>False) rfl rfl ?aO ?aR (fun _ _ h=>h) (fun _ h=>h.elim) ?aF ?aB ?aS ?aL ?_
           (case aR=>first|(rw [← show ((l0_5.take ((wrap64 ((ji51)+a3)):Int).toNat).drop ((ji51):Int).toNat).length=((wrap64 ((ji51)+a3)).toNat - (ji51).toNat) from (by rw [List.length_drop,List.length_take];have h_:((wrap64 ((ji51)+a3)):Int)≤(l0_5.length:Int):=of_decide_eq_true (by first|(with_reducible assumption)|assumption);omega)];repeat (first|exact (Kd.C_below HR156.out HB.out)|(with_reducible refine Kd.C_alloc ?_ _)|(with_reducible refine Kd.C_drewN ?_ _)|(with_reducible refine Kd.C_drew ?_)))|(repeat (first|exact (Kd.C_below HR156.out HB.out)|(with_reducible refine Kd.C_alloc ?_ _)|(with_reducible refine Kd.C_drewN ?_ _)|(with_reducible refine Kd.C_drew ?_))))
           (case aB=>exact (by repeat (first|(with_reducible first|exact HB.out|apply wA_|apply wN_|apply wD_|refine below_set ?_ GE138.out|refine below_set ?_ GE139.out|refine below_set ?_ GE155.out)|exact HB.out)))
           (case aF=>exact (fun k_ hk=>Kd.fresh' (Kd.R_lt (by (with_reducible repeat (first|apply rA_|apply rN_|apply rD_));exact HO_156004.out)) k_ hk))
           (case aO=>exact (by (with_reducible repeat (first|apply rA_|apply rN_|apply rD_));exact HO_156005.out))
           (case aS=>exact (below_size (by repeat (first|(with_reducible first|exact HB.out|apply wA_|apply wN_|apply wD_|refine below_set ?_ GE138.out|refine below_set ?_ GE139.out|refine below_set ?_ GE155.out)|exact HB.out))))
           (case aL=>have:=LMc55.out;have hlx_:=(show ((l0_5.take ((wrap64 ((ji51)+a3)):Int).toNat).drop ((ji51):Int).toNat).length=((wrap64 ((ji51)+a3)).toNat - (ji51).toNat) from (by rw [List.length_drop,List.length_take];have h_:((wrap64 ((ji51)+a3)):Int)≤(l0_5.length:Int):=of_decide_eq_true (by first|(with_reducible assumption)|assumption);omega));omega)
           intro v158 w61 ho hb hg hat
           rw [← Ny157.out] at ho
           have n0_:=aM_ (Kd.R_after (ok:=(fun _=>True)) (by (with_reducible repeat (first|apply rA_|apply rN_|apply rD_));exact Kd.R_mono HO_156004.out (fun _ hk=>⟨trivial,hk⟩)) hg hat)
           have n1_:=aM_ (blk_grown (g:=gb138) (o:=.cells #[.int .i64 a0_0,.int .i64 a0_1,.int .i64 a0_2,.int .i64 a0_3,.slice A0_4 l0_4.length c0_4,.slice A0_5 l0_5.length c0_5] 27 (0,0)) (by (with_reducible repeat (first|apply kN_|apply kD_|apply kA_));exact BK138.out) hg (Kd.R_ne HO_156005.out BK138.out (by decide)))
           have n2_:=aM_ (blk_grown (g:=gb139) (o:=.cells #[.int .i64 0,.int .i64 0,.int .i64 0,.int .i64 0,.slice none 0 0,.slice none 0 0] 27 (0,0)) (by (with_reducible repeat (first|apply kN_|apply kD_|apply kA_));exact BK139.out) hg (Kd.R_ne HO_156005.out BK139.out (by decide)))
           have n3_:=aM_ (blk_grown (g:=gb155) (o:=.cells #[.int .i64 t145,.int .i64 t146,.int .i64 t147,.int .i64 t148,.slice Ao48 t149.length co48,u156005] 27 (0,0)) (by (with_reducible repeat (first|apply kN_|apply kD_|apply kA_));exact BK155.out) hg (Kd.R_ne HO_156005.out BK155.out (by decide)))
           have n4_:=aM_ (hb)
           have n5_:=aM_ (ho)
           clear HO_156004
           clear BK138
           clear BK139
           clear BK155
           clear HB
           clear HO_156005
           have HO_156004:=n0_
           have BK138:=n1_
           have BK139:=n2_
           have BK155:=n3_
           have HB:=n4_
           have HO159:=n5_
           clear n0_ n1_ n2_ n3_ n4_ n5_
           clear ho hb hg hat
           obtain ⟨Ao62,co62,eo62⟩:=Kd.R_slice HO159.out
           (first|subst eo62|(injection eo62 with f1_ f2_ f3_;have f4_:=f1_.symm;have f5_:=f3_.symm;clear f1_ f2_ f3_;subst f4_;subst f5_))
           refine hK.out _ _ (bc12 BK155.out BK138.out) (fun hHeld=>?_)
           clear hK K
           refine norm_ (a':=?_) ?_ ?_
           rotate_left
           ·show Act.put _ (some 77) _=_
            simp only [Act.put,sA_,s0_,s1_,i64_w,i32_w]
            rfl
           refine pure_ (i:=10) (N:=some 78) (v:=?_) (a':=?_) #[true,true,true,true,true,true,true,true,true,true,true,false] rfl rfl (any_of HT_.out (by kernel_rfl)) (fun _ _ _ h=>h) (Or.inl ⟨by rfl,?_⟩) ?_ ?_
           rotate_left
           ·intro w'
            go_simp
            with_reducible rfl
           rotate_left
           ·simp only [Act.put,sA_,s0_,s1_,i64_w,i32_w]
            rfl
           refine last_ (i:=11) (N:=none) #[true,true,true,true,true,true,true,true,true,true,true,true] rfl rfl (one_of HT_.out (by kernel_rfl)) (by decide) (fun K hK=>?_)
           have hs63:w61.cell? ⟨gb155,5,none⟩=some (u156005):=(blk_cell BK155.out 5).trans rfl
           have hfs63:=blk_frozen BK155.out 5
           have hns63_0:=NB138_155.out
           have hns63_1:=NB139_155.out
           have hms63_0:=NB155_138.out
           have hms63_1:=NB155_139.out
           refine skip_ (w1:=?_) (by rfl) rfl ?_ ?_
           rotate_left
           ·go_simp
            rfl
           refine hK.out _ _ ?_
           clear hK K
           refine done_ (done_of HT_.out (by kernel_rfl)) ?_
           try go_wp2
           go_roundg k2
           case measure=>have:=HJ5.out;have:=HK2.out;omega
           case rel=>exact ⟨(wrap64 (x13_2+1)),(y157),(.slice Ao62 y157.length co62),(by first|rfl|(simp;done)|(simp [*];done)),H',⟨by have:=HJ5.out;have:=HK2.out;omega⟩,⟨by (with_reducible repeat (first|apply rA_|apply rN_|apply rD_));exact Kd.R_mono (Kd.R_far (Kd.R_types HO_156004.out BK155.out (by decide)) (fun _ hk=>hk.2) _) (fun _ hk=>hk.1.2)⟩,⟨by (with_reducible repeat (first|apply rA_|apply rN_|apply rD_));exact Kd.R_mono (Kd.R_far (Kd.R_types HO159.out BK155.out (by decide)) (fun _ hk=>hk.2) _) (fun _ hk=>hk.1)⟩,⟨by (with_reducible repeat (first|apply kN_|apply kD_|apply kA_));refine blk_far ?_ NB138_155.out _;(with_reducible repeat (first|apply kN_|apply kD_|apply kA_));exact BK138.out⟩,⟨by (with_reducible repeat (first|apply kN_|apply kD_|apply kA_));refine blk_far ?_ NB139_155.out _;(with_reducible repeat (first|apply kN_|apply kD_|apply kA_));exact BK139.out⟩,⟨by (with_reducible repeat (first|apply kN_|apply kD_|apply kA_));refine blk_put (cs:=#[.int .i64 t145,.int .i64 t146,.int .i64 t147,.int .i64 t148,.slice Ao48 t149.length co48,u156005]) ?_ 5 _ rfl;(with_reducible repeat (first|apply kN_|apply kD_|apply kA_));exact BK155.out⟩,⟨by repeat (first|(with_reducible first|exact HB.out|apply wA_|apply wN_|apply wD_|refine below_set ?_ GE138.out|refine below_set ?_ GE139.out|refine below_set ?_ GE155.out)|exact HB.out)⟩⟩
          ·rw [if_neg c55] at H
           exact absurd H (by simp)
         ·rw [if_neg c54] at H
          exact absurd H (by simp)
        ·rw [if_neg c53] at H
         exact absurd H (by simp)
       ·rw [if_neg c52] at H
        exact absurd H (by simp)
      ·rw [if_neg c50] at H
       have c50b0:decide (x13_2 < a4)=false:=decide_eq_false c50
       clear c50
       simp only [Option.some.injEq,Prod.mk.injEq] at H
       obtain ⟨rfl,rfl,rfl,rfl,rfl,rfl,rfl⟩:=H
       have hnb64:=NB155_138.out
       have hnc64:=NB138_155.out
       have hnb65:=NB155_139.out
       have hnc65:=NB139_155.out
       obtain ⟨hcz66_0,hcz66_1,hcz66_2,hcz66_3,hcz66_4,hcz66_5⟩:=bc6 BK155.out
       obtain ⟨hfz66_0,hfz66_1,hfz66_2,hfz66_3,hfz66_4,hfz66_5⟩:=bf6 BK155.out
       have hnb67:=NB139_138.out
       have hnc67:=NB138_139.out
       obtain ⟨hcz68_0,hcz68_1,hcz68_2,hcz68_3,hcz68_4,hcz68_5⟩:=bc6 BK139.out
       obtain ⟨hfz68_0,hfz68_1,hfz68_2,hfz68_3,hfz68_4,hfz68_5⟩:=bf6 BK139.out
       obtain ⟨Ao69,co69,eo69⟩:=Kd.R_slice HO_156005.out
       subst eo69
       go_wp2
       refine bodyPost_ret (results_ct rfl _ _ gb139 27 #[.int .i64 t145,.int .i64 t146,.int .i64 t147,.int .i64 t148,.slice Ao48 t149.length co48,.slice Ao69 x156005_2.length co69] (0,0) _ rfl (by (with_reducible repeat (first|apply kN_|apply kD_|apply kA_));refine blk_put (cs:=#[.int .i64 t145,.int .i64 t146,.int .i64 t147,.int .i64 t148,.slice Ao48 t149.length co48,.slice none 0 0]) ?_ 5 _ rfl;(with_reducible repeat (first|apply kN_|apply kD_|apply kA_));refine blk_put (cs:=#[.int .i64 t145,.int .i64 t146,.int .i64 t147,.int .i64 t148,.slice none 0 0,.slice none 0 0]) ?_ 4 _ rfl;(with_reducible repeat (first|apply kN_|apply kD_|apply kA_));refine blk_put (cs:=#[.int .i64 t145,.int .i64 t146,.int .i64 t147,.int .i64 0,.slice none 0 0,.slice none 0 0]) ?_ 3 _ rfl;(with_reducible repeat (first|apply kN_|apply kD_|apply kA_));refine blk_put (cs:=#[.int .i64 t145,.int .i64 t146,.int .i64 0,.int .i64 0,.slice none 0 0,.slice none 0 0]) ?_ 2 _ rfl;(with_reducible repeat (first|apply kN_|apply kD_|apply kA_));refine blk_put (cs:=#[.int .i64 t145,.int .i64 0,.int .i64 0,.int .i64 0,.slice none 0 0,.slice none 0 0]) ?_ 1 _ rfl;(with_reducible repeat (first|apply kN_|apply kD_|apply kA_));refine blk_put (cs:=#[.int .i64 0,.int .i64 0,.int .i64 0,.int .i64 0,.slice none 0 0,.slice none 0 0]) ?_ 0 _ rfl;(with_reducible repeat (first|apply kN_|apply kD_|apply kA_));exact BK139.out) Try.underlying27 rfl (by kernel_rfl)) rfl ?_
       exact ⟨_,_,by first|rfl|(simp [errW_none,errW_some] <;> rfl)|(simp [*,errW_none,errW_some] <;> rfl),by (with_reducible repeat (first|apply rA_|apply rN_|apply rD_));exact Kd.R_mono (Kd.R_far (Kd.R_far (Kd.R_far (Kd.R_far (Kd.R_far (Kd.R_far (Kd.R_types HO_156004.out BK139.out (by decide)) (fun _ hk=>hk.2) _) (fun _ hk=>hk.2) _) (fun _ hk=>hk.2) _) (fun _ hk=>hk.2) _) (fun _ hk=>hk.2) _) (fun _ hk=>hk.2) _) (fun _ hk=>hk.1),by (with_reducible repeat (first|apply rA_|apply rN_|apply rD_));exact Kd.R_mono (Kd.R_far (Kd.R_far (Kd.R_far (Kd.R_far (Kd.R_far (Kd.R_far (Kd.R_types HO_156005.out BK139.out (by decide)) (fun _ hk=>hk.2) _) (fun _ hk=>hk.2) _) (fun _ hk=>hk.2) _) (fun _ hk=>hk.2) _) (fun _ hk=>hk.2) _) (fun _ hk=>hk.2) _) (fun _ hk=>hk.1),by repeat (first|(with_reducible first|exact HB.out|apply wA_|apply wN_|apply wD_|refine below_set ?_ GE138.out|refine below_set ?_ GE139.out|refine below_set ?_ GE155.out)|exact HB.out)⟩

end Go.Proofs.Ytkjfefiphdloiaa.PFnImageCut
