/- What the functions that the law comes to compute, as plain functions, and that the machine's calls come to just that: written by a program for this claim, and turned where Lean did not take it. No condition. -/
import Derived.Test.YtkjfefiphdloiaaHFnImageCutx0
import Derived.Test.YtkjfefiphdloiaaHFnImageCutx8
import Derived.Test.YtkjfefiphdloiaaHFnImageCutx10
namespace Go.Proofs.Ytkjfefiphdloiaa.PFnImageCut
open Go.RowKit Go.Proofs.YtkjfefiphdloiaaW.PrintWords Go.Proofs.YtkjfefiphdloiaaW.PrintLast Go.Proofs.YtkjfefiphdloiaaW.PrintMore
attribute [local go_sem] max2_int min2_int max_two min_two max_three min_three max_four min_four   -- for this text's walks alone
set_option linter.unusedVariables false
set_option linter.unusedSimpArgs false

/-! ### spec_l14Spoil: function 75 -/
def spec_l14Spoil.l0:Nat → Int → List Int → Int → Int → Int → Int → Int → List Int → List Int → Option (Int × Int × Int × Int × List Int × List Int × Int)
 | 0,_,_,_,_,_,_,_,_,_=>none
 | k+1,x6,x1000,x1001,x286000,x286001,x286002,x286003,x286004,x286005=>if x6 < 257 then (if x286004.length < 17592186044416 then (spec_l14Spoil.l0 k (wrap64 (x6+1)) x1000 x1001 x286000 x286001 x286002 x286003 (x286004 ++ [7]) x286005) else (none)) else (some (x286000,x286001,x286002,x286003,x286004,x286005,x1001))
def spec_l14Spoil.f (k:Nat) (s0_0:List Int) (s0_1:Int) (a1_0:Int) (a1_1:Int) (a1_2:Int) (a1_3:Int) (l1_4:List Int) (l1_5:List Int):Option (Int × Int × Int × Int × List Int × List Int × Int):=(spec_l14Copy.f a1_0 a1_1 a1_2 a1_3 l1_4 l1_5).bind fun bt275=>((spec_l1Rd_pick.f k s0_0 s0_1 8).bind fun bt286=>(if bt286.1=0 then ((some (([0,5,wrap64 (1+(Int.tmod bt275.1 4))]:List Int):List Int)).bind fun y288=>((spec_l1Rd_pick.f k s0_0 bt286.2 3).bind fun bt291=>(if 0≤bt291.1 then (if bt291.1 < (y288.length:Int) then (some (rd y288 bt291.1,bt275.2.1,bt275.2.2.1,bt275.2.2.2.1,bt275.2.2.2.2.1,bt275.2.2.2.2.2,bt291.2)) else (none)) else (none)))) else (if bt286.1=1 then ((some (([0,3,16]:List Int):List Int)).bind fun y294=>((spec_l1Rd_pick.f k s0_0 bt286.2 3).bind fun bt297=>(if 0≤bt297.1 then (if bt297.1 < (y294.length:Int) then (some (bt275.1,rd y294 bt297.1,bt275.2.2.1,bt275.2.2.2.1,bt275.2.2.2.2.1,bt275.2.2.2.2.2,bt297.2)) else (none)) else (none)))) else (if bt286.1=2 then ((some (([0,wrap64 (bt275.2.2.1+1),21]:List Int):List Int)).bind fun y300=>((spec_l1Rd_pick.f k s0_0 bt286.2 3).bind fun bt303=>(if 0≤bt303.1 then (if bt303.1 < (y300.length:Int) then (some (bt275.1,bt275.2.1,rd y300 bt303.1,bt275.2.2.2.1,bt275.2.2.2.2.1,bt275.2.2.2.2.2,bt303.2)) else (none)) else (none)))) else (if bt286.1=3 then (if 1≤(bt275.2.2.2.2.2.length:Int) then (some (bt275.1,bt275.2.1,bt275.2.2.1,bt275.2.2.2.1,bt275.2.2.2.2.1,(bt275.2.2.2.2.2.drop (1:Int).toNat),bt286.2)) else (none)) else (if bt286.1=4 then ((spec_l1Rd_pick.f k s0_0 bt286.2 (bt275.2.2.2.2.2.length:Int)).bind fun bt309=>((some (([(-1),4294967296]:List Int):List Int)).bind fun y311=>((spec_l1Rd_pick.f k s0_0 bt309.2 2).bind fun bt314=>(if 0≤bt314.1 then (if bt314.1 < (y311.length:Int) then (if 0≤bt309.1 then (if bt309.1 < (bt275.2.2.2.2.2.length:Int) then (some (bt275.1,bt275.2.1,bt275.2.2.1,bt275.2.2.2.1,bt275.2.2.2.2.1,(bt275.2.2.2.2.2.set (bt309.1:Int).toNat (rd y311 bt314.1)),bt314.2)) else (none)) else (none)) else (none)) else (none))))) else (if bt286.1=5 then ((some (([(-1),16777216,5]:List Int):List Int)).bind fun y318=>((spec_l1Rd_pick.f k s0_0 bt286.2 3).bind fun bt321=>(if 0≤bt321.1 then (if bt321.1 < (y318.length:Int) then (if bt275.2.2.2.2.1.length < 17592186044416 then (some (bt275.1,bt275.2.1,bt275.2.2.1,bt275.2.2.2.1,(bt275.2.2.2.2.1 ++ [rd y318 bt321.1]),bt275.2.2.2.2.2,bt321.2)) else (none)) else (none)) else (none)))) else (if bt286.1=6 then (spec_l14Spoil.l0 k 0 s0_0 bt286.2 bt275.1 bt275.2.1 bt275.2.2.1 bt275.2.2.2.1 bt275.2.2.2.2.1 bt275.2.2.2.2.2) else (some (bt275.1,bt275.2.1,bt275.2.2.1,0,bt275.2.2.2.2.1,bt275.2.2.2.2.2,bt286.2))))))))))
theorem spec_l14Spoil.mono_l:∀ k,(∀ y0 y1 y2 y3 y4 y5 y6 y7 y8,LeO (spec_l14Spoil.l0 k y0 y1 y2 y3 y4 y5 y6 y7 y8) (spec_l14Spoil.l0 (k+1) y0 y1 y2 y3 y4 y5 y6 y7 y8))
 | 0=>fun _ _ _ _ _ _ _ _ _ r h=>by simp [spec_l14Spoil.l0] at h
 | k+1=>by
  have ih0:=spec_l14Spoil.mono_l k
  ·intro y0 y1 y2 y3 y4 y5 y6 y7 y8
   unfold spec_l14Spoil.l0
   repeat' first
   | (with_reducible exact ih0 _ _ _ _ _ _ _ _ _)
   | (with_reducible exact spec_l1Rd_pick.mono _ _ _ _)
   | (with_reducible exact LeO.refl _)
   | (with_reducible exact LeO.none _)
   | (with_reducible refine LeO.ite ?_ ?_)
   | (with_reducible refine LeO.bind ?_ (fun _=>?_))
theorem spec_l14Spoil.mono:∀ a0 a1 a2 a3 a4 a5 a6 a7 k,LeO (spec_l14Spoil.f k a0 a1 a2 a3 a4 a5 a6 a7) (spec_l14Spoil.f (k+1) a0 a1 a2 a3 a4 a5 a6 a7):=by
 intro a0 a1 a2 a3 a4 a5 a6 a7 k
 have ih0:=spec_l14Spoil.mono_l k
 unfold spec_l14Spoil.f
 repeat' first
   | (with_reducible exact ih0 _ _ _ _ _ _ _ _ _)
   | (with_reducible exact spec_l1Rd_pick.mono _ _ _ _)
   | (with_reducible exact LeO.refl _)
   | (with_reducible exact LeO.none _)
   | (with_reducible refine LeO.ite ?_ ?_)
   | (with_reducible refine LeO.bind ?_ (fun _=>?_))
def spec_l14Spoil.T5:Bool × List (List Nat × List Nat):=(true,[([],[]),([0],[0]),([1],[1]),([2],[2]),([3],[3]),([],[]),([5],[5]),([4,6],[4,6]),([7],[7]),([0,1,2,3,4,5,6,7,8],[]),([9,8,6,0,1,2,3,4,5,6,7,8],[8,9])])
def spec_l14Spoil.B5:List Nat:=[0,1,3,7,15,0,32,127,255,511,1023]
theorem spec_l14Spoil.tab5:rtab .any (opsOf Try.f75 5)=spec_l14Spoil.T5:=by kernel_rfl
theorem spec_l14Spoil.bits5:waitsOk spec_l14Spoil.T5.2 spec_l14Spoil.B5=true:=by kernel_rfl
def spec_l14Spoil.T9:Bool × List (List Nat × List Nat):=(true,[([],[]),([0],[0]),([1],[1]),([2],[2]),([],[]),([4],[4]),([3,5],[3,5]),([6],[6]),([0,1,2,3,4,5,6,7],[]),([8,7,5,0,1,2,3,4,5,6,7],[7,8])])
def spec_l14Spoil.B9:List Nat:=[0,1,3,7,0,16,63,127,255,511]
theorem spec_l14Spoil.tab9:rtab .any (opsOf Try.f75 9)=spec_l14Spoil.T9:=by kernel_rfl
theorem spec_l14Spoil.bits9:waitsOk spec_l14Spoil.T9.2 spec_l14Spoil.B9=true:=by kernel_rfl
def spec_l14Spoil.T13:Bool × List (List Nat × List Nat):=(true,[([],[]),([0],[0]),([],[]),([],[]),([3],[3]),([4],[4]),([2,5],[2,5]),([],[]),([],[]),([8,6],[8]),([7,9],[7,9]),([10],[10]),([1,6,0,1,2,3,4,5,6,7,8,9,10,11],[1,6]),([12,11,9,0,1,2,3,4,5,6,7,8,9,10,11],[11,12])])
def spec_l14Spoil.B13:List Nat:=[0,1,0,0,8,24,60,0,0,380,1020,2044,4095,8191]
theorem spec_l14Spoil.tab13:rtab .any (opsOf Try.f75 13)=spec_l14Spoil.T13:=by kernel_rfl
theorem spec_l14Spoil.bits13:waitsOk spec_l14Spoil.T13.2 spec_l14Spoil.B13=true:=by kernel_rfl
def spec_l14Spoil.T15:Bool × List (List Nat × List Nat):=(true,[([],[]),([0],[0]),([],[]),([],[]),([3],[3]),([2,4],[2,4]),([5],[5]),([6],[6]),([1,7,4],[1,7]),([0,1,2,3,4,5,6,7,8],[]),([9,8,8,0,1,2,3,4,5,6,7,8],[8,9])])
def spec_l14Spoil.B15:List Nat:=[0,1,0,0,8,28,60,124,255,511,1023]
theorem spec_l14Spoil.tab15:rtab .any (opsOf Try.f75 15)=spec_l14Spoil.T15:=by kernel_rfl
theorem spec_l14Spoil.bits15:waitsOk spec_l14Spoil.T15.2 spec_l14Spoil.B15=true:=by kernel_rfl
set_option maxHeartbeats 8000000 in
set_option maxRecDepth 100000 in
theorem spec_l14Spoil.calls (k:Nat) (g:Nat) (s0_0:List Int) (s0_1:Int) (a1_0:Int) (a1_1:Int) (a1_2:Int) (a1_3:Int) (A1_4:Option Addr) (c1_4:Nat) (l1_4:List Int) (A1_5:Option Addr) (c1_5:Nat) (l1_5:List Int) (r1:Int) (r2:Int) (r3:Int) (r4:Int) (r5:List Int) (r6:List Int) (r7:Int) (w0 w:World) (hI:IsS65 w0 w g s0_0 s0_1) (hB:Below w0.heap.size w0 w) (hr1_4:Kd.C (Kd.int .i64) w A1_4 l1_4.length l1_4) (hc1_4:l1_4.length≤c1_4) (hf1_4:∀ ad,A1_4=some ad → 0 < l1_4.length → ad.block≠g) (hr1_5:Kd.C (Kd.int .i64) w A1_5 l1_5.length l1_5) (hc1_5:l1_5.length≤c1_5) (hf1_5:∀ ad,A1_5=some ad → 0 < l1_5.length → ad.block≠g) (h:spec_l14Spoil.f k s0_0 s0_1 a1_0 a1_1 a1_2 a1_3 l1_4 l1_5=some (r1,r2,r3,r4,r5,r6,r7)) :
  Calls Try.prog 75 #[.pointer (some ⟨g,0,none⟩),.agg #[.int .i64 a1_0,.int .i64 a1_1,.int .i64 a1_2,.int .i64 a1_3,.slice A1_4 l1_4.length c1_4,.slice A1_5 l1_5.length c1_5]] w fun e w'=>∃ v4_ v5_:Value,e=.returned (.agg #[.int .i64 r1,.int .i64 r2,.int .i64 r3,.int .i64 r4,v4_,v5_])∧Kd.R (Kd.int .i64) 3 w' w.heap.size (fun k_=>some k_≠(v5_:Value).ownBlock) v4_ r5∧Kd.Q (Kd.int .i64) 3 w' w.heap.size (fun k_=>some k_≠(v4_:Value).ownBlock) v5_ r6∧IsS65 w0 w' g s0_0 r7∧Below w0.heap.size w0 w'∧KeepBut w w' g none:=by
 have hu27:=Try.underlying27
 have HR1_4:=aM_ hr1_4
 have HC1_4:=aM_ hc1_4
 clear hr1_4 hc1_4
 have HR1_5:=aM_ hr1_5
 have HC1_5:=aM_ hc1_5
 clear hr1_5 hc1_5
 have HI0:=aM_ hI
 have HK:=aM_ (KeepBut.refl w g none)
 have HL:=aM_ hB.size
 clear hI
 have HW0:=aM_ hB.size
 have HB:=aM_ hB
 clear hB
 have H:((spec_l14Copy.f a1_0 a1_1 a1_2 a1_3 l1_4 l1_5).bind fun bt275=>((spec_l1Rd_pick.f k s0_0 s0_1 8).bind fun bt286=>(if bt286.1=0 then ((some (([0,5,wrap64 (1+(Int.tmod bt275.1 4))]:List Int):List Int)).bind fun y288=>((spec_l1Rd_pick.f k s0_0 bt286.2 3).bind fun bt291=>(if 0≤bt291.1 then (if bt291.1 < (y288.length:Int) then (some (rd y288 bt291.1,bt275.2.1,bt275.2.2.1,bt275.2.2.2.1,bt275.2.2.2.2.1,bt275.2.2.2.2.2,bt291.2)) else (none)) else (none)))) else (if bt286.1=1 then ((some (([0,3,16]:List Int):List Int)).bind fun y294=>((spec_l1Rd_pick.f k s0_0 bt286.2 3).bind fun bt297=>(if 0≤bt297.1 then (if bt297.1 < (y294.length:Int) then (some (bt275.1,rd y294 bt297.1,bt275.2.2.1,bt275.2.2.2.1,bt275.2.2.2.2.1,bt275.2.2.2.2.2,bt297.2)) else (none)) else (none)))) else (if bt286.1=2 then ((some (([0,wrap64 (bt275.2.2.1+1),21]:List Int):List Int)).bind fun y300=>((spec_l1Rd_pick.f k s0_0 bt286.2 3).bind fun bt303=>(if 0≤bt303.1 then (if bt303.1 < (y300.length:Int) then (some (bt275.1,bt275.2.1,rd y300 bt303.1,bt275.2.2.2.1,bt275.2.2.2.2.1,bt275.2.2.2.2.2,bt303.2)) else (none)) else (none)))) else (if bt286.1=3 then (if 1≤(bt275.2.2.2.2.2.length:Int) then (some (bt275.1,bt275.2.1,bt275.2.2.1,bt275.2.2.2.1,bt275.2.2.2.2.1,(bt275.2.2.2.2.2.drop (1:Int).toNat),bt286.2)) else (none)) else (if bt286.1=4 then ((spec_l1Rd_pick.f k s0_0 bt286.2 (bt275.2.2.2.2.2.length:Int)).bind fun bt309=>((some (([(-1),4294967296]:List Int):List Int)).bind fun y311=>((spec_l1Rd_pick.f k s0_0 bt309.2 2).bind fun bt314=>(if 0≤bt314.1 then (if bt314.1 < (y311.length:Int) then (if 0≤bt309.1 then (if bt309.1 < (bt275.2.2.2.2.2.length:Int) then (some (bt275.1,bt275.2.1,bt275.2.2.1,bt275.2.2.2.1,bt275.2.2.2.2.1,(bt275.2.2.2.2.2.set (bt309.1:Int).toNat (rd y311 bt314.1)),bt314.2)) else (none)) else (none)) else (none)) else (none))))) else (if bt286.1=5 then ((some (([(-1),16777216,5]:List Int):List Int)).bind fun y318=>((spec_l1Rd_pick.f k s0_0 bt286.2 3).bind fun bt321=>(if 0≤bt321.1 then (if bt321.1 < (y318.length:Int) then (if bt275.2.2.2.2.1.length < 17592186044416 then (some (bt275.1,bt275.2.1,bt275.2.2.1,bt275.2.2.2.1,(bt275.2.2.2.2.1 ++ [rd y318 bt321.1]),bt275.2.2.2.2.2,bt321.2)) else (none)) else (none)) else (none)))) else (if bt286.1=6 then (spec_l14Spoil.l0 k 0 s0_0 bt286.2 bt275.1 bt275.2.1 bt275.2.2.1 bt275.2.2.2.1 bt275.2.2.2.2.1 bt275.2.2.2.2.2) else (some (bt275.1,bt275.2.1,bt275.2.2.1,0,bt275.2.2.2.2.1,bt275.2.2.2.2.2,bt286.2)))))))))))=some (r1,r2,r3,r4,r5,r6,r7):=h
 clear h
 replace H:=Option.bind_eq_some_iff.mp H
 obtain ⟨⟨t275,t276,t277,t278,t279,t282⟩,A30,H⟩:=H
 replace H:((spec_l1Rd_pick.f k s0_0 s0_1 8).bind fun bt286=>(if bt286.1=0 then ((some (([0,5,wrap64 (1+(Int.tmod t275 4))]:List Int):List Int)).bind fun y288=>((spec_l1Rd_pick.f k s0_0 bt286.2 3).bind fun bt291=>(if 0≤bt291.1 then (if bt291.1 < (y288.length:Int) then (some (rd y288 bt291.1,t276,t277,t278,t279,t282,bt291.2)) else (none)) else (none)))) else (if bt286.1=1 then ((some (([0,3,16]:List Int):List Int)).bind fun y294=>((spec_l1Rd_pick.f k s0_0 bt286.2 3).bind fun bt297=>(if 0≤bt297.1 then (if bt297.1 < (y294.length:Int) then (some (t275,rd y294 bt297.1,t277,t278,t279,t282,bt297.2)) else (none)) else (none)))) else (if bt286.1=2 then ((some (([0,wrap64 (t277+1),21]:List Int):List Int)).bind fun y300=>((spec_l1Rd_pick.f k s0_0 bt286.2 3).bind fun bt303=>(if 0≤bt303.1 then (if bt303.1 < (y300.length:Int) then (some (t275,t276,rd y300 bt303.1,t278,t279,t282,bt303.2)) else (none)) else (none)))) else (if bt286.1=3 then (if 1≤(t282.length:Int) then (some (t275,t276,t277,t278,t279,(t282.drop (1:Int).toNat),bt286.2)) else (none)) else (if bt286.1=4 then ((spec_l1Rd_pick.f k s0_0 bt286.2 (t282.length:Int)).bind fun bt309=>((some (([(-1),4294967296]:List Int):List Int)).bind fun y311=>((spec_l1Rd_pick.f k s0_0 bt309.2 2).bind fun bt314=>(if 0≤bt314.1 then (if bt314.1 < (y311.length:Int) then (if 0≤bt309.1 then (if bt309.1 < (t282.length:Int) then (some (t275,t276,t277,t278,t279,(t282.set (bt309.1:Int).toNat (rd y311 bt314.1)),bt314.2)) else (none)) else (none)) else (none)) else (none))))) else (if bt286.1=5 then ((some (([(-1),16777216,5]:List Int):List Int)).bind fun y318=>((spec_l1Rd_pick.f k s0_0 bt286.2 3).bind fun bt321=>(if 0≤bt321.1 then (if bt321.1 < (y318.length:Int) then (if t279.length < 17592186044416 then (some (t275,t276,t277,t278,(t279 ++ [rd y318 bt321.1]),t282,bt321.2)) else (none)) else (none)) else (none)))) else (if bt286.1=6 then (spec_l14Spoil.l0 k 0 s0_0 bt286.2 t275 t276 t277 t278 t279 t282) else (some (t275,t276,t277,0,t279,t282,bt286.2))))))))))=some (r1,r2,r3,r4,r5,r6,r7):=H
 have A3:=aM_ A30
 clear A30
 replace H:=Option.bind_eq_some_iff.mp H
 obtain ⟨⟨t286,t287⟩,A40,H⟩:=H
 replace H:(if t286=0 then ((some (([0,5,wrap64 (1+(Int.tmod t275 4))]:List Int):List Int)).bind fun y288=>((spec_l1Rd_pick.f k s0_0 t287 3).bind fun bt291=>(if 0≤bt291.1 then (if bt291.1 < (y288.length:Int) then (some (rd y288 bt291.1,t276,t277,t278,t279,t282,bt291.2)) else (none)) else (none)))) else (if t286=1 then ((some (([0,3,16]:List Int):List Int)).bind fun y294=>((spec_l1Rd_pick.f k s0_0 t287 3).bind fun bt297=>(if 0≤bt297.1 then (if bt297.1 < (y294.length:Int) then (some (t275,rd y294 bt297.1,t277,t278,t279,t282,bt297.2)) else (none)) else (none)))) else (if t286=2 then ((some (([0,wrap64 (t277+1),21]:List Int):List Int)).bind fun y300=>((spec_l1Rd_pick.f k s0_0 t287 3).bind fun bt303=>(if 0≤bt303.1 then (if bt303.1 < (y300.length:Int) then (some (t275,t276,rd y300 bt303.1,t278,t279,t282,bt303.2)) else (none)) else (none)))) else (if t286=3 then (if 1≤(t282.length:Int) then (some (t275,t276,t277,t278,t279,(t282.drop (1:Int).toNat),t287)) else (none)) else (if t286=4 then ((spec_l1Rd_pick.f k s0_0 t287 (t282.length:Int)).bind fun bt309=>((some (([(-1),4294967296]:List Int):List Int)).bind fun y311=>((spec_l1Rd_pick.f k s0_0 bt309.2 2).bind fun bt314=>(if 0≤bt314.1 then (if bt314.1 < (y311.length:Int) then (if 0≤bt309.1 then (if bt309.1 < (t282.length:Int) then (some (t275,t276,t277,t278,t279,(t282.set (bt309.1:Int).toNat (rd y311 bt314.1)),bt314.2)) else (none)) else (none)) else (none)) else (none))))) else (if t286=5 then ((some (([(-1),16777216,5]:List Int):List Int)).bind fun y318=>((spec_l1Rd_pick.f k s0_0 t287 3).bind fun bt321=>(if 0≤bt321.1 then (if bt321.1 < (y318.length:Int) then (if t279.length < 17592186044416 then (some (t275,t276,t277,t278,(t279 ++ [rd y318 bt321.1]),t282,bt321.2)) else (none)) else (none)) else (none)))) else (if t286=6 then (spec_l14Spoil.l0 k 0 s0_0 t287 t275 t276 t277 t278 t279 t282) else (some (t275,t276,t277,0,t279,t282,t287)))))))))=some (r1,r2,r3,r4,r5,r6,r7):=H
 have A4:=aM_ A40
 clear A40
 have HC5:=aM_ H
 clear H
 go_enter Try.func75,Try.ntmps75
 go_upto_if 12 with (first|((with_reducible refine gate_dst (N:=3) rfl ?_);refine box_event ?hg (N:=3) ?hd (cs:=#[.int .i64 a1_0,.int .i64 a1_1,.int .i64 a1_2,.int .i64 a1_3,.slice A1_4 l1_4.length c1_4,.slice A1_5 l1_5.length c1_5]) (t:=27) ?hr ?_;(case hd=>rfl);(case hg=>rfl);(case hr=>first|(go_simp;done)|(go_simp;rfl));intro gb273 hg w6 hbox hb;have n0_:=aM_ (IsS65.below (by repeat (first|(with_reducible first|exact HI0.out|apply IsS65.alloc|apply IsS65.drewN|apply IsS65.drew|apply IsS65.set_1)|exact HI0.out)) hb);have n1_:=aM_ (KeepBut.trans (by repeat (first|(with_reducible first|exact HK.out|apply pS_|apply pN_|apply pD_|apply pA_)|exact HK.out)) (KeepBut.of_below hb g none) (.inl rfl));have n2_:=aM_ (below_step (by repeat (first|(with_reducible first|exact HB.out|apply wA_|apply wN_|apply wD_|refine below_set ?_ (IsS65.ge HI0.out))|exact HB.out)) hb);have n3_:=aM_ (hbox);have n4_:=aM_ ((by rw [hg];exact (keep_size (w:=w) (g:=g) (row:=none) (by repeat (first|(with_reducible first|exact HK.out|apply pS_|apply pN_|apply pD_|apply pA_)|exact HK.out))):w.heap.size≤gb273));have n5_:=aM_ ((Nat.le_trans HW0.out (by rw [hg];exact (keep_size (w:=w) (g:=g) (row:=none) (by repeat (first|(with_reducible first|exact HK.out|apply pS_|apply pN_|apply pD_|apply pA_)|exact HK.out))):w.heap.size≤gb273):w0.heap.size≤gb273));have n6_:=aM_ ((by rw [hg];exact Nat.ne_of_lt (IsS65.lt (show IsS65 w0 _ g s0_0 s0_1 from by repeat (first|(with_reducible first|exact HI0.out|apply IsS65.alloc|apply IsS65.drewN|apply IsS65.drew|apply IsS65.set_1)|exact HI0.out))):g≠gb273));have n7_:=aM_ n6_.out.symm;clear HI0;clear HK;clear HB;have HI0:=n0_;have HK:=n1_;have HB:=n2_;have BK273:=n3_;have GW273:=n4_;have GE273:=n5_;have NB0_273:=n6_;have NB273_0:=n7_;clear n0_ n1_ n2_ n3_ n4_ n5_ n6_ n7_;clear hb hbox hg)|((with_reducible refine gate_dst (N:=4) rfl ?_);refine box_event ?hg (N:=4) ?hd (cs:=#[.int .i64 0,.int .i64 0,.int .i64 0,.int .i64 0,.slice none 0 0,.slice none 0 0]) (t:=27) ?hr ?_;(case hd=>rfl);(case hg=>rfl);(case hr=>first|(go_simp;done)|(go_simp;rfl));intro gb274 hg w7 hbox hb;have n0_:=aM_ (IsS65.below (by repeat (first|(with_reducible first|exact HI0.out|apply IsS65.alloc|apply IsS65.drewN|apply IsS65.drew|apply IsS65.set_1|refine IsS65.far ?_ NB0_273.out _)|exact HI0.out)) hb);have n1_:=aM_ (blk_below (g:=gb273) (by (with_reducible repeat (first|apply kN_|apply kD_|apply kA_));exact BK273.out) hb);have n2_:=aM_ (KeepBut.trans (by repeat (first|(with_reducible first|exact HK.out|apply pS_|apply pN_|apply pD_|apply pA_|refine keep_far ?_ GW273.out _)|exact HK.out)) (KeepBut.of_below hb g none) (.inl rfl));have n3_:=aM_ (below_step (by repeat (first|(with_reducible first|exact HB.out|apply wA_|apply wN_|apply wD_|refine below_set ?_ (IsS65.ge HI0.out)|refine below_set ?_ GE273.out)|exact HB.out)) hb);have n4_:=aM_ (hbox);have n5_:=aM_ ((by rw [hg];exact (keep_size (w:=w) (g:=g) (row:=none) (by repeat (first|(with_reducible first|exact HK.out|apply pS_|apply pN_|apply pD_|apply pA_|refine keep_far ?_ GW273.out _)|exact HK.out))):w.heap.size≤gb274));have n6_:=aM_ ((Nat.le_trans HW0.out (by rw [hg];exact (keep_size (w:=w) (g:=g) (row:=none) (by repeat (first|(with_reducible first|exact HK.out|apply pS_|apply pN_|apply pD_|apply pA_|refine keep_far ?_ GW273.out _)|exact HK.out))):w.heap.size≤gb274):w0.heap.size≤gb274));have n7_:=aM_ ((by rw [hg];exact Nat.ne_of_lt (blk_lt (g:=gb273) (by (with_reducible repeat (first|apply kN_|apply kD_|apply kA_));exact BK273.out)):gb273≠gb274));have n8_:=aM_ n7_.out.symm;have n9_:=aM_ ((by rw [hg];exact Nat.ne_of_lt (IsS65.lt (show IsS65 w0 _ g s0_0 s0_1 from by repeat (first|(with_reducible first|exact HI0.out|apply IsS65.alloc|apply IsS65.drewN|apply IsS65.drew|apply IsS65.set_1|refine IsS65.far ?_ NB0_273.out _)|exact HI0.out))):g≠gb274));have n10_:=aM_ n9_.out.symm;clear HI0;clear BK273;clear HK;clear HB;have HI0:=n0_;have BK273:=n1_;have HK:=n2_;have HB:=n3_;have BK274:=n4_;have GW274:=n5_;have GE274:=n6_;have NB273_274:=n7_;have NB274_273:=n8_;have NB0_274:=n9_;have NB274_0:=n10_;clear n0_ n1_ n2_ n3_ n4_ n5_ n6_ n7_ n8_ n9_ n10_;clear hb hbox hg;have hnb8:=NB273_274.out;have hnc8:=NB274_273.out;have hnb9:=NB273_0.out;have hnc9:=NB0_273.out;obtain ⟨hcz10_0,hcz10_1,hcz10_2,hcz10_3,hcz10_4,hcz10_5⟩:=bc6 BK273.out;obtain ⟨hfz10_0,hfz10_1,hfz10_2,hfz10_3,hfz10_4,hfz10_5⟩:=bf6 BK273.out)|((with_reducible refine gate_callee (f:=77) rfl ?_);refine goesL_ (some 8) rfl rfl Try.func77 (by kernel_rfl) rfl #[.agg #[.int .i64 a1_0,.int .i64 a1_1,.int .i64 a1_2,.int .i64 a1_3,.slice A1_4 l1_4.length c1_4,.slice A1_5 l1_5.length c1_5]] rfl (by (try simp only [List.map_toArray,List.map_cons,List.map_nil]);first|done|rfl|(simp only [List.length_drop,List.length_take];rfl)) ?_;(with_reducible refine (spec_l14Copy.calls a1_0 a1_1 a1_2 a1_3 _ _ l1_4 _ _ l1_5 t275 t276 t277 t278 t279 t282 _ ?side1 ?side2 ?side3 ?side4 A3.out).mono ?_);(case side1=>exact Kd.C_keep 0 HR1_4.out (by repeat (first|(with_reducible first|exact HK.out|apply pS_|apply pN_|apply pD_|apply pA_|refine keep_far ?_ GW273.out _|refine keep_far ?_ GW274.out _)|exact HK.out)) hf1_4);(case side2=>exact HC1_4.out);(case side3=>exact Kd.C_keep 0 HR1_5.out (by repeat (first|(with_reducible first|exact HK.out|apply pS_|apply pN_|apply pD_|apply pA_|refine keep_far ?_ GW273.out _|refine keep_far ?_ GW274.out _)|exact HK.out)) hf1_5);(case side4=>exact HC1_5.out);rintro e w11 ⟨v280,v283,rfl,ho0,ho1,hb⟩;refine ⟨_,rfl,?_⟩;have n0_:=aM_ (Kd.R_lower ho0 (keep_size (w:=w) (g:=g) (row:=none) (by repeat (first|(with_reducible first|exact HK.out|apply pS_|apply pN_|apply pD_|apply pA_|refine keep_far ?_ GW273.out _|refine keep_far ?_ GW274.out _)|exact HK.out))));have n1_:=aM_ (Kd.R_lower ho1 (keep_size (w:=w) (g:=g) (row:=none) (by repeat (first|(with_reducible first|exact HK.out|apply pS_|apply pN_|apply pD_|apply pA_|refine keep_far ?_ GW273.out _|refine keep_far ?_ GW274.out _)|exact HK.out))));have n2_:=aM_ (IsS65.below (by repeat (first|(with_reducible first|exact HI0.out|apply IsS65.alloc|apply IsS65.drewN|apply IsS65.drew|apply IsS65.set_1|refine IsS65.far ?_ NB0_273.out _|refine IsS65.far ?_ NB0_274.out _)|exact HI0.out)) hb);have n3_:=aM_ (blk_below (g:=gb273) (by (with_reducible repeat (first|apply kN_|apply kD_|apply kA_));exact BK273.out) hb);have n4_:=aM_ (blk_below (g:=gb274) (by (with_reducible repeat (first|apply kN_|apply kD_|apply kA_));exact BK274.out) hb);have n5_:=aM_ (KeepBut.trans (by repeat (first|(with_reducible first|exact HK.out|apply pS_|apply pN_|apply pD_|apply pA_|refine keep_far ?_ GW273.out _|refine keep_far ?_ GW274.out _)|exact HK.out)) (KeepBut.of_below hb g none) (.inl rfl));have n6_:=aM_ (below_step (by repeat (first|(with_reducible first|exact HB.out|apply wA_|apply wN_|apply wD_|refine below_set ?_ (IsS65.ge HI0.out)|refine below_set ?_ GE273.out|refine below_set ?_ GE274.out)|exact HB.out)) hb);clear HI0;clear BK273;clear BK274;clear HK;clear HB;have HO281:=n0_;have HO284:=n1_;have HI0:=n2_;have BK273:=n3_;have BK274:=n4_;have HK:=n5_;have HB:=n6_;clear n0_ n1_ n2_ n3_ n4_ n5_ n6_;(try clear hb);(try clear hb2);(try clear hk);(try clear hi);(try clear ho0);(try clear ho1))|((with_reducible refine gate_dst (N:=5) rfl ?_);refine box_event ?hg (N:=5) ?hd (cs:=#[.int .i64 0,.int .i64 0,.int .i64 0,.int .i64 0,.slice none 0 0,.slice none 0 0]) (t:=27) ?hr ?_;(case hd=>rfl);(case hg=>rfl);(case hr=>first|(go_simp;done)|(go_simp;rfl));intro gb285 hg w12 hbox hb;have n0_:=aM_ (Kd.R_below (by (with_reducible repeat (first|apply rA_|apply rN_|apply rD_));exact HO281.out) hb);have n1_:=aM_ (Kd.R_below (by (with_reducible repeat (first|apply rA_|apply rN_|apply rD_));exact HO284.out) hb);have n2_:=aM_ (IsS65.below (by repeat (first|(with_reducible first|exact HI0.out|apply IsS65.alloc|apply IsS65.drewN|apply IsS65.drew|apply IsS65.set_1|refine IsS65.far ?_ NB0_273.out _|refine IsS65.far ?_ NB0_274.out _)|exact HI0.out)) hb);have n3_:=aM_ (blk_below (g:=gb273) (by (with_reducible repeat (first|apply kN_|apply kD_|apply kA_));exact BK273.out) hb);have n4_:=aM_ (blk_below (g:=gb274) (by (with_reducible repeat (first|apply kN_|apply kD_|apply kA_));exact BK274.out) hb);have n5_:=aM_ (KeepBut.trans (by repeat (first|(with_reducible first|exact HK.out|apply pS_|apply pN_|apply pD_|apply pA_|refine keep_far ?_ GW273.out _|refine keep_far ?_ GW274.out _)|exact HK.out)) (KeepBut.of_below hb g none) (.inl rfl));have n6_:=aM_ (below_step (by repeat (first|(with_reducible first|exact HB.out|apply wA_|apply wN_|apply wD_|refine below_set ?_ (IsS65.ge HI0.out)|refine below_set ?_ GE273.out|refine below_set ?_ GE274.out)|exact HB.out)) hb);have n7_:=aM_ (hbox);have n8_:=aM_ ((by rw [hg];exact (keep_size (w:=w) (g:=g) (row:=none) (by repeat (first|(with_reducible first|exact HK.out|apply pS_|apply pN_|apply pD_|apply pA_|refine keep_far ?_ GW273.out _|refine keep_far ?_ GW274.out _)|exact HK.out))):w.heap.size≤gb285));have n9_:=aM_ ((Nat.le_trans HW0.out (by rw [hg];exact (keep_size (w:=w) (g:=g) (row:=none) (by repeat (first|(with_reducible first|exact HK.out|apply pS_|apply pN_|apply pD_|apply pA_|refine keep_far ?_ GW273.out _|refine keep_far ?_ GW274.out _)|exact HK.out))):w.heap.size≤gb285):w0.heap.size≤gb285));have n10_:=aM_ ((by rw [hg];exact Nat.ne_of_lt (blk_lt (g:=gb273) (by (with_reducible repeat (first|apply kN_|apply kD_|apply kA_));exact BK273.out)):gb273≠gb285));have n11_:=aM_ n10_.out.symm;have n12_:=aM_ ((by rw [hg];exact Nat.ne_of_lt (blk_lt (g:=gb274) (by (with_reducible repeat (first|apply kN_|apply kD_|apply kA_));exact BK274.out)):gb274≠gb285));have n13_:=aM_ n12_.out.symm;have n14_:=aM_ ((by rw [hg];exact Nat.ne_of_lt (IsS65.lt (show IsS65 w0 _ g s0_0 s0_1 from by repeat (first|(with_reducible first|exact HI0.out|apply IsS65.alloc|apply IsS65.drewN|apply IsS65.drew|apply IsS65.set_1|refine IsS65.far ?_ NB0_273.out _|refine IsS65.far ?_ NB0_274.out _)|exact HI0.out))):g≠gb285));have n15_:=aM_ n14_.out.symm;clear HO281;clear HO284;clear HI0;clear BK273;clear BK274;clear HK;clear HB;have HO281:=n0_;have HO284:=n1_;have HI0:=n2_;have BK273:=n3_;have BK274:=n4_;have HK:=n5_;have HB:=n6_;have BK285:=n7_;have GW285:=n8_;have GE285:=n9_;have NB273_285:=n10_;have NB285_273:=n11_;have NB274_285:=n12_;have NB285_274:=n13_;have NB0_285:=n14_;have NB285_0:=n15_;clear n0_ n1_ n2_ n3_ n4_ n5_ n6_ n7_ n8_ n9_ n10_ n11_ n12_ n13_ n14_ n15_;clear hb hbox hg;have hnb13:=NB285_273.out;have hnc13:=NB273_285.out;have hnb14:=NB285_274.out;have hnc14:=NB274_285.out;have hnb15:=NB285_0.out;have hnc15:=NB0_285.out;obtain ⟨hcz16_0,hcz16_1,hcz16_2,hcz16_3,hcz16_4,hcz16_5⟩:=bc6 BK285.out;obtain ⟨hfz16_0,hfz16_1,hfz16_2,hfz16_3,hfz16_4,hfz16_5⟩:=bf6 BK285.out;obtain ⟨Ao17,co17,eo17⟩:=Kd.R_slice HO281.out;subst eo17;obtain ⟨Ao18,co18,eo18⟩:=Kd.R_slice HO284.out;subst eo18)|((with_reducible refine gate_callee (f:=68) rfl ?_);refine goesL_ (some 10) rfl rfl Try.func68 (by kernel_rfl) rfl #[.pointer (some ⟨g,0,none⟩),.int .i64 8] rfl (by (try simp only [List.map_toArray,List.map_cons,List.map_nil]);first|done|rfl|(simp only [List.length_drop,List.length_take];rfl)) ?_;(with_reducible refine (spec_l1Rd_pick.calls k g s0_0 s0_1 8 t286 t287 w0 _ ?side1 ?side2 A4.out).mono ?_);(case side1=>repeat (first|(with_reducible first|exact HI0.out|apply IsS65.alloc|apply IsS65.drewN|apply IsS65.drew|apply IsS65.set_1|refine IsS65.far ?_ NB0_273.out _|refine IsS65.far ?_ NB0_274.out _|refine IsS65.far ?_ NB0_285.out _)|exact HI0.out));(case side2=>repeat (first|(with_reducible first|exact HB.out|apply wA_|apply wN_|apply wD_|refine below_set ?_ (IsS65.ge HI0.out)|refine below_set ?_ GE273.out|refine below_set ?_ GE274.out|refine below_set ?_ GE285.out)|exact HB.out));rintro e w19 ⟨rfl,hi,hb,hk⟩;refine ⟨_,rfl,?_⟩;have n0_:=aM_ (KeepBut.blk hk (g':=gb273) (o:=.cells #[.int .i64 a1_0,.int .i64 a1_1,.int .i64 a1_2,.int .i64 a1_3,.slice A1_4 l1_4.length c1_4,.slice A1_5 l1_5.length c1_5] 27 (0,0)) (by (with_reducible repeat (first|apply kN_|apply kD_|apply kA_));refine blk_far ?_ NB273_285.out _;(with_reducible repeat (first|apply kN_|apply kD_|apply kA_));refine blk_far ?_ NB273_285.out _;(with_reducible repeat (first|apply kN_|apply kD_|apply kA_));refine blk_far ?_ NB273_285.out _;(with_reducible repeat (first|apply kN_|apply kD_|apply kA_));refine blk_far ?_ NB273_285.out _;(with_reducible repeat (first|apply kN_|apply kD_|apply kA_));refine blk_far ?_ NB273_285.out _;(with_reducible repeat (first|apply kN_|apply kD_|apply kA_));refine blk_far ?_ NB273_285.out _;(with_reducible repeat (first|apply kN_|apply kD_|apply kA_));exact BK273.out) NB273_0.out (by simp));have n1_:=aM_ (KeepBut.blk hk (g':=gb274) (o:=.cells #[.int .i64 0,.int .i64 0,.int .i64 0,.int .i64 0,.slice none 0 0,.slice none 0 0] 27 (0,0)) (by (with_reducible repeat (first|apply kN_|apply kD_|apply kA_));refine blk_far ?_ NB274_285.out _;(with_reducible repeat (first|apply kN_|apply kD_|apply kA_));refine blk_far ?_ NB274_285.out _;(with_reducible repeat (first|apply kN_|apply kD_|apply kA_));refine blk_far ?_ NB274_285.out _;(with_reducible repeat (first|apply kN_|apply kD_|apply kA_));refine blk_far ?_ NB274_285.out _;(with_reducible repeat (first|apply kN_|apply kD_|apply kA_));refine blk_far ?_ NB274_285.out _;(with_reducible repeat (first|apply kN_|apply kD_|apply kA_));refine blk_far ?_ NB274_285.out _;(with_reducible repeat (first|apply kN_|apply kD_|apply kA_));exact BK274.out) NB274_0.out (by simp));have n2_:=aM_ (Kd.R_mono (Kd.R_keep (IsS65.apart (show IsS65 w0 _ g s0_0 s0_1 from by repeat (first|(with_reducible first|exact HI0.out|apply IsS65.alloc|apply IsS65.drewN|apply IsS65.drew|apply IsS65.set_1|refine IsS65.far ?_ NB0_273.out _|refine IsS65.far ?_ NB0_274.out _|refine IsS65.far ?_ NB0_285.out _)|exact HI0.out)) (by (with_reducible repeat (first|apply rA_|apply rN_|apply rD_));exact (Kd.R_mono (Kd.R_far (Kd.R_far (Kd.R_far (Kd.R_far (Kd.R_far (Kd.R_far (Kd.R_types HO281.out BK285.out (by decide)) (fun _ hk=>hk.2) _) (fun _ hk=>hk.2) _) (fun _ hk=>hk.2) _) (fun _ hk=>hk.2) _) (fun _ hk=>hk.2) _) (fun _ hk=>hk.2) _) (fun _ h_=>h_.1))) (by decide)) hk (fun _ h=>h.2)) (fun _ h=>h.1));have n3_:=aM_ (Kd.R_mono (Kd.R_keep (IsS65.apart (show IsS65 w0 _ g s0_0 s0_1 from by repeat (first|(with_reducible first|exact HI0.out|apply IsS65.alloc|apply IsS65.drewN|apply IsS65.drew|apply IsS65.set_1|refine IsS65.far ?_ NB0_273.out _|refine IsS65.far ?_ NB0_274.out _|refine IsS65.far ?_ NB0_285.out _)|exact HI0.out)) (by (with_reducible repeat (first|apply rA_|apply rN_|apply rD_));exact (Kd.R_mono (Kd.R_far (Kd.R_far (Kd.R_far (Kd.R_far (Kd.R_far (Kd.R_far (Kd.R_types HO284.out BK285.out (by decide)) (fun _ hk=>hk.2) _) (fun _ hk=>hk.2) _) (fun _ hk=>hk.2) _) (fun _ hk=>hk.2) _) (fun _ hk=>hk.2) _) (fun _ hk=>hk.2) _) (fun _ h_=>h_.1))) (by decide)) hk (fun _ h=>h.2)) (fun _ h=>h.1));have n4_:=aM_ (KeepBut.blk hk (g':=gb285) (o:=.cells #[.int .i64 t275,.int .i64 t276,.int .i64 t277,.int .i64 t278,.slice Ao17 t279.length co17,.slice Ao18 t282.length co18] 27 (0,0)) (by (with_reducible repeat (first|apply kN_|apply kD_|apply kA_));refine blk_put (cs:=#[.int .i64 t275,.int .i64 t276,.int .i64 t277,.int .i64 t278,.slice Ao17 t279.length co17,.slice none 0 0]) ?_ 5 _ rfl;(with_reducible repeat (first|apply kN_|apply kD_|apply kA_));refine blk_put (cs:=#[.int .i64 t275,.int .i64 t276,.int .i64 t277,.int .i64 t278,.slice none 0 0,.slice none 0 0]) ?_ 4 _ rfl;(with_reducible repeat (first|apply kN_|apply kD_|apply kA_));refine blk_put (cs:=#[.int .i64 t275,.int .i64 t276,.int .i64 t277,.int .i64 0,.slice none 0 0,.slice none 0 0]) ?_ 3 _ rfl;(with_reducible repeat (first|apply kN_|apply kD_|apply kA_));refine blk_put (cs:=#[.int .i64 t275,.int .i64 t276,.int .i64 0,.int .i64 0,.slice none 0 0,.slice none 0 0]) ?_ 2 _ rfl;(with_reducible repeat (first|apply kN_|apply kD_|apply kA_));refine blk_put (cs:=#[.int .i64 t275,.int .i64 0,.int .i64 0,.int .i64 0,.slice none 0 0,.slice none 0 0]) ?_ 1 _ rfl;(with_reducible repeat (first|apply kN_|apply kD_|apply kA_));refine blk_put (cs:=#[.int .i64 0,.int .i64 0,.int .i64 0,.int .i64 0,.slice none 0 0,.slice none 0 0]) ?_ 0 _ rfl;(with_reducible repeat (first|apply kN_|apply kD_|apply kA_));exact BK285.out) NB285_0.out (by simp));have n5_:=aM_ (KeepBut.trans (by repeat (first|(with_reducible first|exact HK.out|apply pS_|apply pN_|apply pD_|apply pA_|refine keep_far ?_ GW273.out _|refine keep_far ?_ GW274.out _|refine keep_far ?_ GW285.out _)|exact HK.out)) hk (.inl rfl));have n6_:=aM_ (hb);have n7_:=aM_ (hi);clear BK273;clear BK274;clear HO281;clear HO284;clear BK285;clear HK;clear HB;clear HI0;have BK273:=n0_;have BK274:=n1_;have HO281:=n2_;have HO284:=n3_;have BK285:=n4_;have HK:=n5_;have HB:=n6_;have HI0:=n7_;clear n0_ n1_ n2_ n3_ n4_ n5_ n6_ n7_;(try clear hb);(try clear hb2);(try clear hk);(try clear hi)))
 (try simp only [Act.put,sA_,s0_,s1_])
 have H:=HC5.out
 clear HC5
 by_cases c20:t286=0
 ·rw [if_pos c20] at H
  have c20b0:(t286 == 0)=true:=beq_iff_eq.mpr c20
  have c20b1:(t286 != 0)=false:=bne_eq_false_iff_eq.mpr c20
  clear c20
  (first|rw [c20b0]|(simp only [i64_w,i32_w];rw [c20b0])|skip)
  obtain ⟨y288,hy288⟩:∃ y_:List Int,y_=(([0,5,wrap64 (1+(Int.tmod t275 4))]:List Int)):=⟨_,rfl⟩
  replace H:((spec_l1Rd_pick.f k s0_0 t287 3).bind fun bt291=>(if 0≤bt291.1 then (if bt291.1 < (y288.length:Int) then (some (rd y288 bt291.1,t276,t277,t278,t279,t282,bt291.2)) else (none)) else (none)))=some (r1,r2,r3,r4,r5,r6,r7):=by first|(rw [hy288];with_reducible exact H)|(have H2_:=(Option.bind_some _ _).symm.trans H;rw [hy288];with_reducible exact H2_)|(have H2_:=(Option.bind_some _ _).symm.trans H;with_reducible exact H2_)|with_reducible exact H|(rw [hy288];exact H)|exact H
  have Ny288:=aM_ hy288
  clear hy288
  replace H:=Option.bind_eq_some_iff.mp H
  obtain ⟨⟨t291,t292⟩,A210,H⟩:=H
  replace H:(if 0≤t291 then (if t291 < (y288.length:Int) then (some (rd y288 t291,t276,t277,t278,t279,t282,t292)) else (none)) else (none))=some (r1,r2,r3,r4,r5,r6,r7):=H
  have A21:=aM_ A210
  clear A210
  by_cases c22:0≤t291
  ·rw [if_pos c22] at H
   have c22b0:decide (0≤t291)=true:=decide_eq_true c22
   clear c22
   by_cases c23:t291 < (y288.length:Int)
   ·rw [if_pos c23] at H
    have c23b0:decide (t291 < (y288.length:Int))=true:=decide_eq_true c23
    clear c23
    simp only [Option.some.injEq,Prod.mk.injEq] at H
    obtain ⟨rfl,rfl,rfl,rfl,rfl,rfl,rfl⟩:=H
    try go_wp2
    have pi293:(0≤(t291:Int))=True:=eq_true (of_decide_eq_true (by first|(with_reducible assumption)|assumption))
    have qi293:(t291 < (y288.length:Int))=True:=eq_true (of_decide_eq_true (by first|(with_reducible assumption)|assumption))
    have n0_:=aM_ (rD_ HO281.out)
    have n1_:=aM_ (rD_ HO284.out)
    have n2_:=aM_ (kD_ BK273.out)
    have n3_:=aM_ (kD_ BK274.out)
    have n4_:=aM_ (kD_ BK285.out)
    have n5_:=aM_ (IsS65.drew HI0.out)
    have n6_:=aM_ (pD_ HK.out)
    have n7_:=aM_ (wD_ HB.out)
    clear HO281
    clear HO284
    clear BK273
    clear BK274
    clear BK285
    clear HI0
    clear HK
    clear HB
    have HO281:=n0_
    have HO284:=n1_
    have BK273:=n2_
    have BK274:=n3_
    have BK285:=n4_
    have HI0:=n5_
    have HK:=n6_
    have HB:=n7_
    clear n0_ n1_ n2_ n3_ n4_ n5_ n6_ n7_
    refine start_ (n:=11) (S:=fun w'=>w'.cell? ⟨gb285,0,none⟩=some (.int .i64 t275)∧w'.cell? ⟨gb285,1,none⟩=some (.int .i64 t276)∧w'.cell? ⟨gb285,2,none⟩=some (.int .i64 t277)∧w'.cell? ⟨gb285,3,none⟩=some (.int .i64 t278)∧w'.cell? ⟨gb285,4,none⟩=some (.slice Ao17 t279.length co17)∧w'.cell? ⟨gb285,5,none⟩=some (.slice Ao18 t282.length co18)) (ds:=[10]) #[false,false,false,false,false,false,false,false,false,false,false] (by kernel_rfl) rfl rfl (bc6 BK285.out) (fun hHeld=>?_);refine with_tabW spec_l14Spoil.tab5 spec_l14Spoil.bits5 (fun HT_ HW_=>?_)
    generalize w19.drew=w24 at HO281 HO284 BK273 BK274 BK285 HI0 HK HB hHeld ⊢
    refine pure_ (i:=0) (N:=some 14) (v:=?_) (a':=?_) #[true,false,false,false,false,false,false,false,false,false,false] rfl rfl (any_of HT_.out (by kernel_rfl)) (fun _ _ _ h=>h) (Or.inl ⟨by rfl,?_⟩) ?_ ?_
    rotate_left
    ·intro w'
     go_simp
     with_reducible rfl
    rotate_left
    ·simp only [Act.put,sA_,s0_,s1_,i64_w,i32_w]
     rfl
    refine pure_ (i:=5) (N:=some 19) (v:=?_) (a':=?_) #[true,false,false,false,false,true,false,false,false,false,false] rfl rfl (any_of HT_.out (by kernel_rfl)) (fun _ _ _ h=>h) (Or.inl ⟨by rfl,?_⟩) ?_ ?_
    rotate_left
    ·intro w'
     go_simp
     with_reducible rfl
    rotate_left
    ·simp only [Act.put,sA_,s0_,s1_,i64_w,i32_w]
     rfl
    refine take_ (i:=1) (N:=some 15) (v:=?_) (a':=?_) #[true,true,false,false,false,true,false,false,false,false,false] rfl rfl (take_ofW HT_.out HW_.out (by kernel_rfl)) (fun _ _ _ h=>h) (Or.inl ⟨by rfl,?_⟩) hHeld ?_ ?_
    rotate_left
    ·rintro w' ⟨s0,s1,s2,s3,s4,s5⟩
     go_simp
     with_reducible rfl
    rotate_left
    ·simp only [Act.put,sA_,s0_,s1_,i64_w,i32_w]
     rfl
    refine pure_ (i:=2) (N:=some 16) (v:=?_) (a':=?_) #[true,true,true,false,false,true,false,false,false,false,false] rfl rfl (any_of HT_.out (by kernel_rfl)) (fun _ _ _ h=>h) (Or.inl ⟨by rfl,?_⟩) ?_ ?_
    rotate_left
    ·intro w'
     go_simp
     with_reducible rfl
    rotate_left
    ·simp only [Act.put,sA_,s0_,s1_,i64_w,i32_w]
     rfl
    refine pure_ (i:=3) (N:=some 17) (v:=?_) (a':=?_) #[true,true,true,true,false,true,false,false,false,false,false] rfl rfl (any_of HT_.out (by kernel_rfl)) (fun _ _ _ h=>h) (Or.inl ⟨by rfl,?_⟩) ?_ ?_
    rotate_left
    ·intro w'
     go_simp
     with_reducible rfl
    rotate_left
    ·simp only [Act.put,sA_,s0_,s1_,i64_w,i32_w]
     rfl
    refine join_ (σ:=Value × Addr) 4 #[true,true,true,true,true,true,true,false,false,false,false] (fun s_=>[(18,s_.1),(20,.int .i64 t291)]) (fun s_ w'=>(w'.cell? ⟨gb285,0,none⟩=some (.int .i64 t275)∧w'.cell? ⟨gb285,1,none⟩=some (.int .i64 t276)∧w'.cell? ⟨gb285,2,none⟩=some (.int .i64 t277)∧w'.cell? ⟨gb285,3,none⟩=some (.int .i64 t278)∧w'.cell? ⟨gb285,4,none⟩=some (.slice Ao17 t279.length co17)∧w'.cell? ⟨gb285,5,none⟩=some (.slice Ao18 t282.length co18))∧(Kd.R (Kd.int .i64) 3 w' w.heap.size (fun k_=>some k_≠(.slice Ao18 t282.length co18:Value).ownBlock∧some k_≠(s_.1:Value).ownBlock) (.slice Ao17 t279.length co17) t279)∧(Kd.R (Kd.int .i64) 3 w' w.heap.size (fun k_=>some k_≠(.slice Ao17 t279.length co17:Value).ownBlock∧some k_≠(s_.1:Value).ownBlock) (.slice Ao18 t282.length co18) t282)∧(Kd.R (Kd.int .i64) 3 w' w.heap.size (fun k_=>some k_≠(.slice Ao17 t279.length co17:Value).ownBlock∧some k_≠(.slice Ao18 t282.length co18:Value).ownBlock) s_.1 y288)∧(∃ c_,(s_.1:Value)=.slice (some s_.2) y288.length c_)∧(w'.heap[gb273]?=some (.cells #[.int .i64 a1_0,.int .i64 a1_1,.int .i64 a1_2,.int .i64 a1_3,.slice A1_4 l1_4.length c1_4,.slice A1_5 l1_5.length c1_5] 27 (0,0)))∧(w'.heap[gb274]?=some (.cells #[.int .i64 0,.int .i64 0,.int .i64 0,.int .i64 0,.slice none 0 0,.slice none 0 0] 27 (0,0)))∧(w'.heap[gb285]?=some (.cells #[.int .i64 t275,.int .i64 t276,.int .i64 t277,.int .i64 t278,.slice Ao17 t279.length co17,.slice Ao18 t282.length co18] 27 (0,0)))∧(IsS65 w0 w' g s0_0 t292)∧(KeepBut w w' g none)∧(Below w0.heap.size w0 w')) ?_ ?_
    rotate_left
    ·intro hCont
     refine two_ (i:=4) (j:=6) (Ni:=some 18) (Nj:=some 20) #[true,true,true,true,true,true,false,false,false,false,false] #[true,true,true,true,false,true,true,false,false,false,false] rfl rfl rfl rfl (two_of HT_.out (by kernel_rfl)) (by decide) (by decide) (fun K hK=>?_) (fun K hK=>?_)
     ·skip
      refine Kd.R_lit_step (Kd.int .i64) _ 3 ?hg (N:=18) ?hd (xs:=([0,5,wrap64 (1+(Int.tmod t275 4))]:List Int)) (inner:=[.int .i64 0,.int .i64 5,.int .i64 (wrap64 (1+(Int.tmod t275 4)))]) (ok:=fun _=>True) (okp:=fun _=>True) ?hr ?hp (fun _ hk=>hk) trivial (Below.refl _ _) (Nat.le_refl _) (by simp) ?_;(case hd=>rfl);(case hg=>rfl);(case hr=>first|(go_simp;done)|(go_simp;rfl));(case hp=>exact (Reps.one (show Kd.M (Kd.int .i64) _ _ _ 0 [.int .i64 0] from rfl) (Reps.one (show Kd.M (Kd.int .i64) _ _ _ 5 [.int .i64 5] from rfl) (Reps.one (show Kd.M (Kd.int .i64) _ _ _ (wrap64 (1+(Int.tmod t275 4))) [.int .i64 (wrap64 (1+(Int.tmod t275 4)))] from rfl) (Reps.none _ _)))))
      intro v289 w25 ho26 hb hg_ hnew_
      clear hg_ hnew_
      (first|rw [← Ny288.out] at ho26|(simp only [Int.reduceToNat] at ho26;rw [← Ny288.out] at ho26))
      have n0_:=aM_ (Kd.R_elder' (by (with_reducible repeat (first|apply rA_|apply rN_|apply rD_));exact HO281.out) (Kd.R_base ho26) hb)
      have n1_:=aM_ (Kd.R_elder' (by (with_reducible repeat (first|apply rA_|apply rN_|apply rD_));exact HO284.out) (Kd.R_base ho26) hb)
      have n2_:=aM_ (Kd.R_lower (Kd.R_new' (Kd.R_new' ho26 (Kd.R_lt (by (with_reducible repeat (first|apply rA_|apply rN_|apply rD_));exact HO281.out))) (Kd.R_lt (by (with_reducible repeat (first|apply rA_|apply rN_|apply rD_));exact HO284.out))) (keep_size (w:=w) (g:=g) (row:=none) (by repeat (first|(with_reducible first|exact HK.out|apply pS_|apply pN_|apply pD_|apply pA_|refine keep_far ?_ GW273.out _|refine keep_far ?_ GW274.out _|refine keep_far ?_ GW285.out _)|exact HK.out))))
      have n3_:=aM_ (IsS65.below (by repeat (first|(with_reducible first|exact HI0.out|apply IsS65.alloc|apply IsS65.drewN|apply IsS65.drew|apply IsS65.set_1|refine IsS65.far ?_ NB0_273.out _|refine IsS65.far ?_ NB0_274.out _|refine IsS65.far ?_ NB0_285.out _)|exact HI0.out)) hb)
      have n4_:=aM_ (blk_below (g:=gb273) (by (with_reducible repeat (first|apply kN_|apply kD_|apply kA_));exact BK273.out) hb)
      have n5_:=aM_ (blk_below (g:=gb274) (by (with_reducible repeat (first|apply kN_|apply kD_|apply kA_));exact BK274.out) hb)
      have n6_:=aM_ (blk_below (g:=gb285) (by (with_reducible repeat (first|apply kN_|apply kD_|apply kA_));exact BK285.out) hb)
      have n7_:=aM_ (KeepBut.trans (by repeat (first|(with_reducible first|exact HK.out|apply pS_|apply pN_|apply pD_|apply pA_|refine keep_far ?_ GW273.out _|refine keep_far ?_ GW274.out _|refine keep_far ?_ GW285.out _)|exact HK.out)) (KeepBut.of_below hb g none) (.inl rfl))
      have n8_:=aM_ (below_step (by repeat (first|(with_reducible first|exact HB.out|apply wA_|apply wN_|apply wD_|refine below_set ?_ (IsS65.ge HI0.out)|refine below_set ?_ GE273.out|refine below_set ?_ GE274.out|refine below_set ?_ GE285.out)|exact HB.out)) hb)
      clear HO281
      clear HO284
      clear HI0
      clear BK273
      clear BK274
      clear BK285
      clear HK
      clear HB
      have HO281:=n0_
      have HO284:=n1_
      have HO290:=n2_
      have HI0:=n3_
      have BK273:=n4_
      have BK274:=n5_
      have BK285:=n6_
      have HK:=n7_
      have HB:=n8_
      clear n0_ n1_ n2_ n3_ n4_ n5_ n6_ n7_ n8_
      clear hb ho26
      obtain ⟨Ao27,co27,eo27⟩:=Kd.R_slice HO290.out
      subst eo27
      obtain ⟨ado27,fo27,_⟩:=Kd.at_int (Kd.R_reads' HO290.out).2.2 0 (by decide) (by rw [Ny288.out];simp)
      cases fo27
      refine hK.out _ _ (bc6 BK285.out) (fun hHeld=>?_)
      clear hK K
      refine norm_ (a':=?_) ?_ ?_
      rotate_left
      ·show Act.put _ (some 18) _=_
       simp only [Act.put,sA_,s0_,s1_,i64_w,i32_w]
       rfl
      refine one_ (i:=6) (N:=some 20) #[true,true,true,true,true,true,true,false,false,false,false] rfl rfl (one_of HT_.out (by kernel_rfl)) (by decide) (fun K hK=>?_)
      refine goes_ Try.func68 (by kernel_rfl) rfl #[.pointer (some ⟨g,0,none⟩),.int .i64 3] (by rfl) rfl rfl (by (try simp only [List.map_toArray,List.map_cons,List.map_nil]);first|done|rfl|(simp only [List.length_drop,List.length_take];rfl)) ?_
      with_reducible refine (spec_l1Rd_pick.calls k g s0_0 t287 3 t291 t292 w0 _ ?side1 ?side2 A21.out).mono ?_
      (case side1=>repeat (first|(with_reducible first|exact HI0.out|apply IsS65.alloc|apply IsS65.drewN|apply IsS65.drew|apply IsS65.set_1|refine IsS65.far ?_ NB0_273.out _|refine IsS65.far ?_ NB0_274.out _|refine IsS65.far ?_ NB0_285.out _)|exact HI0.out))
      (case side2=>repeat (first|(with_reducible first|exact HB.out|apply wA_|apply wN_|apply wD_|refine below_set ?_ (IsS65.ge HI0.out)|refine below_set ?_ GE273.out|refine below_set ?_ GE274.out|refine below_set ?_ GE285.out)|exact HB.out))
      rintro e w28 ⟨rfl,hi,hb,hk⟩
      refine ⟨_,rfl,?_⟩
      have n0_:=aM_ (KeepBut.blk hk (g':=gb273) (o:=.cells #[.int .i64 a1_0,.int .i64 a1_1,.int .i64 a1_2,.int .i64 a1_3,.slice A1_4 l1_4.length c1_4,.slice A1_5 l1_5.length c1_5] 27 (0,0)) (by (with_reducible repeat (first|apply kN_|apply kD_|apply kA_));exact BK273.out) NB273_0.out (by simp))
      have n1_:=aM_ (KeepBut.blk hk (g':=gb274) (o:=.cells #[.int .i64 0,.int .i64 0,.int .i64 0,.int .i64 0,.slice none 0 0,.slice none 0 0] 27 (0,0)) (by (with_reducible repeat (first|apply kN_|apply kD_|apply kA_));exact BK274.out) NB274_0.out (by simp))
      have n2_:=aM_ (Kd.R_mono (Kd.R_keep (IsS65.apart (show IsS65 w0 _ g s0_0 t287 from by repeat (first|(with_reducible first|exact HI0.out|apply IsS65.alloc|apply IsS65.drewN|apply IsS65.drew|apply IsS65.set_1|refine IsS65.far ?_ NB0_273.out _|refine IsS65.far ?_ NB0_274.out _|refine IsS65.far ?_ NB0_285.out _)|exact HI0.out)) (by (with_reducible repeat (first|apply rA_|apply rN_|apply rD_));exact HO281.out) (by decide)) hk (fun _ h=>h.2)) (fun _ h=>h.1))
      have n3_:=aM_ (Kd.R_mono (Kd.R_keep (IsS65.apart (show IsS65 w0 _ g s0_0 t287 from by repeat (first|(with_reducible first|exact HI0.out|apply IsS65.alloc|apply IsS65.drewN|apply IsS65.drew|apply IsS65.set_1|refine IsS65.far ?_ NB0_273.out _|refine IsS65.far ?_ NB0_274.out _|refine IsS65.far ?_ NB0_285.out _)|exact HI0.out)) (by (with_reducible repeat (first|apply rA_|apply rN_|apply rD_));exact HO284.out) (by decide)) hk (fun _ h=>h.2)) (fun _ h=>h.1))
      have n4_:=aM_ (KeepBut.blk hk (g':=gb285) (o:=.cells #[.int .i64 t275,.int .i64 t276,.int .i64 t277,.int .i64 t278,.slice Ao17 t279.length co17,.slice Ao18 t282.length co18] 27 (0,0)) (by (with_reducible repeat (first|apply kN_|apply kD_|apply kA_));exact BK285.out) NB285_0.out (by simp))
      have n5_:=aM_ (Kd.R_mono (Kd.R_keep (IsS65.apart (show IsS65 w0 _ g s0_0 t287 from by repeat (first|(with_reducible first|exact HI0.out|apply IsS65.alloc|apply IsS65.drewN|apply IsS65.drew|apply IsS65.set_1|refine IsS65.far ?_ NB0_273.out _|refine IsS65.far ?_ NB0_274.out _|refine IsS65.far ?_ NB0_285.out _)|exact HI0.out)) (by (with_reducible repeat (first|apply rA_|apply rN_|apply rD_));exact HO290.out) (by decide)) hk (fun _ h=>h.2)) (fun _ h=>h.1))
      have n6_:=aM_ (KeepBut.trans (by repeat (first|(with_reducible first|exact HK.out|apply pS_|apply pN_|apply pD_|apply pA_|refine keep_far ?_ GW273.out _|refine keep_far ?_ GW274.out _|refine keep_far ?_ GW285.out _)|exact HK.out)) hk (.inl rfl))
      have n7_:=aM_ (hb)
      have n8_:=aM_ (hi)
      clear BK273
      clear BK274
      clear HO281
      clear HO284
      clear BK285
      clear HO290
      clear HK
      clear HB
      clear HI0
      have BK273:=n0_
      have BK274:=n1_
      have HO281:=n2_
      have HO284:=n3_
      have BK285:=n4_
      have HO290:=n5_
      have HK:=n6_
      have HB:=n7_
      have HI0:=n8_
      clear n0_ n1_ n2_ n3_ n4_ n5_ n6_ n7_ n8_
      (try clear hb)
      (try clear hb2)
      (try clear hk)
      (try clear hi)
      refine hK.out _ _ (bc6 BK285.out) (fun hHeld=>?_)
      clear hK K
      refine norm_ (a':=?_) ?_ ?_
      rotate_left
      ·show Act.put _ (some 20) _=_
       simp only [Act.put,sA_,s0_,s1_,i64_w,i32_w]
       rfl
      exact norm_ (by simp only [putAll,Act.put,sA_,s0_,s1_]) (hCont (.slice (some ado27) y288.length co27,ado27) _ ⟨hHeld,(by (with_reducible repeat (first|apply rA_|apply rN_|apply rD_));exact HO281.out),(by (with_reducible repeat (first|apply rA_|apply rN_|apply rD_));exact HO284.out),(by (with_reducible repeat (first|apply rA_|apply rN_|apply rD_));exact Kd.R_mono HO290.out (fun _ hk=>⟨hk.1.2,hk.2⟩)),⟨_,rfl⟩,(by (with_reducible repeat (first|apply kN_|apply kD_|apply kA_));exact BK273.out),(by (with_reducible repeat (first|apply kN_|apply kD_|apply kA_));exact BK274.out),(by (with_reducible repeat (first|apply kN_|apply kD_|apply kA_));exact BK285.out),(by repeat (first|(with_reducible first|exact HI0.out|apply IsS65.alloc|apply IsS65.drewN|apply IsS65.drew|apply IsS65.set_1|refine IsS65.far ?_ NB0_273.out _|refine IsS65.far ?_ NB0_274.out _|refine IsS65.far ?_ NB0_285.out _)|exact HI0.out)),(by repeat (first|(with_reducible first|exact HK.out|apply pS_|apply pN_|apply pD_|apply pA_|refine keep_far ?_ GW273.out _|refine keep_far ?_ GW274.out _|refine keep_far ?_ GW285.out _)|exact HK.out)),(by repeat (first|(with_reducible first|exact HB.out|apply wA_|apply wN_|apply wD_|refine below_set ?_ (IsS65.ge HI0.out)|refine below_set ?_ GE273.out|refine below_set ?_ GE274.out|refine below_set ?_ GE285.out)|exact HB.out))⟩)
     ·skip
      refine goes_ Try.func68 (by kernel_rfl) rfl #[.pointer (some ⟨g,0,none⟩),.int .i64 3] (by rfl) rfl rfl (by (try simp only [List.map_toArray,List.map_cons,List.map_nil]);first|done|rfl|(simp only [List.length_drop,List.length_take];rfl)) ?_
      with_reducible refine (spec_l1Rd_pick.calls k g s0_0 t287 3 t291 t292 w0 _ ?side1 ?side2 A21.out).mono ?_
      (case side1=>repeat (first|(with_reducible first|exact HI0.out|apply IsS65.alloc|apply IsS65.drewN|apply IsS65.drew|apply IsS65.set_1|refine IsS65.far ?_ NB0_273.out _|refine IsS65.far ?_ NB0_274.out _|refine IsS65.far ?_ NB0_285.out _)|exact HI0.out))
      (case side2=>repeat (first|(with_reducible first|exact HB.out|apply wA_|apply wN_|apply wD_|refine below_set ?_ (IsS65.ge HI0.out)|refine below_set ?_ GE273.out|refine below_set ?_ GE274.out|refine below_set ?_ GE285.out)|exact HB.out))
      rintro e w25 ⟨rfl,hi,hb,hk⟩
      refine ⟨_,rfl,?_⟩
      have n0_:=aM_ (KeepBut.blk hk (g':=gb273) (o:=.cells #[.int .i64 a1_0,.int .i64 a1_1,.int .i64 a1_2,.int .i64 a1_3,.slice A1_4 l1_4.length c1_4,.slice A1_5 l1_5.length c1_5] 27 (0,0)) (by (with_reducible repeat (first|apply kN_|apply kD_|apply kA_));exact BK273.out) NB273_0.out (by simp))
      have n1_:=aM_ (KeepBut.blk hk (g':=gb274) (o:=.cells #[.int .i64 0,.int .i64 0,.int .i64 0,.int .i64 0,.slice none 0 0,.slice none 0 0] 27 (0,0)) (by (with_reducible repeat (first|apply kN_|apply kD_|apply kA_));exact BK274.out) NB274_0.out (by simp))
      have n2_:=aM_ (Kd.R_mono (Kd.R_keep (IsS65.apart (show IsS65 w0 _ g s0_0 t287 from by repeat (first|(with_reducible first|exact HI0.out|apply IsS65.alloc|apply IsS65.drewN|apply IsS65.drew|apply IsS65.set_1|refine IsS65.far ?_ NB0_273.out _|refine IsS65.far ?_ NB0_274.out _|refine IsS65.far ?_ NB0_285.out _)|exact HI0.out)) (by (with_reducible repeat (first|apply rA_|apply rN_|apply rD_));exact HO281.out) (by decide)) hk (fun _ h=>h.2)) (fun _ h=>h.1))
      have n3_:=aM_ (Kd.R_mono (Kd.R_keep (IsS65.apart (show IsS65 w0 _ g s0_0 t287 from by repeat (first|(with_reducible first|exact HI0.out|apply IsS65.alloc|apply IsS65.drewN|apply IsS65.drew|apply IsS65.set_1|refine IsS65.far ?_ NB0_273.out _|refine IsS65.far ?_ NB0_274.out _|refine IsS65.far ?_ NB0_285.out _)|exact HI0.out)) (by (with_reducible repeat (first|apply rA_|apply rN_|apply rD_));exact HO284.out) (by decide)) hk (fun _ h=>h.2)) (fun _ h=>h.1))
      have n4_:=aM_ (KeepBut.blk hk (g':=gb285) (o:=.cells #[.int .i64 t275,.int .i64 t276,.int .i64 t277,.int .i64 t278,.slice Ao17 t279.length co17,.slice Ao18 t282.length co18] 27 (0,0)) (by (with_reducible repeat (first|apply kN_|apply kD_|apply kA_));exact BK285.out) NB285_0.out (by simp))
      have n5_:=aM_ (KeepBut.trans (by repeat (first|(with_reducible first|exact HK.out|apply pS_|apply pN_|apply pD_|apply pA_|refine keep_far ?_ GW273.out _|refine keep_far ?_ GW274.out _|refine keep_far ?_ GW285.out _)|exact HK.out)) hk (.inl rfl))
      have n6_:=aM_ (hb)
      have n7_:=aM_ (hi)
      clear BK273
      clear BK274
      clear HO281
      clear HO284
      clear BK285
      clear HK
      clear HB
      clear HI0
      have BK273:=n0_
      have BK274:=n1_
      have HO281:=n2_
      have HO284:=n3_
      have BK285:=n4_
      have HK:=n5_
      have HB:=n6_
      have HI0:=n7_
      clear n0_ n1_ n2_ n3_ n4_ n5_ n6_ n7_
      (try clear hb)
      (try clear hb2)
      (try clear hk)
      (try clear hi)
      refine hK.out _ _ (bc6 BK285.out) (fun hHeld=>?_)
      clear hK K
      refine norm_ (a':=?_) ?_ ?_
      rotate_left
      ·show Act.put _ (some 20) _=_
       simp only [Act.put,sA_,s0_,s1_,i64_w,i32_w]
       rfl
      refine one_ (i:=4) (N:=some 18) #[true,true,true,true,true,true,true,false,false,false,false] rfl rfl (one_of HT_.out (by kernel_rfl)) (by decide) (fun K hK=>?_)
      refine Kd.R_lit_step (Kd.int .i64) _ 3 ?hg (N:=18) ?hd (xs:=([0,5,wrap64 (1+(Int.tmod t275 4))]:List Int)) (inner:=[.int .i64 0,.int .i64 5,.int .i64 (wrap64 (1+(Int.tmod t275 4)))]) (ok:=fun _=>True) (okp:=fun _=>True) ?hr ?hp (fun _ hk=>hk) trivial (Below.refl _ _) (Nat.le_refl _) (by simp) ?_;(case hd=>rfl);(case hg=>rfl);(case hr=>first|(go_simp;done)|(go_simp;rfl));(case hp=>exact (Reps.one (show Kd.M (Kd.int .i64) _ _ _ 0 [.int .i64 0] from rfl) (Reps.one (show Kd.M (Kd.int .i64) _ _ _ 5 [.int .i64 5] from rfl) (Reps.one (show Kd.M (Kd.int .i64) _ _ _ (wrap64 (1+(Int.tmod t275 4))) [.int .i64 (wrap64 (1+(Int.tmod t275 4)))] from rfl) (Reps.none _ _)))))
      intro v289 w26 ho27 hb hg_ hnew_
      clear hg_ hnew_
      (first|rw [← Ny288.out] at ho27|(simp only [Int.reduceToNat] at ho27;rw [← Ny288.out] at ho27))
      have n0_:=aM_ (Kd.R_elder' (by (with_reducible repeat (first|apply rA_|apply rN_|apply rD_));exact HO281.out) (Kd.R_base ho27) hb)
      have n1_:=aM_ (Kd.R_elder' (by (with_reducible repeat (first|apply rA_|apply rN_|apply rD_));exact HO284.out) (Kd.R_base ho27) hb)
      have n2_:=aM_ (Kd.R_lower (Kd.R_new' (Kd.R_new' ho27 (Kd.R_lt (by (with_reducible repeat (first|apply rA_|apply rN_|apply rD_));exact HO281.out))) (Kd.R_lt (by (with_reducible repeat (first|apply rA_|apply rN_|apply rD_));exact HO284.out))) (keep_size (w:=w) (g:=g) (row:=none) (by repeat (first|(with_reducible first|exact HK.out|apply pS_|apply pN_|apply pD_|apply pA_|refine keep_far ?_ GW273.out _|refine keep_far ?_ GW274.out _|refine keep_far ?_ GW285.out _)|exact HK.out))))
      have n3_:=aM_ (IsS65.below (by repeat (first|(with_reducible first|exact HI0.out|apply IsS65.alloc|apply IsS65.drewN|apply IsS65.drew|apply IsS65.set_1|refine IsS65.far ?_ NB0_273.out _|refine IsS65.far ?_ NB0_274.out _|refine IsS65.far ?_ NB0_285.out _)|exact HI0.out)) hb)
      have n4_:=aM_ (blk_below (g:=gb273) (by (with_reducible repeat (first|apply kN_|apply kD_|apply kA_));exact BK273.out) hb)
      have n5_:=aM_ (blk_below (g:=gb274) (by (with_reducible repeat (first|apply kN_|apply kD_|apply kA_));exact BK274.out) hb)
      have n6_:=aM_ (blk_below (g:=gb285) (by (with_reducible repeat (first|apply kN_|apply kD_|apply kA_));exact BK285.out) hb)
      have n7_:=aM_ (KeepBut.trans (by repeat (first|(with_reducible first|exact HK.out|apply pS_|apply pN_|apply pD_|apply pA_|refine keep_far ?_ GW273.out _|refine keep_far ?_ GW274.out _|refine keep_far ?_ GW285.out _)|exact HK.out)) (KeepBut.of_below hb g none) (.inl rfl))
      have n8_:=aM_ (below_step (by repeat (first|(with_reducible first|exact HB.out|apply wA_|apply wN_|apply wD_|refine below_set ?_ (IsS65.ge HI0.out)|refine below_set ?_ GE273.out|refine below_set ?_ GE274.out|refine below_set ?_ GE285.out)|exact HB.out)) hb)
      clear HO281
      clear HO284
      clear HI0
      clear BK273
      clear BK274
      clear BK285
      clear HK
      clear HB
      have HO281:=n0_
      have HO284:=n1_
      have HO290:=n2_
      have HI0:=n3_
      have BK273:=n4_
      have BK274:=n5_
      have BK285:=n6_
      have HK:=n7_
      have HB:=n8_
      clear n0_ n1_ n2_ n3_ n4_ n5_ n6_ n7_ n8_
      clear hb ho27
      obtain ⟨Ao28,co28,eo28⟩:=Kd.R_slice HO290.out
      subst eo28
      obtain ⟨ado28,fo28,_⟩:=Kd.at_int (Kd.R_reads' HO290.out).2.2 0 (by decide) (by rw [Ny288.out];simp)
      cases fo28
      refine hK.out _ _ (bc6 BK285.out) (fun hHeld=>?_)
      clear hK K
      refine norm_ (a':=?_) ?_ ?_
      rotate_left
      ·show Act.put _ (some 18) _=_
       simp only [Act.put,sA_,s0_,s1_,i64_w,i32_w]
       rfl
      exact norm_ (by simp only [putAll,Act.put,sA_,s0_,s1_]) (hCont (.slice (some ado28) y288.length co28,ado28) _ ⟨hHeld,(by (with_reducible repeat (first|apply rA_|apply rN_|apply rD_));exact HO281.out),(by (with_reducible repeat (first|apply rA_|apply rN_|apply rD_));exact HO284.out),(by (with_reducible repeat (first|apply rA_|apply rN_|apply rD_));exact Kd.R_mono HO290.out (fun _ hk=>⟨hk.1.2,hk.2⟩)),⟨_,rfl⟩,(by (with_reducible repeat (first|apply kN_|apply kD_|apply kA_));exact BK273.out),(by (with_reducible repeat (first|apply kN_|apply kD_|apply kA_));exact BK274.out),(by (with_reducible repeat (first|apply kN_|apply kD_|apply kA_));exact BK285.out),(by repeat (first|(with_reducible first|exact HI0.out|apply IsS65.alloc|apply IsS65.drewN|apply IsS65.drew|apply IsS65.set_1|refine IsS65.far ?_ NB0_273.out _|refine IsS65.far ?_ NB0_274.out _|refine IsS65.far ?_ NB0_285.out _)|exact HI0.out)),(by repeat (first|(with_reducible first|exact HK.out|apply pS_|apply pN_|apply pD_|apply pA_|refine keep_far ?_ GW273.out _|refine keep_far ?_ GW274.out _|refine keep_far ?_ GW285.out _)|exact HK.out)),(by repeat (first|(with_reducible first|exact HB.out|apply wA_|apply wN_|apply wD_|refine below_set ?_ (IsS65.ge HI0.out)|refine below_set ?_ GE273.out|refine below_set ?_ GE274.out|refine below_set ?_ GE285.out)|exact HB.out))⟩)
    rintro ⟨v289,adz_v289⟩ w29 ⟨hS_,h0_,h1_,h2_,h3_,h4_,h5_,h6_,h7_,h8_,h9_⟩
    have n0_:Aside0 (Kd.R (Kd.int .i64) 3 w29 w.heap.size (fun k_=>some k_≠(.slice Ao18 t282.length co18:Value).ownBlock∧some k_≠(v289:Value).ownBlock) (.slice Ao17 t279.length co17) t279):=⟨h0_⟩
    have n1_:Aside0 (Kd.R (Kd.int .i64) 3 w29 w.heap.size (fun k_=>some k_≠(.slice Ao17 t279.length co17:Value).ownBlock∧some k_≠(v289:Value).ownBlock) (.slice Ao18 t282.length co18) t282):=⟨h1_⟩
    have n2_:Aside0 (Kd.R (Kd.int .i64) 3 w29 w.heap.size (fun k_=>some k_≠(.slice Ao17 t279.length co17:Value).ownBlock∧some k_≠(.slice Ao18 t282.length co18:Value).ownBlock) v289 y288):=⟨h2_⟩
    have n3_:Aside0 (∃ c_,(v289:Value)=.slice (some adz_v289) y288.length c_):=⟨h3_⟩
    have n4_:Aside0 (w29.heap[gb273]?=some (.cells #[.int .i64 a1_0,.int .i64 a1_1,.int .i64 a1_2,.int .i64 a1_3,.slice A1_4 l1_4.length c1_4,.slice A1_5 l1_5.length c1_5] 27 (0,0))):=⟨h4_⟩
    have n5_:Aside0 (w29.heap[gb274]?=some (.cells #[.int .i64 0,.int .i64 0,.int .i64 0,.int .i64 0,.slice none 0 0,.slice none 0 0] 27 (0,0))):=⟨h5_⟩
    have n6_:Aside0 (w29.heap[gb285]?=some (.cells #[.int .i64 t275,.int .i64 t276,.int .i64 t277,.int .i64 t278,.slice Ao17 t279.length co17,.slice Ao18 t282.length co18] 27 (0,0))):=⟨h6_⟩
    have n7_:Aside0 (IsS65 w0 w29 g s0_0 t292):=⟨h7_⟩
    have n8_:Aside0 (KeepBut w w29 g none):=⟨h8_⟩
    have n9_:Aside0 (Below w0.heap.size w0 w29):=⟨h9_⟩
    clear HO281
    clear HO284
    clear BK273
    clear BK274
    clear BK285
    clear HI0
    clear HK
    clear HB
    clear h0_ h1_ h2_ h3_ h4_ h5_ h6_ h7_ h8_ h9_
    have HO281:=n0_
    have HO284:=n1_
    have HO290:=n2_
    have HA_HO290:=n3_
    have BK273:=n4_
    have BK274:=n5_
    have BK285:=n6_
    have HI0:=n7_
    have HK:=n8_
    have HB:=n9_
    clear n0_ n1_ n2_ n3_ n4_ n5_ n6_ n7_ n8_ n9_
    have hHeld:w29.cell? ⟨gb285,0,none⟩=some (.int .i64 t275)∧w29.cell? ⟨gb285,1,none⟩=some (.int .i64 t276)∧w29.cell? ⟨gb285,2,none⟩=some (.int .i64 t277)∧w29.cell? ⟨gb285,3,none⟩=some (.int .i64 t278)∧w29.cell? ⟨gb285,4,none⟩=some (.slice Ao17 t279.length co17)∧w29.cell? ⟨gb285,5,none⟩=some (.slice Ao18 t282.length co18):=hS_
    obtain ⟨co30,eo30⟩:=HA_HO290.out
    clear HA_HO290
    subst eo30
    refine norm_ (a':=?_) ?_ ?_
    rotate_left
    ·simp only [putAll,Act.put,sA_,s0_,s1_]
     rfl
    refine pure_ (i:=7) (N:=some 21) (v:=?_) (a':=?_) #[true,true,true,true,true,true,true,true,false,false,false] rfl rfl (any_of HT_.out (by kernel_rfl)) (fun _ _ _ h=>h) (Or.inl ⟨by rfl,?_⟩) ?_ ?_
    rotate_left
    ·intro w'
     go_simp
     with_reducible rfl
    rotate_left
    ·simp only [Act.put,sA_,s0_,s1_,i64_w,i32_w]
     rfl
    refine one_ (i:=8) (N:=some 22) #[true,true,true,true,true,true,true,true,true,false,false] rfl rfl (one_of HT_.out (by kernel_rfl)) (by decide) (fun K hK=>?_)
    (have p293:0≤(t291:Int):=of_decide_eq_true (by first|(with_reducible assumption)|assumption);have q293:t291 < (y288.length:Int):=of_decide_eq_true (by first|(with_reducible assumption)|assumption);obtain ⟨ad293,e293,hx293_0⟩:=Kd.at_int (Kd.R_reads' HO290.out).2.2 t291 p293 q293;obtain rfl:adz_v289=ad293:=(by injection e293))
    refine value_ (w1:=?_) (v:=?_) (by rfl) rfl ?_ ?_
    rotate_left 2
    ·go_simp
     constructor
     ·rfl
     ·rfl
    clear hx293_0
    refine hK.out _ _ (bc6 BK285.out) (fun hHeld=>?_)
    clear hK K
    refine norm_ (a':=?_) ?_ ?_
    rotate_left
    ·show Act.put _ (some 22) _=_
     simp only [Act.put,sA_,s0_,s1_,i64_w,i32_w]
     rfl
    refine pure_ (i:=9) (N:=some 23) (v:=?_) (a':=?_) #[true,true,true,true,true,true,true,true,true,true,false] rfl rfl (any_of HT_.out (by kernel_rfl)) (fun _ _ _ h=>h) (Or.inl ⟨by rfl,?_⟩) ?_ ?_
    rotate_left
    ·intro w'
     go_simp
     with_reducible rfl
    rotate_left
    ·simp only [Act.put,sA_,s0_,s1_,i64_w,i32_w]
     rfl
    refine last_ (i:=10) (N:=none) #[true,true,true,true,true,true,true,true,true,true,true] rfl rfl (one_of HT_.out (by kernel_rfl)) (by decide) (fun K hK=>?_)
    have hs31:w29.cell? ⟨gb285,0,none⟩=some (.int .i64 t275):=(blk_cell BK285.out 0).trans rfl
    have hfs31:=blk_frozen BK285.out 0
    have hns31_0:=NB273_285.out
    have hns31_1:=NB274_285.out
    have hms31_0:=NB285_273.out
    have hms31_1:=NB285_274.out
    refine skip_ (w1:=?_) (by rfl) rfl ?_ ?_
    rotate_left
    ·go_simp
     rfl
    refine hK.out _ _ ?_
    clear hK K
    refine done_ (done_of HT_.out (by kernel_rfl)) ?_
    have hnb32:=NB285_273.out
    have hnc32:=NB273_285.out
    have hnb33:=NB285_274.out
    have hnc33:=NB274_285.out
    have hnb34:=NB285_0.out
    have hnc34:=NB0_285.out
    obtain ⟨hcz35_0,hcz35_1,hcz35_2,hcz35_3,hcz35_4,hcz35_5⟩:=bc6 BK285.out
    obtain ⟨hfz35_0,hfz35_1,hfz35_2,hfz35_3,hfz35_4,hfz35_5⟩:=bf6 BK285.out
    have hnb36:=NB274_273.out
    have hnc36:=NB273_274.out
    have hnb37:=NB274_0.out
    have hnc37:=NB0_274.out
    obtain ⟨hcz38_0,hcz38_1,hcz38_2,hcz38_3,hcz38_4,hcz38_5⟩:=bc6 BK274.out
    obtain ⟨hfz38_0,hfz38_1,hfz38_2,hfz38_3,hfz38_4,hfz38_5⟩:=bf6 BK274.out
    try go_wp2
    refine bodyPost_ret (results_cell_row rfl _ _ gb274 27 #[.int .i64 (rd y288 t291),.int .i64 t276,.int .i64 t277,.int .i64 t278,.slice Ao17 t279.length co17,.slice Ao18 t282.length co18] (0,0) _ rfl (by (with_reducible repeat (first|apply kN_|apply kD_|apply kA_));refine blk_put (cs:=#[.int .i64 (rd y288 t291),.int .i64 t276,.int .i64 t277,.int .i64 t278,.slice Ao17 t279.length co17,.slice none 0 0]) ?_ 5 _ rfl;(with_reducible repeat (first|apply kN_|apply kD_|apply kA_));refine blk_put (cs:=#[.int .i64 (rd y288 t291),.int .i64 t276,.int .i64 t277,.int .i64 t278,.slice none 0 0,.slice none 0 0]) ?_ 4 _ rfl;(with_reducible repeat (first|apply kN_|apply kD_|apply kA_));refine blk_put (cs:=#[.int .i64 (rd y288 t291),.int .i64 t276,.int .i64 t277,.int .i64 0,.slice none 0 0,.slice none 0 0]) ?_ 3 _ rfl;(with_reducible repeat (first|apply kN_|apply kD_|apply kA_));refine blk_put (cs:=#[.int .i64 (rd y288 t291),.int .i64 t276,.int .i64 0,.int .i64 0,.slice none 0 0,.slice none 0 0]) ?_ 2 _ rfl;(with_reducible repeat (first|apply kN_|apply kD_|apply kA_));refine blk_put (cs:=#[.int .i64 (rd y288 t291),.int .i64 0,.int .i64 0,.int .i64 0,.slice none 0 0,.slice none 0 0]) ?_ 1 _ rfl;(with_reducible repeat (first|apply kN_|apply kD_|apply kA_));refine blk_put (cs:=#[.int .i64 0,.int .i64 0,.int .i64 0,.int .i64 0,.slice none 0 0,.slice none 0 0]) ?_ 0 _ rfl;(with_reducible repeat (first|apply kN_|apply kD_|apply kA_));refine blk_far ?_ NB274_285.out _;(with_reducible repeat (first|apply kN_|apply kD_|apply kA_));exact BK274.out) Try.underlying27 rfl (by kernel_rfl)) rfl ?_
    exact ⟨_,_,by first|rfl|(simp [errW_none,errW_some] <;> rfl)|(simp [*,errW_none,errW_some] <;> rfl),by (with_reducible repeat (first|apply rA_|apply rN_|apply rD_));exact Kd.R_mono (Kd.R_far (Kd.R_far (Kd.R_far (Kd.R_far (Kd.R_far (Kd.R_far (Kd.R_far (Kd.R_types (Kd.R_types HO281.out BK285.out (by decide)) BK274.out (by decide)) (fun _ hk=>hk.1.2) (.int .i64 (rd y288 t291))) (fun _ hk=>hk.2) (.int .i64 (rd y288 t291))) (fun _ hk=>hk.2) _) (fun _ hk=>hk.2) _) (fun _ hk=>hk.2) _) (fun _ hk=>hk.2) _) (fun _ hk=>hk.2) _) (fun _ hk=>hk.1.1.1),Kd.Q_of_R (by (with_reducible repeat (first|apply rA_|apply rN_|apply rD_));exact Kd.R_mono (Kd.R_far (Kd.R_far (Kd.R_far (Kd.R_far (Kd.R_far (Kd.R_far (Kd.R_far (Kd.R_types (Kd.R_types HO284.out BK285.out (by decide)) BK274.out (by decide)) (fun _ hk=>hk.1.2) (.int .i64 (rd y288 t291))) (fun _ hk=>hk.2) (.int .i64 (rd y288 t291))) (fun _ hk=>hk.2) _) (fun _ hk=>hk.2) _) (fun _ hk=>hk.2) _) (fun _ hk=>hk.2) _) (fun _ hk=>hk.2) _) (fun _ hk=>hk.1.1.1)),by repeat (first|(with_reducible first|exact HI0.out|apply IsS65.alloc|apply IsS65.drewN|apply IsS65.drew|apply IsS65.set_1|refine IsS65.far ?_ NB0_273.out _|refine IsS65.far ?_ NB0_274.out _|refine IsS65.far ?_ NB0_285.out _)|exact HI0.out),by repeat (first|(with_reducible first|exact HB.out|apply wA_|apply wN_|apply wD_|refine below_set ?_ (IsS65.ge HI0.out)|refine below_set ?_ GE273.out|refine below_set ?_ GE274.out|refine below_set ?_ GE285.out)|exact HB.out),by repeat (first|(with_reducible first|exact HK.out|apply pS_|apply pN_|apply pD_|apply pA_|refine keep_far ?_ GW273.out _|refine keep_far ?_ GW274.out _|refine keep_far ?_ GW285.out _)|exact HK.out)⟩
   ·rw [if_neg c23] at H
    exact absurd H (by simp)
  ·rw [if_neg c22] at H
   exact absurd H (by simp)
 ·rw [if_neg c20] at H
  have c20b0:(t286 == 0)=false:=beq_eq_false_iff_ne.mpr c20
  have c20b1:(t286 != 0)=true:=bne_iff_ne.mpr c20
  (first|rw [c20b0]|(simp only [i64_w,i32_w];rw [c20b0])|skip)
  by_cases c39:t286=1
  ·rw [if_pos c39] at H
   have c39b0:(t286 == 1)=true:=beq_iff_eq.mpr c39
   have c39b1:(t286 != 1)=false:=bne_eq_false_iff_eq.mpr c39
   clear c39
   obtain ⟨y294,hy294⟩:∃ y_:List Int,y_=(([0,3,16]:List Int)):=⟨_,rfl⟩
   replace H:((spec_l1Rd_pick.f k s0_0 t287 3).bind fun bt297=>(if 0≤bt297.1 then (if bt297.1 < (y294.length:Int) then (some (t275,rd y294 bt297.1,t277,t278,t279,t282,bt297.2)) else (none)) else (none)))=some (r1,r2,r3,r4,r5,r6,r7):=by first|(rw [hy294];with_reducible exact H)|(have H2_:=(Option.bind_some _ _).symm.trans H;rw [hy294];with_reducible exact H2_)|(have H2_:=(Option.bind_some _ _).symm.trans H;with_reducible exact H2_)|with_reducible exact H|(rw [hy294];exact H)|exact H
   have Ny294:=aM_ hy294
   clear hy294
   replace H:=Option.bind_eq_some_iff.mp H
   obtain ⟨⟨t297,t298⟩,A400,H⟩:=H
   replace H:(if 0≤t297 then (if t297 < (y294.length:Int) then (some (t275,rd y294 t297,t277,t278,t279,t282,t298)) else (none)) else (none))=some (r1,r2,r3,r4,r5,r6,r7):=H
   have A40:=aM_ A400
   clear A400
   by_cases c41:0≤t297
   ·rw [if_pos c41] at H
    have c41b0:decide (0≤t297)=true:=decide_eq_true c41
    clear c41
    by_cases c42:t297 < (y294.length:Int)
    ·rw [if_pos c42] at H
     have c42b0:decide (t297 < (y294.length:Int))=true:=decide_eq_true c42
     clear c42
     simp only [Option.some.injEq,Prod.mk.injEq] at H
     obtain ⟨rfl,rfl,rfl,rfl,rfl,rfl,rfl⟩:=H
     go_wp2_with (first|((with_reducible refine gate_dst (N:=26) rfl ?_);refine Kd.R_lit (Kd.int .i64) _ 3 ?hg (N:=26) ?hd (xs:=([0,3,16]:List Int)) (inner:=[.int .i64 0,.int .i64 3,.int .i64 16]) (ok:=fun _=>True) (okp:=fun _=>True) ?hr ?hp (fun _ hk=>hk) trivial (Below.refl _ _) (Nat.le_refl _) (by simp) ?_;(case hd=>rfl);(case hg=>rfl);(case hr=>first|(go_simp;done)|(go_simp;rfl));(case hp=>exact (Reps.one (show Kd.M (Kd.int .i64) _ _ _ 0 [.int .i64 0] from rfl) (Reps.one (show Kd.M (Kd.int .i64) _ _ _ 3 [.int .i64 3] from rfl) (Reps.one (show Kd.M (Kd.int .i64) _ _ _ 16 [.int .i64 16] from rfl) (Reps.none _ _)))));intro v295 w43 ho44 hb hg_ hnew_;clear hg_ hnew_;(first|rw [← Ny294.out] at ho44|(simp only [Int.reduceToNat] at ho44;rw [← Ny294.out] at ho44));have n0_:=aM_ (Kd.R_elder' (by (with_reducible repeat (first|apply rA_|apply rN_|apply rD_));exact HO281.out) (Kd.R_base ho44) hb);have n1_:=aM_ (Kd.R_elder' (by (with_reducible repeat (first|apply rA_|apply rN_|apply rD_));exact HO284.out) (Kd.R_base ho44) hb);have n2_:=aM_ (Kd.R_lower (Kd.R_new' (Kd.R_new' ho44 (Kd.R_lt (by (with_reducible repeat (first|apply rA_|apply rN_|apply rD_));exact HO281.out))) (Kd.R_lt (by (with_reducible repeat (first|apply rA_|apply rN_|apply rD_));exact HO284.out))) (keep_size (w:=w) (g:=g) (row:=none) (by repeat (first|(with_reducible first|exact HK.out|apply pS_|apply pN_|apply pD_|apply pA_|refine keep_far ?_ GW273.out _|refine keep_far ?_ GW274.out _|refine keep_far ?_ GW285.out _)|exact HK.out))));have n3_:=aM_ (IsS65.below (by repeat (first|(with_reducible first|exact HI0.out|apply IsS65.alloc|apply IsS65.drewN|apply IsS65.drew|apply IsS65.set_1|refine IsS65.far ?_ NB0_273.out _|refine IsS65.far ?_ NB0_274.out _|refine IsS65.far ?_ NB0_285.out _)|exact HI0.out)) hb);have n4_:=aM_ (blk_below (g:=gb273) (by (with_reducible repeat (first|apply kN_|apply kD_|apply kA_));exact BK273.out) hb);have n5_:=aM_ (blk_below (g:=gb274) (by (with_reducible repeat (first|apply kN_|apply kD_|apply kA_));exact BK274.out) hb);have n6_:=aM_ (blk_below (g:=gb285) (by (with_reducible repeat (first|apply kN_|apply kD_|apply kA_));exact BK285.out) hb);have n7_:=aM_ (KeepBut.trans (by repeat (first|(with_reducible first|exact HK.out|apply pS_|apply pN_|apply pD_|apply pA_|refine keep_far ?_ GW273.out _|refine keep_far ?_ GW274.out _|refine keep_far ?_ GW285.out _)|exact HK.out)) (KeepBut.of_below hb g none) (.inl rfl));have n8_:=aM_ (below_step (by repeat (first|(with_reducible first|exact HB.out|apply wA_|apply wN_|apply wD_|refine below_set ?_ (IsS65.ge HI0.out)|refine below_set ?_ GE273.out|refine below_set ?_ GE274.out|refine below_set ?_ GE285.out)|exact HB.out)) hb);clear HO281;clear HO284;clear HI0;clear BK273;clear BK274;clear BK285;clear HK;clear HB;have HO281:=n0_;have HO284:=n1_;have HO296:=n2_;have HI0:=n3_;have BK273:=n4_;have BK274:=n5_;have BK285:=n6_;have HK:=n7_;have HB:=n8_;clear n0_ n1_ n2_ n3_ n4_ n5_ n6_ n7_ n8_;clear hb ho44)|((with_reducible refine gate_callee (f:=68) rfl ?_);refine goesL_ (some 28) rfl rfl Try.func68 (by kernel_rfl) rfl #[.pointer (some ⟨g,0,none⟩),.int .i64 3] rfl (by (try simp only [List.map_toArray,List.map_cons,List.map_nil]);first|done|rfl|(simp only [List.length_drop,List.length_take];rfl)) ?_;(with_reducible refine (spec_l1Rd_pick.calls k g s0_0 t287 3 t297 t298 w0 _ ?side1 ?side2 A40.out).mono ?_);(case side1=>repeat (first|(with_reducible first|exact HI0.out|apply IsS65.alloc|apply IsS65.drewN|apply IsS65.drew|apply IsS65.set_1|refine IsS65.far ?_ NB0_273.out _|refine IsS65.far ?_ NB0_274.out _|refine IsS65.far ?_ NB0_285.out _)|exact HI0.out));(case side2=>repeat (first|(with_reducible first|exact HB.out|apply wA_|apply wN_|apply wD_|refine below_set ?_ (IsS65.ge HI0.out)|refine below_set ?_ GE273.out|refine below_set ?_ GE274.out|refine below_set ?_ GE285.out)|exact HB.out));rintro e w45 ⟨rfl,hi,hb,hk⟩;refine ⟨_,rfl,?_⟩;have n0_:=aM_ (KeepBut.blk hk (g':=gb273) (o:=.cells #[.int .i64 a1_0,.int .i64 a1_1,.int .i64 a1_2,.int .i64 a1_3,.slice A1_4 l1_4.length c1_4,.slice A1_5 l1_5.length c1_5] 27 (0,0)) (by (with_reducible repeat (first|apply kN_|apply kD_|apply kA_));exact BK273.out) NB273_0.out (by simp));have n1_:=aM_ (KeepBut.blk hk (g':=gb274) (o:=.cells #[.int .i64 0,.int .i64 0,.int .i64 0,.int .i64 0,.slice none 0 0,.slice none 0 0] 27 (0,0)) (by (with_reducible repeat (first|apply kN_|apply kD_|apply kA_));exact BK274.out) NB274_0.out (by simp));have n2_:=aM_ (Kd.R_mono (Kd.R_keep (IsS65.apart (show IsS65 w0 _ g s0_0 t287 from by repeat (first|(with_reducible first|exact HI0.out|apply IsS65.alloc|apply IsS65.drewN|apply IsS65.drew|apply IsS65.set_1|refine IsS65.far ?_ NB0_273.out _|refine IsS65.far ?_ NB0_274.out _|refine IsS65.far ?_ NB0_285.out _)|exact HI0.out)) (by (with_reducible repeat (first|apply rA_|apply rN_|apply rD_));exact HO281.out) (by decide)) hk (fun _ h=>h.2)) (fun _ h=>h.1));have n3_:=aM_ (Kd.R_mono (Kd.R_keep (IsS65.apart (show IsS65 w0 _ g s0_0 t287 from by repeat (first|(with_reducible first|exact HI0.out|apply IsS65.alloc|apply IsS65.drewN|apply IsS65.drew|apply IsS65.set_1|refine IsS65.far ?_ NB0_273.out _|refine IsS65.far ?_ NB0_274.out _|refine IsS65.far ?_ NB0_285.out _)|exact HI0.out)) (by (with_reducible repeat (first|apply rA_|apply rN_|apply rD_));exact HO284.out) (by decide)) hk (fun _ h=>h.2)) (fun _ h=>h.1));have n4_:=aM_ (KeepBut.blk hk (g':=gb285) (o:=.cells #[.int .i64 t275,.int .i64 t276,.int .i64 t277,.int .i64 t278,.slice Ao17 t279.length co17,.slice Ao18 t282.length co18] 27 (0,0)) (by (with_reducible repeat (first|apply kN_|apply kD_|apply kA_));exact BK285.out) NB285_0.out (by simp));have n5_:=aM_ (Kd.R_mono (Kd.R_keep (IsS65.apart (show IsS65 w0 _ g s0_0 t287 from by repeat (first|(with_reducible first|exact HI0.out|apply IsS65.alloc|apply IsS65.drewN|apply IsS65.drew|apply IsS65.set_1|refine IsS65.far ?_ NB0_273.out _|refine IsS65.far ?_ NB0_274.out _|refine IsS65.far ?_ NB0_285.out _)|exact HI0.out)) (by (with_reducible repeat (first|apply rA_|apply rN_|apply rD_));exact HO296.out) (by decide)) hk (fun _ h=>h.2)) (fun _ h=>h.1));have n6_:=aM_ (KeepBut.trans (by repeat (first|(with_reducible first|exact HK.out|apply pS_|apply pN_|apply pD_|apply pA_|refine keep_far ?_ GW273.out _|refine keep_far ?_ GW274.out _|refine keep_far ?_ GW285.out _)|exact HK.out)) hk (.inl rfl));have n7_:=aM_ (hb);have n8_:=aM_ (hi);clear BK273;clear BK274;clear HO281;clear HO284;clear BK285;clear HO296;clear HK;clear HB;clear HI0;have BK273:=n0_;have BK274:=n1_;have HO281:=n2_;have HO284:=n3_;have BK285:=n4_;have HO296:=n5_;have HK:=n6_;have HB:=n7_;have HI0:=n8_;clear n0_ n1_ n2_ n3_ n4_ n5_ n6_ n7_ n8_;(try clear hb);(try clear hb2);(try clear hk);(try clear hi);obtain ⟨Ao46,co46,eo46⟩:=Kd.R_slice HO296.out;subst eo46;have p299:0≤(t297:Int):=of_decide_eq_true (by first|(with_reducible assumption)|assumption);have q299:t297 < (y294.length:Int):=of_decide_eq_true (by first|(with_reducible assumption)|assumption);obtain ⟨ad299,e299,hx299_0⟩:=Kd.at_int (Kd.R_reads' HO296.out).2.2 t297 p299 q299;cases e299;replace p299:=eq_true p299;replace q299:=eq_true q299;have hnb47:=NB285_273.out;have hnc47:=NB273_285.out;have hnb48:=NB285_274.out;have hnc48:=NB274_285.out;have hnb49:=NB285_0.out;have hnc49:=NB0_285.out;obtain ⟨hcz50_0,hcz50_1,hcz50_2,hcz50_3,hcz50_4,hcz50_5⟩:=bc6 BK285.out;obtain ⟨hfz50_0,hfz50_1,hfz50_2,hfz50_3,hfz50_4,hfz50_5⟩:=bf6 BK285.out;have hnb51:=NB274_273.out;have hnc51:=NB273_274.out;have hnb52:=NB274_0.out;have hnc52:=NB0_274.out;obtain ⟨hcz53_0,hcz53_1,hcz53_2,hcz53_3,hcz53_4,hcz53_5⟩:=bc6 BK274.out;obtain ⟨hfz53_0,hfz53_1,hfz53_2,hfz53_3,hfz53_4,hfz53_5⟩:=bf6 BK274.out))
     refine bodyPost_ret (results_cell_row rfl _ _ gb274 27 #[.int .i64 t275,.int .i64 (rd y294 t297),.int .i64 t277,.int .i64 t278,.slice Ao17 t279.length co17,.slice Ao18 t282.length co18] (0,0) _ rfl (by (with_reducible repeat (first|apply kN_|apply kD_|apply kA_));refine blk_put (cs:=#[.int .i64 t275,.int .i64 (rd y294 t297),.int .i64 t277,.int .i64 t278,.slice Ao17 t279.length co17,.slice none 0 0]) ?_ 5 _ rfl;(with_reducible repeat (first|apply kN_|apply kD_|apply kA_));refine blk_put (cs:=#[.int .i64 t275,.int .i64 (rd y294 t297),.int .i64 t277,.int .i64 t278,.slice none 0 0,.slice none 0 0]) ?_ 4 _ rfl;(with_reducible repeat (first|apply kN_|apply kD_|apply kA_));refine blk_put (cs:=#[.int .i64 t275,.int .i64 (rd y294 t297),.int .i64 t277,.int .i64 0,.slice none 0 0,.slice none 0 0]) ?_ 3 _ rfl;(with_reducible repeat (first|apply kN_|apply kD_|apply kA_));refine blk_put (cs:=#[.int .i64 t275,.int .i64 (rd y294 t297),.int .i64 0,.int .i64 0,.slice none 0 0,.slice none 0 0]) ?_ 2 _ rfl;(with_reducible repeat (first|apply kN_|apply kD_|apply kA_));refine blk_put (cs:=#[.int .i64 t275,.int .i64 0,.int .i64 0,.int .i64 0,.slice none 0 0,.slice none 0 0]) ?_ 1 _ rfl;(with_reducible repeat (first|apply kN_|apply kD_|apply kA_));refine blk_put (cs:=#[.int .i64 0,.int .i64 0,.int .i64 0,.int .i64 0,.slice none 0 0,.slice none 0 0]) ?_ 0 _ rfl;(with_reducible repeat (first|apply kN_|apply kD_|apply kA_));refine blk_far ?_ NB274_285.out _;(with_reducible repeat (first|apply kN_|apply kD_|apply kA_));exact BK274.out) Try.underlying27 rfl (by kernel_rfl)) rfl ?_
     exact ⟨_,_,by first|rfl|(simp [errW_none,errW_some] <;> rfl)|(simp [*,errW_none,errW_some] <;> rfl),by (with_reducible repeat (first|apply rA_|apply rN_|apply rD_));exact Kd.R_mono (Kd.R_far (Kd.R_far (Kd.R_far (Kd.R_far (Kd.R_far (Kd.R_far (Kd.R_far (Kd.R_types (Kd.R_types HO281.out BK285.out (by decide)) BK274.out (by decide)) (fun _ hk=>hk.1.2) (.int .i64 (rd y294 t297))) (fun _ hk=>hk.2) _) (fun _ hk=>hk.2) (.int .i64 (rd y294 t297))) (fun _ hk=>hk.2) _) (fun _ hk=>hk.2) _) (fun _ hk=>hk.2) _) (fun _ hk=>hk.2) _) (fun _ hk=>hk.1.1.1),Kd.Q_of_R (by (with_reducible repeat (first|apply rA_|apply rN_|apply rD_));exact Kd.R_mono (Kd.R_far (Kd.R_far (Kd.R_far (Kd.R_far (Kd.R_far (Kd.R_far (Kd.R_far (Kd.R_types (Kd.R_types HO284.out BK285.out (by decide)) BK274.out (by decide)) (fun _ hk=>hk.1.2) (.int .i64 (rd y294 t297))) (fun _ hk=>hk.2) _) (fun _ hk=>hk.2) (.int .i64 (rd y294 t297))) (fun _ hk=>hk.2) _) (fun _ hk=>hk.2) _) (fun _ hk=>hk.2) _) (fun _ hk=>hk.2) _) (fun _ hk=>hk.1.1.1)),by repeat (first|(with_reducible first|exact HI0.out|apply IsS65.alloc|apply IsS65.drewN|apply IsS65.drew|apply IsS65.set_1|refine IsS65.far ?_ NB0_273.out _|refine IsS65.far ?_ NB0_274.out _|refine IsS65.far ?_ NB0_285.out _)|exact HI0.out),by repeat (first|(with_reducible first|exact HB.out|apply wA_|apply wN_|apply wD_|refine below_set ?_ (IsS65.ge HI0.out)|refine below_set ?_ GE273.out|refine below_set ?_ GE274.out|refine below_set ?_ GE285.out)|exact HB.out),by repeat (first|(with_reducible first|exact HK.out|apply pS_|apply pN_|apply pD_|apply pA_|refine keep_far ?_ GW273.out _|refine keep_far ?_ GW274.out _|refine keep_far ?_ GW285.out _)|exact HK.out)⟩
    ·rw [if_neg c42] at H
     exact absurd H (by simp)
   ·rw [if_neg c41] at H
    exact absurd H (by simp)
  ·rw [if_neg c39] at H
   have c39b0:(t286 == 1)=false:=beq_eq_false_iff_ne.mpr c39
   have c39b1:(t286 != 1)=true:=bne_iff_ne.mpr c39
   by_cases c54:t286=2
   ·rw [if_pos c54] at H
    have c54b0:(t286 == 2)=true:=beq_iff_eq.mpr c54
    have c54b1:(t286 != 2)=false:=bne_eq_false_iff_eq.mpr c54
    clear c54
    obtain ⟨y300,hy300⟩:∃ y_:List Int,y_=(([0,wrap64 (t277+1),21]:List Int)):=⟨_,rfl⟩
    replace H:((spec_l1Rd_pick.f k s0_0 t287 3).bind fun bt303=>(if 0≤bt303.1 then (if bt303.1 < (y300.length:Int) then (some (t275,t276,rd y300 bt303.1,t278,t279,t282,bt303.2)) else (none)) else (none)))=some (r1,r2,r3,r4,r5,r6,r7):=by first|(rw [hy300];with_reducible exact H)|(have H2_:=(Option.bind_some _ _).symm.trans H;rw [hy300];with_reducible exact H2_)|(have H2_:=(Option.bind_some _ _).symm.trans H;with_reducible exact H2_)|with_reducible exact H|(rw [hy300];exact H)|exact H
    have Ny300:=aM_ hy300
    clear hy300
    replace H:=Option.bind_eq_some_iff.mp H
    obtain ⟨⟨t303,t304⟩,A550,H⟩:=H
    replace H:(if 0≤t303 then (if t303 < (y300.length:Int) then (some (t275,t276,rd y300 t303,t278,t279,t282,t304)) else (none)) else (none))=some (r1,r2,r3,r4,r5,r6,r7):=H
    have A55:=aM_ A550
    clear A550
    by_cases c56:0≤t303
    ·rw [if_pos c56] at H
     have c56b0:decide (0≤t303)=true:=decide_eq_true c56
     clear c56
     by_cases c57:t303 < (y300.length:Int)
     ·rw [if_pos c57] at H
      have c57b0:decide (t303 < (y300.length:Int))=true:=decide_eq_true c57
      clear c57
      simp only [Option.some.injEq,Prod.mk.injEq] at H
      obtain ⟨rfl,rfl,rfl,rfl,rfl,rfl,rfl⟩:=H
      try go_wp2
      have pi305:(0≤(t303:Int))=True:=eq_true (of_decide_eq_true (by first|(with_reducible assumption)|assumption))
      have qi305:(t303 < (y300.length:Int))=True:=eq_true (of_decide_eq_true (by first|(with_reducible assumption)|assumption))
      have n0_:=aM_ (rD_ HO281.out)
      have n1_:=aM_ (rD_ HO284.out)
      have n2_:=aM_ (kD_ BK273.out)
      have n3_:=aM_ (kD_ BK274.out)
      have n4_:=aM_ (kD_ BK285.out)
      have n5_:=aM_ (IsS65.drew HI0.out)
      have n6_:=aM_ (pD_ HK.out)
      have n7_:=aM_ (wD_ HB.out)
      clear HO281
      clear HO284
      clear BK273
      clear BK274
      clear BK285
      clear HI0
      clear HK
      clear HB
      have HO281:=n0_
      have HO284:=n1_
      have BK273:=n2_
      have BK274:=n3_
      have BK285:=n4_
      have HI0:=n5_
      have HK:=n6_
      have HB:=n7_
      clear n0_ n1_ n2_ n3_ n4_ n5_ n6_ n7_
      refine start_ (n:=10) (S:=fun w'=>w'.cell? ⟨gb285,0,none⟩=some (.int .i64 t275)∧w'.cell? ⟨gb285,1,none⟩=some (.int .i64 t276)∧w'.cell? ⟨gb285,2,none⟩=some (.int .i64 t277)∧w'.cell? ⟨gb285,3,none⟩=some (.int .i64 t278)∧w'.cell? ⟨gb285,4,none⟩=some (.slice Ao17 t279.length co17)∧w'.cell? ⟨gb285,5,none⟩=some (.slice Ao18 t282.length co18)) (ds:=[9]) #[false,false,false,false,false,false,false,false,false,false] (by kernel_rfl) rfl rfl (bc6 BK285.out) (fun hHeld=>?_);refine with_tabW spec_l14Spoil.tab9 spec_l14Spoil.bits9 (fun HT_ HW_=>?_)
      generalize w19.drew=w58 at HO281 HO284 BK273 BK274 BK285 HI0 HK HB hHeld ⊢
      refine pure_ (i:=0) (N:=some 34) (v:=?_) (a':=?_) #[true,false,false,false,false,false,false,false,false,false] rfl rfl (any_of HT_.out (by kernel_rfl)) (fun _ _ _ h=>h) (Or.inl ⟨by rfl,?_⟩) ?_ ?_
      rotate_left
      ·intro w'
       go_simp
       with_reducible rfl
      rotate_left
      ·simp only [Act.put,sA_,s0_,s1_,i64_w,i32_w]
       rfl
      refine pure_ (i:=4) (N:=some 38) (v:=?_) (a':=?_) #[true,false,false,false,true,false,false,false,false,false] rfl rfl (any_of HT_.out (by kernel_rfl)) (fun _ _ _ h=>h) (Or.inl ⟨by rfl,?_⟩) ?_ ?_
      rotate_left
      ·intro w'
       go_simp
       with_reducible rfl
      rotate_left
      ·simp only [Act.put,sA_,s0_,s1_,i64_w,i32_w]
       rfl
      refine take_ (i:=1) (N:=some 35) (v:=?_) (a':=?_) #[true,true,false,false,true,false,false,false,false,false] rfl rfl (take_ofW HT_.out HW_.out (by kernel_rfl)) (fun _ _ _ h=>h) (Or.inl ⟨by rfl,?_⟩) hHeld ?_ ?_
      rotate_left
      ·rintro w' ⟨s0,s1,s2,s3,s4,s5⟩
       go_simp
       with_reducible rfl
      rotate_left
      ·simp only [Act.put,sA_,s0_,s1_,i64_w,i32_w]
       rfl
      refine pure_ (i:=2) (N:=some 36) (v:=?_) (a':=?_) #[true,true,true,false,true,false,false,false,false,false] rfl rfl (any_of HT_.out (by kernel_rfl)) (fun _ _ _ h=>h) (Or.inl ⟨by rfl,?_⟩) ?_ ?_
      rotate_left
      ·intro w'
       go_simp
       with_reducible rfl
      rotate_left
      ·simp only [Act.put,sA_,s0_,s1_,i64_w,i32_w]
       rfl
      refine join_ (σ:=Value × Addr) 4 #[true,true,true,true,true,true,false,false,false,false] (fun s_=>[(37,s_.1),(39,.int .i64 t303)]) (fun s_ w'=>(w'.cell? ⟨gb285,0,none⟩=some (.int .i64 t275)∧w'.cell? ⟨gb285,1,none⟩=some (.int .i64 t276)∧w'.cell? ⟨gb285,2,none⟩=some (.int .i64 t277)∧w'.cell? ⟨gb285,3,none⟩=some (.int .i64 t278)∧w'.cell? ⟨gb285,4,none⟩=some (.slice Ao17 t279.length co17)∧w'.cell? ⟨gb285,5,none⟩=some (.slice Ao18 t282.length co18))∧(Kd.R (Kd.int .i64) 3 w' w.heap.size (fun k_=>some k_≠(.slice Ao18 t282.length co18:Value).ownBlock∧some k_≠(s_.1:Value).ownBlock) (.slice Ao17 t279.length co17) t279)∧(Kd.R (Kd.int .i64) 3 w' w.heap.size (fun k_=>some k_≠(.slice Ao17 t279.length co17:Value).ownBlock∧some k_≠(s_.1:Value).ownBlock) (.slice Ao18 t282.length co18) t282)∧(Kd.R (Kd.int .i64) 3 w' w.heap.size (fun k_=>some k_≠(.slice Ao17 t279.length co17:Value).ownBlock∧some k_≠(.slice Ao18 t282.length co18:Value).ownBlock) s_.1 y300)∧(∃ c_,(s_.1:Value)=.slice (some s_.2) y300.length c_)∧(w'.heap[gb273]?=some (.cells #[.int .i64 a1_0,.int .i64 a1_1,.int .i64 a1_2,.int .i64 a1_3,.slice A1_4 l1_4.length c1_4,.slice A1_5 l1_5.length c1_5] 27 (0,0)))∧(w'.heap[gb274]?=some (.cells #[.int .i64 0,.int .i64 0,.int .i64 0,.int .i64 0,.slice none 0 0,.slice none 0 0] 27 (0,0)))∧(w'.heap[gb285]?=some (.cells #[.int .i64 t275,.int .i64 t276,.int .i64 t277,.int .i64 t278,.slice Ao17 t279.length co17,.slice Ao18 t282.length co18] 27 (0,0)))∧(IsS65 w0 w' g s0_0 t304)∧(KeepBut w w' g none)∧(Below w0.heap.size w0 w')) ?_ ?_
      rotate_left
      ·intro hCont
       refine two_ (i:=3) (j:=5) (Ni:=some 37) (Nj:=some 39) #[true,true,true,true,true,false,false,false,false,false] #[true,true,true,false,true,true,false,false,false,false] rfl rfl rfl rfl (two_of HT_.out (by kernel_rfl)) (by decide) (by decide) (fun K hK=>?_) (fun K hK=>?_)
       ·skip
        refine Kd.R_lit_step (Kd.int .i64) _ 3 ?hg (N:=37) ?hd (xs:=([0,wrap64 (t277+1),21]:List Int)) (inner:=[.int .i64 0,.int .i64 (wrap64 (t277+1)),.int .i64 21]) (ok:=fun _=>True) (okp:=fun _=>True) ?hr ?hp (fun _ hk=>hk) trivial (Below.refl _ _) (Nat.le_refl _) (by simp) ?_;(case hd=>rfl);(case hg=>rfl);(case hr=>first|(go_simp;done)|(go_simp;rfl));(case hp=>exact (Reps.one (show Kd.M (Kd.int .i64) _ _ _ 0 [.int .i64 0] from rfl) (Reps.one (show Kd.M (Kd.int .i64) _ _ _ (wrap64 (t277+1)) [.int .i64 (wrap64 (t277+1))] from rfl) (Reps.one (show Kd.M (Kd.int .i64) _ _ _ 21 [.int .i64 21] from rfl) (Reps.none _ _)))))
        intro v301 w59 ho60 hb hg_ hnew_
        clear hg_ hnew_
        (first|rw [← Ny300.out] at ho60|(simp only [Int.reduceToNat] at ho60;rw [← Ny300.out] at ho60))
        have n0_:=aM_ (Kd.R_elder' (by (with_reducible repeat (first|apply rA_|apply rN_|apply rD_));exact HO281.out) (Kd.R_base ho60) hb)
        have n1_:=aM_ (Kd.R_elder' (by (with_reducible repeat (first|apply rA_|apply rN_|apply rD_));exact HO284.out) (Kd.R_base ho60) hb)
        have n2_:=aM_ (Kd.R_lower (Kd.R_new' (Kd.R_new' ho60 (Kd.R_lt (by (with_reducible repeat (first|apply rA_|apply rN_|apply rD_));exact HO281.out))) (Kd.R_lt (by (with_reducible repeat (first|apply rA_|apply rN_|apply rD_));exact HO284.out))) (keep_size (w:=w) (g:=g) (row:=none) (by repeat (first|(with_reducible first|exact HK.out|apply pS_|apply pN_|apply pD_|apply pA_|refine keep_far ?_ GW273.out _|refine keep_far ?_ GW274.out _|refine keep_far ?_ GW285.out _)|exact HK.out))))
        have n3_:=aM_ (IsS65.below (by repeat (first|(with_reducible first|exact HI0.out|apply IsS65.alloc|apply IsS65.drewN|apply IsS65.drew|apply IsS65.set_1|refine IsS65.far ?_ NB0_273.out _|refine IsS65.far ?_ NB0_274.out _|refine IsS65.far ?_ NB0_285.out _)|exact HI0.out)) hb)
        have n4_:=aM_ (blk_below (g:=gb273) (by (with_reducible repeat (first|apply kN_|apply kD_|apply kA_));exact BK273.out) hb)
        have n5_:=aM_ (blk_below (g:=gb274) (by (with_reducible repeat (first|apply kN_|apply kD_|apply kA_));exact BK274.out) hb)
        have n6_:=aM_ (blk_below (g:=gb285) (by (with_reducible repeat (first|apply kN_|apply kD_|apply kA_));exact BK285.out) hb)
        have n7_:=aM_ (KeepBut.trans (by repeat (first|(with_reducible first|exact HK.out|apply pS_|apply pN_|apply pD_|apply pA_|refine keep_far ?_ GW273.out _|refine keep_far ?_ GW274.out _|refine keep_far ?_ GW285.out _)|exact HK.out)) (KeepBut.of_below hb g none) (.inl rfl))
        have n8_:=aM_ (below_step (by repeat (first|(with_reducible first|exact HB.out|apply wA_|apply wN_|apply wD_|refine below_set ?_ (IsS65.ge HI0.out)|refine below_set ?_ GE273.out|refine below_set ?_ GE274.out|refine below_set ?_ GE285.out)|exact HB.out)) hb)
        clear HO281
        clear HO284
        clear HI0
        clear BK273
        clear BK274
        clear BK285
        clear HK
        clear HB
        have HO281:=n0_
        have HO284:=n1_
        have HO302:=n2_
        have HI0:=n3_
        have BK273:=n4_
        have BK274:=n5_
        have BK285:=n6_
        have HK:=n7_
        have HB:=n8_
        clear n0_ n1_ n2_ n3_ n4_ n5_ n6_ n7_ n8_
        clear hb ho60
        obtain ⟨Ao61,co61,eo61⟩:=Kd.R_slice HO302.out
        subst eo61
        obtain ⟨ado61,fo61,_⟩:=Kd.at_int (Kd.R_reads' HO302.out).2.2 0 (by decide) (by rw [Ny300.out];simp)
        cases fo61
        refine hK.out _ _ (bc6 BK285.out) (fun hHeld=>?_)
        clear hK K
        refine norm_ (a':=?_) ?_ ?_
        rotate_left
        ·show Act.put _ (some 37) _=_
         simp only [Act.put,sA_,s0_,s1_,i64_w,i32_w]
         rfl
        refine one_ (i:=5) (N:=some 39) #[true,true,true,true,true,true,false,false,false,false] rfl rfl (one_of HT_.out (by kernel_rfl)) (by decide) (fun K hK=>?_)
        refine goes_ Try.func68 (by kernel_rfl) rfl #[.pointer (some ⟨g,0,none⟩),.int .i64 3] (by rfl) rfl rfl (by (try simp only [List.map_toArray,List.map_cons,List.map_nil]);first|done|rfl|(simp only [List.length_drop,List.length_take];rfl)) ?_
        with_reducible refine (spec_l1Rd_pick.calls k g s0_0 t287 3 t303 t304 w0 _ ?side1 ?side2 A55.out).mono ?_
        (case side1=>repeat (first|(with_reducible first|exact HI0.out|apply IsS65.alloc|apply IsS65.drewN|apply IsS65.drew|apply IsS65.set_1|refine IsS65.far ?_ NB0_273.out _|refine IsS65.far ?_ NB0_274.out _|refine IsS65.far ?_ NB0_285.out _)|exact HI0.out))
        (case side2=>repeat (first|(with_reducible first|exact HB.out|apply wA_|apply wN_|apply wD_|refine below_set ?_ (IsS65.ge HI0.out)|refine below_set ?_ GE273.out|refine below_set ?_ GE274.out|refine below_set ?_ GE285.out)|exact HB.out))
        rintro e w62 ⟨rfl,hi,hb,hk⟩
        refine ⟨_,rfl,?_⟩
        have n0_:=aM_ (KeepBut.blk hk (g':=gb273) (o:=.cells #[.int .i64 a1_0,.int .i64 a1_1,.int .i64 a1_2,.int .i64 a1_3,.slice A1_4 l1_4.length c1_4,.slice A1_5 l1_5.length c1_5] 27 (0,0)) (by (with_reducible repeat (first|apply kN_|apply kD_|apply kA_));exact BK273.out) NB273_0.out (by simp))
        have n1_:=aM_ (KeepBut.blk hk (g':=gb274) (o:=.cells #[.int .i64 0,.int .i64 0,.int .i64 0,.int .i64 0,.slice none 0 0,.slice none 0 0] 27 (0,0)) (by (with_reducible repeat (first|apply kN_|apply kD_|apply kA_));exact BK274.out) NB274_0.out (by simp))
        have n2_:=aM_ (Kd.R_mono (Kd.R_keep (IsS65.apart (show IsS65 w0 _ g s0_0 t287 from by repeat (first|(with_reducible first|exact HI0.out|apply IsS65.alloc|apply IsS65.drewN|apply IsS65.drew|apply IsS65.set_1|refine IsS65.far ?_ NB0_273.out _|refine IsS65.far ?_ NB0_274.out _|refine IsS65.far ?_ NB0_285.out _)|exact HI0.out)) (by (with_reducible repeat (first|apply rA_|apply rN_|apply rD_));exact HO281.out) (by decide)) hk (fun _ h=>h.2)) (fun _ h=>h.1))
        have n3_:=aM_ (Kd.R_mono (Kd.R_keep (IsS65.apart (show IsS65 w0 _ g s0_0 t287 from by repeat (first|(with_reducible first|exact HI0.out|apply IsS65.alloc|apply IsS65.drewN|apply IsS65.drew|apply IsS65.set_1|refine IsS65.far ?_ NB0_273.out _|refine IsS65.far ?_ NB0_274.out _|refine IsS65.far ?_ NB0_285.out _)|exact HI0.out)) (by (with_reducible repeat (first|apply rA_|apply rN_|apply rD_));exact HO284.out) (by decide)) hk (fun _ h=>h.2)) (fun _ h=>h.1))
        have n4_:=aM_ (KeepBut.blk hk (g':=gb285) (o:=.cells #[.int .i64 t275,.int .i64 t276,.int .i64 t277,.int .i64 t278,.slice Ao17 t279.length co17,.slice Ao18 t282.length co18] 27 (0,0)) (by (with_reducible repeat (first|apply kN_|apply kD_|apply kA_));exact BK285.out) NB285_0.out (by simp))
        have n5_:=aM_ (Kd.R_mono (Kd.R_keep (IsS65.apart (show IsS65 w0 _ g s0_0 t287 from by repeat (first|(with_reducible first|exact HI0.out|apply IsS65.alloc|apply IsS65.drewN|apply IsS65.drew|apply IsS65.set_1|refine IsS65.far ?_ NB0_273.out _|refine IsS65.far ?_ NB0_274.out _|refine IsS65.far ?_ NB0_285.out _)|exact HI0.out)) (by (with_reducible repeat (first|apply rA_|apply rN_|apply rD_));exact HO302.out) (by decide)) hk (fun _ h=>h.2)) (fun _ h=>h.1))
        have n6_:=aM_ (KeepBut.trans (by repeat (first|(with_reducible first|exact HK.out|apply pS_|apply pN_|apply pD_|apply pA_|refine keep_far ?_ GW273.out _|refine keep_far ?_ GW274.out _|refine keep_far ?_ GW285.out _)|exact HK.out)) hk (.inl rfl))
        have n7_:=aM_ (hb)
        have n8_:=aM_ (hi)
        clear BK273
        clear BK274
        clear HO281
        clear HO284
        clear BK285
        clear HO302
        clear HK
        clear HB
        clear HI0
        have BK273:=n0_
        have BK274:=n1_
        have HO281:=n2_
        have HO284:=n3_
        have BK285:=n4_
        have HO302:=n5_
        have HK:=n6_
        have HB:=n7_
        have HI0:=n8_
        clear n0_ n1_ n2_ n3_ n4_ n5_ n6_ n7_ n8_
        (try clear hb)
        (try clear hb2)
        (try clear hk)
        (try clear hi)
        refine hK.out _ _ (bc6 BK285.out) (fun hHeld=>?_)
        clear hK K
        refine norm_ (a':=?_) ?_ ?_
        rotate_left
        ·show Act.put _ (some 39) _=_
         simp only [Act.put,sA_,s0_,s1_,i64_w,i32_w]
         rfl
        exact norm_ (by simp only [putAll,Act.put,sA_,s0_,s1_]) (hCont (.slice (some ado61) y300.length co61,ado61) _ ⟨hHeld,(by (with_reducible repeat (first|apply rA_|apply rN_|apply rD_));exact HO281.out),(by (with_reducible repeat (first|apply rA_|apply rN_|apply rD_));exact HO284.out),(by (with_reducible repeat (first|apply rA_|apply rN_|apply rD_));exact Kd.R_mono HO302.out (fun _ hk=>⟨hk.1.2,hk.2⟩)),⟨_,rfl⟩,(by (with_reducible repeat (first|apply kN_|apply kD_|apply kA_));exact BK273.out),(by (with_reducible repeat (first|apply kN_|apply kD_|apply kA_));exact BK274.out),(by (with_reducible repeat (first|apply kN_|apply kD_|apply kA_));exact BK285.out),(by repeat (first|(with_reducible first|exact HI0.out|apply IsS65.alloc|apply IsS65.drewN|apply IsS65.drew|apply IsS65.set_1|refine IsS65.far ?_ NB0_273.out _|refine IsS65.far ?_ NB0_274.out _|refine IsS65.far ?_ NB0_285.out _)|exact HI0.out)),(by repeat (first|(with_reducible first|exact HK.out|apply pS_|apply pN_|apply pD_|apply pA_|refine keep_far ?_ GW273.out _|refine keep_far ?_ GW274.out _|refine keep_far ?_ GW285.out _)|exact HK.out)),(by repeat (first|(with_reducible first|exact HB.out|apply wA_|apply wN_|apply wD_|refine below_set ?_ (IsS65.ge HI0.out)|refine below_set ?_ GE273.out|refine below_set ?_ GE274.out|refine below_set ?_ GE285.out)|exact HB.out))⟩)
       ·skip
        refine goes_ Try.func68 (by kernel_rfl) rfl #[.pointer (some ⟨g,0,none⟩),.int .i64 3] (by rfl) rfl rfl (by (try simp only [List.map_toArray,List.map_cons,List.map_nil]);first|done|rfl|(simp only [List.length_drop,List.length_take];rfl)) ?_
        with_reducible refine (spec_l1Rd_pick.calls k g s0_0 t287 3 t303 t304 w0 _ ?side1 ?side2 A55.out).mono ?_
        (case side1=>repeat (first|(with_reducible first|exact HI0.out|apply IsS65.alloc|apply IsS65.drewN|apply IsS65.drew|apply IsS65.set_1|refine IsS65.far ?_ NB0_273.out _|refine IsS65.far ?_ NB0_274.out _|refine IsS65.far ?_ NB0_285.out _)|exact HI0.out))
        (case side2=>repeat (first|(with_reducible first|exact HB.out|apply wA_|apply wN_|apply wD_|refine below_set ?_ (IsS65.ge HI0.out)|refine below_set ?_ GE273.out|refine below_set ?_ GE274.out|refine below_set ?_ GE285.out)|exact HB.out))
        rintro e w59 ⟨rfl,hi,hb,hk⟩
        refine ⟨_,rfl,?_⟩
        have n0_:=aM_ (KeepBut.blk hk (g':=gb273) (o:=.cells #[.int .i64 a1_0,.int .i64 a1_1,.int .i64 a1_2,.int .i64 a1_3,.slice A1_4 l1_4.length c1_4,.slice A1_5 l1_5.length c1_5] 27 (0,0)) (by (with_reducible repeat (first|apply kN_|apply kD_|apply kA_));exact BK273.out) NB273_0.out (by simp))
        have n1_:=aM_ (KeepBut.blk hk (g':=gb274) (o:=.cells #[.int .i64 0,.int .i64 0,.int .i64 0,.int .i64 0,.slice none 0 0,.slice none 0 0] 27 (0,0)) (by (with_reducible repeat (first|apply kN_|apply kD_|apply kA_));exact BK274.out) NB274_0.out (by simp))
        have n2_:=aM_ (Kd.R_mono (Kd.R_keep (IsS65.apart (show IsS65 w0 _ g s0_0 t287 from by repeat (first|(with_reducible first|exact HI0.out|apply IsS65.alloc|apply IsS65.drewN|apply IsS65.drew|apply IsS65.set_1|refine IsS65.far ?_ NB0_273.out _|refine IsS65.far ?_ NB0_274.out _|refine IsS65.far ?_ NB0_285.out _)|exact HI0.out)) (by (with_reducible repeat (first|apply rA_|apply rN_|apply rD_));exact HO281.out) (by decide)) hk (fun _ h=>h.2)) (fun _ h=>h.1))
        have n3_:=aM_ (Kd.R_mono (Kd.R_keep (IsS65.apart (show IsS65 w0 _ g s0_0 t287 from by repeat (first|(with_reducible first|exact HI0.out|apply IsS65.alloc|apply IsS65.drewN|apply IsS65.drew|apply IsS65.set_1|refine IsS65.far ?_ NB0_273.out _|refine IsS65.far ?_ NB0_274.out _|refine IsS65.far ?_ NB0_285.out _)|exact HI0.out)) (by (with_reducible repeat (first|apply rA_|apply rN_|apply rD_));exact HO284.out) (by decide)) hk (fun _ h=>h.2)) (fun _ h=>h.1))
        have n4_:=aM_ (KeepBut.blk hk (g':=gb285) (o:=.cells #[.int .i64 t275,.int .i64 t276,.int .i64 t277,.int .i64 t278,.slice Ao17 t279.length co17,.slice Ao18 t282.length co18] 27 (0,0)) (by (with_reducible repeat (first|apply kN_|apply kD_|apply kA_));exact BK285.out) NB285_0.out (by simp))
        have n5_:=aM_ (KeepBut.trans (by repeat (first|(with_reducible first|exact HK.out|apply pS_|apply pN_|apply pD_|apply pA_|refine keep_far ?_ GW273.out _|refine keep_far ?_ GW274.out _|refine keep_far ?_ GW285.out _)|exact HK.out)) hk (.inl rfl))
        have n6_:=aM_ (hb)
        have n7_:=aM_ (hi)
        clear BK273
        clear BK274
        clear HO281
        clear HO284
        clear BK285
        clear HK
        clear HB
        clear HI0
        have BK273:=n0_
        have BK274:=n1_
        have HO281:=n2_
        have HO284:=n3_
        have BK285:=n4_
        have HK:=n5_
        have HB:=n6_
        have HI0:=n7_
        clear n0_ n1_ n2_ n3_ n4_ n5_ n6_ n7_
        (try clear hb)
        (try clear hb2)
        (try clear hk)
        (try clear hi)
        refine hK.out _ _ (bc6 BK285.out) (fun hHeld=>?_)
        clear hK K
        refine norm_ (a':=?_) ?_ ?_
        rotate_left
        ·show Act.put _ (some 39) _=_
         simp only [Act.put,sA_,s0_,s1_,i64_w,i32_w]
         rfl
        refine one_ (i:=3) (N:=some 37) #[true,true,true,true,true,true,false,false,false,false] rfl rfl (one_of HT_.out (by kernel_rfl)) (by decide) (fun K hK=>?_)
        refine Kd.R_lit_step (Kd.int .i64) _ 3 ?hg (N:=37) ?hd (xs:=([0,wrap64 (t277+1),21]:List Int)) (inner:=[.int .i64 0,.int .i64 (wrap64 (t277+1)),.int .i64 21]) (ok:=fun _=>True) (okp:=fun _=>True) ?hr ?hp (fun _ hk=>hk) trivial (Below.refl _ _) (Nat.le_refl _) (by simp) ?_;(case hd=>rfl);(case hg=>rfl);(case hr=>first|(go_simp;done)|(go_simp;rfl));(case hp=>exact (Reps.one (show Kd.M (Kd.int .i64) _ _ _ 0 [.int .i64 0] from rfl) (Reps.one (show Kd.M (Kd.int .i64) _ _ _ (wrap64 (t277+1)) [.int .i64 (wrap64 (t277+1))] from rfl) (Reps.one (show Kd.M (Kd.int .i64) _ _ _ 21 [.int .i64 21] from rfl) (Reps.none _ _)))))
        intro v301 w60 ho61 hb hg_ hnew_
        clear hg_ hnew_
        (first|rw [← Ny300.out] at ho61|(simp only [Int.reduceToNat] at ho61;rw [← Ny300.out] at ho61))
        have n0_:=aM_ (Kd.R_elder' (by (with_reducible repeat (first|apply rA_|apply rN_|apply rD_));exact HO281.out) (Kd.R_base ho61) hb)
        have n1_:=aM_ (Kd.R_elder' (by (with_reducible repeat (first|apply rA_|apply rN_|apply rD_));exact HO284.out) (Kd.R_base ho61) hb)
        have n2_:=aM_ (Kd.R_lower (Kd.R_new' (Kd.R_new' ho61 (Kd.R_lt (by (with_reducible repeat (first|apply rA_|apply rN_|apply rD_));exact HO281.out))) (Kd.R_lt (by (with_reducible repeat (first|apply rA_|apply rN_|apply rD_));exact HO284.out))) (keep_size (w:=w) (g:=g) (row:=none) (by repeat (first|(with_reducible first|exact HK.out|apply pS_|apply pN_|apply pD_|apply pA_|refine keep_far ?_ GW273.out _|refine keep_far ?_ GW274.out _|refine keep_far ?_ GW285.out _)|exact HK.out))))
        have n3_:=aM_ (IsS65.below (by repeat (first|(with_reducible first|exact HI0.out|apply IsS65.alloc|apply IsS65.drewN|apply IsS65.drew|apply IsS65.set_1|refine IsS65.far ?_ NB0_273.out _|refine IsS65.far ?_ NB0_274.out _|refine IsS65.far ?_ NB0_285.out _)|exact HI0.out)) hb)
        have n4_:=aM_ (blk_below (g:=gb273) (by (with_reducible repeat (first|apply kN_|apply kD_|apply kA_));exact BK273.out) hb)
        have n5_:=aM_ (blk_below (g:=gb274) (by (with_reducible repeat (first|apply kN_|apply kD_|apply kA_));exact BK274.out) hb)
        have n6_:=aM_ (blk_below (g:=gb285) (by (with_reducible repeat (first|apply kN_|apply kD_|apply kA_));exact BK285.out) hb)
        have n7_:=aM_ (KeepBut.trans (by repeat (first|(with_reducible first|exact HK.out|apply pS_|apply pN_|apply pD_|apply pA_|refine keep_far ?_ GW273.out _|refine keep_far ?_ GW274.out _|refine keep_far ?_ GW285.out _)|exact HK.out)) (KeepBut.of_below hb g none) (.inl rfl))
        have n8_:=aM_ (below_step (by repeat (first|(with_reducible first|exact HB.out|apply wA_|apply wN_|apply wD_|refine below_set ?_ (IsS65.ge HI0.out)|refine below_set ?_ GE273.out|refine below_set ?_ GE274.out|refine below_set ?_ GE285.out)|exact HB.out)) hb)
        clear HO281
        clear HO284
        clear HI0
        clear BK273
        clear BK274
        clear BK285
        clear HK
        clear HB
        have HO281:=n0_
        have HO284:=n1_
        have HO302:=n2_
        have HI0:=n3_
        have BK273:=n4_
        have BK274:=n5_
        have BK285:=n6_
        have HK:=n7_
        have HB:=n8_
        clear n0_ n1_ n2_ n3_ n4_ n5_ n6_ n7_ n8_
        clear hb ho61
        obtain ⟨Ao62,co62,eo62⟩:=Kd.R_slice HO302.out
        subst eo62
        obtain ⟨ado62,fo62,_⟩:=Kd.at_int (Kd.R_reads' HO302.out).2.2 0 (by decide) (by rw [Ny300.out];simp)
        cases fo62
        refine hK.out _ _ (bc6 BK285.out) (fun hHeld=>?_)
        clear hK K
        refine norm_ (a':=?_) ?_ ?_
        rotate_left
        ·show Act.put _ (some 37) _=_
         simp only [Act.put,sA_,s0_,s1_,i64_w,i32_w]
         rfl
        exact norm_ (by simp only [putAll,Act.put,sA_,s0_,s1_]) (hCont (.slice (some ado62) y300.length co62,ado62) _ ⟨hHeld,(by (with_reducible repeat (first|apply rA_|apply rN_|apply rD_));exact HO281.out),(by (with_reducible repeat (first|apply rA_|apply rN_|apply rD_));exact HO284.out),(by (with_reducible repeat (first|apply rA_|apply rN_|apply rD_));exact Kd.R_mono HO302.out (fun _ hk=>⟨hk.1.2,hk.2⟩)),⟨_,rfl⟩,(by (with_reducible repeat (first|apply kN_|apply kD_|apply kA_));exact BK273.out),(by (with_reducible repeat (first|apply kN_|apply kD_|apply kA_));exact BK274.out),(by (with_reducible repeat (first|apply kN_|apply kD_|apply kA_));exact BK285.out),(by repeat (first|(with_reducible first|exact HI0.out|apply IsS65.alloc|apply IsS65.drewN|apply IsS65.drew|apply IsS65.set_1|refine IsS65.far ?_ NB0_273.out _|refine IsS65.far ?_ NB0_274.out _|refine IsS65.far ?_ NB0_285.out _)|exact HI0.out)),(by repeat (first|(with_reducible first|exact HK.out|apply pS_|apply pN_|apply pD_|apply pA_|refine keep_far ?_ GW273.out _|refine keep_far ?_ GW274.out _|refine keep_far ?_ GW285.out _)|exact HK.out)),(by repeat (first|(with_reducible first|exact HB.out|apply wA_|apply wN_|apply wD_|refine below_set ?_ (IsS65.ge HI0.out)|refine below_set ?_ GE273.out|refine below_set ?_ GE274.out|refine below_set ?_ GE285.out)|exact HB.out))⟩)
      rintro ⟨v301,adz_v301⟩ w63 ⟨hS_,h0_,h1_,h2_,h3_,h4_,h5_,h6_,h7_,h8_,h9_⟩
      have n0_:Aside0 (Kd.R (Kd.int .i64) 3 w63 w.heap.size (fun k_=>some k_≠(.slice Ao18 t282.length co18:Value).ownBlock∧some k_≠(v301:Value).ownBlock) (.slice Ao17 t279.length co17) t279):=⟨h0_⟩
      have n1_:Aside0 (Kd.R (Kd.int .i64) 3 w63 w.heap.size (fun k_=>some k_≠(.slice Ao17 t279.length co17:Value).ownBlock∧some k_≠(v301:Value).ownBlock) (.slice Ao18 t282.length co18) t282):=⟨h1_⟩
      have n2_:Aside0 (Kd.R (Kd.int .i64) 3 w63 w.heap.size (fun k_=>some k_≠(.slice Ao17 t279.length co17:Value).ownBlock∧some k_≠(.slice Ao18 t282.length co18:Value).ownBlock) v301 y300):=⟨h2_⟩
      have n3_:Aside0 (∃ c_,(v301:Value)=.slice (some adz_v301) y300.length c_):=⟨h3_⟩
      have n4_:Aside0 (w63.heap[gb273]?=some (.cells #[.int .i64 a1_0,.int .i64 a1_1,.int .i64 a1_2,.int .i64 a1_3,.slice A1_4 l1_4.length c1_4,.slice A1_5 l1_5.length c1_5] 27 (0,0))):=⟨h4_⟩
      have n5_:Aside0 (w63.heap[gb274]?=some (.cells #[.int .i64 0,.int .i64 0,.int .i64 0,.int .i64 0,.slice none 0 0,.slice none 0 0] 27 (0,0))):=⟨h5_⟩
      have n6_:Aside0 (w63.heap[gb285]?=some (.cells #[.int .i64 t275,.int .i64 t276,.int .i64 t277,.int .i64 t278,.slice Ao17 t279.length co17,.slice Ao18 t282.length co18] 27 (0,0))):=⟨h6_⟩
      have n7_:Aside0 (IsS65 w0 w63 g s0_0 t304):=⟨h7_⟩
      have n8_:Aside0 (KeepBut w w63 g none):=⟨h8_⟩
      have n9_:Aside0 (Below w0.heap.size w0 w63):=⟨h9_⟩
      clear HO281
      clear HO284
      clear BK273
      clear BK274
      clear BK285
      clear HI0
      clear HK
      clear HB
      clear h0_ h1_ h2_ h3_ h4_ h5_ h6_ h7_ h8_ h9_
      have HO281:=n0_
      have HO284:=n1_
      have HO302:=n2_
      have HA_HO302:=n3_
      have BK273:=n4_
      have BK274:=n5_
      have BK285:=n6_
      have HI0:=n7_
      have HK:=n8_
      have HB:=n9_
      clear n0_ n1_ n2_ n3_ n4_ n5_ n6_ n7_ n8_ n9_
      have hHeld:w63.cell? ⟨gb285,0,none⟩=some (.int .i64 t275)∧w63.cell? ⟨gb285,1,none⟩=some (.int .i64 t276)∧w63.cell? ⟨gb285,2,none⟩=some (.int .i64 t277)∧w63.cell? ⟨gb285,3,none⟩=some (.int .i64 t278)∧w63.cell? ⟨gb285,4,none⟩=some (.slice Ao17 t279.length co17)∧w63.cell? ⟨gb285,5,none⟩=some (.slice Ao18 t282.length co18):=hS_
      obtain ⟨co64,eo64⟩:=HA_HO302.out
      clear HA_HO302
      subst eo64
      refine norm_ (a':=?_) ?_ ?_
      rotate_left
      ·simp only [putAll,Act.put,sA_,s0_,s1_]
       rfl
      refine pure_ (i:=6) (N:=some 40) (v:=?_) (a':=?_) #[true,true,true,true,true,true,true,false,false,false] rfl rfl (any_of HT_.out (by kernel_rfl)) (fun _ _ _ h=>h) (Or.inl ⟨by rfl,?_⟩) ?_ ?_
      rotate_left
      ·intro w'
       go_simp
       with_reducible rfl
      rotate_left
      ·simp only [Act.put,sA_,s0_,s1_,i64_w,i32_w]
       rfl
      refine one_ (i:=7) (N:=some 41) #[true,true,true,true,true,true,true,true,false,false] rfl rfl (one_of HT_.out (by kernel_rfl)) (by decide) (fun K hK=>?_)
      (have p305:0≤(t303:Int):=of_decide_eq_true (by first|(with_reducible assumption)|assumption);have q305:t303 < (y300.length:Int):=of_decide_eq_true (by first|(with_reducible assumption)|assumption);obtain ⟨ad305,e305,hx305_0⟩:=Kd.at_int (Kd.R_reads' HO302.out).2.2 t303 p305 q305;obtain rfl:adz_v301=ad305:=(by injection e305))
      refine value_ (w1:=?_) (v:=?_) (by rfl) rfl ?_ ?_
      rotate_left 2
      ·go_simp
       constructor
       ·rfl
       ·rfl
      clear hx305_0
      refine hK.out _ _ (bc6 BK285.out) (fun hHeld=>?_)
      clear hK K
      refine norm_ (a':=?_) ?_ ?_
      rotate_left
      ·show Act.put _ (some 41) _=_
       simp only [Act.put,sA_,s0_,s1_,i64_w,i32_w]
       rfl
      refine pure_ (i:=8) (N:=some 42) (v:=?_) (a':=?_) #[true,true,true,true,true,true,true,true,true,false] rfl rfl (any_of HT_.out (by kernel_rfl)) (fun _ _ _ h=>h) (Or.inl ⟨by rfl,?_⟩) ?_ ?_
      rotate_left
      ·intro w'
       go_simp
       with_reducible rfl
      rotate_left
      ·simp only [Act.put,sA_,s0_,s1_,i64_w,i32_w]
       rfl
      refine last_ (i:=9) (N:=none) #[true,true,true,true,true,true,true,true,true,true] rfl rfl (one_of HT_.out (by kernel_rfl)) (by decide) (fun K hK=>?_)
      have hs65:w63.cell? ⟨gb285,2,none⟩=some (.int .i64 t277):=(blk_cell BK285.out 2).trans rfl
      have hfs65:=blk_frozen BK285.out 2
      have hns65_0:=NB273_285.out
      have hns65_1:=NB274_285.out
      have hms65_0:=NB285_273.out
      have hms65_1:=NB285_274.out
      refine skip_ (w1:=?_) (by rfl) rfl ?_ ?_
      rotate_left
      ·go_simp
       rfl
      refine hK.out _ _ ?_
      clear hK K
      refine done_ (done_of HT_.out (by kernel_rfl)) ?_
      have hnb66:=NB285_273.out
      have hnc66:=NB273_285.out
      have hnb67:=NB285_274.out
      have hnc67:=NB274_285.out
      have hnb68:=NB285_0.out
      have hnc68:=NB0_285.out
      obtain ⟨hcz69_0,hcz69_1,hcz69_2,hcz69_3,hcz69_4,hcz69_5⟩:=bc6 BK285.out
      obtain ⟨hfz69_0,hfz69_1,hfz69_2,hfz69_3,hfz69_4,hfz69_5⟩:=bf6 BK285.out
      have hnb70:=NB274_273.out
      have hnc70:=NB273_274.out
      have hnb71:=NB274_0.out
      have hnc71:=NB0_274.out
      obtain ⟨hcz72_0,hcz72_1,hcz72_2,hcz72_3,hcz72_4,hcz72_5⟩:=bc6 BK274.out
      obtain ⟨hfz72_0,hfz72_1,hfz72_2,hfz72_3,hfz72_4,hfz72_5⟩:=bf6 BK274.out
      try go_wp2
      refine bodyPost_ret (results_cell_row rfl _ _ gb274 27 #[.int .i64 t275,.int .i64 t276,.int .i64 (rd y300 t303),.int .i64 t278,.slice Ao17 t279.length co17,.slice Ao18 t282.length co18] (0,0) _ rfl (by (with_reducible repeat (first|apply kN_|apply kD_|apply kA_));refine blk_put (cs:=#[.int .i64 t275,.int .i64 t276,.int .i64 (rd y300 t303),.int .i64 t278,.slice Ao17 t279.length co17,.slice none 0 0]) ?_ 5 _ rfl;(with_reducible repeat (first|apply kN_|apply kD_|apply kA_));refine blk_put (cs:=#[.int .i64 t275,.int .i64 t276,.int .i64 (rd y300 t303),.int .i64 t278,.slice none 0 0,.slice none 0 0]) ?_ 4 _ rfl;(with_reducible repeat (first|apply kN_|apply kD_|apply kA_));refine blk_put (cs:=#[.int .i64 t275,.int .i64 t276,.int .i64 (rd y300 t303),.int .i64 0,.slice none 0 0,.slice none 0 0]) ?_ 3 _ rfl;(with_reducible repeat (first|apply kN_|apply kD_|apply kA_));refine blk_put (cs:=#[.int .i64 t275,.int .i64 t276,.int .i64 0,.int .i64 0,.slice none 0 0,.slice none 0 0]) ?_ 2 _ rfl;(with_reducible repeat (first|apply kN_|apply kD_|apply kA_));refine blk_put (cs:=#[.int .i64 t275,.int .i64 0,.int .i64 0,.int .i64 0,.slice none 0 0,.slice none 0 0]) ?_ 1 _ rfl;(with_reducible repeat (first|apply kN_|apply kD_|apply kA_));refine blk_put (cs:=#[.int .i64 0,.int .i64 0,.int .i64 0,.int .i64 0,.slice none 0 0,.slice none 0 0]) ?_ 0 _ rfl;(with_reducible repeat (first|apply kN_|apply kD_|apply kA_));refine blk_far ?_ NB274_285.out _;(with_reducible repeat (first|apply kN_|apply kD_|apply kA_));exact BK274.out) Try.underlying27 rfl (by kernel_rfl)) rfl ?_
      exact ⟨_,_,by first|rfl|(simp [errW_none,errW_some] <;> rfl)|(simp [*,errW_none,errW_some] <;> rfl),by (with_reducible repeat (first|apply rA_|apply rN_|apply rD_));exact Kd.R_mono (Kd.R_far (Kd.R_far (Kd.R_far (Kd.R_far (Kd.R_far (Kd.R_far (Kd.R_far (Kd.R_types (Kd.R_types HO281.out BK285.out (by decide)) BK274.out (by decide)) (fun _ hk=>hk.1.2) (.int .i64 (rd y300 t303))) (fun _ hk=>hk.2) _) (fun _ hk=>hk.2) _) (fun _ hk=>hk.2) (.int .i64 (rd y300 t303))) (fun _ hk=>hk.2) _) (fun _ hk=>hk.2) _) (fun _ hk=>hk.2) _) (fun _ hk=>hk.1.1.1),Kd.Q_of_R (by (with_reducible repeat (first|apply rA_|apply rN_|apply rD_));exact Kd.R_mono (Kd.R_far (Kd.R_far (Kd.R_far (Kd.R_far (Kd.R_far (Kd.R_far (Kd.R_far (Kd.R_types (Kd.R_types HO284.out BK285.out (by decide)) BK274.out (by decide)) (fun _ hk=>hk.1.2) (.int .i64 (rd y300 t303))) (fun _ hk=>hk.2) _) (fun _ hk=>hk.2) _) (fun _ hk=>hk.2) (.int .i64 (rd y300 t303))) (fun _ hk=>hk.2) _) (fun _ hk=>hk.2) _) (fun _ hk=>hk.2) _) (fun _ hk=>hk.1.1.1)),by repeat (first|(with_reducible first|exact HI0.out|apply IsS65.alloc|apply IsS65.drewN|apply IsS65.drew|apply IsS65.set_1|refine IsS65.far ?_ NB0_273.out _|refine IsS65.far ?_ NB0_274.out _|refine IsS65.far ?_ NB0_285.out _)|exact HI0.out),by repeat (first|(with_reducible first|exact HB.out|apply wA_|apply wN_|apply wD_|refine below_set ?_ (IsS65.ge HI0.out)|refine below_set ?_ GE273.out|refine below_set ?_ GE274.out|refine below_set ?_ GE285.out)|exact HB.out),by repeat (first|(with_reducible first|exact HK.out|apply pS_|apply pN_|apply pD_|apply pA_|refine keep_far ?_ GW273.out _|refine keep_far ?_ GW274.out _|refine keep_far ?_ GW285.out _)|exact HK.out)⟩
     ·rw [if_neg c57] at H
      exact absurd H (by simp)
    ·rw [if_neg c56] at H
     exact absurd H (by simp)
   ·rw [if_neg c54] at H
    have c54b0:(t286 == 2)=false:=beq_eq_false_iff_ne.mpr c54
    have c54b1:(t286 != 2)=true:=bne_iff_ne.mpr c54
    by_cases c73:t286=3
    ·rw [if_pos c73] at H
     have c73b0:(t286 == 3)=true:=beq_iff_eq.mpr c73
     have c73b1:(t286 != 3)=false:=bne_eq_false_iff_eq.mpr c73
     clear c73
     by_cases c74:1≤(t282.length:Int)
     ·rw [if_pos c74] at H
      have c74b0:=eq_true c74
      have c74b1:decide (1≤(t282.length:Int))=true:=decide_eq_true c74
      clear c74
      obtain ⟨y306,hy306⟩:∃ y_:List Int,y_=(t282.drop (1:Int).toNat):=⟨_,rfl⟩
      replace H:(some (t275,t276,t277,t278,t279,y306,t287))=some (r1,r2,r3,r4,r5,r6,r7):=by first|(rw [hy306];with_reducible exact H)|(have H2_:=(Option.bind_some _ _).symm.trans H;rw [hy306];with_reducible exact H2_)|(have H2_:=(Option.bind_some _ _).symm.trans H;with_reducible exact H2_)|with_reducible exact H|(rw [hy306];exact H)|exact H
      have Ny306:=aM_ hy306
      clear hy306
      simp only [Option.some.injEq,Prod.mk.injEq] at H
      obtain ⟨rfl,rfl,rfl,rfl,rfl,rfl,rfl⟩:=H
      have hnb75:=NB285_273.out
      have hnc75:=NB273_285.out
      have hnb76:=NB285_274.out
      have hnc76:=NB274_285.out
      have hnb77:=NB285_0.out
      have hnc77:=NB0_285.out
      obtain ⟨hcz78_0,hcz78_1,hcz78_2,hcz78_3,hcz78_4,hcz78_5⟩:=bc6 BK285.out
      obtain ⟨hfz78_0,hfz78_1,hfz78_2,hfz78_3,hfz78_4,hfz78_5⟩:=bf6 BK285.out
      have q79:(1:Int)≤((t282.length:Int):Int):=of_decide_eq_true (by first|(with_reducible assumption)|assumption)
      obtain ⟨i079,hi079,_,hsz79,_⟩:=info_parts info3
      have hcut79:=cut_from (P:=Try.prog) 22 3 .i64 Try.underlying22 hi079 1 hsz79 Ao18 t282.length co18 1 (by omega) q79
      have hr79:=Kd.Q_drop (k:=(1:Int).toNat) (Kd.Q_of_R HO284.out) (by omega)
      obtain ⟨A79,hA79⟩:∃ A1,A1=(if co18=(1:Int).toNat then Ao18 else (Ao18:Option Addr).map (·.add ((1:Int).toNat * 1))):=⟨_,rfl⟩
      obtain ⟨c79,hc79⟩:∃ c1,c1=co18 - (1:Int).toNat:=⟨_,rfl⟩
      have hy79:y306.length=t282.length - (1:Int).toNat:=(by rw [Ny306.out,List.length_drop])
      rw [← Ny306.out] at hr79
      rw [← hy79,← hA79,← hc79] at hcut79
      replace hr79:Kd.Q (Kd.int .i64) 3 w19 w.heap.size (fun k_=>some k_≠(.slice Ao17 t279.length co17:Value).ownBlock) (.slice A79 y306.length c79) y306:=(by rw [hA79,hc79,hy79];exact hr79)
      have HE79:Aside0 ((Value.slice A79 y306.length c79).ownBlock=(.slice Ao18 t282.length co18:Value).ownBlock):=⟨by rw [hA79];split <;> (cases (Ao18:Option Addr) <;> rfl)⟩
      clear hy79 hi079 hsz79 HO284 hA79 hc79
      have HO308:=aM_ hr79
      clear hr79
      replace q79:=eq_true q79
      have n_:=aM_ (Kd.R_mono (ok':=fun k_=>some k_≠(.slice A79 y306.length c79:Value).ownBlock) HO281.out (fun k_ hk=>(by rw [HE79.out];exact hk)))
      clear HO281
      have HO281:=n_
      clear n_
      have hnb80:=NB274_273.out
      have hnc80:=NB273_274.out
      have hnb81:=NB274_0.out
      have hnc81:=NB0_274.out
      obtain ⟨hcz82_0,hcz82_1,hcz82_2,hcz82_3,hcz82_4,hcz82_5⟩:=bc6 BK274.out
      obtain ⟨hfz82_0,hfz82_1,hfz82_2,hfz82_3,hfz82_4,hfz82_5⟩:=bf6 BK274.out
      go_wp2
      refine bodyPost_ret (results_cell_row rfl _ _ gb274 27 #[.int .i64 t275,.int .i64 t276,.int .i64 t277,.int .i64 t278,.slice Ao17 t279.length co17,.slice A79 y306.length c79] (0,0) _ rfl (by (with_reducible repeat (first|apply kN_|apply kD_|apply kA_));refine blk_put (cs:=#[.int .i64 t275,.int .i64 t276,.int .i64 t277,.int .i64 t278,.slice Ao17 t279.length co17,.slice none 0 0]) ?_ 5 _ rfl;(with_reducible repeat (first|apply kN_|apply kD_|apply kA_));refine blk_put (cs:=#[.int .i64 t275,.int .i64 t276,.int .i64 t277,.int .i64 t278,.slice none 0 0,.slice none 0 0]) ?_ 4 _ rfl;(with_reducible repeat (first|apply kN_|apply kD_|apply kA_));refine blk_put (cs:=#[.int .i64 t275,.int .i64 t276,.int .i64 t277,.int .i64 0,.slice none 0 0,.slice none 0 0]) ?_ 3 _ rfl;(with_reducible repeat (first|apply kN_|apply kD_|apply kA_));refine blk_put (cs:=#[.int .i64 t275,.int .i64 t276,.int .i64 0,.int .i64 0,.slice none 0 0,.slice none 0 0]) ?_ 2 _ rfl;(with_reducible repeat (first|apply kN_|apply kD_|apply kA_));refine blk_put (cs:=#[.int .i64 t275,.int .i64 0,.int .i64 0,.int .i64 0,.slice none 0 0,.slice none 0 0]) ?_ 1 _ rfl;(with_reducible repeat (first|apply kN_|apply kD_|apply kA_));refine blk_put (cs:=#[.int .i64 0,.int .i64 0,.int .i64 0,.int .i64 0,.slice none 0 0,.slice none 0 0]) ?_ 0 _ rfl;(with_reducible repeat (first|apply kN_|apply kD_|apply kA_));refine blk_far ?_ NB274_285.out _;(with_reducible repeat (first|apply kN_|apply kD_|apply kA_));exact BK274.out) Try.underlying27 rfl (by kernel_rfl)) rfl ?_
      exact ⟨_,_,by first|rfl|(simp [errW_none,errW_some] <;> rfl)|(simp [*,errW_none,errW_some] <;> rfl),by (with_reducible repeat (first|apply rA_|apply rN_|apply rD_));exact Kd.R_mono (Kd.R_far (Kd.R_far (Kd.R_far (Kd.R_far (Kd.R_far (Kd.R_far (Kd.R_far (Kd.R_types (Kd.R_types HO281.out BK285.out (by decide)) BK274.out (by decide)) (fun _ hk=>hk.1.2) _) (fun _ hk=>hk.2) _) (fun _ hk=>hk.2) _) (fun _ hk=>hk.2) _) (fun _ hk=>hk.2) _) (fun _ hk=>hk.2) _) (fun _ hk=>hk.2) _) (fun _ hk=>hk.1.1),by (with_reducible repeat (first|apply Kd.Q_alloc|apply Kd.Q_drewN|apply Kd.Q_drew));exact Kd.Q_mono (Kd.Q_far (Kd.Q_far (Kd.Q_far (Kd.Q_far (Kd.Q_far (Kd.Q_far (Kd.Q_far (Kd.Q_types (Kd.Q_types HO308.out BK285.out (by decide)) BK274.out (by decide)) (fun _ hk=>hk.1.2) _) (fun _ hk=>hk.2) _) (fun _ hk=>hk.2) _) (fun _ hk=>hk.2) _) (fun _ hk=>hk.2) _) (fun _ hk=>hk.2) _) (fun _ hk=>hk.2) _) (fun _ hk=>hk.1.1),by repeat (first|(with_reducible first|exact HI0.out|apply IsS65.alloc|apply IsS65.drewN|apply IsS65.drew|apply IsS65.set_1|refine IsS65.far ?_ NB0_273.out _|refine IsS65.far ?_ NB0_274.out _|refine IsS65.far ?_ NB0_285.out _)|exact HI0.out),by repeat (first|(with_reducible first|exact HB.out|apply wA_|apply wN_|apply wD_|refine below_set ?_ (IsS65.ge HI0.out)|refine below_set ?_ GE273.out|refine below_set ?_ GE274.out|refine below_set ?_ GE285.out)|exact HB.out),by repeat (first|(with_reducible first|exact HK.out|apply pS_|apply pN_|apply pD_|apply pA_|refine keep_far ?_ GW273.out _|refine keep_far ?_ GW274.out _|refine keep_far ?_ GW285.out _)|exact HK.out)⟩
     ·rw [if_neg c74] at H
      exact absurd H (by simp)
    ·rw [if_neg c73] at H
     have c73b0:(t286 == 3)=false:=beq_eq_false_iff_ne.mpr c73
     have c73b1:(t286 != 3)=true:=bne_iff_ne.mpr c73
     by_cases c83:t286=4
     ·rw [if_pos c83] at H
      have c83b0:(t286 == 4)=true:=beq_iff_eq.mpr c83
      have c83b1:(t286 != 4)=false:=bne_eq_false_iff_eq.mpr c83
      clear c83
      replace H:=Option.bind_eq_some_iff.mp H
      obtain ⟨⟨t309,t310⟩,A840,H⟩:=H
      replace H:((some (([(-1),4294967296]:List Int):List Int)).bind fun y311=>((spec_l1Rd_pick.f k s0_0 t310 2).bind fun bt314=>(if 0≤bt314.1 then (if bt314.1 < (y311.length:Int) then (if 0≤t309 then (if t309 < (t282.length:Int) then (some (t275,t276,t277,t278,t279,(t282.set (t309:Int).toNat (rd y311 bt314.1)),bt314.2)) else (none)) else (none)) else (none)) else (none))))=some (r1,r2,r3,r4,r5,r6,r7):=H
      have A84:=aM_ A840
      clear A840
      obtain ⟨y311,hy311⟩:∃ y_:List Int,y_=(([(-1),4294967296]:List Int)):=⟨_,rfl⟩
      replace H:((spec_l1Rd_pick.f k s0_0 t310 2).bind fun bt314=>(if 0≤bt314.1 then (if bt314.1 < (y311.length:Int) then (if 0≤t309 then (if t309 < (t282.length:Int) then (some (t275,t276,t277,t278,t279,(t282.set (t309:Int).toNat (rd y311 bt314.1)),bt314.2)) else (none)) else (none)) else (none)) else (none)))=some (r1,r2,r3,r4,r5,r6,r7):=by first|(rw [hy311];with_reducible exact H)|(have H2_:=(Option.bind_some _ _).symm.trans H;rw [hy311];with_reducible exact H2_)|(have H2_:=(Option.bind_some _ _).symm.trans H;with_reducible exact H2_)|with_reducible exact H|(rw [hy311];exact H)|exact H
      have Ny311:=aM_ hy311
      clear hy311
      replace H:=Option.bind_eq_some_iff.mp H
      obtain ⟨⟨t314,t315⟩,A850,H⟩:=H
      replace H:(if 0≤t314 then (if t314 < (y311.length:Int) then (if 0≤t309 then (if t309 < (t282.length:Int) then (some (t275,t276,t277,t278,t279,(t282.set (t309:Int).toNat (rd y311 t314)),t315)) else (none)) else (none)) else (none)) else (none))=some (r1,r2,r3,r4,r5,r6,r7):=H
      have A85:=aM_ A850
      clear A850
      by_cases c86:0≤t314
      ·rw [if_pos c86] at H
       have c86b0:decide (0≤t314)=true:=decide_eq_true c86
       clear c86
       by_cases c87:t314 < (y311.length:Int)
       ·rw [if_pos c87] at H
        have c87b0:decide (t314 < (y311.length:Int))=true:=decide_eq_true c87
        clear c87
        by_cases c88:0≤t309
        ·rw [if_pos c88] at H
         have c88b0:decide (0≤t309)=true:=decide_eq_true c88
         clear c88
         by_cases c89:t309 < (t282.length:Int)
         ·rw [if_pos c89] at H
          have c89b0:decide (t309 < (t282.length:Int))=true:=decide_eq_true c89
          clear c89
          obtain ⟨y317,hy317⟩:∃ y_:List Int,y_=(t282.set (t309:Int).toNat (rd y311 t314)):=⟨_,rfl⟩
          replace H:(some (t275,t276,t277,t278,t279,y317,t315))=some (r1,r2,r3,r4,r5,r6,r7):=by first|(rw [hy317];with_reducible exact H)|(have H2_:=(Option.bind_some _ _).symm.trans H;rw [hy317];with_reducible exact H2_)|(have H2_:=(Option.bind_some _ _).symm.trans H;with_reducible exact H2_)|with_reducible exact H|(rw [hy317];exact H)|exact H
          have Ny317:=aM_ hy317
          clear hy317
          simp only [Option.some.injEq,Prod.mk.injEq] at H
          obtain ⟨rfl,rfl,rfl,rfl,rfl,rfl,rfl⟩:=H
          try go_wp2
          have pi316:(0≤(t314:Int))=True:=eq_true (of_decide_eq_true (by first|(with_reducible assumption)|assumption))
          have qi316:(t314 < (y311.length:Int))=True:=eq_true (of_decide_eq_true (by first|(with_reducible assumption)|assumption))
          have n0_:=aM_ (rD_ HO281.out)
          have n1_:=aM_ (rD_ HO284.out)
          have n2_:=aM_ (kD_ BK273.out)
          have n3_:=aM_ (kD_ BK274.out)
          have n4_:=aM_ (kD_ BK285.out)
          have n5_:=aM_ (IsS65.drew HI0.out)
          have n6_:=aM_ (pD_ HK.out)
          have n7_:=aM_ (wD_ HB.out)
          clear HO281
          clear HO284
          clear BK273
          clear BK274
          clear BK285
          clear HI0
          clear HK
          clear HB
          have HO281:=n0_
          have HO284:=n1_
          have BK273:=n2_
          have BK274:=n3_
          have BK285:=n4_
          have HI0:=n5_
          have HK:=n6_
          have HB:=n7_
          clear n0_ n1_ n2_ n3_ n4_ n5_ n6_ n7_
          refine start_ (n:=14) (S:=fun w'=>w'.cell? ⟨gb285,0,none⟩=some (.int .i64 t275)∧w'.cell? ⟨gb285,1,none⟩=some (.int .i64 t276)∧w'.cell? ⟨gb285,2,none⟩=some (.int .i64 t277)∧w'.cell? ⟨gb285,3,none⟩=some (.int .i64 t278)∧w'.cell? ⟨gb285,4,none⟩=some (.slice Ao17 t279.length co17)∧w'.cell? ⟨gb285,5,none⟩=some (.slice Ao18 t282.length co18)) (ds:=[13]) #[false,false,false,false,false,false,false,false,false,false,false,false,false,false] (by kernel_rfl) rfl rfl (bc6 BK285.out) (fun hHeld=>?_);refine with_tabW spec_l14Spoil.tab13 spec_l14Spoil.bits13 (fun HT_ HW_=>?_)
          generalize w19.drew=w91 at HO281 HO284 BK273 BK274 BK285 HI0 HK HB hHeld ⊢
          refine pure_ (i:=0) (N:=some 51) (v:=?_) (a':=?_) #[true,false,false,false,false,false,false,false,false,false,false,false,false,false] rfl rfl (any_of HT_.out (by kernel_rfl)) (fun _ _ _ h=>h) (Or.inl ⟨by rfl,?_⟩) ?_ ?_
          rotate_left
          ·intro w'
           go_simp
           with_reducible rfl
          rotate_left
          ·simp only [Act.put,sA_,s0_,s1_,i64_w,i32_w]
           rfl
          refine pure_ (i:=2) (N:=some 53) (v:=?_) (a':=?_) #[true,false,true,false,false,false,false,false,false,false,false,false,false,false] rfl rfl (any_of HT_.out (by kernel_rfl)) (fun _ _ _ h=>h) (Or.inl ⟨by rfl,?_⟩) ?_ ?_
          rotate_left
          ·intro w'
           go_simp
           with_reducible rfl
          rotate_left
          ·simp only [Act.put,sA_,s0_,s1_,i64_w,i32_w]
           rfl
          refine pure_ (i:=3) (N:=some 54) (v:=?_) (a':=?_) #[true,false,true,true,false,false,false,false,false,false,false,false,false,false] rfl rfl (any_of HT_.out (by kernel_rfl)) (fun _ _ _ h=>h) (Or.inl ⟨by rfl,?_⟩) ?_ ?_
          rotate_left
          ·intro w'
           go_simp
           with_reducible rfl
          rotate_left
          ·simp only [Act.put,sA_,s0_,s1_,i64_w,i32_w]
           rfl
          refine pure_ (i:=8) (N:=some 59) (v:=?_) (a':=?_) #[true,false,true,true,false,false,false,false,true,false,false,false,false,false] rfl rfl (any_of HT_.out (by kernel_rfl)) (fun _ _ _ h=>h) (Or.inl ⟨by rfl,?_⟩) ?_ ?_
          rotate_left
          ·intro w'
           go_simp
           with_reducible rfl
          rotate_left
          ·simp only [Act.put,sA_,s0_,s1_,i64_w,i32_w]
           rfl
          refine take_ (i:=1) (N:=some 52) (v:=?_) (a':=?_) #[true,true,true,true,false,false,false,false,true,false,false,false,false,false] rfl rfl (take_ofW HT_.out HW_.out (by kernel_rfl)) (fun _ _ _ h=>h) (Or.inl ⟨by rfl,?_⟩) hHeld ?_ ?_
          rotate_left
          ·rintro w' ⟨s0,s1,s2,s3,s4,s5⟩
           go_simp
           with_reducible rfl
          rotate_left
          ·simp only [Act.put,sA_,s0_,s1_,i64_w,i32_w]
           rfl
          refine take_ (i:=4) (N:=some 55) (v:=?_) (a':=?_) #[true,true,true,true,true,false,false,false,true,false,false,false,false,false] rfl rfl (take_ofW HT_.out HW_.out (by kernel_rfl)) (fun _ _ _ h=>h) (Or.inl ⟨by rfl,?_⟩) hHeld ?_ ?_
          rotate_left
          ·rintro w' ⟨s0,s1,s2,s3,s4,s5⟩
           go_simp
           with_reducible rfl
          rotate_left
          ·simp only [Act.put,sA_,s0_,s1_,i64_w,i32_w]
           rfl
          refine pure_ (i:=5) (N:=some 56) (v:=?_) (a':=?_) #[true,true,true,true,true,true,false,false,true,false,false,false,false,false] rfl rfl (any_of HT_.out (by kernel_rfl)) (fun _ _ _ h=>h) (Or.inl ⟨by rfl,?_⟩) ?_ ?_
          rotate_left
          ·intro w'
           go_simp
           with_reducible rfl
          rotate_left
          ·simp only [Act.put,sA_,s0_,s1_,i64_w,i32_w]
           rfl
          refine join_ (σ:=Value × Addr) 4 #[true,true,true,true,true,true,true,true,true,true,false,false,false,false] (fun s_=>[(57,.int .i64 t309),(58,s_.1),(60,.int .i64 t314)]) (fun s_ w'=>(w'.cell? ⟨gb285,0,none⟩=some (.int .i64 t275)∧w'.cell? ⟨gb285,1,none⟩=some (.int .i64 t276)∧w'.cell? ⟨gb285,2,none⟩=some (.int .i64 t277)∧w'.cell? ⟨gb285,3,none⟩=some (.int .i64 t278)∧w'.cell? ⟨gb285,4,none⟩=some (.slice Ao17 t279.length co17)∧w'.cell? ⟨gb285,5,none⟩=some (.slice Ao18 t282.length co18))∧(Kd.R (Kd.int .i64) 3 w' w.heap.size (fun k_=>some k_≠(.slice Ao18 t282.length co18:Value).ownBlock∧some k_≠(s_.1:Value).ownBlock) (.slice Ao17 t279.length co17) t279)∧(Kd.R (Kd.int .i64) 3 w' w.heap.size (fun k_=>some k_≠(.slice Ao17 t279.length co17:Value).ownBlock∧some k_≠(s_.1:Value).ownBlock) (.slice Ao18 t282.length co18) t282)∧(Kd.R (Kd.int .i64) 3 w' w.heap.size (fun k_=>some k_≠(.slice Ao17 t279.length co17:Value).ownBlock∧some k_≠(.slice Ao18 t282.length co18:Value).ownBlock) s_.1 y311)∧(∃ c_,(s_.1:Value)=.slice (some s_.2) y311.length c_)∧(w'.heap[gb273]?=some (.cells #[.int .i64 a1_0,.int .i64 a1_1,.int .i64 a1_2,.int .i64 a1_3,.slice A1_4 l1_4.length c1_4,.slice A1_5 l1_5.length c1_5] 27 (0,0)))∧(w'.heap[gb274]?=some (.cells #[.int .i64 0,.int .i64 0,.int .i64 0,.int .i64 0,.slice none 0 0,.slice none 0 0] 27 (0,0)))∧(w'.heap[gb285]?=some (.cells #[.int .i64 t275,.int .i64 t276,.int .i64 t277,.int .i64 t278,.slice Ao17 t279.length co17,.slice Ao18 t282.length co18] 27 (0,0)))∧(IsS65 w0 w' g s0_0 t315)∧(KeepBut w w' g none)∧(Below w0.heap.size w0 w')) ?_ ?_
          rotate_left
          ·intro hCont
           refine two_ (i:=6) (j:=7) (Ni:=some 57) (Nj:=some 58) #[true,true,true,true,true,true,true,false,true,false,false,false,false,false] #[true,true,true,true,true,true,false,true,true,false,false,false,false,false] rfl rfl rfl rfl (two_of HT_.out (by kernel_rfl)) (by decide) (by decide) (fun K hK=>?_) (fun K hK=>?_)
           ·skip
            refine goes_ Try.func68 (by kernel_rfl) rfl #[.pointer (some ⟨g,0,none⟩),.int .i64 (t282.length:Int)] (by rfl) rfl rfl (by (try simp only [List.map_toArray,List.map_cons,List.map_nil]);first|done|rfl|(simp only [List.length_drop,List.length_take];rfl)) ?_
            with_reducible refine (spec_l1Rd_pick.calls k g s0_0 t287 (t282.length:Int) t309 t310 w0 _ ?side1 ?side2 A84.out).mono ?_
            (case side1=>repeat (first|(with_reducible first|exact HI0.out|apply IsS65.alloc|apply IsS65.drewN|apply IsS65.drew|apply IsS65.set_1|refine IsS65.far ?_ NB0_273.out _|refine IsS65.far ?_ NB0_274.out _|refine IsS65.far ?_ NB0_285.out _)|exact HI0.out))
            (case side2=>repeat (first|(with_reducible first|exact HB.out|apply wA_|apply wN_|apply wD_|refine below_set ?_ (IsS65.ge HI0.out)|refine below_set ?_ GE273.out|refine below_set ?_ GE274.out|refine below_set ?_ GE285.out)|exact HB.out))
            rintro e w92 ⟨rfl,hi,hb,hk⟩
            refine ⟨_,rfl,?_⟩
            have n0_:=aM_ (KeepBut.blk hk (g':=gb273) (o:=.cells #[.int .i64 a1_0,.int .i64 a1_1,.int .i64 a1_2,.int .i64 a1_3,.slice A1_4 l1_4.length c1_4,.slice A1_5 l1_5.length c1_5] 27 (0,0)) (by (with_reducible repeat (first|apply kN_|apply kD_|apply kA_));exact BK273.out) NB273_0.out (by simp))
            have n1_:=aM_ (KeepBut.blk hk (g':=gb274) (o:=.cells #[.int .i64 0,.int .i64 0,.int .i64 0,.int .i64 0,.slice none 0 0,.slice none 0 0] 27 (0,0)) (by (with_reducible repeat (first|apply kN_|apply kD_|apply kA_));exact BK274.out) NB274_0.out (by simp))
            have n2_:=aM_ (Kd.R_mono (Kd.R_keep (IsS65.apart (show IsS65 w0 _ g s0_0 t287 from by repeat (first|(with_reducible first|exact HI0.out|apply IsS65.alloc|apply IsS65.drewN|apply IsS65.drew|apply IsS65.set_1|refine IsS65.far ?_ NB0_273.out _|refine IsS65.far ?_ NB0_274.out _|refine IsS65.far ?_ NB0_285.out _)|exact HI0.out)) (by (with_reducible repeat (first|apply rA_|apply rN_|apply rD_));exact HO281.out) (by decide)) hk (fun _ h=>h.2)) (fun _ h=>h.1))
            have n3_:=aM_ (Kd.R_mono (Kd.R_keep (IsS65.apart (show IsS65 w0 _ g s0_0 t287 from by repeat (first|(with_reducible first|exact HI0.out|apply IsS65.alloc|apply IsS65.drewN|apply IsS65.drew|apply IsS65.set_1|refine IsS65.far ?_ NB0_273.out _|refine IsS65.far ?_ NB0_274.out _|refine IsS65.far ?_ NB0_285.out _)|exact HI0.out)) (by (with_reducible repeat (first|apply rA_|apply rN_|apply rD_));exact HO284.out) (by decide)) hk (fun _ h=>h.2)) (fun _ h=>h.1))
            have n4_:=aM_ (KeepBut.blk hk (g':=gb285) (o:=.cells #[.int .i64 t275,.int .i64 t276,.int .i64 t277,.int .i64 t278,.slice Ao17 t279.length co17,.slice Ao18 t282.length co18] 27 (0,0)) (by (with_reducible repeat (first|apply kN_|apply kD_|apply kA_));exact BK285.out) NB285_0.out (by simp))
            have n5_:=aM_ (KeepBut.trans (by repeat (first|(with_reducible first|exact HK.out|apply pS_|apply pN_|apply pD_|apply pA_|refine keep_far ?_ GW273.out _|refine keep_far ?_ GW274.out _|refine keep_far ?_ GW285.out _)|exact HK.out)) hk (.inl rfl))
            have n6_:=aM_ (hb)
            have n7_:=aM_ (hi)
            clear BK273
            clear BK274
            clear HO281
            clear HO284
            clear BK285
            clear HK
            clear HB
            clear HI0
            have BK273:=n0_
            have BK274:=n1_
            have HO281:=n2_
            have HO284:=n3_
            have BK285:=n4_
            have HK:=n5_
            have HB:=n6_
            have HI0:=n7_
            clear n0_ n1_ n2_ n3_ n4_ n5_ n6_ n7_
            (try clear hb)
            (try clear hb2)
            (try clear hk)
            (try clear hi)
            refine hK.out _ _ (bc6 BK285.out) (fun hHeld=>?_)
            clear hK K
            refine norm_ (a':=?_) ?_ ?_
            rotate_left
            ·show Act.put _ (some 57) _=_
             simp only [Act.put,sA_,s0_,s1_,i64_w,i32_w]
             rfl
            refine two_ (i:=7) (j:=9) (Ni:=some 58) (Nj:=some 60) #[true,true,true,true,true,true,true,true,true,false,false,false,false,false] #[true,true,true,true,true,true,true,false,true,true,false,false,false,false] rfl rfl rfl rfl (two_of HT_.out (by kernel_rfl)) (by decide) (by decide) (fun K hK=>?_) (fun K hK=>?_)
            ·skip
             refine Kd.R_lit_step (Kd.int .i64) _ 3 ?hg (N:=58) ?hd (xs:=([(-1),4294967296]:List Int)) (inner:=[.int .i64 (-1),.int .i64 4294967296]) (ok:=fun _=>True) (okp:=fun _=>True) ?hr ?hp (fun _ hk=>hk) trivial (Below.refl _ _) (Nat.le_refl _) (by simp) ?_;(case hd=>rfl);(case hg=>rfl);(case hr=>first|(go_simp;done)|(go_simp;rfl));(case hp=>exact (Reps.one (show Kd.M (Kd.int .i64) _ _ _ (-1) [.int .i64 (-1)] from rfl) (Reps.one (show Kd.M (Kd.int .i64) _ _ _ 4294967296 [.int .i64 4294967296] from rfl) (Reps.none _ _))))
             intro v312 w93 ho94 hb hg_ hnew_
             clear hg_ hnew_
             (first|rw [← Ny311.out] at ho94|(simp only [Int.reduceToNat] at ho94;rw [← Ny311.out] at ho94))
             have n0_:=aM_ (Kd.R_elder' (by (with_reducible repeat (first|apply rA_|apply rN_|apply rD_));exact HO281.out) (Kd.R_base ho94) hb)
             have n1_:=aM_ (Kd.R_elder' (by (with_reducible repeat (first|apply rA_|apply rN_|apply rD_));exact HO284.out) (Kd.R_base ho94) hb)
             have n2_:=aM_ (Kd.R_lower (Kd.R_new' (Kd.R_new' ho94 (Kd.R_lt (by (with_reducible repeat (first|apply rA_|apply rN_|apply rD_));exact HO281.out))) (Kd.R_lt (by (with_reducible repeat (first|apply rA_|apply rN_|apply rD_));exact HO284.out))) (keep_size (w:=w) (g:=g) (row:=none) (by repeat (first|(with_reducible first|exact HK.out|apply pS_|apply pN_|apply pD_|apply pA_|refine keep_far ?_ GW273.out _|refine keep_far ?_ GW274.out _|refine keep_far ?_ GW285.out _)|exact HK.out))))
             have n3_:=aM_ (IsS65.below (by repeat (first|(with_reducible first|exact HI0.out|apply IsS65.alloc|apply IsS65.drewN|apply IsS65.drew|apply IsS65.set_1|refine IsS65.far ?_ NB0_273.out _|refine IsS65.far ?_ NB0_274.out _|refine IsS65.far ?_ NB0_285.out _)|exact HI0.out)) hb)
             have n4_:=aM_ (blk_below (g:=gb273) (by (with_reducible repeat (first|apply kN_|apply kD_|apply kA_));exact BK273.out) hb)
             have n5_:=aM_ (blk_below (g:=gb274) (by (with_reducible repeat (first|apply kN_|apply kD_|apply kA_));exact BK274.out) hb)
             have n6_:=aM_ (blk_below (g:=gb285) (by (with_reducible repeat (first|apply kN_|apply kD_|apply kA_));exact BK285.out) hb)
             have n7_:=aM_ (KeepBut.trans (by repeat (first|(with_reducible first|exact HK.out|apply pS_|apply pN_|apply pD_|apply pA_|refine keep_far ?_ GW273.out _|refine keep_far ?_ GW274.out _|refine keep_far ?_ GW285.out _)|exact HK.out)) (KeepBut.of_below hb g none) (.inl rfl))
             have n8_:=aM_ (below_step (by repeat (first|(with_reducible first|exact HB.out|apply wA_|apply wN_|apply wD_|refine below_set ?_ (IsS65.ge HI0.out)|refine below_set ?_ GE273.out|refine below_set ?_ GE274.out|refine below_set ?_ GE285.out)|exact HB.out)) hb)
             clear HO281
             clear HO284
             clear HI0
             clear BK273
             clear BK274
             clear BK285
             clear HK
             clear HB
             have HO281:=n0_
             have HO284:=n1_
             have HO313:=n2_
             have HI0:=n3_
             have BK273:=n4_
             have BK274:=n5_
             have BK285:=n6_
             have HK:=n7_
             have HB:=n8_
             clear n0_ n1_ n2_ n3_ n4_ n5_ n6_ n7_ n8_
             clear hb ho94
             obtain ⟨Ao95,co95,eo95⟩:=Kd.R_slice HO313.out
             subst eo95
             obtain ⟨ado95,fo95,_⟩:=Kd.at_int (Kd.R_reads' HO313.out).2.2 0 (by decide) (by rw [Ny311.out];simp)
             cases fo95
             refine hK.out _ _ (bc6 BK285.out) (fun hHeld=>?_)
             clear hK K
             refine norm_ (a':=?_) ?_ ?_
             rotate_left
             ·show Act.put _ (some 58) _=_
              simp only [Act.put,sA_,s0_,s1_,i64_w,i32_w]
              rfl
             refine one_ (i:=9) (N:=some 60) #[true,true,true,true,true,true,true,true,true,true,false,false,false,false] rfl rfl (one_of HT_.out (by kernel_rfl)) (by decide) (fun K hK=>?_)
             refine goes_ Try.func68 (by kernel_rfl) rfl #[.pointer (some ⟨g,0,none⟩),.int .i64 2] (by rfl) rfl rfl (by (try simp only [List.map_toArray,List.map_cons,List.map_nil]);first|done|rfl|(simp only [List.length_drop,List.length_take];rfl)) ?_
             with_reducible refine (spec_l1Rd_pick.calls k g s0_0 t310 2 t314 t315 w0 _ ?side1 ?side2 A85.out).mono ?_
             (case side1=>repeat (first|(with_reducible first|exact HI0.out|apply IsS65.alloc|apply IsS65.drewN|apply IsS65.drew|apply IsS65.set_1|refine IsS65.far ?_ NB0_273.out _|refine IsS65.far ?_ NB0_274.out _|refine IsS65.far ?_ NB0_285.out _)|exact HI0.out))
             (case side2=>repeat (first|(with_reducible first|exact HB.out|apply wA_|apply wN_|apply wD_|refine below_set ?_ (IsS65.ge HI0.out)|refine below_set ?_ GE273.out|refine below_set ?_ GE274.out|refine below_set ?_ GE285.out)|exact HB.out))
             rintro e w96 ⟨rfl,hi,hb,hk⟩
             refine ⟨_,rfl,?_⟩
             have n0_:=aM_ (KeepBut.blk hk (g':=gb273) (o:=.cells #[.int .i64 a1_0,.int .i64 a1_1,.int .i64 a1_2,.int .i64 a1_3,.slice A1_4 l1_4.length c1_4,.slice A1_5 l1_5.length c1_5] 27 (0,0)) (by (with_reducible repeat (first|apply kN_|apply kD_|apply kA_));exact BK273.out) NB273_0.out (by simp))
             have n1_:=aM_ (KeepBut.blk hk (g':=gb274) (o:=.cells #[.int .i64 0,.int .i64 0,.int .i64 0,.int .i64 0,.slice none 0 0,.slice none 0 0] 27 (0,0)) (by (with_reducible repeat (first|apply kN_|apply kD_|apply kA_));exact BK274.out) NB274_0.out (by simp))
             have n2_:=aM_ (Kd.R_mono (Kd.R_keep (IsS65.apart (show IsS65 w0 _ g s0_0 t310 from by repeat (first|(with_reducible first|exact HI0.out|apply IsS65.alloc|apply IsS65.drewN|apply IsS65.drew|apply IsS65.set_1|refine IsS65.far ?_ NB0_273.out _|refine IsS65.far ?_ NB0_274.out _|refine IsS65.far ?_ NB0_285.out _)|exact HI0.out)) (by (with_reducible repeat (first|apply rA_|apply rN_|apply rD_));exact HO281.out) (by decide)) hk (fun _ h=>h.2)) (fun _ h=>h.1))
             have n3_:=aM_ (Kd.R_mono (Kd.R_keep (IsS65.apart (show IsS65 w0 _ g s0_0 t310 from by repeat (first|(with_reducible first|exact HI0.out|apply IsS65.alloc|apply IsS65.drewN|apply IsS65.drew|apply IsS65.set_1|refine IsS65.far ?_ NB0_273.out _|refine IsS65.far ?_ NB0_274.out _|refine IsS65.far ?_ NB0_285.out _)|exact HI0.out)) (by (with_reducible repeat (first|apply rA_|apply rN_|apply rD_));exact HO284.out) (by decide)) hk (fun _ h=>h.2)) (fun _ h=>h.1))
             have n4_:=aM_ (KeepBut.blk hk (g':=gb285) (o:=.cells #[.int .i64 t275,.int .i64 t276,.int .i64 t277,.int .i64 t278,.slice Ao17 t279.length co17,.slice Ao18 t282.length co18] 27 (0,0)) (by (with_reducible repeat (first|apply kN_|apply kD_|apply kA_));exact BK285.out) NB285_0.out (by simp))
             have n5_:=aM_ (Kd.R_mono (Kd.R_keep (IsS65.apart (show IsS65 w0 _ g s0_0 t310 from by repeat (first|(with_reducible first|exact HI0.out|apply IsS65.alloc|apply IsS65.drewN|apply IsS65.drew|apply IsS65.set_1|refine IsS65.far ?_ NB0_273.out _|refine IsS65.far ?_ NB0_274.out _|refine IsS65.far ?_ NB0_285.out _)|exact HI0.out)) (by (with_reducible repeat (first|apply rA_|apply rN_|apply rD_));exact HO313.out) (by decide)) hk (fun _ h=>h.2)) (fun _ h=>h.1))
             have n6_:=aM_ (KeepBut.trans (by repeat (first|(with_reducible first|exact HK.out|apply pS_|apply pN_|apply pD_|apply pA_|refine keep_far ?_ GW273.out _|refine keep_far ?_ GW274.out _|refine keep_far ?_ GW285.out _)|exact HK.out)) hk (.inl rfl))
             have n7_:=aM_ (hb)
             have n8_:=aM_ (hi)
             clear BK273
             clear BK274
             clear HO281
             clear HO284
             clear BK285
             clear HO313
             clear HK
             clear HB
             clear HI0
             have BK273:=n0_
             have BK274:=n1_
             have HO281:=n2_
             have HO284:=n3_
             have BK285:=n4_
             have HO313:=n5_
             have HK:=n6_
             have HB:=n7_
             have HI0:=n8_
             clear n0_ n1_ n2_ n3_ n4_ n5_ n6_ n7_ n8_
             (try clear hb)
             (try clear hb2)
             (try clear hk)
             (try clear hi)
             refine hK.out _ _ (bc6 BK285.out) (fun hHeld=>?_)
             clear hK K
             refine norm_ (a':=?_) ?_ ?_
             rotate_left
             ·show Act.put _ (some 60) _=_
              simp only [Act.put,sA_,s0_,s1_,i64_w,i32_w]
              rfl
             exact norm_ (by simp only [putAll,Act.put,sA_,s0_,s1_]) (hCont (.slice (some ado95) y311.length co95,ado95) _ ⟨hHeld,(by (with_reducible repeat (first|apply rA_|apply rN_|apply rD_));exact HO281.out),(by (with_reducible repeat (first|apply rA_|apply rN_|apply rD_));exact HO284.out),(by (with_reducible repeat (first|apply rA_|apply rN_|apply rD_));exact Kd.R_mono HO313.out (fun _ hk=>⟨hk.1.2,hk.2⟩)),⟨_,rfl⟩,(by (with_reducible repeat (first|apply kN_|apply kD_|apply kA_));exact BK273.out),(by (with_reducible repeat (first|apply kN_|apply kD_|apply kA_));exact BK274.out),(by (with_reducible repeat (first|apply kN_|apply kD_|apply kA_));exact BK285.out),(by repeat (first|(with_reducible first|exact HI0.out|apply IsS65.alloc|apply IsS65.drewN|apply IsS65.drew|apply IsS65.set_1|refine IsS65.far ?_ NB0_273.out _|refine IsS65.far ?_ NB0_274.out _|refine IsS65.far ?_ NB0_285.out _)|exact HI0.out)),(by repeat (first|(with_reducible first|exact HK.out|apply pS_|apply pN_|apply pD_|apply pA_|refine keep_far ?_ GW273.out _|refine keep_far ?_ GW274.out _|refine keep_far ?_ GW285.out _)|exact HK.out)),(by repeat (first|(with_reducible first|exact HB.out|apply wA_|apply wN_|apply wD_|refine below_set ?_ (IsS65.ge HI0.out)|refine below_set ?_ GE273.out|refine below_set ?_ GE274.out|refine below_set ?_ GE285.out)|exact HB.out))⟩)
            ·skip
             refine goes_ Try.func68 (by kernel_rfl) rfl #[.pointer (some ⟨g,0,none⟩),.int .i64 2] (by rfl) rfl rfl (by (try simp only [List.map_toArray,List.map_cons,List.map_nil]);first|done|rfl|(simp only [List.length_drop,List.length_take];rfl)) ?_
             with_reducible refine (spec_l1Rd_pick.calls k g s0_0 t310 2 t314 t315 w0 _ ?side1 ?side2 A85.out).mono ?_
             (case side1=>repeat (first|(with_reducible first|exact HI0.out|apply IsS65.alloc|apply IsS65.drewN|apply IsS65.drew|apply IsS65.set_1|refine IsS65.far ?_ NB0_273.out _|refine IsS65.far ?_ NB0_274.out _|refine IsS65.far ?_ NB0_285.out _)|exact HI0.out))
             (case side2=>repeat (first|(with_reducible first|exact HB.out|apply wA_|apply wN_|apply wD_|refine below_set ?_ (IsS65.ge HI0.out)|refine below_set ?_ GE273.out|refine below_set ?_ GE274.out|refine below_set ?_ GE285.out)|exact HB.out))
             rintro e w93 ⟨rfl,hi,hb,hk⟩
             refine ⟨_,rfl,?_⟩
             have n0_:=aM_ (KeepBut.blk hk (g':=gb273) (o:=.cells #[.int .i64 a1_0,.int .i64 a1_1,.int .i64 a1_2,.int .i64 a1_3,.slice A1_4 l1_4.length c1_4,.slice A1_5 l1_5.length c1_5] 27 (0,0)) (by (with_reducible repeat (first|apply kN_|apply kD_|apply kA_));exact BK273.out) NB273_0.out (by simp))
             have n1_:=aM_ (KeepBut.blk hk (g':=gb274) (o:=.cells #[.int .i64 0,.int .i64 0,.int .i64 0,.int .i64 0,.slice none 0 0,.slice none 0 0] 27 (0,0)) (by (with_reducible repeat (first|apply kN_|apply kD_|apply kA_));exact BK274.out) NB274_0.out (by simp))
             have n2_:=aM_ (Kd.R_mono (Kd.R_keep (IsS65.apart (show IsS65 w0 _ g s0_0 t310 from by repeat (first|(with_reducible first|exact HI0.out|apply IsS65.alloc|apply IsS65.drewN|apply IsS65.drew|apply IsS65.set_1|refine IsS65.far ?_ NB0_273.out _|refine IsS65.far ?_ NB0_274.out _|refine IsS65.far ?_ NB0_285.out _)|exact HI0.out)) (by (with_reducible repeat (first|apply rA_|apply rN_|apply rD_));exact HO281.out) (by decide)) hk (fun _ h=>h.2)) (fun _ h=>h.1))
             have n3_:=aM_ (Kd.R_mono (Kd.R_keep (IsS65.apart (show IsS65 w0 _ g s0_0 t310 from by repeat (first|(with_reducible first|exact HI0.out|apply IsS65.alloc|apply IsS65.drewN|apply IsS65.drew|apply IsS65.set_1|refine IsS65.far ?_ NB0_273.out _|refine IsS65.far ?_ NB0_274.out _|refine IsS65.far ?_ NB0_285.out _)|exact HI0.out)) (by (with_reducible repeat (first|apply rA_|apply rN_|apply rD_));exact HO284.out) (by decide)) hk (fun _ h=>h.2)) (fun _ h=>h.1))
             have n4_:=aM_ (KeepBut.blk hk (g':=gb285) (o:=.cells #[.int .i64 t275,.int .i64 t276,.int .i64 t277,.int .i64 t278,.slice Ao17 t279.length co17,.slice Ao18 t282.length co18] 27 (0,0)) (by (with_reducible repeat (first|apply kN_|apply kD_|apply kA_));exact BK285.out) NB285_0.out (by simp))
             have n5_:=aM_ (KeepBut.trans (by repeat (first|(with_reducible first|exact HK.out|apply pS_|apply pN_|apply pD_|apply pA_|refine keep_far ?_ GW273.out _|refine keep_far ?_ GW274.out _|refine keep_far ?_ GW285.out _)|exact HK.out)) hk (.inl rfl))
             have n6_:=aM_ (hb)
             have n7_:=aM_ (hi)
             clear BK273
             clear BK274
             clear HO281
             clear HO284
             clear BK285
             clear HK
             clear HB
             clear HI0
             have BK273:=n0_
             have BK274:=n1_
             have HO281:=n2_
             have HO284:=n3_
             have BK285:=n4_
             have HK:=n5_
             have HB:=n6_
             have HI0:=n7_
             clear n0_ n1_ n2_ n3_ n4_ n5_ n6_ n7_
             (try clear hb)
             (try clear hb2)
             (try clear hk)
             (try clear hi)
             refine hK.out _ _ (bc6 BK285.out) (fun hHeld=>?_)
             clear hK K
             refine norm_ (a':=?_) ?_ ?_
             rotate_left
             ·show Act.put _ (some 60) _=_
              simp only [Act.put,sA_,s0_,s1_,i64_w,i32_w]
              rfl
             refine one_ (i:=7) (N:=some 58) #[true,true,true,true,true,true,true,true,true,true,false,false,false,false] rfl rfl (one_of HT_.out (by kernel_rfl)) (by decide) (fun K hK=>?_)
             refine Kd.R_lit_step (Kd.int .i64) _ 3 ?hg (N:=58) ?hd (xs:=([(-1),4294967296]:List Int)) (inner:=[.int .i64 (-1),.int .i64 4294967296]) (ok:=fun _=>True) (okp:=fun _=>True) ?hr ?hp (fun _ hk=>hk) trivial (Below.refl _ _) (Nat.le_refl _) (by simp) ?_;(case hd=>rfl);(case hg=>rfl);(case hr=>first|(go_simp;done)|(go_simp;rfl));(case hp=>exact (Reps.one (show Kd.M (Kd.int .i64) _ _ _ (-1) [.int .i64 (-1)] from rfl) (Reps.one (show Kd.M (Kd.int .i64) _ _ _ 4294967296 [.int .i64 4294967296] from rfl) (Reps.none _ _))))
             intro v312 w94 ho95 hb hg_ hnew_
             clear hg_ hnew_
             (first|rw [← Ny311.out] at ho95|(simp only [Int.reduceToNat] at ho95;rw [← Ny311.out] at ho95))
             have n0_:=aM_ (Kd.R_elder' (by (with_reducible repeat (first|apply rA_|apply rN_|apply rD_));exact HO281.out) (Kd.R_base ho95) hb)
             have n1_:=aM_ (Kd.R_elder' (by (with_reducible repeat (first|apply rA_|apply rN_|apply rD_));exact HO284.out) (Kd.R_base ho95) hb)
             have n2_:=aM_ (Kd.R_lower (Kd.R_new' (Kd.R_new' ho95 (Kd.R_lt (by (with_reducible repeat (first|apply rA_|apply rN_|apply rD_));exact HO281.out))) (Kd.R_lt (by (with_reducible repeat (first|apply rA_|apply rN_|apply rD_));exact HO284.out))) (keep_size (w:=w) (g:=g) (row:=none) (by repeat (first|(with_reducible first|exact HK.out|apply pS_|apply pN_|apply pD_|apply pA_|refine keep_far ?_ GW273.out _|refine keep_far ?_ GW274.out _|refine keep_far ?_ GW285.out _)|exact HK.out))))
             have n3_:=aM_ (IsS65.below (by repeat (first|(with_reducible first|exact HI0.out|apply IsS65.alloc|apply IsS65.drewN|apply IsS65.drew|apply IsS65.set_1|refine IsS65.far ?_ NB0_273.out _|refine IsS65.far ?_ NB0_274.out _|refine IsS65.far ?_ NB0_285.out _)|exact HI0.out)) hb)
             have n4_:=aM_ (blk_below (g:=gb273) (by (with_reducible repeat (first|apply kN_|apply kD_|apply kA_));exact BK273.out) hb)
             have n5_:=aM_ (blk_below (g:=gb274) (by (with_reducible repeat (first|apply kN_|apply kD_|apply kA_));exact BK274.out) hb)
             have n6_:=aM_ (blk_below (g:=gb285) (by (with_reducible repeat (first|apply kN_|apply kD_|apply kA_));exact BK285.out) hb)
             have n7_:=aM_ (KeepBut.trans (by repeat (first|(with_reducible first|exact HK.out|apply pS_|apply pN_|apply pD_|apply pA_|refine keep_far ?_ GW273.out _|refine keep_far ?_ GW274.out _|refine keep_far ?_ GW285.out _)|exact HK.out)) (KeepBut.of_below hb g none) (.inl rfl))
             have n8_:=aM_ (below_step (by repeat (first|(with_reducible first|exact HB.out|apply wA_|apply wN_|apply wD_|refine below_set ?_ (IsS65.ge HI0.out)|refine below_set ?_ GE273.out|refine below_set ?_ GE274.out|refine below_set ?_ GE285.out)|exact HB.out)) hb)
             clear HO281
             clear HO284
             clear HI0
             clear BK273
             clear BK274
             clear BK285
             clear HK
             clear HB
             have HO281:=n0_
             have HO284:=n1_
             have HO313:=n2_
             have HI0:=n3_
             have BK273:=n4_
             have BK274:=n5_
             have BK285:=n6_
             have HK:=n7_
             have HB:=n8_
             clear n0_ n1_ n2_ n3_ n4_ n5_ n6_ n7_ n8_
             clear hb ho95
             obtain ⟨Ao96,co96,eo96⟩:=Kd.R_slice HO313.out
             subst eo96
             obtain ⟨ado96,fo96,_⟩:=Kd.at_int (Kd.R_reads' HO313.out).2.2 0 (by decide) (by rw [Ny311.out];simp)
             cases fo96
             refine hK.out _ _ (bc6 BK285.out) (fun hHeld=>?_)
             clear hK K
             refine norm_ (a':=?_) ?_ ?_
             rotate_left
             ·show Act.put _ (some 58) _=_
              simp only [Act.put,sA_,s0_,s1_,i64_w,i32_w]
              rfl
             exact norm_ (by simp only [putAll,Act.put,sA_,s0_,s1_]) (hCont (.slice (some ado96) y311.length co96,ado96) _ ⟨hHeld,(by (with_reducible repeat (first|apply rA_|apply rN_|apply rD_));exact HO281.out),(by (with_reducible repeat (first|apply rA_|apply rN_|apply rD_));exact HO284.out),(by (with_reducible repeat (first|apply rA_|apply rN_|apply rD_));exact Kd.R_mono HO313.out (fun _ hk=>⟨hk.1.2,hk.2⟩)),⟨_,rfl⟩,(by (with_reducible repeat (first|apply kN_|apply kD_|apply kA_));exact BK273.out),(by (with_reducible repeat (first|apply kN_|apply kD_|apply kA_));exact BK274.out),(by (with_reducible repeat (first|apply kN_|apply kD_|apply kA_));exact BK285.out),(by repeat (first|(with_reducible first|exact HI0.out|apply IsS65.alloc|apply IsS65.drewN|apply IsS65.drew|apply IsS65.set_1|refine IsS65.far ?_ NB0_273.out _|refine IsS65.far ?_ NB0_274.out _|refine IsS65.far ?_ NB0_285.out _)|exact HI0.out)),(by repeat (first|(with_reducible first|exact HK.out|apply pS_|apply pN_|apply pD_|apply pA_|refine keep_far ?_ GW273.out _|refine keep_far ?_ GW274.out _|refine keep_far ?_ GW285.out _)|exact HK.out)),(by repeat (first|(with_reducible first|exact HB.out|apply wA_|apply wN_|apply wD_|refine below_set ?_ (IsS65.ge HI0.out)|refine below_set ?_ GE273.out|refine below_set ?_ GE274.out|refine below_set ?_ GE285.out)|exact HB.out))⟩)
           ·skip
            refine Kd.R_lit_step (Kd.int .i64) _ 3 ?hg (N:=58) ?hd (xs:=([(-1),4294967296]:List Int)) (inner:=[.int .i64 (-1),.int .i64 4294967296]) (ok:=fun _=>True) (okp:=fun _=>True) ?hr ?hp (fun _ hk=>hk) trivial (Below.refl _ _) (Nat.le_refl _) (by simp) ?_;(case hd=>rfl);(case hg=>rfl);(case hr=>first|(go_simp;done)|(go_simp;rfl));(case hp=>exact (Reps.one (show Kd.M (Kd.int .i64) _ _ _ (-1) [.int .i64 (-1)] from rfl) (Reps.one (show Kd.M (Kd.int .i64) _ _ _ 4294967296 [.int .i64 4294967296] from rfl) (Reps.none _ _))))
            intro v312 w92 ho93 hb hg_ hnew_
            clear hg_ hnew_
            (first|rw [← Ny311.out] at ho93|(simp only [Int.reduceToNat] at ho93;rw [← Ny311.out] at ho93))
            have n0_:=aM_ (Kd.R_elder' (by (with_reducible repeat (first|apply rA_|apply rN_|apply rD_));exact HO281.out) (Kd.R_base ho93) hb)
            have n1_:=aM_ (Kd.R_elder' (by (with_reducible repeat (first|apply rA_|apply rN_|apply rD_));exact HO284.out) (Kd.R_base ho93) hb)
            have n2_:=aM_ (Kd.R_lower (Kd.R_new' (Kd.R_new' ho93 (Kd.R_lt (by (with_reducible repeat (first|apply rA_|apply rN_|apply rD_));exact HO281.out))) (Kd.R_lt (by (with_reducible repeat (first|apply rA_|apply rN_|apply rD_));exact HO284.out))) (keep_size (w:=w) (g:=g) (row:=none) (by repeat (first|(with_reducible first|exact HK.out|apply pS_|apply pN_|apply pD_|apply pA_|refine keep_far ?_ GW273.out _|refine keep_far ?_ GW274.out _|refine keep_far ?_ GW285.out _)|exact HK.out))))
            have n3_:=aM_ (IsS65.below (by repeat (first|(with_reducible first|exact HI0.out|apply IsS65.alloc|apply IsS65.drewN|apply IsS65.drew|apply IsS65.set_1|refine IsS65.far ?_ NB0_273.out _|refine IsS65.far ?_ NB0_274.out _|refine IsS65.far ?_ NB0_285.out _)|exact HI0.out)) hb)
            have n4_:=aM_ (blk_below (g:=gb273) (by (with_reducible repeat (first|apply kN_|apply kD_|apply kA_));exact BK273.out) hb)
            have n5_:=aM_ (blk_below (g:=gb274) (by (with_reducible repeat (first|apply kN_|apply kD_|apply kA_));exact BK274.out) hb)
            have n6_:=aM_ (blk_below (g:=gb285) (by (with_reducible repeat (first|apply kN_|apply kD_|apply kA_));exact BK285.out) hb)
            have n7_:=aM_ (KeepBut.trans (by repeat (first|(with_reducible first|exact HK.out|apply pS_|apply pN_|apply pD_|apply pA_|refine keep_far ?_ GW273.out _|refine keep_far ?_ GW274.out _|refine keep_far ?_ GW285.out _)|exact HK.out)) (KeepBut.of_below hb g none) (.inl rfl))
            have n8_:=aM_ (below_step (by repeat (first|(with_reducible first|exact HB.out|apply wA_|apply wN_|apply wD_|refine below_set ?_ (IsS65.ge HI0.out)|refine below_set ?_ GE273.out|refine below_set ?_ GE274.out|refine below_set ?_ GE285.out)|exact HB.out)) hb)
            clear HO281
            clear HO284
            clear HI0
            clear BK273
            clear BK274
            clear BK285
            clear HK
            clear HB
            have HO281:=n0_
            have HO284:=n1_
            have HO313:=n2_
            have HI0:=n3_
            have BK273:=n4_
            have BK274:=n5_
            have BK285:=n6_
            have HK:=n7_
            have HB:=n8_
            clear n0_ n1_ n2_ n3_ n4_ n5_ n6_ n7_ n8_
            clear hb ho93
            obtain ⟨Ao94,co94,eo94⟩:=Kd.R_slice HO313.out
            subst eo94
            obtain ⟨ado94,fo94,_⟩:=Kd.at_int (Kd.R_reads' HO313.out).2.2 0 (by decide) (by rw [Ny311.out];simp)
            cases fo94
            refine hK.out _ _ (bc6 BK285.out) (fun hHeld=>?_)
            clear hK K
            refine norm_ (a':=?_) ?_ ?_
            rotate_left
            ·show Act.put _ (some 58) _=_
             simp only [Act.put,sA_,s0_,s1_,i64_w,i32_w]
             rfl
            refine one_ (i:=6) (N:=some 57) #[true,true,true,true,true,true,true,true,true,false,false,false,false,false] rfl rfl (one_of HT_.out (by kernel_rfl)) (by decide) (fun K hK=>?_)
            refine goes_ Try.func68 (by kernel_rfl) rfl #[.pointer (some ⟨g,0,none⟩),.int .i64 (t282.length:Int)] (by rfl) rfl rfl (by (try simp only [List.map_toArray,List.map_cons,List.map_nil]);first|done|rfl|(simp only [List.length_drop,List.length_take];rfl)) ?_
            with_reducible refine (spec_l1Rd_pick.calls k g s0_0 t287 (t282.length:Int) t309 t310 w0 _ ?side1 ?side2 A84.out).mono ?_
            (case side1=>repeat (first|(with_reducible first|exact HI0.out|apply IsS65.alloc|apply IsS65.drewN|apply IsS65.drew|apply IsS65.set_1|refine IsS65.far ?_ NB0_273.out _|refine IsS65.far ?_ NB0_274.out _|refine IsS65.far ?_ NB0_285.out _)|exact HI0.out))
            (case side2=>repeat (first|(with_reducible first|exact HB.out|apply wA_|apply wN_|apply wD_|refine below_set ?_ (IsS65.ge HI0.out)|refine below_set ?_ GE273.out|refine below_set ?_ GE274.out|refine below_set ?_ GE285.out)|exact HB.out))
            rintro e w95 ⟨rfl,hi,hb,hk⟩
            refine ⟨_,rfl,?_⟩
            have n0_:=aM_ (KeepBut.blk hk (g':=gb273) (o:=.cells #[.int .i64 a1_0,.int .i64 a1_1,.int .i64 a1_2,.int .i64 a1_3,.slice A1_4 l1_4.length c1_4,.slice A1_5 l1_5.length c1_5] 27 (0,0)) (by (with_reducible repeat (first|apply kN_|apply kD_|apply kA_));exact BK273.out) NB273_0.out (by simp))
            have n1_:=aM_ (KeepBut.blk hk (g':=gb274) (o:=.cells #[.int .i64 0,.int .i64 0,.int .i64 0,.int .i64 0,.slice none 0 0,.slice none 0 0] 27 (0,0)) (by (with_reducible repeat (first|apply kN_|apply kD_|apply kA_));exact BK274.out) NB274_0.out (by simp))
            have n2_:=aM_ (Kd.R_mono (Kd.R_keep (IsS65.apart (show IsS65 w0 _ g s0_0 t287 from by repeat (first|(with_reducible first|exact HI0.out|apply IsS65.alloc|apply IsS65.drewN|apply IsS65.drew|apply IsS65.set_1|refine IsS65.far ?_ NB0_273.out _|refine IsS65.far ?_ NB0_274.out _|refine IsS65.far ?_ NB0_285.out _)|exact HI0.out)) (by (with_reducible repeat (first|apply rA_|apply rN_|apply rD_));exact HO281.out) (by decide)) hk (fun _ h=>h.2)) (fun _ h=>h.1))
            have n3_:=aM_ (Kd.R_mono (Kd.R_keep (IsS65.apart (show IsS65 w0 _ g s0_0 t287 from by repeat (first|(with_reducible first|exact HI0.out|apply IsS65.alloc|apply IsS65.drewN|apply IsS65.drew|apply IsS65.set_1|refine IsS65.far ?_ NB0_273.out _|refine IsS65.far ?_ NB0_274.out _|refine IsS65.far ?_ NB0_285.out _)|exact HI0.out)) (by (with_reducible repeat (first|apply rA_|apply rN_|apply rD_));exact HO284.out) (by decide)) hk (fun _ h=>h.2)) (fun _ h=>h.1))
            have n4_:=aM_ (KeepBut.blk hk (g':=gb285) (o:=.cells #[.int .i64 t275,.int .i64 t276,.int .i64 t277,.int .i64 t278,.slice Ao17 t279.length co17,.slice Ao18 t282.length co18] 27 (0,0)) (by (with_reducible repeat (first|apply kN_|apply kD_|apply kA_));exact BK285.out) NB285_0.out (by simp))
            have n5_:=aM_ (Kd.R_mono (Kd.R_keep (IsS65.apart (show IsS65 w0 _ g s0_0 t287 from by repeat (first|(with_reducible first|exact HI0.out|apply IsS65.alloc|apply IsS65.drewN|apply IsS65.drew|apply IsS65.set_1|refine IsS65.far ?_ NB0_273.out _|refine IsS65.far ?_ NB0_274.out _|refine IsS65.far ?_ NB0_285.out _)|exact HI0.out)) (by (with_reducible repeat (first|apply rA_|apply rN_|apply rD_));exact HO313.out) (by decide)) hk (fun _ h=>h.2)) (fun _ h=>h.1))
            have n6_:=aM_ (KeepBut.trans (by repeat (first|(with_reducible first|exact HK.out|apply pS_|apply pN_|apply pD_|apply pA_|refine keep_far ?_ GW273.out _|refine keep_far ?_ GW274.out _|refine keep_far ?_ GW285.out _)|exact HK.out)) hk (.inl rfl))
            have n7_:=aM_ (hb)
            have n8_:=aM_ (hi)
            clear BK273
            clear BK274
            clear HO281
            clear HO284
            clear BK285
            clear HO313
            clear HK
            clear HB
            clear HI0
            have BK273:=n0_
            have BK274:=n1_
            have HO281:=n2_
            have HO284:=n3_
            have BK285:=n4_
            have HO313:=n5_
            have HK:=n6_
            have HB:=n7_
            have HI0:=n8_
            clear n0_ n1_ n2_ n3_ n4_ n5_ n6_ n7_ n8_
            (try clear hb)
            (try clear hb2)
            (try clear hk)
            (try clear hi)
            refine hK.out _ _ (bc6 BK285.out) (fun hHeld=>?_)
            clear hK K
            refine norm_ (a':=?_) ?_ ?_
            rotate_left
            ·show Act.put _ (some 57) _=_
             simp only [Act.put,sA_,s0_,s1_,i64_w,i32_w]
             rfl
            refine one_ (i:=9) (N:=some 60) #[true,true,true,true,true,true,true,true,true,true,false,false,false,false] rfl rfl (one_of HT_.out (by kernel_rfl)) (by decide) (fun K hK=>?_)
            refine goes_ Try.func68 (by kernel_rfl) rfl #[.pointer (some ⟨g,0,none⟩),.int .i64 2] (by rfl) rfl rfl (by (try simp only [List.map_toArray,List.map_cons,List.map_nil]);first|done|rfl|(simp only [List.length_drop,List.length_take];rfl)) ?_
            with_reducible refine (spec_l1Rd_pick.calls k g s0_0 t310 2 t314 t315 w0 _ ?side1 ?side2 A85.out).mono ?_
            (case side1=>repeat (first|(with_reducible first|exact HI0.out|apply IsS65.alloc|apply IsS65.drewN|apply IsS65.drew|apply IsS65.set_1|refine IsS65.far ?_ NB0_273.out _|refine IsS65.far ?_ NB0_274.out _|refine IsS65.far ?_ NB0_285.out _)|exact HI0.out))
            (case side2=>repeat (first|(with_reducible first|exact HB.out|apply wA_|apply wN_|apply wD_|refine below_set ?_ (IsS65.ge HI0.out)|refine below_set ?_ GE273.out|refine below_set ?_ GE274.out|refine below_set ?_ GE285.out)|exact HB.out))
            rintro e w96 ⟨rfl,hi,hb,hk⟩
            refine ⟨_,rfl,?_⟩
            have n0_:=aM_ (KeepBut.blk hk (g':=gb273) (o:=.cells #[.int .i64 a1_0,.int .i64 a1_1,.int .i64 a1_2,.int .i64 a1_3,.slice A1_4 l1_4.length c1_4,.slice A1_5 l1_5.length c1_5] 27 (0,0)) (by (with_reducible repeat (first|apply kN_|apply kD_|apply kA_));exact BK273.out) NB273_0.out (by simp))
            have n1_:=aM_ (KeepBut.blk hk (g':=gb274) (o:=.cells #[.int .i64 0,.int .i64 0,.int .i64 0,.int .i64 0,.slice none 0 0,.slice none 0 0] 27 (0,0)) (by (with_reducible repeat (first|apply kN_|apply kD_|apply kA_));exact BK274.out) NB274_0.out (by simp))
            have n2_:=aM_ (Kd.R_mono (Kd.R_keep (IsS65.apart (show IsS65 w0 _ g s0_0 t310 from by repeat (first|(with_reducible first|exact HI0.out|apply IsS65.alloc|apply IsS65.drewN|apply IsS65.drew|apply IsS65.set_1|refine IsS65.far ?_ NB0_273.out _|refine IsS65.far ?_ NB0_274.out _|refine IsS65.far ?_ NB0_285.out _)|exact HI0.out)) (by (with_reducible repeat (first|apply rA_|apply rN_|apply rD_));exact HO281.out) (by decide)) hk (fun _ h=>h.2)) (fun _ h=>h.1))
            have n3_:=aM_ (Kd.R_mono (Kd.R_keep (IsS65.apart (show IsS65 w0 _ g s0_0 t310 from by repeat (first|(with_reducible first|exact HI0.out|apply IsS65.alloc|apply IsS65.drewN|apply IsS65.drew|apply IsS65.set_1|refine IsS65.far ?_ NB0_273.out _|refine IsS65.far ?_ NB0_274.out _|refine IsS65.far ?_ NB0_285.out _)|exact HI0.out)) (by (with_reducible repeat (first|apply rA_|apply rN_|apply rD_));exact HO284.out) (by decide)) hk (fun _ h=>h.2)) (fun _ h=>h.1))
            have n4_:=aM_ (KeepBut.blk hk (g':=gb285) (o:=.cells #[.int .i64 t275,.int .i64 t276,.int .i64 t277,.int .i64 t278,.slice Ao17 t279.length co17,.slice Ao18 t282.length co18] 27 (0,0)) (by (with_reducible repeat (first|apply kN_|apply kD_|apply kA_));exact BK285.out) NB285_0.out (by simp))
            have n5_:=aM_ (Kd.R_mono (Kd.R_keep (IsS65.apart (show IsS65 w0 _ g s0_0 t310 from by repeat (first|(with_reducible first|exact HI0.out|apply IsS65.alloc|apply IsS65.drewN|apply IsS65.drew|apply IsS65.set_1|refine IsS65.far ?_ NB0_273.out _|refine IsS65.far ?_ NB0_274.out _|refine IsS65.far ?_ NB0_285.out _)|exact HI0.out)) (by (with_reducible repeat (first|apply rA_|apply rN_|apply rD_));exact HO313.out) (by decide)) hk (fun _ h=>h.2)) (fun _ h=>h.1))
            have n6_:=aM_ (KeepBut.trans (by repeat (first|(with_reducible first|exact HK.out|apply pS_|apply pN_|apply pD_|apply pA_|refine keep_far ?_ GW273.out _|refine keep_far ?_ GW274.out _|refine keep_far ?_ GW285.out _)|exact HK.out)) hk (.inl rfl))
            have n7_:=aM_ (hb)
            have n8_:=aM_ (hi)
            clear BK273
            clear BK274
            clear HO281
            clear HO284
            clear BK285
            clear HO313
            clear HK
            clear HB
            clear HI0
            have BK273:=n0_
            have BK274:=n1_
            have HO281:=n2_
            have HO284:=n3_
            have BK285:=n4_
            have HO313:=n5_
            have HK:=n6_
            have HB:=n7_
            have HI0:=n8_
            clear n0_ n1_ n2_ n3_ n4_ n5_ n6_ n7_ n8_
            (try clear hb)
            (try clear hb2)
            (try clear hk)
            (try clear hi)
            refine hK.out _ _ (bc6 BK285.out) (fun hHeld=>?_)
            clear hK K
            refine norm_ (a':=?_) ?_ ?_
            rotate_left
            ·show Act.put _ (some 60) _=_
             simp only [Act.put,sA_,s0_,s1_,i64_w,i32_w]
             rfl
            exact norm_ (by simp only [putAll,Act.put,sA_,s0_,s1_]) (hCont (.slice (some ado94) y311.length co94,ado94) _ ⟨hHeld,(by (with_reducible repeat (first|apply rA_|apply rN_|apply rD_));exact HO281.out),(by (with_reducible repeat (first|apply rA_|apply rN_|apply rD_));exact HO284.out),(by (with_reducible repeat (first|apply rA_|apply rN_|apply rD_));exact Kd.R_mono HO313.out (fun _ hk=>⟨hk.1.2,hk.2⟩)),⟨_,rfl⟩,(by (with_reducible repeat (first|apply kN_|apply kD_|apply kA_));exact BK273.out),(by (with_reducible repeat (first|apply kN_|apply kD_|apply kA_));exact BK274.out),(by (with_reducible repeat (first|apply kN_|apply kD_|apply kA_));exact BK285.out),(by repeat (first|(with_reducible first|exact HI0.out|apply IsS65.alloc|apply IsS65.drewN|apply IsS65.drew|apply IsS65.set_1|refine IsS65.far ?_ NB0_273.out _|refine IsS65.far ?_ NB0_274.out _|refine IsS65.far ?_ NB0_285.out _)|exact HI0.out)),(by repeat (first|(with_reducible first|exact HK.out|apply pS_|apply pN_|apply pD_|apply pA_|refine keep_far ?_ GW273.out _|refine keep_far ?_ GW274.out _|refine keep_far ?_ GW285.out _)|exact HK.out)),(by repeat (first|(with_reducible first|exact HB.out|apply wA_|apply wN_|apply wD_|refine below_set ?_ (IsS65.ge HI0.out)|refine below_set ?_ GE273.out|refine below_set ?_ GE274.out|refine below_set ?_ GE285.out)|exact HB.out))⟩)
          rintro ⟨v312,adz_v312⟩ w97 ⟨hS_,h0_,h1_,h2_,h3_,h4_,h5_,h6_,h7_,h8_,h9_⟩
          have n0_:Aside0 (Kd.R (Kd.int .i64) 3 w97 w.heap.size (fun k_=>some k_≠(.slice Ao18 t282.length co18:Value).ownBlock∧some k_≠(v312:Value).ownBlock) (.slice Ao17 t279.length co17) t279):=⟨h0_⟩
          have n1_:Aside0 (Kd.R (Kd.int .i64) 3 w97 w.heap.size (fun k_=>some k_≠(.slice Ao17 t279.length co17:Value).ownBlock∧some k_≠(v312:Value).ownBlock) (.slice Ao18 t282.length co18) t282):=⟨h1_⟩
          have n2_:Aside0 (Kd.R (Kd.int .i64) 3 w97 w.heap.size (fun k_=>some k_≠(.slice Ao17 t279.length co17:Value).ownBlock∧some k_≠(.slice Ao18 t282.length co18:Value).ownBlock) v312 y311):=⟨h2_⟩
          have n3_:Aside0 (∃ c_,(v312:Value)=.slice (some adz_v312) y311.length c_):=⟨h3_⟩
          have n4_:Aside0 (w97.heap[gb273]?=some (.cells #[.int .i64 a1_0,.int .i64 a1_1,.int .i64 a1_2,.int .i64 a1_3,.slice A1_4 l1_4.length c1_4,.slice A1_5 l1_5.length c1_5] 27 (0,0))):=⟨h4_⟩
          have n5_:Aside0 (w97.heap[gb274]?=some (.cells #[.int .i64 0,.int .i64 0,.int .i64 0,.int .i64 0,.slice none 0 0,.slice none 0 0] 27 (0,0))):=⟨h5_⟩
          have n6_:Aside0 (w97.heap[gb285]?=some (.cells #[.int .i64 t275,.int .i64 t276,.int .i64 t277,.int .i64 t278,.slice Ao17 t279.length co17,.slice Ao18 t282.length co18] 27 (0,0))):=⟨h6_⟩
          have n7_:Aside0 (IsS65 w0 w97 g s0_0 t315):=⟨h7_⟩
          have n8_:Aside0 (KeepBut w w97 g none):=⟨h8_⟩
          have n9_:Aside0 (Below w0.heap.size w0 w97):=⟨h9_⟩
          clear HO281
          clear HO284
          clear BK273
          clear BK274
          clear BK285
          clear HI0
          clear HK
          clear HB
          clear h0_ h1_ h2_ h3_ h4_ h5_ h6_ h7_ h8_ h9_
          have HO281:=n0_
          have HO284:=n1_
          have HO313:=n2_
          have HA_HO313:=n3_
          have BK273:=n4_
          have BK274:=n5_
          have BK285:=n6_
          have HI0:=n7_
          have HK:=n8_
          have HB:=n9_
          clear n0_ n1_ n2_ n3_ n4_ n5_ n6_ n7_ n8_ n9_
          have hHeld:w97.cell? ⟨gb285,0,none⟩=some (.int .i64 t275)∧w97.cell? ⟨gb285,1,none⟩=some (.int .i64 t276)∧w97.cell? ⟨gb285,2,none⟩=some (.int .i64 t277)∧w97.cell? ⟨gb285,3,none⟩=some (.int .i64 t278)∧w97.cell? ⟨gb285,4,none⟩=some (.slice Ao17 t279.length co17)∧w97.cell? ⟨gb285,5,none⟩=some (.slice Ao18 t282.length co18):=hS_
          obtain ⟨co98,eo98⟩:=HA_HO313.out
          clear HA_HO313
          subst eo98
          have p90:0≤(t309:Int):=of_decide_eq_true (by first|(with_reducible assumption)|assumption)
          have q90:(t309:Int) < ((t282.length:Int):Int):=of_decide_eq_true (by first|(with_reducible assumption)|assumption)
          obtain ⟨go90,co90,eo90,gb90,gl90,cl90,HG90⟩:=Kd.R_form HO284.out (by omega)
          (first|cases eo90|(injection eo90 with ea_ en_ ec_;(first|subst ea_|(injection ea_ with ea_;subst ea_));subst ec_;clear en_))
          have GB90:=aM_ gb90
          have GG90:=aM_ HG90
          clear gb90 gl90 HG90
          obtain ⟨hx90_0,hf90_0⟩:=Kd.R_celln 0 HO284.out (t309:Int) p90 q90
          replace p90:=eq_true p90
          replace q90:=eq_true q90
          have HN0_go90:=aM_ (show g≠go90 from by have h_:=IsS65.own_ne HI0.out HO284.out (by decide);intro e_;exact h_ (by rw [e_];rfl))
          have HP99:=Kd.R_putn HO284.out (t309:Int) (rd y311 t314)
          rw [← Ny317.out] at HP99
          have HQ99:=aM_ HP99
          clear HP99
          refine norm_ (a':=?_) ?_ ?_
          rotate_left
          ·simp only [putAll,Act.put,sA_,s0_,s1_]
           rfl
          refine pure_ (i:=10) (N:=some 61) (v:=?_) (a':=?_) #[true,true,true,true,true,true,true,true,true,true,true,false,false,false] rfl rfl (any_of HT_.out (by kernel_rfl)) (fun _ _ _ h=>h) (Or.inl ⟨by rfl,?_⟩) ?_ ?_
          rotate_left
          ·intro w'
           go_simp
           with_reducible rfl
          rotate_left
          ·simp only [Act.put,sA_,s0_,s1_,i64_w,i32_w]
           rfl
          refine one_ (i:=11) (N:=some 62) #[true,true,true,true,true,true,true,true,true,true,true,true,false,false] rfl rfl (one_of HT_.out (by kernel_rfl)) (by decide) (fun K hK=>?_)
          (have p316:0≤(t314:Int):=of_decide_eq_true (by first|(with_reducible assumption)|assumption);have q316:t314 < (y311.length:Int):=of_decide_eq_true (by first|(with_reducible assumption)|assumption);obtain ⟨ad316,e316,hx316_0⟩:=Kd.at_int (Kd.R_reads' HO313.out).2.2 t314 p316 q316;obtain rfl:adz_v312=ad316:=(by injection e316))
          refine value_ (w1:=?_) (v:=?_) (by rfl) rfl ?_ ?_
          rotate_left 2
          ·go_simp
           constructor
           ·rfl
           ·rfl
          clear hx316_0
          refine hK.out _ _ (bc6 BK285.out) (fun hHeld=>?_)
          clear hK K
          refine norm_ (a':=?_) ?_ ?_
          rotate_left
          ·show Act.put _ (some 62) _=_
           simp only [Act.put,sA_,s0_,s1_,i64_w,i32_w]
           rfl
          refine pure_ (i:=12) (N:=some 63) (v:=?_) (a':=?_) #[true,true,true,true,true,true,true,true,true,true,true,true,true,false] rfl rfl (any_of HT_.out (by kernel_rfl)) (fun _ _ _ h=>h) (Or.inl ⟨by rfl,?_⟩) ?_ ?_
          rotate_left
          ·intro w'
           go_simp
           with_reducible rfl
          rotate_left
          ·simp only [Act.put,sA_,s0_,s1_,i64_w,i32_w]
           rfl
          refine last_ (i:=13) (N:=none) #[true,true,true,true,true,true,true,true,true,true,true,true,true,true] rfl rfl (one_of HT_.out (by kernel_rfl)) (by decide) (fun K hK=>?_)
          refine skip_ (w1:=?_) (by rfl) rfl ?_ ?_
          rotate_left
          ·go_simp
           rfl
          refine hK.out _ _ ?_
          clear hK K
          refine done_ (done_of HT_.out (by kernel_rfl)) ?_
          have n0_:Aside0 (Kd.R (Kd.int .i64) 3 (w97.setCell ⟨go90,(t309:Int).toNat,none⟩ (.int .i64 (rd y311 t314))) w.heap.size (fun k_=>some k_≠(.slice (some ⟨go90,0,none⟩) t282.length co18:Value).ownBlock∧some k_≠(.slice (some adz_v312) y311.length co98:Value).ownBlock) (.slice Ao17 t279.length co17) t279):=⟨by (with_reducible repeat (first|apply rA_|apply rN_|apply rD_));exact Kd.R_mono (Kd.R_far (p:=⟨go90,(t309:Int).toNat,none⟩) (Kd.R_mono HO281.out (fun k_ hk=>(⟨hk,fun e_=>hk.1 (by rw [e_];rfl)⟩:_∧k_≠go90))) (fun _ hk=>hk.2) (.int .i64 (rd y311 t314))) (fun _ hk=>⟨hk.1.1,hk.1.2⟩)⟩
          have n1_:Aside0 (Kd.R (Kd.int .i64) 3 (w97.setCell ⟨go90,(t309:Int).toNat,none⟩ (.int .i64 (rd y311 t314))) w.heap.size (fun k_=>some k_≠(.slice Ao17 t279.length co17:Value).ownBlock∧some k_≠(.slice (some adz_v312) y311.length co98:Value).ownBlock) (.slice (some ⟨go90,0,none⟩) t282.length co18) y317):=⟨by (with_reducible repeat (first|apply rA_|apply rN_|apply rD_));exact HQ99.out⟩
          have n2_:Aside0 (Kd.R (Kd.int .i64) 3 (w97.setCell ⟨go90,(t309:Int).toNat,none⟩ (.int .i64 (rd y311 t314))) w.heap.size (fun k_=>some k_≠(.slice Ao17 t279.length co17:Value).ownBlock∧some k_≠(.slice (some ⟨go90,0,none⟩) t282.length co18:Value).ownBlock) (.slice (some adz_v312) y311.length co98) y311):=⟨by (with_reducible repeat (first|apply rA_|apply rN_|apply rD_));exact Kd.R_mono (Kd.R_far (p:=⟨go90,(t309:Int).toNat,none⟩) (Kd.R_mono HO313.out (fun k_ hk=>(⟨hk,fun e_=>hk.2 (by rw [e_];rfl)⟩:_∧k_≠go90))) (fun _ hk=>hk.2) (.int .i64 (rd y311 t314))) (fun _ hk=>⟨hk.1.1,hk.1.2⟩)⟩
          have n3_:Aside0 ((w97.setCell ⟨go90,(t309:Int).toNat,none⟩ (.int .i64 (rd y311 t314))).heap[gb273]?=some (.cells #[.int .i64 a1_0,.int .i64 a1_1,.int .i64 a1_2,.int .i64 a1_3,.slice A1_4 l1_4.length c1_4,.slice A1_5 l1_5.length c1_5] 27 (0,0))):=⟨by (with_reducible repeat (first|apply kN_|apply kD_|apply kA_));refine blk_far ?_ (by have h_:=Kd.R_ne HO284.out BK273.out (by decide);intro e_;exact h_ (by rw [e_];rfl)) _;(with_reducible repeat (first|apply kN_|apply kD_|apply kA_));exact BK273.out⟩
          have n4_:Aside0 ((w97.setCell ⟨go90,(t309:Int).toNat,none⟩ (.int .i64 (rd y311 t314))).heap[gb274]?=some (.cells #[.int .i64 0,.int .i64 0,.int .i64 0,.int .i64 0,.slice none 0 0,.slice none 0 0] 27 (0,0))):=⟨by (with_reducible repeat (first|apply kN_|apply kD_|apply kA_));refine blk_far ?_ (by have h_:=Kd.R_ne HO284.out BK274.out (by decide);intro e_;exact h_ (by rw [e_];rfl)) _;(with_reducible repeat (first|apply kN_|apply kD_|apply kA_));exact BK274.out⟩
          have n5_:Aside0 ((w97.setCell ⟨go90,(t309:Int).toNat,none⟩ (.int .i64 (rd y311 t314))).heap[gb285]?=some (.cells #[.int .i64 t275,.int .i64 t276,.int .i64 t277,.int .i64 t278,.slice Ao17 t279.length co17,.slice (some ⟨go90,0,none⟩) t282.length co18] 27 (0,0))):=⟨by (with_reducible repeat (first|apply kN_|apply kD_|apply kA_));refine blk_far ?_ (by have h_:=Kd.R_ne HO284.out BK285.out (by decide);intro e_;exact h_ (by rw [e_];rfl)) _;(with_reducible repeat (first|apply kN_|apply kD_|apply kA_));exact BK285.out⟩
          have n6_:Aside0 (IsS65 w0 (w97.setCell ⟨go90,(t309:Int).toNat,none⟩ (.int .i64 (rd y311 t314))) g s0_0 t315):=⟨by repeat (first|(with_reducible first|exact HI0.out|apply IsS65.alloc|apply IsS65.drewN|apply IsS65.drew|apply IsS65.set_1|refine IsS65.far ?_ HN0_go90.out _|refine IsS65.far ?_ NB0_273.out _|refine IsS65.far ?_ NB0_274.out _|refine IsS65.far ?_ NB0_285.out _)|exact HI0.out)⟩
          have n7_:Aside0 (KeepBut w (w97.setCell ⟨go90,(t309:Int).toNat,none⟩ (.int .i64 (rd y311 t314))) g none):=⟨by repeat (first|(with_reducible first|exact HK.out|apply pS_|apply pN_|apply pD_|apply pA_|refine keep_far ?_ GB90.out _|refine keep_far ?_ GW273.out _|refine keep_far ?_ GW274.out _|refine keep_far ?_ GW285.out _)|exact HK.out)⟩
          have n8_:Aside0 (Below w0.heap.size w0 (w97.setCell ⟨go90,(t309:Int).toNat,none⟩ (.int .i64 (rd y311 t314)))):=⟨by repeat (first|(with_reducible first|exact HB.out|apply wA_|apply wN_|apply wD_|refine below_set ?_ (Nat.le_trans HL.out GB90.out)|refine below_set ?_ (IsS65.ge HI0.out)|refine below_set ?_ GE273.out|refine below_set ?_ GE274.out|refine below_set ?_ GE285.out)|exact HB.out)⟩
          (try clear HO281)
          (try clear HO284)
          (try clear HO313)
          (try clear BK273)
          (try clear BK274)
          (try clear BK285)
          (try clear HI0)
          (try clear HK)
          (try clear HB)
          generalize (w97.setCell ⟨go90,(t309:Int).toNat,none⟩ (.int .i64 (rd y311 t314)))=w100 at n0_ n1_ n2_ n3_ n4_ n5_ n6_ n7_ n8_ ⊢
          have HO281:=n0_
          have HO284:=n1_
          have HO313:=n2_
          have BK273:=n3_
          have BK274:=n4_
          have BK285:=n5_
          have HI0:=n6_
          have HK:=n7_
          have HB:=n8_
          clear n0_ n1_ n2_ n3_ n4_ n5_ n6_ n7_ n8_
          have hnb101:=NB285_273.out
          have hnc101:=NB273_285.out
          have hnb102:=NB285_274.out
          have hnc102:=NB274_285.out
          have hnb103:=NB285_0.out
          have hnc103:=NB0_285.out
          obtain ⟨hcz104_0,hcz104_1,hcz104_2,hcz104_3,hcz104_4,hcz104_5⟩:=bc6 BK285.out
          obtain ⟨hfz104_0,hfz104_1,hfz104_2,hfz104_3,hfz104_4,hfz104_5⟩:=bf6 BK285.out
          have hnb105:=NB274_273.out
          have hnc105:=NB273_274.out
          have hnb106:=NB274_0.out
          have hnc106:=NB0_274.out
          obtain ⟨hcz107_0,hcz107_1,hcz107_2,hcz107_3,hcz107_4,hcz107_5⟩:=bc6 BK274.out
          obtain ⟨hfz107_0,hfz107_1,hfz107_2,hfz107_3,hfz107_4,hfz107_5⟩:=bf6 BK274.out
          try go_wp2
          refine bodyPost_ret (results_cell_row rfl _ _ gb274 27 #[.int .i64 t275,.int .i64 t276,.int .i64 t277,.int .i64 t278,.slice Ao17 t279.length co17,.slice (some ⟨go90,0,none⟩) t282.length co18] (0,0) _ rfl (by (with_reducible repeat (first|apply kN_|apply kD_|apply kA_));refine blk_put (cs:=#[.int .i64 t275,.int .i64 t276,.int .i64 t277,.int .i64 t278,.slice Ao17 t279.length co17,.slice none 0 0]) ?_ 5 _ rfl;(with_reducible repeat (first|apply kN_|apply kD_|apply kA_));refine blk_put (cs:=#[.int .i64 t275,.int .i64 t276,.int .i64 t277,.int .i64 t278,.slice none 0 0,.slice none 0 0]) ?_ 4 _ rfl;(with_reducible repeat (first|apply kN_|apply kD_|apply kA_));refine blk_put (cs:=#[.int .i64 t275,.int .i64 t276,.int .i64 t277,.int .i64 0,.slice none 0 0,.slice none 0 0]) ?_ 3 _ rfl;(with_reducible repeat (first|apply kN_|apply kD_|apply kA_));refine blk_put (cs:=#[.int .i64 t275,.int .i64 t276,.int .i64 0,.int .i64 0,.slice none 0 0,.slice none 0 0]) ?_ 2 _ rfl;(with_reducible repeat (first|apply kN_|apply kD_|apply kA_));refine blk_put (cs:=#[.int .i64 t275,.int .i64 0,.int .i64 0,.int .i64 0,.slice none 0 0,.slice none 0 0]) ?_ 1 _ rfl;(with_reducible repeat (first|apply kN_|apply kD_|apply kA_));refine blk_put (cs:=#[.int .i64 0,.int .i64 0,.int .i64 0,.int .i64 0,.slice none 0 0,.slice none 0 0]) ?_ 0 _ rfl;(with_reducible repeat (first|apply kN_|apply kD_|apply kA_));exact BK274.out) Try.underlying27 rfl (by kernel_rfl)) rfl ?_
          exact ⟨_,_,by first|rfl|(simp [errW_none,errW_some] <;> rfl)|(simp [*,errW_none,errW_some] <;> rfl),by (with_reducible repeat (first|apply rA_|apply rN_|apply rD_));exact Kd.R_mono (Kd.R_far (Kd.R_far (Kd.R_far (Kd.R_far (Kd.R_far (Kd.R_far (Kd.R_types HO281.out BK274.out (by decide)) (fun _ hk=>hk.2) _) (fun _ hk=>hk.2) _) (fun _ hk=>hk.2) _) (fun _ hk=>hk.2) _) (fun _ hk=>hk.2) _) (fun _ hk=>hk.2) (.slice (some ⟨go90,0,none⟩) t282.length co18)) (fun _ hk=>hk.1.1),Kd.Q_of_R (by (with_reducible repeat (first|apply rA_|apply rN_|apply rD_));exact Kd.R_mono (Kd.R_far (Kd.R_far (Kd.R_far (Kd.R_far (Kd.R_far (Kd.R_far (Kd.R_types HO284.out BK274.out (by decide)) (fun _ hk=>hk.2) _) (fun _ hk=>hk.2) _) (fun _ hk=>hk.2) _) (fun _ hk=>hk.2) _) (fun _ hk=>hk.2) _) (fun _ hk=>hk.2) (.slice (some ⟨go90,0,none⟩) t282.length co18)) (fun _ hk=>hk.1.1)),by repeat (first|(with_reducible first|exact HI0.out|apply IsS65.alloc|apply IsS65.drewN|apply IsS65.drew|apply IsS65.set_1|refine IsS65.far ?_ NB0_273.out _|refine IsS65.far ?_ NB0_274.out _|refine IsS65.far ?_ NB0_285.out _)|exact HI0.out),by repeat (first|(with_reducible first|exact HB.out|apply wA_|apply wN_|apply wD_|refine below_set ?_ (IsS65.ge HI0.out)|refine below_set ?_ GE273.out|refine below_set ?_ GE274.out|refine below_set ?_ GE285.out)|exact HB.out),by repeat (first|(with_reducible first|exact HK.out|apply pS_|apply pN_|apply pD_|apply pA_|refine keep_far ?_ GW273.out _|refine keep_far ?_ GW274.out _|refine keep_far ?_ GW285.out _)|exact HK.out)⟩
         ·rw [if_neg c89] at H
          exact absurd H (by simp)
        ·rw [if_neg c88] at H
         exact absurd H (by simp)
       ·rw [if_neg c87] at H
        exact absurd H (by simp)
      ·rw [if_neg c86] at H
       exact absurd H (by simp)
     ·rw [if_neg c83] at H
      have c83b0:(t286 == 4)=false:=beq_eq_false_iff_ne.mpr c83
      have c83b1:(t286 != 4)=true:=bne_iff_ne.mpr c83
      by_cases c108:t286=5
      ·rw [if_pos c108] at H
       have c108b0:(t286 == 5)=true:=beq_iff_eq.mpr c108
       have c108b1:(t286 != 5)=false:=bne_eq_false_iff_eq.mpr c108
       clear c108
       obtain ⟨y318,hy318⟩:∃ y_:List Int,y_=(([(-1),16777216,5]:List Int)):=⟨_,rfl⟩
       replace H:((spec_l1Rd_pick.f k s0_0 t287 3).bind fun bt321=>(if 0≤bt321.1 then (if bt321.1 < (y318.length:Int) then (if t279.length < 17592186044416 then (some (t275,t276,t277,t278,(t279 ++ [rd y318 bt321.1]),t282,bt321.2)) else (none)) else (none)) else (none)))=some (r1,r2,r3,r4,r5,r6,r7):=by first|(rw [hy318];with_reducible exact H)|(have H2_:=(Option.bind_some _ _).symm.trans H;rw [hy318];with_reducible exact H2_)|(have H2_:=(Option.bind_some _ _).symm.trans H;with_reducible exact H2_)|with_reducible exact H|(rw [hy318];exact H)|exact H
       have Ny318:=aM_ hy318
       clear hy318
       replace H:=Option.bind_eq_some_iff.mp H
       obtain ⟨⟨t321,t322⟩,A1090,H⟩:=H
       replace H:(if 0≤t321 then (if t321 < (y318.length:Int) then (if t279.length < 17592186044416 then (some (t275,t276,t277,t278,(t279 ++ [rd y318 t321]),t282,t322)) else (none)) else (none)) else (none))=some (r1,r2,r3,r4,r5,r6,r7):=H
       have A109:=aM_ A1090
       clear A1090
       by_cases c110:0≤t321
       ·rw [if_pos c110] at H
        have c110b0:decide (0≤t321)=true:=decide_eq_true c110
        clear c110
        by_cases c111:t321 < (y318.length:Int)
        ·rw [if_pos c111] at H
         have c111b0:decide (t321 < (y318.length:Int))=true:=decide_eq_true c111
         clear c111
         by_cases c112:t279.length < 17592186044416
         ·rw [if_pos c112] at H
          have LMc112:=aM_ c112
          clear c112
          obtain ⟨y324,hy324⟩:∃ y_:List Int,y_=(t279 ++ [rd y318 t321]):=⟨_,rfl⟩
          replace H:(some (t275,t276,t277,t278,y324,t282,t322))=some (r1,r2,r3,r4,r5,r6,r7):=by first|(rw [hy324];with_reducible exact H)|(have H2_:=(Option.bind_some _ _).symm.trans H;rw [hy324];with_reducible exact H2_)|(have H2_:=(Option.bind_some _ _).symm.trans H;with_reducible exact H2_)|with_reducible exact H|(rw [hy324];exact H)|exact H
          have Ny324:=aM_ hy324
          clear hy324
          simp only [Option.some.injEq,Prod.mk.injEq] at H
          obtain ⟨rfl,rfl,rfl,rfl,rfl,rfl,rfl⟩:=H
          try go_wp2
          have pi323:(0≤(t321:Int))=True:=eq_true (of_decide_eq_true (by first|(with_reducible assumption)|assumption))
          have qi323:(t321 < (y318.length:Int))=True:=eq_true (of_decide_eq_true (by first|(with_reducible assumption)|assumption))
          have n0_:=aM_ (rD_ HO281.out)
          have n1_:=aM_ (rD_ HO284.out)
          have n2_:=aM_ (kD_ BK273.out)
          have n3_:=aM_ (kD_ BK274.out)
          have n4_:=aM_ (kD_ BK285.out)
          have n5_:=aM_ (IsS65.drew HI0.out)
          have n6_:=aM_ (pD_ HK.out)
          have n7_:=aM_ (wD_ HB.out)
          clear HO281
          clear HO284
          clear BK273
          clear BK274
          clear BK285
          clear HI0
          clear HK
          clear HB
          have HO281:=n0_
          have HO284:=n1_
          have BK273:=n2_
          have BK274:=n3_
          have BK285:=n4_
          have HI0:=n5_
          have HK:=n6_
          have HB:=n7_
          clear n0_ n1_ n2_ n3_ n4_ n5_ n6_ n7_
          refine start_ (n:=11) (S:=fun w'=>w'.cell? ⟨gb285,0,none⟩=some (.int .i64 t275)∧w'.cell? ⟨gb285,1,none⟩=some (.int .i64 t276)∧w'.cell? ⟨gb285,2,none⟩=some (.int .i64 t277)∧w'.cell? ⟨gb285,3,none⟩=some (.int .i64 t278)∧w'.cell? ⟨gb285,4,none⟩=some (.slice Ao17 t279.length co17)∧w'.cell? ⟨gb285,5,none⟩=some (.slice Ao18 t282.length co18)) (ds:=[10]) #[false,false,false,false,false,false,false,false,false,false,false] (by kernel_rfl) rfl rfl (bc6 BK285.out) (fun hHeld=>?_);refine with_tabW spec_l14Spoil.tab15 spec_l14Spoil.bits15 (fun HT_ HW_=>?_)
          generalize w19.drew=w113 at HO281 HO284 BK273 BK274 BK285 HI0 HK HB hHeld ⊢
          refine pure_ (i:=0) (N:=some 66) (v:=?_) (a':=?_) #[true,false,false,false,false,false,false,false,false,false,false] rfl rfl (any_of HT_.out (by kernel_rfl)) (fun _ _ _ h=>h) (Or.inl ⟨by rfl,?_⟩) ?_ ?_
          rotate_left
          ·intro w'
           go_simp
           with_reducible rfl
          rotate_left
          ·simp only [Act.put,sA_,s0_,s1_,i64_w,i32_w]
           rfl
          refine pure_ (i:=3) (N:=some 69) (v:=?_) (a':=?_) #[true,false,false,true,false,false,false,false,false,false,false] rfl rfl (any_of HT_.out (by kernel_rfl)) (fun _ _ _ h=>h) (Or.inl ⟨by rfl,?_⟩) ?_ ?_
          rotate_left
          ·intro w'
           go_simp
           with_reducible rfl
          rotate_left
          ·simp only [Act.put,sA_,s0_,s1_,i64_w,i32_w]
           rfl
          refine take_ (i:=1) (N:=some 67) (v:=?_) (a':=?_) #[true,true,false,true,false,false,false,false,false,false,false] rfl rfl (take_ofW HT_.out HW_.out (by kernel_rfl)) (fun _ _ _ h=>h) (Or.inl ⟨by rfl,?_⟩) hHeld ?_ ?_
          rotate_left
          ·rintro w' ⟨s0,s1,s2,s3,s4,s5⟩
           go_simp
           with_reducible rfl
          rotate_left
          ·simp only [Act.put,sA_,s0_,s1_,i64_w,i32_w]
           rfl
          refine join_ (σ:=Value × Addr) 6 #[true,true,true,true,true,false,false,false,false,false,false] (fun s_=>[(68,s_.1),(70,.int .i64 t321)]) (fun s_ w'=>(w'.cell? ⟨gb285,0,none⟩=some (.int .i64 t275)∧w'.cell? ⟨gb285,1,none⟩=some (.int .i64 t276)∧w'.cell? ⟨gb285,2,none⟩=some (.int .i64 t277)∧w'.cell? ⟨gb285,3,none⟩=some (.int .i64 t278)∧w'.cell? ⟨gb285,4,none⟩=some (.slice Ao17 t279.length co17)∧w'.cell? ⟨gb285,5,none⟩=some (.slice Ao18 t282.length co18))∧(Kd.R (Kd.int .i64) 3 w' w.heap.size (fun k_=>some k_≠(.slice Ao18 t282.length co18:Value).ownBlock∧some k_≠(s_.1:Value).ownBlock) (.slice Ao17 t279.length co17) t279)∧(Kd.R (Kd.int .i64) 3 w' w.heap.size (fun k_=>some k_≠(.slice Ao17 t279.length co17:Value).ownBlock∧some k_≠(s_.1:Value).ownBlock) (.slice Ao18 t282.length co18) t282)∧(Kd.R (Kd.int .i64) 3 w' w.heap.size (fun k_=>some k_≠(.slice Ao17 t279.length co17:Value).ownBlock∧some k_≠(.slice Ao18 t282.length co18:Value).ownBlock) s_.1 y318)∧(∃ c_,(s_.1:Value)=.slice (some s_.2) y318.length c_)∧(w'.heap[gb273]?=some (.cells #[.int .i64 a1_0,.int .i64 a1_1,.int .i64 a1_2,.int .i64 a1_3,.slice A1_4 l1_4.length c1_4,.slice A1_5 l1_5.length c1_5] 27 (0,0)))∧(w'.heap[gb274]?=some (.cells #[.int .i64 0,.int .i64 0,.int .i64 0,.int .i64 0,.slice none 0 0,.slice none 0 0] 27 (0,0)))∧(w'.heap[gb285]?=some (.cells #[.int .i64 t275,.int .i64 t276,.int .i64 t277,.int .i64 t278,.slice Ao17 t279.length co17,.slice Ao18 t282.length co18] 27 (0,0)))∧(IsS65 w0 w' g s0_0 t322)∧(KeepBut w w' g none)∧(Below w0.heap.size w0 w')) ?_ ?_
          rotate_left
          ·intro hCont
           refine two_ (i:=2) (j:=4) (Ni:=some 68) (Nj:=some 70) #[true,true,true,true,false,false,false,false,false,false,false] #[true,true,false,true,true,false,false,false,false,false,false] rfl rfl rfl rfl (two_of HT_.out (by kernel_rfl)) (by decide) (by decide) (fun K hK=>?_) (fun K hK=>?_)
           ·skip
            refine Kd.R_lit_step (Kd.int .i64) _ 3 ?hg (N:=68) ?hd (xs:=([(-1),16777216,5]:List Int)) (inner:=[.int .i64 (-1),.int .i64 16777216,.int .i64 5]) (ok:=fun _=>True) (okp:=fun _=>True) ?hr ?hp (fun _ hk=>hk) trivial (Below.refl _ _) (Nat.le_refl _) (by simp) ?_;(case hd=>rfl);(case hg=>rfl);(case hr=>first|(go_simp;done)|(go_simp;rfl));(case hp=>exact (Reps.one (show Kd.M (Kd.int .i64) _ _ _ (-1) [.int .i64 (-1)] from rfl) (Reps.one (show Kd.M (Kd.int .i64) _ _ _ 16777216 [.int .i64 16777216] from rfl) (Reps.one (show Kd.M (Kd.int .i64) _ _ _ 5 [.int .i64 5] from rfl) (Reps.none _ _)))))
            intro v319 w114 ho115 hb hg_ hnew_
            clear hg_ hnew_
            (first|rw [← Ny318.out] at ho115|(simp only [Int.reduceToNat] at ho115;rw [← Ny318.out] at ho115))
            have n0_:=aM_ (Kd.R_elder' (by (with_reducible repeat (first|apply rA_|apply rN_|apply rD_));exact HO281.out) (Kd.R_base ho115) hb)
            have n1_:=aM_ (Kd.R_elder' (by (with_reducible repeat (first|apply rA_|apply rN_|apply rD_));exact HO284.out) (Kd.R_base ho115) hb)
            have n2_:=aM_ (Kd.R_lower (Kd.R_new' (Kd.R_new' ho115 (Kd.R_lt (by (with_reducible repeat (first|apply rA_|apply rN_|apply rD_));exact HO281.out))) (Kd.R_lt (by (with_reducible repeat (first|apply rA_|apply rN_|apply rD_));exact HO284.out))) (keep_size (w:=w) (g:=g) (row:=none) (by repeat (first|(with_reducible first|exact HK.out|apply pS_|apply pN_|apply pD_|apply pA_|refine keep_far ?_ GW273.out _|refine keep_far ?_ GW274.out _|refine keep_far ?_ GW285.out _)|exact HK.out))))
            have n3_:=aM_ (IsS65.below (by repeat (first|(with_reducible first|exact HI0.out|apply IsS65.alloc|apply IsS65.drewN|apply IsS65.drew|apply IsS65.set_1|refine IsS65.far ?_ NB0_273.out _|refine IsS65.far ?_ NB0_274.out _|refine IsS65.far ?_ NB0_285.out _)|exact HI0.out)) hb)
            have n4_:=aM_ (blk_below (g:=gb273) (by (with_reducible repeat (first|apply kN_|apply kD_|apply kA_));exact BK273.out) hb)
            have n5_:=aM_ (blk_below (g:=gb274) (by (with_reducible repeat (first|apply kN_|apply kD_|apply kA_));exact BK274.out) hb)
            have n6_:=aM_ (blk_below (g:=gb285) (by (with_reducible repeat (first|apply kN_|apply kD_|apply kA_));exact BK285.out) hb)
            have n7_:=aM_ (KeepBut.trans (by repeat (first|(with_reducible first|exact HK.out|apply pS_|apply pN_|apply pD_|apply pA_|refine keep_far ?_ GW273.out _|refine keep_far ?_ GW274.out _|refine keep_far ?_ GW285.out _)|exact HK.out)) (KeepBut.of_below hb g none) (.inl rfl))
            have n8_:=aM_ (below_step (by repeat (first|(with_reducible first|exact HB.out|apply wA_|apply wN_|apply wD_|refine below_set ?_ (IsS65.ge HI0.out)|refine below_set ?_ GE273.out|refine below_set ?_ GE274.out|refine below_set ?_ GE285.out)|exact HB.out)) hb)
            clear HO281
            clear HO284
            clear HI0
            clear BK273
            clear BK274
            clear BK285
            clear HK
            clear HB
            have HO281:=n0_
            have HO284:=n1_
            have HO320:=n2_
            have HI0:=n3_
            have BK273:=n4_
            have BK274:=n5_
            have BK285:=n6_
            have HK:=n7_
            have HB:=n8_
            clear n0_ n1_ n2_ n3_ n4_ n5_ n6_ n7_ n8_
            clear hb ho115
            obtain ⟨Ao116,co116,eo116⟩:=Kd.R_slice HO320.out
            subst eo116
            obtain ⟨ado116,fo116,_⟩:=Kd.at_int (Kd.R_reads' HO320.out).2.2 0 (by decide) (by rw [Ny318.out];simp)
            cases fo116
            refine hK.out _ _ (bc6 BK285.out) (fun hHeld=>?_)
            clear hK K
            refine norm_ (a':=?_) ?_ ?_
            rotate_left
            ·show Act.put _ (some 68) _=_
             simp only [Act.put,sA_,s0_,s1_,i64_w,i32_w]
             rfl
            refine one_ (i:=4) (N:=some 70) #[true,true,true,true,true,false,false,false,false,false,false] rfl rfl (one_of HT_.out (by kernel_rfl)) (by decide) (fun K hK=>?_)
            refine goes_ Try.func68 (by kernel_rfl) rfl #[.pointer (some ⟨g,0,none⟩),.int .i64 3] (by rfl) rfl rfl (by (try simp only [List.map_toArray,List.map_cons,List.map_nil]);first|done|rfl|(simp only [List.length_drop,List.length_take];rfl)) ?_
            with_reducible refine (spec_l1Rd_pick.calls k g s0_0 t287 3 t321 t322 w0 _ ?side1 ?side2 A109.out).mono ?_
            (case side1=>repeat (first|(with_reducible first|exact HI0.out|apply IsS65.alloc|apply IsS65.drewN|apply IsS65.drew|apply IsS65.set_1|refine IsS65.far ?_ NB0_273.out _|refine IsS65.far ?_ NB0_274.out _|refine IsS65.far ?_ NB0_285.out _)|exact HI0.out))
            (case side2=>repeat (first|(with_reducible first|exact HB.out|apply wA_|apply wN_|apply wD_|refine below_set ?_ (IsS65.ge HI0.out)|refine below_set ?_ GE273.out|refine below_set ?_ GE274.out|refine below_set ?_ GE285.out)|exact HB.out))
            rintro e w117 ⟨rfl,hi,hb,hk⟩
            refine ⟨_,rfl,?_⟩
            have n0_:=aM_ (KeepBut.blk hk (g':=gb273) (o:=.cells #[.int .i64 a1_0,.int .i64 a1_1,.int .i64 a1_2,.int .i64 a1_3,.slice A1_4 l1_4.length c1_4,.slice A1_5 l1_5.length c1_5] 27 (0,0)) (by (with_reducible repeat (first|apply kN_|apply kD_|apply kA_));exact BK273.out) NB273_0.out (by simp))
            have n1_:=aM_ (KeepBut.blk hk (g':=gb274) (o:=.cells #[.int .i64 0,.int .i64 0,.int .i64 0,.int .i64 0,.slice none 0 0,.slice none 0 0] 27 (0,0)) (by (with_reducible repeat (first|apply kN_|apply kD_|apply kA_));exact BK274.out) NB274_0.out (by simp))
            have n2_:=aM_ (Kd.R_mono (Kd.R_keep (IsS65.apart (show IsS65 w0 _ g s0_0 t287 from by repeat (first|(with_reducible first|exact HI0.out|apply IsS65.alloc|apply IsS65.drewN|apply IsS65.drew|apply IsS65.set_1|refine IsS65.far ?_ NB0_273.out _|refine IsS65.far ?_ NB0_274.out _|refine IsS65.far ?_ NB0_285.out _)|exact HI0.out)) (by (with_reducible repeat (first|apply rA_|apply rN_|apply rD_));exact HO281.out) (by decide)) hk (fun _ h=>h.2)) (fun _ h=>h.1))
            have n3_:=aM_ (Kd.R_mono (Kd.R_keep (IsS65.apart (show IsS65 w0 _ g s0_0 t287 from by repeat (first|(with_reducible first|exact HI0.out|apply IsS65.alloc|apply IsS65.drewN|apply IsS65.drew|apply IsS65.set_1|refine IsS65.far ?_ NB0_273.out _|refine IsS65.far ?_ NB0_274.out _|refine IsS65.far ?_ NB0_285.out _)|exact HI0.out)) (by (with_reducible repeat (first|apply rA_|apply rN_|apply rD_));exact HO284.out) (by decide)) hk (fun _ h=>h.2)) (fun _ h=>h.1))
            have n4_:=aM_ (KeepBut.blk hk (g':=gb285) (o:=.cells #[.int .i64 t275,.int .i64 t276,.int .i64 t277,.int .i64 t278,.slice Ao17 t279.length co17,.slice Ao18 t282.length co18] 27 (0,0)) (by (with_reducible repeat (first|apply kN_|apply kD_|apply kA_));exact BK285.out) NB285_0.out (by simp))
            have n5_:=aM_ (Kd.R_mono (Kd.R_keep (IsS65.apart (show IsS65 w0 _ g s0_0 t287 from by repeat (first|(with_reducible first|exact HI0.out|apply IsS65.alloc|apply IsS65.drewN|apply IsS65.drew|apply IsS65.set_1|refine IsS65.far ?_ NB0_273.out _|refine IsS65.far ?_ NB0_274.out _|refine IsS65.far ?_ NB0_285.out _)|exact HI0.out)) (by (with_reducible repeat (first|apply rA_|apply rN_|apply rD_));exact HO320.out) (by decide)) hk (fun _ h=>h.2)) (fun _ h=>h.1))
            have n6_:=aM_ (KeepBut.trans (by repeat (first|(with_reducible first|exact HK.out|apply pS_|apply pN_|apply pD_|apply pA_|refine keep_far ?_ GW273.out _|refine keep_far ?_ GW274.out _|refine keep_far ?_ GW285.out _)|exact HK.out)) hk (.inl rfl))
            have n7_:=aM_ (hb)
            have n8_:=aM_ (hi)
            clear BK273
            clear BK274
            clear HO281
            clear HO284
            clear BK285
            clear HO320
            clear HK
            clear HB
            clear HI0
            have BK273:=n0_
            have BK274:=n1_
            have HO281:=n2_
            have HO284:=n3_
            have BK285:=n4_
            have HO320:=n5_
            have HK:=n6_
            have HB:=n7_
            have HI0:=n8_
            clear n0_ n1_ n2_ n3_ n4_ n5_ n6_ n7_ n8_
            (try clear hb)
            (try clear hb2)
            (try clear hk)
            (try clear hi)
            refine hK.out _ _ (bc6 BK285.out) (fun hHeld=>?_)
            clear hK K
            refine norm_ (a':=?_) ?_ ?_
            rotate_left
            ·show Act.put _ (some 70) _=_
             simp only [Act.put,sA_,s0_,s1_,i64_w,i32_w]
             rfl
            exact norm_ (by simp only [putAll,Act.put,sA_,s0_,s1_]) (hCont (.slice (some ado116) y318.length co116,ado116) _ ⟨hHeld,(by (with_reducible repeat (first|apply rA_|apply rN_|apply rD_));exact HO281.out),(by (with_reducible repeat (first|apply rA_|apply rN_|apply rD_));exact HO284.out),(by (with_reducible repeat (first|apply rA_|apply rN_|apply rD_));exact Kd.R_mono HO320.out (fun _ hk=>⟨hk.1.2,hk.2⟩)),⟨_,rfl⟩,(by (with_reducible repeat (first|apply kN_|apply kD_|apply kA_));exact BK273.out),(by (with_reducible repeat (first|apply kN_|apply kD_|apply kA_));exact BK274.out),(by (with_reducible repeat (first|apply kN_|apply kD_|apply kA_));exact BK285.out),(by repeat (first|(with_reducible first|exact HI0.out|apply IsS65.alloc|apply IsS65.drewN|apply IsS65.drew|apply IsS65.set_1|refine IsS65.far ?_ NB0_273.out _|refine IsS65.far ?_ NB0_274.out _|refine IsS65.far ?_ NB0_285.out _)|exact HI0.out)),(by repeat (first|(with_reducible first|exact HK.out|apply pS_|apply pN_|apply pD_|apply pA_|refine keep_far ?_ GW273.out _|refine keep_far ?_ GW274.out _|refine keep_far ?_ GW285.out _)|exact HK.out)),(by repeat (first|(with_reducible first|exact HB.out|apply wA_|apply wN_|apply wD_|refine below_set ?_ (IsS65.ge HI0.out)|refine below_set ?_ GE273.out|refine below_set ?_ GE274.out|refine below_set ?_ GE285.out)|exact HB.out))⟩)
           ·skip
            refine goes_ Try.func68 (by kernel_rfl) rfl #[.pointer (some ⟨g,0,none⟩),.int .i64 3] (by rfl) rfl rfl (by (try simp only [List.map_toArray,List.map_cons,List.map_nil]);first|done|rfl|(simp only [List.length_drop,List.length_take];rfl)) ?_
            with_reducible refine (spec_l1Rd_pick.calls k g s0_0 t287 3 t321 t322 w0 _ ?side1 ?side2 A109.out).mono ?_
            (case side1=>repeat (first|(with_reducible first|exact HI0.out|apply IsS65.alloc|apply IsS65.drewN|apply IsS65.drew|apply IsS65.set_1|refine IsS65.far ?_ NB0_273.out _|refine IsS65.far ?_ NB0_274.out _|refine IsS65.far ?_ NB0_285.out _)|exact HI0.out))
            (case side2=>repeat (first|(with_reducible first|exact HB.out|apply wA_|apply wN_|apply wD_|refine below_set ?_ (IsS65.ge HI0.out)|refine below_set ?_ GE273.out|refine below_set ?_ GE274.out|refine below_set ?_ GE285.out)|exact HB.out))
            rintro e w114 ⟨rfl,hi,hb,hk⟩
            refine ⟨_,rfl,?_⟩
            have n0_:=aM_ (KeepBut.blk hk (g':=gb273) (o:=.cells #[.int .i64 a1_0,.int .i64 a1_1,.int .i64 a1_2,.int .i64 a1_3,.slice A1_4 l1_4.length c1_4,.slice A1_5 l1_5.length c1_5] 27 (0,0)) (by (with_reducible repeat (first|apply kN_|apply kD_|apply kA_));exact BK273.out) NB273_0.out (by simp))
            have n1_:=aM_ (KeepBut.blk hk (g':=gb274) (o:=.cells #[.int .i64 0,.int .i64 0,.int .i64 0,.int .i64 0,.slice none 0 0,.slice none 0 0] 27 (0,0)) (by (with_reducible repeat (first|apply kN_|apply kD_|apply kA_));exact BK274.out) NB274_0.out (by simp))
            have n2_:=aM_ (Kd.R_mono (Kd.R_keep (IsS65.apart (show IsS65 w0 _ g s0_0 t287 from by repeat (first|(with_reducible first|exact HI0.out|apply IsS65.alloc|apply IsS65.drewN|apply IsS65.drew|apply IsS65.set_1|refine IsS65.far ?_ NB0_273.out _|refine IsS65.far ?_ NB0_274.out _|refine IsS65.far ?_ NB0_285.out _)|exact HI0.out)) (by (with_reducible repeat (first|apply rA_|apply rN_|apply rD_));exact HO281.out) (by decide)) hk (fun _ h=>h.2)) (fun _ h=>h.1))
            have n3_:=aM_ (Kd.R_mono (Kd.R_keep (IsS65.apart (show IsS65 w0 _ g s0_0 t287 from by repeat (first|(with_reducible first|exact HI0.out|apply IsS65.alloc|apply IsS65.drewN|apply IsS65.drew|apply IsS65.set_1|refine IsS65.far ?_ NB0_273.out _|refine IsS65.far ?_ NB0_274.out _|refine IsS65.far ?_ NB0_285.out _)|exact HI0.out)) (by (with_reducible repeat (first|apply rA_|apply rN_|apply rD_));exact HO284.out) (by decide)) hk (fun _ h=>h.2)) (fun _ h=>h.1))
            have n4_:=aM_ (KeepBut.blk hk (g':=gb285) (o:=.cells #[.int .i64 t275,.int .i64 t276,.int .i64 t277,.int .i64 t278,.slice Ao17 t279.length co17,.slice Ao18 t282.length co18] 27 (0,0)) (by (with_reducible repeat (first|apply kN_|apply kD_|apply kA_));exact BK285.out) NB285_0.out (by simp))
            have n5_:=aM_ (KeepBut.trans (by repeat (first|(with_reducible first|exact HK.out|apply pS_|apply pN_|apply pD_|apply pA_|refine keep_far ?_ GW273.out _|refine keep_far ?_ GW274.out _|refine keep_far ?_ GW285.out _)|exact HK.out)) hk (.inl rfl))
            have n6_:=aM_ (hb)
            have n7_:=aM_ (hi)
            clear BK273
            clear BK274
            clear HO281
            clear HO284
            clear BK285
            clear HK
            clear HB
            clear HI0
            have BK273:=n0_
            have BK274:=n1_
            have HO281:=n2_
            have HO284:=n3_
            have BK285:=n4_
            have HK:=n5_
            have HB:=n6_
            have HI0:=n7_
            clear n0_ n1_ n2_ n3_ n4_ n5_ n6_ n7_
            (try clear hb)
            (try clear hb2)
            (try clear hk)
            (try clear hi)
            refine hK.out _ _ (bc6 BK285.out) (fun hHeld=>?_)
            clear hK K
            refine norm_ (a':=?_) ?_ ?_
            rotate_left
            ·show Act.put _ (some 70) _=_
             simp only [Act.put,sA_,s0_,s1_,i64_w,i32_w]
             rfl
            refine one_ (i:=2) (N:=some 68) #[true,true,true,true,true,false,false,false,false,false,false] rfl rfl (one_of HT_.out (by kernel_rfl)) (by decide) (fun K hK=>?_)
            refine Kd.R_lit_step (Kd.int .i64) _ 3 ?hg (N:=68) ?hd (xs:=([(-1),16777216,5]:List Int)) (inner:=[.int .i64 (-1),.int .i64 16777216,.int .i64 5]) (ok:=fun _=>True) (okp:=fun _=>True) ?hr ?hp (fun _ hk=>hk) trivial (Below.refl _ _) (Nat.le_refl _) (by simp) ?_;(case hd=>rfl);(case hg=>rfl);(case hr=>first|(go_simp;done)|(go_simp;rfl));(case hp=>exact (Reps.one (show Kd.M (Kd.int .i64) _ _ _ (-1) [.int .i64 (-1)] from rfl) (Reps.one (show Kd.M (Kd.int .i64) _ _ _ 16777216 [.int .i64 16777216] from rfl) (Reps.one (show Kd.M (Kd.int .i64) _ _ _ 5 [.int .i64 5] from rfl) (Reps.none _ _)))))
            intro v319 w115 ho116 hb hg_ hnew_
            clear hg_ hnew_
            (first|rw [← Ny318.out] at ho116|(simp only [Int.reduceToNat] at ho116;rw [← Ny318.out] at ho116))
            have n0_:=aM_ (Kd.R_elder' (by (with_reducible repeat (first|apply rA_|apply rN_|apply rD_));exact HO281.out) (Kd.R_base ho116) hb)
            have n1_:=aM_ (Kd.R_elder' (by (with_reducible repeat (first|apply rA_|apply rN_|apply rD_));exact HO284.out) (Kd.R_base ho116) hb)
            have n2_:=aM_ (Kd.R_lower (Kd.R_new' (Kd.R_new' ho116 (Kd.R_lt (by (with_reducible repeat (first|apply rA_|apply rN_|apply rD_));exact HO281.out))) (Kd.R_lt (by (with_reducible repeat (first|apply rA_|apply rN_|apply rD_));exact HO284.out))) (keep_size (w:=w) (g:=g) (row:=none) (by repeat (first|(with_reducible first|exact HK.out|apply pS_|apply pN_|apply pD_|apply pA_|refine keep_far ?_ GW273.out _|refine keep_far ?_ GW274.out _|refine keep_far ?_ GW285.out _)|exact HK.out))))
            have n3_:=aM_ (IsS65.below (by repeat (first|(with_reducible first|exact HI0.out|apply IsS65.alloc|apply IsS65.drewN|apply IsS65.drew|apply IsS65.set_1|refine IsS65.far ?_ NB0_273.out _|refine IsS65.far ?_ NB0_274.out _|refine IsS65.far ?_ NB0_285.out _)|exact HI0.out)) hb)
            have n4_:=aM_ (blk_below (g:=gb273) (by (with_reducible repeat (first|apply kN_|apply kD_|apply kA_));exact BK273.out) hb)
            have n5_:=aM_ (blk_below (g:=gb274) (by (with_reducible repeat (first|apply kN_|apply kD_|apply kA_));exact BK274.out) hb)
            have n6_:=aM_ (blk_below (g:=gb285) (by (with_reducible repeat (first|apply kN_|apply kD_|apply kA_));exact BK285.out) hb)
            have n7_:=aM_ (KeepBut.trans (by repeat (first|(with_reducible first|exact HK.out|apply pS_|apply pN_|apply pD_|apply pA_|refine keep_far ?_ GW273.out _|refine keep_far ?_ GW274.out _|refine keep_far ?_ GW285.out _)|exact HK.out)) (KeepBut.of_below hb g none) (.inl rfl))
            have n8_:=aM_ (below_step (by repeat (first|(with_reducible first|exact HB.out|apply wA_|apply wN_|apply wD_|refine below_set ?_ (IsS65.ge HI0.out)|refine below_set ?_ GE273.out|refine below_set ?_ GE274.out|refine below_set ?_ GE285.out)|exact HB.out)) hb)
            clear HO281
            clear HO284
            clear HI0
            clear BK273
            clear BK274
            clear BK285
            clear HK
            clear HB
            have HO281:=n0_
            have HO284:=n1_
            have HO320:=n2_
            have HI0:=n3_
            have BK273:=n4_
            have BK274:=n5_
            have BK285:=n6_
            have HK:=n7_
            have HB:=n8_
            clear n0_ n1_ n2_ n3_ n4_ n5_ n6_ n7_ n8_
            clear hb ho116
            obtain ⟨Ao117,co117,eo117⟩:=Kd.R_slice HO320.out
            subst eo117
            obtain ⟨ado117,fo117,_⟩:=Kd.at_int (Kd.R_reads' HO320.out).2.2 0 (by decide) (by rw [Ny318.out];simp)
            cases fo117
            refine hK.out _ _ (bc6 BK285.out) (fun hHeld=>?_)
            clear hK K
            refine norm_ (a':=?_) ?_ ?_
            rotate_left
            ·show Act.put _ (some 68) _=_
             simp only [Act.put,sA_,s0_,s1_,i64_w,i32_w]
             rfl
            exact norm_ (by simp only [putAll,Act.put,sA_,s0_,s1_]) (hCont (.slice (some ado117) y318.length co117,ado117) _ ⟨hHeld,(by (with_reducible repeat (first|apply rA_|apply rN_|apply rD_));exact HO281.out),(by (with_reducible repeat (first|apply rA_|apply rN_|apply rD_));exact HO284.out),(by (with_reducible repeat (first|apply rA_|apply rN_|apply rD_));exact Kd.R_mono HO320.out (fun _ hk=>⟨hk.1.2,hk.2⟩)),⟨_,rfl⟩,(by (with_reducible repeat (first|apply kN_|apply kD_|apply kA_));exact BK273.out),(by (with_reducible repeat (first|apply kN_|apply kD_|apply kA_));exact BK274.out),(by (with_reducible repeat (first|apply kN_|apply kD_|apply kA_));exact BK285.out),(by repeat (first|(with_reducible first|exact HI0.out|apply IsS65.alloc|apply IsS65.drewN|apply IsS65.drew|apply IsS65.set_1|refine IsS65.far ?_ NB0_273.out _|refine IsS65.far ?_ NB0_274.out _|refine IsS65.far ?_ NB0_285.out _)|exact HI0.out)),(by repeat (first|(with_reducible first|exact HK.out|apply pS_|apply pN_|apply pD_|apply pA_|refine keep_far ?_ GW273.out _|refine keep_far ?_ GW274.out _|refine keep_far ?_ GW285.out _)|exact HK.out)),(by repeat (first|(with_reducible first|exact HB.out|apply wA_|apply wN_|apply wD_|refine below_set ?_ (IsS65.ge HI0.out)|refine below_set ?_ GE273.out|refine below_set ?_ GE274.out|refine below_set ?_ GE285.out)|exact HB.out))⟩)
          rintro ⟨v319,adz_v319⟩ w118 ⟨hS_,h0_,h1_,h2_,h3_,h4_,h5_,h6_,h7_,h8_,h9_⟩
          have n0_:Aside0 (Kd.R (Kd.int .i64) 3 w118 w.heap.size (fun k_=>some k_≠(.slice Ao18 t282.length co18:Value).ownBlock∧some k_≠(v319:Value).ownBlock) (.slice Ao17 t279.length co17) t279):=⟨h0_⟩
          have n1_:Aside0 (Kd.R (Kd.int .i64) 3 w118 w.heap.size (fun k_=>some k_≠(.slice Ao17 t279.length co17:Value).ownBlock∧some k_≠(v319:Value).ownBlock) (.slice Ao18 t282.length co18) t282):=⟨h1_⟩
          have n2_:Aside0 (Kd.R (Kd.int .i64) 3 w118 w.heap.size (fun k_=>some k_≠(.slice Ao17 t279.length co17:Value).ownBlock∧some k_≠(.slice Ao18 t282.length co18:Value).ownBlock) v319 y318):=⟨h2_⟩
          have n3_:Aside0 (∃ c_,(v319:Value)=.slice (some adz_v319) y318.length c_):=⟨h3_⟩
          have n4_:Aside0 (w118.heap[gb273]?=some (.cells #[.int .i64 a1_0,.int .i64 a1_1,.int .i64 a1_2,.int .i64 a1_3,.slice A1_4 l1_4.length c1_4,.slice A1_5 l1_5.length c1_5] 27 (0,0))):=⟨h4_⟩
          have n5_:Aside0 (w118.heap[gb274]?=some (.cells #[.int .i64 0,.int .i64 0,.int .i64 0,.int .i64 0,.slice none 0 0,.slice none 0 0] 27 (0,0))):=⟨h5_⟩
          have n6_:Aside0 (w118.heap[gb285]?=some (.cells #[.int .i64 t275,.int .i64 t276,.int .i64 t277,.int .i64 t278,.slice Ao17 t279.length co17,.slice Ao18 t282.length co18] 27 (0,0))):=⟨h6_⟩
          have n7_:Aside0 (IsS65 w0 w118 g s0_0 t322):=⟨h7_⟩
          have n8_:Aside0 (KeepBut w w118 g none):=⟨h8_⟩
          have n9_:Aside0 (Below w0.heap.size w0 w118):=⟨h9_⟩
          clear HO281
          clear HO284
          clear BK273
          clear BK274
          clear BK285
          clear HI0
          clear HK
          clear HB
          clear h0_ h1_ h2_ h3_ h4_ h5_ h6_ h7_ h8_ h9_
          have HO281:=n0_
          have HO284:=n1_
          have HO320:=n2_
          have HA_HO320:=n3_
          have BK273:=n4_
          have BK274:=n5_
          have BK285:=n6_
          have HI0:=n7_
          have HK:=n8_
          have HB:=n9_
          clear n0_ n1_ n2_ n3_ n4_ n5_ n6_ n7_ n8_ n9_
          have hHeld:w118.cell? ⟨gb285,0,none⟩=some (.int .i64 t275)∧w118.cell? ⟨gb285,1,none⟩=some (.int .i64 t276)∧w118.cell? ⟨gb285,2,none⟩=some (.int .i64 t277)∧w118.cell? ⟨gb285,3,none⟩=some (.int .i64 t278)∧w118.cell? ⟨gb285,4,none⟩=some (.slice Ao17 t279.length co17)∧w118.cell? ⟨gb285,5,none⟩=some (.slice Ao18 t282.length co18):=hS_
          obtain ⟨co119,eo119⟩:=HA_HO320.out
          clear HA_HO320
          subst eo119
          refine norm_ (a':=?_) ?_ ?_
          rotate_left
          ·simp only [putAll,Act.put,sA_,s0_,s1_]
           rfl
          refine pure_ (i:=5) (N:=some 71) (v:=?_) (a':=?_) #[true,true,true,true,true,true,false,false,false,false,false] rfl rfl (any_of HT_.out (by kernel_rfl)) (fun _ _ _ h=>h) (Or.inl ⟨by rfl,?_⟩) ?_ ?_
          rotate_left
          ·intro w'
           go_simp
           with_reducible rfl
          rotate_left
          ·simp only [Act.put,sA_,s0_,s1_,i64_w,i32_w]
           rfl
          refine one_ (i:=6) (N:=some 72) #[true,true,true,true,true,true,true,false,false,false,false] rfl rfl (one_of HT_.out (by kernel_rfl)) (by decide) (fun K hK=>?_)
          (have p323:0≤(t321:Int):=of_decide_eq_true (by first|(with_reducible assumption)|assumption);have q323:t321 < (y318.length:Int):=of_decide_eq_true (by first|(with_reducible assumption)|assumption);obtain ⟨ad323,e323,hx323_0⟩:=Kd.at_int (Kd.R_reads' HO320.out).2.2 t321 p323 q323;obtain rfl:adz_v319=ad323:=(by injection e323))
          refine value_ (w1:=?_) (v:=?_) (by rfl) rfl ?_ ?_
          rotate_left 2
          ·go_simp
           constructor
           ·rfl
           ·rfl
          clear hx323_0
          refine hK.out _ _ (bc6 BK285.out) (fun hHeld=>?_)
          clear hK K
          refine norm_ (a':=?_) ?_ ?_
          rotate_left
          ·show Act.put _ (some 72) _=_
           simp only [Act.put,sA_,s0_,s1_,i64_w,i32_w]
           rfl
          refine one_ (i:=7) (N:=some 73) #[true,true,true,true,true,true,true,true,false,false,false] rfl rfl (one_of HT_.out (by kernel_rfl)) (by decide) (fun K hK=>?_)
          refine value_ (w1:=?_) (v:=?_) (by rfl) rfl ?_ ?_
          rotate_left 2
          ·go_simp
           constructor
           ·rfl
           ·rfl
          refine hK.out _ _ ⟨(blk_cell (kA_ BK285.out _) 0).trans rfl,(blk_cell (kA_ BK285.out _) 1).trans rfl,(blk_cell (kA_ BK285.out _) 2).trans rfl,(blk_cell (kA_ BK285.out _) 3).trans rfl,(blk_cell (kA_ BK285.out _) 4).trans rfl,(blk_cell (kA_ BK285.out _) 5).trans rfl⟩ (fun hHeld=>?_)
          clear hK K
          refine norm_ (a':=?_) ?_ ?_
          rotate_left
          ·show Act.put _ (some 73) _=_
           simp only [Act.put,sA_,s0_,s1_,i64_w,i32_w]
           rfl
          refine one_ (i:=8) (N:=some 74) #[true,true,true,true,true,true,true,true,true,false,false] rfl rfl (one_of HT_.out (by kernel_rfl)) (by decide) (fun K hK=>?_)
          refine Kd.R_append_step (Kd.int .i64) w.heap.size (by rfl) (.tmp 67) (.tmp 73) 22 3 (.int .i64 0) 8 rfl Try.underlying22 info3 rfl (by decide) (by omega) (.slice Ao17 t279.length co17) t279 (rd y318 t321) [.int .i64 (rd y318 t321)] (fun k_=>some k_≠(.slice Ao18 t282.length co18:Value).ownBlock∧some k_≠(.slice (some adz_v319) y318.length co119:Value).ownBlock) (fun _=>False) rfl rfl ?aP (fun _ hk=>hk.elim) ?aF ?aO (Below.refl _ _) ?aS ?aL ?_
          (case aP=>exact rfl)
          (case aF=>exact (fun k_ hk=>⟨Kd.fresh' (Kd.R_lt (by (with_reducible repeat (first|apply rA_|apply rN_|apply rD_));exact HO284.out)) k_ hk,Kd.fresh' (Kd.R_lt (by (with_reducible repeat (first|apply rA_|apply rN_|apply rD_));exact HO320.out)) k_ hk⟩))
          (case aO=>exact (by (with_reducible repeat (first|apply rA_|apply rN_|apply rD_));exact HO281.out))
          (case aS=>exact (keep_size (w:=w) (g:=g) (row:=none) (by repeat (first|(with_reducible first|exact HK.out|apply pS_|apply pN_|apply pD_|apply pA_|refine keep_far ?_ GW273.out _|refine keep_far ?_ GW274.out _|refine keep_far ?_ GW285.out _)|exact HK.out))))
          (case aL=>have:=LMc112.out;omega)
          intro v325 w120 ho hb hg hat
          rw [← Ny324.out] at ho
          have n0_:=aM_ (IsS65.grown (by repeat (first|(with_reducible first|exact HI0.out|apply IsS65.alloc|apply IsS65.drewN|apply IsS65.drew|apply IsS65.set_1|refine IsS65.far ?_ NB0_273.out _|refine IsS65.far ?_ NB0_274.out _|refine IsS65.far ?_ NB0_285.out _)|exact HI0.out)) hg (IsS65.own_ne HI0.out HO281.out (by decide)))
          have n1_:=aM_ (blk_grown (g:=gb273) (o:=.cells #[.int .i64 a1_0,.int .i64 a1_1,.int .i64 a1_2,.int .i64 a1_3,.slice A1_4 l1_4.length c1_4,.slice A1_5 l1_5.length c1_5] 27 (0,0)) (by (with_reducible repeat (first|apply kN_|apply kD_|apply kA_));exact BK273.out) hg (Kd.R_ne HO281.out BK273.out (by decide)))
          have n2_:=aM_ (blk_grown (g:=gb274) (o:=.cells #[.int .i64 0,.int .i64 0,.int .i64 0,.int .i64 0,.slice none 0 0,.slice none 0 0] 27 (0,0)) (by (with_reducible repeat (first|apply kN_|apply kD_|apply kA_));exact BK274.out) hg (Kd.R_ne HO281.out BK274.out (by decide)))
          have n3_:=aM_ (Kd.R_after (ok:=(fun k_=>some k_≠(.slice (some adz_v319) y318.length co119:Value).ownBlock)) (by (with_reducible repeat (first|apply rA_|apply rN_|apply rD_));exact Kd.R_mono HO284.out (fun _ hk=>⟨hk.2,hk.1⟩)) hg hat)
          have n4_:=aM_ (blk_grown (g:=gb285) (o:=.cells #[.int .i64 t275,.int .i64 t276,.int .i64 t277,.int .i64 t278,.slice Ao17 t279.length co17,.slice Ao18 t282.length co18] 27 (0,0)) (by (with_reducible repeat (first|apply kN_|apply kD_|apply kA_));exact BK285.out) hg (Kd.R_ne HO281.out BK285.out (by decide)))
          have n5_:=aM_ (Kd.R_after (ok:=(fun k_=>some k_≠(.slice Ao18 t282.length co18:Value).ownBlock)) (by (with_reducible repeat (first|apply rA_|apply rN_|apply rD_));exact Kd.R_mono HO320.out (fun _ hk=>⟨hk.2,hk.1⟩)) hg hat)
          have n6_:=aM_ (below_weaken (by repeat (first|(with_reducible first|exact HB.out|apply wA_|apply wN_|apply wD_|refine below_set ?_ (IsS65.ge HI0.out)|refine below_set ?_ GE273.out|refine below_set ?_ GE274.out|refine below_set ?_ GE285.out)|exact HB.out)) HL.out hb)
          have n7_:=aM_ (KeepBut.trans (by repeat (first|(with_reducible first|exact HK.out|apply pS_|apply pN_|apply pD_|apply pA_|refine keep_far ?_ GW273.out _|refine keep_far ?_ GW274.out _|refine keep_far ?_ GW285.out _)|exact HK.out)) (KeepBut.of_grown hg g) (Kd.R_base2 HO281.out))
          have n8_:=aM_ (ho)
          clear HI0
          clear BK273
          clear BK274
          clear HO284
          clear BK285
          clear HO320
          clear HB
          clear HK
          clear HO281
          have HI0:=n0_
          have BK273:=n1_
          have BK274:=n2_
          have HO284:=n3_
          have BK285:=n4_
          have HO320:=n5_
          have HB:=n6_
          have HK:=n7_
          have HO326:=n8_
          clear n0_ n1_ n2_ n3_ n4_ n5_ n6_ n7_ n8_
          clear ho hb hg hat
          obtain ⟨Ao121,co121,eo121⟩:=Kd.R_slice HO326.out
          (first|subst eo121|(injection eo121 with f1_ f2_ f3_;have f4_:=f1_.symm;have f5_:=f3_.symm;clear f1_ f2_ f3_;subst f4_;subst f5_))
          refine hK.out _ _ (bc6 BK285.out) (fun hHeld=>?_)
          clear hK K
          refine norm_ (a':=?_) ?_ ?_
          rotate_left
          ·show Act.put _ (some 74) _=_
           simp only [Act.put,sA_,s0_,s1_,i64_w,i32_w]
           rfl
          refine pure_ (i:=9) (N:=some 75) (v:=?_) (a':=?_) #[true,true,true,true,true,true,true,true,true,true,false] rfl rfl (any_of HT_.out (by kernel_rfl)) (fun _ _ _ h=>h) (Or.inl ⟨by rfl,?_⟩) ?_ ?_
          rotate_left
          ·intro w'
           go_simp
           with_reducible rfl
          rotate_left
          ·simp only [Act.put,sA_,s0_,s1_,i64_w,i32_w]
           rfl
          refine last_ (i:=10) (N:=none) #[true,true,true,true,true,true,true,true,true,true,true] rfl rfl (one_of HT_.out (by kernel_rfl)) (by decide) (fun K hK=>?_)
          have hs122:w120.cell? ⟨gb285,4,none⟩=some (.slice Ao17 t279.length co17):=(blk_cell BK285.out 4).trans rfl
          have hfs122:=blk_frozen BK285.out 4
          have hns122_0:=NB273_285.out
          have hns122_1:=NB274_285.out
          have hms122_0:=NB285_273.out
          have hms122_1:=NB285_274.out
          refine skip_ (w1:=?_) (by rfl) rfl ?_ ?_
          rotate_left
          ·go_simp
           rfl
          refine hK.out _ _ ?_
          clear hK K
          refine done_ (done_of HT_.out (by kernel_rfl)) ?_
          have hnb123:=NB285_273.out
          have hnc123:=NB273_285.out
          have hnb124:=NB285_274.out
          have hnc124:=NB274_285.out
          have hnb125:=NB285_0.out
          have hnc125:=NB0_285.out
          obtain ⟨hcz126_0,hcz126_1,hcz126_2,hcz126_3,hcz126_4,hcz126_5⟩:=bc6 BK285.out
          obtain ⟨hfz126_0,hfz126_1,hfz126_2,hfz126_3,hfz126_4,hfz126_5⟩:=bf6 BK285.out
          have hnb127:=NB274_273.out
          have hnc127:=NB273_274.out
          have hnb128:=NB274_0.out
          have hnc128:=NB0_274.out
          obtain ⟨hcz129_0,hcz129_1,hcz129_2,hcz129_3,hcz129_4,hcz129_5⟩:=bc6 BK274.out
          obtain ⟨hfz129_0,hfz129_1,hfz129_2,hfz129_3,hfz129_4,hfz129_5⟩:=bf6 BK274.out
          try go_wp2
          refine bodyPost_ret (results_cell_row rfl _ _ gb274 27 #[.int .i64 t275,.int .i64 t276,.int .i64 t277,.int .i64 t278,.slice Ao121 y324.length co121,.slice Ao18 t282.length co18] (0,0) _ rfl (by (with_reducible repeat (first|apply kN_|apply kD_|apply kA_));refine blk_put (cs:=#[.int .i64 t275,.int .i64 t276,.int .i64 t277,.int .i64 t278,.slice Ao121 y324.length co121,.slice none 0 0]) ?_ 5 _ rfl;(with_reducible repeat (first|apply kN_|apply kD_|apply kA_));refine blk_put (cs:=#[.int .i64 t275,.int .i64 t276,.int .i64 t277,.int .i64 t278,.slice none 0 0,.slice none 0 0]) ?_ 4 _ rfl;(with_reducible repeat (first|apply kN_|apply kD_|apply kA_));refine blk_put (cs:=#[.int .i64 t275,.int .i64 t276,.int .i64 t277,.int .i64 0,.slice none 0 0,.slice none 0 0]) ?_ 3 _ rfl;(with_reducible repeat (first|apply kN_|apply kD_|apply kA_));refine blk_put (cs:=#[.int .i64 t275,.int .i64 t276,.int .i64 0,.int .i64 0,.slice none 0 0,.slice none 0 0]) ?_ 2 _ rfl;(with_reducible repeat (first|apply kN_|apply kD_|apply kA_));refine blk_put (cs:=#[.int .i64 t275,.int .i64 0,.int .i64 0,.int .i64 0,.slice none 0 0,.slice none 0 0]) ?_ 1 _ rfl;(with_reducible repeat (first|apply kN_|apply kD_|apply kA_));refine blk_put (cs:=#[.int .i64 0,.int .i64 0,.int .i64 0,.int .i64 0,.slice none 0 0,.slice none 0 0]) ?_ 0 _ rfl;(with_reducible repeat (first|apply kN_|apply kD_|apply kA_));refine blk_far ?_ NB274_285.out _;(with_reducible repeat (first|apply kN_|apply kD_|apply kA_));exact BK274.out) Try.underlying27 rfl (by kernel_rfl)) rfl ?_
          exact ⟨_,_,by first|rfl|(simp [errW_none,errW_some] <;> rfl)|(simp [*,errW_none,errW_some] <;> rfl),by (with_reducible repeat (first|apply rA_|apply rN_|apply rD_));exact Kd.R_mono (Kd.R_far (Kd.R_far (Kd.R_far (Kd.R_far (Kd.R_far (Kd.R_far (Kd.R_far (Kd.R_types (Kd.R_types HO326.out BK285.out (by decide)) BK274.out (by decide)) (fun _ hk=>hk.1.2) _) (fun _ hk=>hk.2) _) (fun _ hk=>hk.2) _) (fun _ hk=>hk.2) _) (fun _ hk=>hk.2) _) (fun _ hk=>hk.2) _) (fun _ hk=>hk.2) _) (fun _ hk=>hk.1.1.1),Kd.Q_of_R (by (with_reducible repeat (first|apply rA_|apply rN_|apply rD_));exact Kd.R_mono (Kd.R_far (Kd.R_far (Kd.R_far (Kd.R_far (Kd.R_far (Kd.R_far (Kd.R_far (Kd.R_types (Kd.R_types HO284.out BK285.out (by decide)) BK274.out (by decide)) (fun _ hk=>hk.1.2) _) (fun _ hk=>hk.2) _) (fun _ hk=>hk.2) _) (fun _ hk=>hk.2) _) (fun _ hk=>hk.2) _) (fun _ hk=>hk.2) _) (fun _ hk=>hk.2) _) (fun _ hk=>hk.1.1.2)),by repeat (first|(with_reducible first|exact HI0.out|apply IsS65.alloc|apply IsS65.drewN|apply IsS65.drew|apply IsS65.set_1|refine IsS65.far ?_ NB0_273.out _|refine IsS65.far ?_ NB0_274.out _|refine IsS65.far ?_ NB0_285.out _)|exact HI0.out),by repeat (first|(with_reducible first|exact HB.out|apply wA_|apply wN_|apply wD_|refine below_set ?_ (IsS65.ge HI0.out)|refine below_set ?_ GE273.out|refine below_set ?_ GE274.out|refine below_set ?_ GE285.out)|exact HB.out),by repeat (first|(with_reducible first|exact HK.out|apply pS_|apply pN_|apply pD_|apply pA_|refine keep_far ?_ GW273.out _|refine keep_far ?_ GW274.out _|refine keep_far ?_ GW285.out _)|exact HK.out)⟩
         ·rw [if_neg c112] at H
          exact absurd H (by simp)
        ·rw [if_neg c111] at H
         exact absurd H (by simp)
       ·rw [if_neg c110] at H
        exact absurd H (by simp)
      ·rw [if_neg c108] at H
       have c108b0:(t286 == 5)=false:=beq_eq_false_iff_ne.mpr c108
       have c108b1:(t286 != 5)=true:=bne_iff_ne.mpr c108
       by_cases c130:t286=6
       ·rw [if_pos c130] at H
        have c130b0:(t286 == 6)=true:=beq_iff_eq.mpr c130
        have c130b1:(t286 != 6)=false:=bne_eq_false_iff_eq.mpr c130
        clear c130
        have H':=aM_ H
        clear H
        go_wp2
        go_loopg [6] k (fun kq v6 w'=>∃ (x6_1:Int) (x286004_1:List Int) (u286004:Value),v6=.int .i64 x6_1∧Aside0 (spec_l14Spoil.l0 kq x6_1 s0_0 t287 t275 t276 t277 t278 x286004_1 t282=some (r1,r2,r3,r4,r5,r6,r7))∧Aside0 (kq≤k)∧Aside0 (Kd.R (Kd.int .i64) 3 w' w.heap.size (fun k_=>some k_≠((.slice Ao18 t282.length co18):Value).ownBlock) u286004 x286004_1)∧Aside0 (Kd.Q (Kd.int .i64) 3 w' w.heap.size (fun k_=>some k_≠(u286004:Value).ownBlock) (.slice Ao18 t282.length co18) t282)∧Aside0 (w'.heap[gb273]?=some (.cells #[.int .i64 a1_0,.int .i64 a1_1,.int .i64 a1_2,.int .i64 a1_3,(.slice A1_4 l1_4.length c1_4),(.slice A1_5 l1_5.length c1_5)] 27 (0,0)))∧Aside0 (w'.heap[gb274]?=some (.cells #[.int .i64 0,.int .i64 0,.int .i64 0,.int .i64 0,(.slice none 0 0),(.slice none 0 0)] 27 (0,0)))∧Aside0 (w'.heap[gb285]?=some (.cells #[.int .i64 t275,.int .i64 t276,.int .i64 t277,.int .i64 t278,u286004,(.slice Ao18 t282.length co18)] 27 (0,0)))∧Aside0 (IsS65 w0 w' g s0_0 t287)∧Aside0 (KeepBut w w' g none)∧Aside0 (Below w0.heap.size w0 w'))
        case atStart=>exact ⟨(0),(t279),(.slice Ao17 t279.length co17),(by first|rfl|(simp;done)|(simp [*];done)),H',⟨Nat.le_refl _⟩,⟨by (with_reducible repeat (first|apply rA_|apply rN_|apply rD_));exact HO281.out⟩,⟨Kd.Q_of_R (by (with_reducible repeat (first|apply rA_|apply rN_|apply rD_));exact HO284.out)⟩,⟨by (with_reducible repeat (first|apply kN_|apply kD_|apply kA_));exact BK273.out⟩,⟨by (with_reducible repeat (first|apply kN_|apply kD_|apply kA_));exact BK274.out⟩,⟨by (with_reducible repeat (first|apply kN_|apply kD_|apply kA_));exact BK285.out⟩,⟨by repeat (first|(with_reducible first|exact HI0.out|apply IsS65.alloc|apply IsS65.drewN|apply IsS65.drew|apply IsS65.set_1|refine IsS65.far ?_ NB0_273.out _|refine IsS65.far ?_ NB0_274.out _|refine IsS65.far ?_ NB0_285.out _)|exact HI0.out)⟩,⟨by repeat (first|(with_reducible first|exact HK.out|apply pS_|apply pN_|apply pD_|apply pA_|refine keep_far ?_ GW273.out _|refine keep_far ?_ GW274.out _|refine keep_far ?_ GW285.out _)|exact HK.out)⟩,⟨by repeat (first|(with_reducible first|exact HB.out|apply wA_|apply wN_|apply wD_|refine below_set ?_ (IsS65.ge HI0.out)|refine below_set ?_ GE273.out|refine below_set ?_ GE274.out|refine below_set ?_ GE285.out)|exact HB.out)⟩⟩
        case round =>
         clear H'
         try clear c1
         try clear p2
         try clear p3
         try clear q3
         try clear hx3
         try clear qi3
         try clear c6
         try clear c8
         try clear q9
         try clear c10
         try clear c11
         try clear c12
         try clear c13
         try clear p31
         try clear q31
         try clear hx31
         try clear p32
         try clear q32
         try clear hx32
         try clear qi32
         try clear c68
         try clear c83
         try clear c83b0
         try clear c83b1
         try clear c86
         try clear c87
         try clear c88
         try clear c89
         try clear q90
         try clear c101
         try clear c102
         try clear c103
         try clear c105
         try clear c106
         try clear c108
         try clear c108b0
         try clear c108b1
         try clear c110
         try clear c110b0
         try clear c111
         try clear c111b0
         try clear c112
         try clear c123
         try clear c124
         try clear c125
         try clear c127
         try clear c128
         try clear c130
         try clear c130b0
         try clear c130b1
         try clear hcz104_0 hcz104_1 hcz104_2 hcz104_3 hcz104_4 hcz104_5
         try clear hcz107_0 hcz107_1 hcz107_2 hcz107_3 hcz107_4 hcz107_5
         try clear hcz126_0 hcz126_1 hcz126_2 hcz126_3 hcz126_4 hcz126_5
         try clear hcz129_0 hcz129_1 hcz129_2 hcz129_3 hcz129_4 hcz129_5
         try clear hfz104_0 hfz104_1 hfz104_2 hfz104_3 hfz104_4 hfz104_5
         try clear hfz107_0 hfz107_1 hfz107_2 hfz107_3 hfz107_4 hfz107_5
         try clear hfz126_0 hfz126_1 hfz126_2 hfz126_3 hfz126_4 hfz126_5
         try clear hfz129_0 hfz129_1 hfz129_2 hfz129_3 hfz129_4 hfz129_5
         try clear hx316_0
         try clear hx323_0
         try clear p316
         try clear p323
         try clear q316
         try clear q323
         try clear q90
         obtain ⟨x6_1,x286004_1,u286004,rfl,HA,HK1,HO_286004,HO_286005,BK273,BK274,BK285,HI0,HK,HB⟩:=hrel
         cases gk with
         | zero=>exact absurd HA.out (by simp [spec_l14Spoil.l0])
         | succ k1 =>
          have H:=HA.out
          clear HA
          simp only [spec_l14Spoil.l0] at H
          by_cases c131:x6_1 < 257
          ·rw [if_pos c131] at H
           have c131b0:decide (x6_1 < 257)=true:=decide_eq_true c131
           clear c131
           by_cases c132:x286004_1.length < 17592186044416
           ·rw [if_pos c132] at H
            have LMc132:=aM_ c132
            clear c132
            obtain ⟨y327,hy327⟩:∃ y_:List Int,y_=(x286004_1 ++ [7]):=⟨_,rfl⟩
            replace H:(spec_l14Spoil.l0 k1 (wrap64 (x6_1+1)) s0_0 t287 t275 t276 t277 t278 y327 t282)=some (r1,r2,r3,r4,r5,r6,r7):=by first|(rw [hy327];with_reducible exact H)|(have H2_:=(Option.bind_some _ _).symm.trans H;rw [hy327];with_reducible exact H2_)|(have H2_:=(Option.bind_some _ _).symm.trans H;with_reducible exact H2_)|with_reducible exact H|(rw [hy327];exact H)|exact H
            have Ny327:=aM_ hy327
            clear hy327
            have H':=aM_ H
            clear H
            have hnb133:=NB285_273.out
            have hnc133:=NB273_285.out
            have hnb134:=NB285_274.out
            have hnc134:=NB274_285.out
            have hnb135:=NB285_0.out
            have hnc135:=NB0_285.out
            obtain ⟨hcz136_0,hcz136_1,hcz136_2,hcz136_3,hcz136_4,hcz136_5⟩:=bc6 BK285.out
            obtain ⟨hfz136_0,hfz136_1,hfz136_2,hfz136_3,hfz136_4,hfz136_5⟩:=bf6 BK285.out
            go_wp2_with (first|((with_reducible refine gate_builtin (b:=.append) (xs:=#[.tmp 83,.tmp 84]) rfl ?_);at_builtin;refine Kd.R_append (Kd.int .i64) w.heap.size rfl (.tmp 83) (.tmp 84) 22 3 (.int .i64 0) 8 rfl Try.underlying22 info3 rfl (by decide) (by omega) u286004 x286004_1 7 [.int .i64 7] (fun k_=>some k_≠(.slice Ao18 t282.length co18:Value).ownBlock) (fun _=>False) rfl rfl ?aP (fun _ hk=>hk.elim) ?aF ?aO (Below.refl _ _) ?aS ?aL ?_;(case aP=>exact rfl);(case aF=>exact (fun k_ hk=>Kd.fresh' (Kd.Q_lt (by (with_reducible repeat (first|apply Kd.Q_alloc|apply Kd.Q_drewN|apply Kd.Q_drew));exact HO_286005.out)) k_ hk));(case aO=>exact (by (with_reducible repeat (first|apply rA_|apply rN_|apply rD_));exact HO_286004.out));(case aS=>exact (keep_size (w:=w) (g:=g) (row:=none) (by repeat (first|(with_reducible first|exact HK.out|apply pS_|apply pN_|apply pD_|apply pA_|refine keep_far ?_ GW273.out _|refine keep_far ?_ GW274.out _|refine keep_far ?_ GW285.out _)|exact HK.out))));(case aL=>have:=LMc132.out;omega);intro v328 w137 ho hb hg hat;rw [← Ny327.out] at ho;have n0_:=aM_ (Kd.Q_after (ok:=(fun _=>True)) (by (with_reducible repeat (first|apply Kd.Q_alloc|apply Kd.Q_drewN|apply Kd.Q_drew));exact Kd.Q_mono HO_286005.out (fun _ hk=>⟨trivial,hk⟩)) hg hat);have n1_:=aM_ (blk_grown (g:=gb273) (o:=.cells #[.int .i64 a1_0,.int .i64 a1_1,.int .i64 a1_2,.int .i64 a1_3,.slice A1_4 l1_4.length c1_4,.slice A1_5 l1_5.length c1_5] 27 (0,0)) (by (with_reducible repeat (first|apply kN_|apply kD_|apply kA_));exact BK273.out) hg (Kd.R_ne HO_286004.out BK273.out (by decide)));have n2_:=aM_ (blk_grown (g:=gb274) (o:=.cells #[.int .i64 0,.int .i64 0,.int .i64 0,.int .i64 0,.slice none 0 0,.slice none 0 0] 27 (0,0)) (by (with_reducible repeat (first|apply kN_|apply kD_|apply kA_));exact BK274.out) hg (Kd.R_ne HO_286004.out BK274.out (by decide)));have n3_:=aM_ (blk_grown (g:=gb285) (o:=.cells #[.int .i64 t275,.int .i64 t276,.int .i64 t277,.int .i64 t278,u286004,.slice Ao18 t282.length co18] 27 (0,0)) (by (with_reducible repeat (first|apply kN_|apply kD_|apply kA_));exact BK285.out) hg (Kd.R_ne HO_286004.out BK285.out (by decide)));have n4_:=aM_ (IsS65.grown (by repeat (first|(with_reducible first|exact HI0.out|apply IsS65.alloc|apply IsS65.drewN|apply IsS65.drew|apply IsS65.set_1|refine IsS65.far ?_ NB0_273.out _|refine IsS65.far ?_ NB0_274.out _|refine IsS65.far ?_ NB0_285.out _)|exact HI0.out)) hg (IsS65.own_ne HI0.out HO_286004.out (by decide)));have n5_:=aM_ (below_weaken (by repeat (first|(with_reducible first|exact HB.out|apply wA_|apply wN_|apply wD_|refine below_set ?_ (IsS65.ge HI0.out)|refine below_set ?_ GE273.out|refine below_set ?_ GE274.out|refine below_set ?_ GE285.out)|exact HB.out)) HL.out hb);have n6_:=aM_ (KeepBut.trans (by repeat (first|(with_reducible first|exact HK.out|apply pS_|apply pN_|apply pD_|apply pA_|refine keep_far ?_ GW273.out _|refine keep_far ?_ GW274.out _|refine keep_far ?_ GW285.out _)|exact HK.out)) (KeepBut.of_grown hg g) (Kd.R_base2 HO_286004.out));have n7_:=aM_ (ho);clear HO_286005;clear BK273;clear BK274;clear BK285;clear HI0;clear HB;clear HK;clear HO_286004;have HO_286005:=n0_;have BK273:=n1_;have BK274:=n2_;have BK285:=n3_;have HI0:=n4_;have HB:=n5_;have HK:=n6_;have HO329:=n7_;clear n0_ n1_ n2_ n3_ n4_ n5_ n6_ n7_;clear ho hb hg hat;obtain ⟨Ao138,co138,eo138⟩:=Kd.R_slice HO329.out;subst eo138;obtain ⟨hcz139_0,hcz139_1,hcz139_2,hcz139_3,hcz139_4,hcz139_5⟩:=bc6 BK285.out;obtain ⟨hfz139_0,hfz139_1,hfz139_2,hfz139_3,hfz139_4,hfz139_5⟩:=bf6 BK285.out))
            go_roundg k1
            case measure=>have:=HK1.out;omega
            case rel=>exact ⟨(wrap64 (x6_1+1)),(y327),(.slice Ao138 y327.length co138),(by first|rfl|(simp;done)|(simp [*];done)),H',⟨by have:=HK1.out;omega⟩,⟨by (with_reducible repeat (first|apply rA_|apply rN_|apply rD_));exact Kd.R_mono (Kd.R_far (Kd.R_types HO329.out BK285.out (by decide)) (fun _ hk=>hk.2) _) (fun _ hk=>hk.1)⟩,⟨by (with_reducible repeat (first|apply Kd.Q_alloc|apply Kd.Q_drewN|apply Kd.Q_drew));exact Kd.Q_mono (Kd.Q_far (Kd.Q_types HO_286005.out BK285.out (by decide)) (fun _ hk=>hk.2) _) (fun _ hk=>hk.1.2)⟩,⟨by (with_reducible repeat (first|apply kN_|apply kD_|apply kA_));refine blk_far ?_ NB273_285.out _;(with_reducible repeat (first|apply kN_|apply kD_|apply kA_));exact BK273.out⟩,⟨by (with_reducible repeat (first|apply kN_|apply kD_|apply kA_));refine blk_far ?_ NB274_285.out _;(with_reducible repeat (first|apply kN_|apply kD_|apply kA_));exact BK274.out⟩,⟨by (with_reducible repeat (first|apply kN_|apply kD_|apply kA_));refine blk_put (cs:=#[.int .i64 t275,.int .i64 t276,.int .i64 t277,.int .i64 t278,u286004,.slice Ao18 t282.length co18]) ?_ 4 _ rfl;(with_reducible repeat (first|apply kN_|apply kD_|apply kA_));exact BK285.out⟩,⟨by repeat (first|(with_reducible first|exact HI0.out|apply IsS65.alloc|apply IsS65.drewN|apply IsS65.drew|apply IsS65.set_1|refine IsS65.far ?_ NB0_273.out _|refine IsS65.far ?_ NB0_274.out _|refine IsS65.far ?_ NB0_285.out _)|exact HI0.out)⟩,⟨by repeat (first|(with_reducible first|exact HK.out|apply pS_|apply pN_|apply pD_|apply pA_|refine keep_far ?_ GW273.out _|refine keep_far ?_ GW274.out _|refine keep_far ?_ GW285.out _)|exact HK.out)⟩,⟨by repeat (first|(with_reducible first|exact HB.out|apply wA_|apply wN_|apply wD_|refine below_set ?_ (IsS65.ge HI0.out)|refine below_set ?_ GE273.out|refine below_set ?_ GE274.out|refine below_set ?_ GE285.out)|exact HB.out)⟩⟩
           ·rw [if_neg c132] at H
            exact absurd H (by simp)
          ·rw [if_neg c131] at H
           have c131b0:decide (x6_1 < 257)=false:=decide_eq_false c131
           clear c131
           simp only [Option.some.injEq,Prod.mk.injEq] at H
           obtain ⟨rfl,rfl,rfl,rfl,rfl,rfl,rfl⟩:=H
           have hnb140:=NB285_273.out
           have hnc140:=NB273_285.out
           have hnb141:=NB285_274.out
           have hnc141:=NB274_285.out
           have hnb142:=NB285_0.out
           have hnc142:=NB0_285.out
           obtain ⟨hcz143_0,hcz143_1,hcz143_2,hcz143_3,hcz143_4,hcz143_5⟩:=bc6 BK285.out
           obtain ⟨hfz143_0,hfz143_1,hfz143_2,hfz143_3,hfz143_4,hfz143_5⟩:=bf6 BK285.out
           have hnb144:=NB274_273.out
           have hnc144:=NB273_274.out
           have hnb145:=NB274_0.out
           have hnc145:=NB0_274.out
           obtain ⟨hcz146_0,hcz146_1,hcz146_2,hcz146_3,hcz146_4,hcz146_5⟩:=bc6 BK274.out
           obtain ⟨hfz146_0,hfz146_1,hfz146_2,hfz146_3,hfz146_4,hfz146_5⟩:=bf6 BK274.out
           obtain ⟨Ao147,co147,eo147⟩:=Kd.R_slice HO_286004.out
           subst eo147
           go_wp2
           refine bodyPost_ret (results_cell_row rfl _ _ gb274 27 #[.int .i64 t275,.int .i64 t276,.int .i64 t277,.int .i64 t278,.slice Ao147 x286004_1.length co147,.slice Ao18 t282.length co18] (0,0) _ rfl (by (with_reducible repeat (first|apply kN_|apply kD_|apply kA_));refine blk_put (cs:=#[.int .i64 t275,.int .i64 t276,.int .i64 t277,.int .i64 t278,.slice Ao147 x286004_1.length co147,.slice none 0 0]) ?_ 5 _ rfl;(with_reducible repeat (first|apply kN_|apply kD_|apply kA_));refine blk_put (cs:=#[.int .i64 t275,.int .i64 t276,.int .i64 t277,.int .i64 t278,.slice none 0 0,.slice none 0 0]) ?_ 4 _ rfl;(with_reducible repeat (first|apply kN_|apply kD_|apply kA_));refine blk_put (cs:=#[.int .i64 t275,.int .i64 t276,.int .i64 t277,.int .i64 0,.slice none 0 0,.slice none 0 0]) ?_ 3 _ rfl;(with_reducible repeat (first|apply kN_|apply kD_|apply kA_));refine blk_put (cs:=#[.int .i64 t275,.int .i64 t276,.int .i64 0,.int .i64 0,.slice none 0 0,.slice none 0 0]) ?_ 2 _ rfl;(with_reducible repeat (first|apply kN_|apply kD_|apply kA_));refine blk_put (cs:=#[.int .i64 t275,.int .i64 0,.int .i64 0,.int .i64 0,.slice none 0 0,.slice none 0 0]) ?_ 1 _ rfl;(with_reducible repeat (first|apply kN_|apply kD_|apply kA_));refine blk_put (cs:=#[.int .i64 0,.int .i64 0,.int .i64 0,.int .i64 0,.slice none 0 0,.slice none 0 0]) ?_ 0 _ rfl;(with_reducible repeat (first|apply kN_|apply kD_|apply kA_));exact BK274.out) Try.underlying27 rfl (by kernel_rfl)) rfl ?_
           exact ⟨_,_,by first|rfl|(simp [errW_none,errW_some] <;> rfl)|(simp [*,errW_none,errW_some] <;> rfl),by (with_reducible repeat (first|apply rA_|apply rN_|apply rD_));exact Kd.R_mono (Kd.R_far (Kd.R_far (Kd.R_far (Kd.R_far (Kd.R_far (Kd.R_far (Kd.R_types HO_286004.out BK274.out (by decide)) (fun _ hk=>hk.2) _) (fun _ hk=>hk.2) _) (fun _ hk=>hk.2) _) (fun _ hk=>hk.2) _) (fun _ hk=>hk.2) _) (fun _ hk=>hk.2) _) (fun _ hk=>hk.1),by (with_reducible repeat (first|apply Kd.Q_alloc|apply Kd.Q_drewN|apply Kd.Q_drew));exact Kd.Q_mono (Kd.Q_far (Kd.Q_far (Kd.Q_far (Kd.Q_far (Kd.Q_far (Kd.Q_far (Kd.Q_types HO_286005.out BK274.out (by decide)) (fun _ hk=>hk.2) _) (fun _ hk=>hk.2) _) (fun _ hk=>hk.2) _) (fun _ hk=>hk.2) _) (fun _ hk=>hk.2) _) (fun _ hk=>hk.2) _) (fun _ hk=>hk.1),by repeat (first|(with_reducible first|exact HI0.out|apply IsS65.alloc|apply IsS65.drewN|apply IsS65.drew|apply IsS65.set_1|refine IsS65.far ?_ NB0_273.out _|refine IsS65.far ?_ NB0_274.out _|refine IsS65.far ?_ NB0_285.out _)|exact HI0.out),by repeat (first|(with_reducible first|exact HB.out|apply wA_|apply wN_|apply wD_|refine below_set ?_ (IsS65.ge HI0.out)|refine below_set ?_ GE273.out|refine below_set ?_ GE274.out|refine below_set ?_ GE285.out)|exact HB.out),by repeat (first|(with_reducible first|exact HK.out|apply pS_|apply pN_|apply pD_|apply pA_|refine keep_far ?_ GW273.out _|refine keep_far ?_ GW274.out _|refine keep_far ?_ GW285.out _)|exact HK.out)⟩
       ·rw [if_neg c130] at H
        have c130b0:(t286 == 6)=false:=beq_eq_false_iff_ne.mpr c130
        have c130b1:(t286 != 6)=true:=bne_iff_ne.mpr c130
        simp only [Option.some.injEq,Prod.mk.injEq] at H
        obtain ⟨rfl,rfl,rfl,rfl,rfl,rfl,rfl⟩:=H
        have hnb148:=NB285_273.out
        have hnc148:=NB273_285.out
        have hnb149:=NB285_274.out
        have hnc149:=NB274_285.out
        have hnb150:=NB285_0.out
        have hnc150:=NB0_285.out
        obtain ⟨hcz151_0,hcz151_1,hcz151_2,hcz151_3,hcz151_4,hcz151_5⟩:=bc6 BK285.out
        obtain ⟨hfz151_0,hfz151_1,hfz151_2,hfz151_3,hfz151_4,hfz151_5⟩:=bf6 BK285.out
        have hnb152:=NB274_273.out
        have hnc152:=NB273_274.out
        have hnb153:=NB274_0.out
        have hnc153:=NB0_274.out
        obtain ⟨hcz154_0,hcz154_1,hcz154_2,hcz154_3,hcz154_4,hcz154_5⟩:=bc6 BK274.out
        obtain ⟨hfz154_0,hfz154_1,hfz154_2,hfz154_3,hfz154_4,hfz154_5⟩:=bf6 BK274.out
        go_wp2
        refine bodyPost_ret (results_cell_row rfl _ _ gb274 27 #[.int .i64 t275,.int .i64 t276,.int .i64 t277,.int .i64 0,.slice Ao17 t279.length co17,.slice Ao18 t282.length co18] (0,0) _ rfl (by (with_reducible repeat (first|apply kN_|apply kD_|apply kA_));refine blk_put (cs:=#[.int .i64 t275,.int .i64 t276,.int .i64 t277,.int .i64 0,.slice Ao17 t279.length co17,.slice none 0 0]) ?_ 5 _ rfl;(with_reducible repeat (first|apply kN_|apply kD_|apply kA_));refine blk_put (cs:=#[.int .i64 t275,.int .i64 t276,.int .i64 t277,.int .i64 0,.slice none 0 0,.slice none 0 0]) ?_ 4 _ rfl;(with_reducible repeat (first|apply kN_|apply kD_|apply kA_));refine blk_put (cs:=#[.int .i64 t275,.int .i64 t276,.int .i64 t277,.int .i64 0,.slice none 0 0,.slice none 0 0]) ?_ 3 _ rfl;(with_reducible repeat (first|apply kN_|apply kD_|apply kA_));refine blk_put (cs:=#[.int .i64 t275,.int .i64 t276,.int .i64 0,.int .i64 0,.slice none 0 0,.slice none 0 0]) ?_ 2 _ rfl;(with_reducible repeat (first|apply kN_|apply kD_|apply kA_));refine blk_put (cs:=#[.int .i64 t275,.int .i64 0,.int .i64 0,.int .i64 0,.slice none 0 0,.slice none 0 0]) ?_ 1 _ rfl;(with_reducible repeat (first|apply kN_|apply kD_|apply kA_));refine blk_put (cs:=#[.int .i64 0,.int .i64 0,.int .i64 0,.int .i64 0,.slice none 0 0,.slice none 0 0]) ?_ 0 _ rfl;(with_reducible repeat (first|apply kN_|apply kD_|apply kA_));refine blk_far ?_ NB274_285.out _;(with_reducible repeat (first|apply kN_|apply kD_|apply kA_));exact BK274.out) Try.underlying27 rfl (by kernel_rfl)) rfl ?_
        exact ⟨_,_,by first|rfl|(simp [errW_none,errW_some] <;> rfl)|(simp [*,errW_none,errW_some] <;> rfl),by (with_reducible repeat (first|apply rA_|apply rN_|apply rD_));exact Kd.R_mono (Kd.R_far (Kd.R_far (Kd.R_far (Kd.R_far (Kd.R_far (Kd.R_far (Kd.R_far (Kd.R_types (Kd.R_types HO281.out BK285.out (by decide)) BK274.out (by decide)) (fun _ hk=>hk.1.2) _) (fun _ hk=>hk.2) _) (fun _ hk=>hk.2) _) (fun _ hk=>hk.2) _) (fun _ hk=>hk.2) _) (fun _ hk=>hk.2) _) (fun _ hk=>hk.2) _) (fun _ hk=>hk.1.1),Kd.Q_of_R (by (with_reducible repeat (first|apply rA_|apply rN_|apply rD_));exact Kd.R_mono (Kd.R_far (Kd.R_far (Kd.R_far (Kd.R_far (Kd.R_far (Kd.R_far (Kd.R_far (Kd.R_types (Kd.R_types HO284.out BK285.out (by decide)) BK274.out (by decide)) (fun _ hk=>hk.1.2) _) (fun _ hk=>hk.2) _) (fun _ hk=>hk.2) _) (fun _ hk=>hk.2) _) (fun _ hk=>hk.2) _) (fun _ hk=>hk.2) _) (fun _ hk=>hk.2) _) (fun _ hk=>hk.1.1)),by repeat (first|(with_reducible first|exact HI0.out|apply IsS65.alloc|apply IsS65.drewN|apply IsS65.drew|apply IsS65.set_1|refine IsS65.far ?_ NB0_273.out _|refine IsS65.far ?_ NB0_274.out _|refine IsS65.far ?_ NB0_285.out _)|exact HI0.out),by repeat (first|(with_reducible first|exact HB.out|apply wA_|apply wN_|apply wD_|refine below_set ?_ (IsS65.ge HI0.out)|refine below_set ?_ GE273.out|refine below_set ?_ GE274.out|refine below_set ?_ GE285.out)|exact HB.out),by repeat (first|(with_reducible first|exact HK.out|apply pS_|apply pN_|apply pD_|apply pA_|refine keep_far ?_ GW273.out _|refine keep_far ?_ GW274.out _|refine keep_far ?_ GW285.out _)|exact HK.out)⟩

end Go.Proofs.Ytkjfefiphdloiaa.PFnImageCut
