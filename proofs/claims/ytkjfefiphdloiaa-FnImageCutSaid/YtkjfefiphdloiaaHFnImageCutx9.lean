/- What the functions that the law comes to compute, as plain functions, and that the machine's calls come to just that: written by a program for this claim, and turned where Lean did not take it. No condition. -/
import Derived.Test.YtkjfefiphdloiaaHFnImageCutx0
import Derived.Test.YtkjfefiphdloiaaHFnImageCutx1
import Derived.Test.YtkjfefiphdloiaaHFnImageCutx8
namespace Go.Proofs.Ytkjfefiphdloiaa.PFnImageCut
open Go.RowKit Go.Proofs.YtkjfefiphdloiaaW.PrintWords Go.Proofs.YtkjfefiphdloiaaW.PrintLast Go.Proofs.YtkjfefiphdloiaaW.PrintMore
attribute [local go_sem] max2_int min2_int max_two min_two max_three min_three max_four min_four   -- for this text's walks alone
set_option linter.unusedVariables false
set_option linter.unusedSimpArgs false

/-! ### spec_l14Image: function 74 -/
mutual
def spec_l14Image.j0:Nat → List Int → Int → Int → Int → Int → Int → Option (Int × Int × Int × Int × List Int × List Int × Int)
 | 0,_,_,_,_,_,_=>none
 | k+1,x1000,x1001,x213000,x213001,x213002,x213003=>(some (([1,2,4,8]:List Int):List Int)).bind fun y219=>((spec_l1Rd_pick.f k x1000 x1001 4).bind fun bt222=>(if 0≤bt222.1 then (if bt222.1 < (y219.length:Int) then (if x213000=2 then (spec_l14Image.j3 k x1000 bt222.2 x213000 24 x213002 x213003 ([]:List Int)) else (if x213000=3 then (spec_l14Image.j3 k x1000 bt222.2 x213000 32 x213002 x213003 ([]:List Int)) else (if x213000=4 then ((spec_l1Pow.f k (rd y219 bt222.1)).bind fun t225=>((spec_l1Rd_pick.f k x1000 bt222.2 2).bind fun bt226=>(if bt226.1=0 then ((spec_l1Rd_pick.f k x1000 bt226.2 t225).bind fun bt228=>(spec_l14Image.j1 k (wrap64 (1+bt228.1)) x1000 bt228.2 x213000 (rd y219 bt222.1) x213002 x213003)) else (spec_l14Image.j1 k t225 x1000 bt226.2 x213000 (rd y219 bt222.1) x213002 x213003)))) else (spec_l14Image.j3 k x1000 bt222.2 x213000 (rd y219 bt222.1) x213002 x213003 ([]:List Int))))) else (none)) else (none)))
def spec_l14Image.j3:Nat → List Int → Int → Int → Int → Int → Int → List Int → Option (Int × Int × Int × Int × List Int × List Int × Int)
 | 0,_,_,_,_,_,_,_=>none
 | k+1,x1000,x1001,x213000,x213001,x213002,x213003,x213004=>(spec_l1Pow.f k x213001).bind fun t239=>(if x213000=4 then (spec_l14Image.j4 k (x213004.length:Int) x1000 x1001 x213000 x213001 x213002 x213003 x213004) else (spec_l14Image.j4 k t239 x1000 x1001 x213000 x213001 x213002 x213003 x213004))
def spec_l14Image.j4:Nat → Int → List Int → Int → Int → Int → Int → Int → List Int → Option (Int × Int × Int × Int × List Int × List Int × Int)
 | 0,_,_,_,_,_,_,_,_=>none
 | k+1,x6,x1000,x1001,x213000,x213001,x213002,x213003,x213004=>spec_l14Image.l1 k x6 0 0 x1000 x1001 x213000 x213001 x213002 x213003 x213004 ([]:List Int)
def spec_l14Image.l1:Nat → Int → Int → Int → List Int → Int → Int → Int → Int → Int → List Int → List Int → Option (Int × Int × Int × Int × List Int × List Int × Int)
 | 0,_,_,_,_,_,_,_,_,_,_,_=>none
 | k+1,x6,x7,x8,x1000,x1001,x213000,x213001,x213002,x213003,x213004,x213005=>if x8 < (wrap64 (x213002 * x213003)) then ((spec_l1Rd_pick.f k x1000 x1001 3).bind fun bt240=>(if bt240.1 > 0 then ((spec_l1Rd_pick.f k x1000 bt240.2 256).bind fun bt242=>((spec_l1Rd_pick.f k x1000 bt242.2 3).bind fun bt244=>((spec_l1Rd_pick.f k x1000 bt244.2 256).bind fun bt246=>(if x6=0 then (none) else (spec_l14Image.j6 k x6 (Int.tmod (wrap64 ((wrap64 ((wrap64 (bt242.1 * 16777216))+(wrap64 (bt244.1 * 65536))))+bt246.1)) x6) x8 x1000 bt246.2 x213000 x213001 x213002 x213003 x213004 x213005))))) else (spec_l14Image.j6 k x6 x7 x8 x1000 bt240.2 x213000 x213001 x213002 x213003 x213004 x213005))) else (some (x213000,x213001,x213002,x213003,x213004,x213005,x1001))
def spec_l14Image.j6:Nat → Int → Int → Int → List Int → Int → Int → Int → Int → Int → List Int → List Int → Option (Int × Int × Int × Int × List Int × List Int × Int)
 | 0,_,_,_,_,_,_,_,_,_,_,_=>none
 | k+1,x6,x7,x8,x1000,x1001,x213000,x213001,x213002,x213003,x213004,x213005=>if x213000=3 then ((spec_l1Rd_pick.f k x1000 x1001 2).bind fun bt248=>(if bt248.1=0 then (if x213005.length < 17592186044416 then (spec_l14Image.l1 k x6 (wrap64 ((wrap64 ((wrap64 (Int.tdiv x7 256)) * 256))+255)) (wrap64 (x8+1)) x1000 bt248.2 x213000 x213001 x213002 x213003 x213004 (x213005 ++ [wrap64 ((wrap64 ((wrap64 (Int.tdiv x7 256)) * 256))+255)])) else (none)) else (if x213005.length < 17592186044416 then (spec_l14Image.l1 k x6 x7 (wrap64 (x8+1)) x1000 bt248.2 x213000 x213001 x213002 x213003 x213004 (x213005 ++ [x7])) else (none)))) else (if x213005.length < 17592186044416 then (spec_l14Image.l1 k x6 x7 (wrap64 (x8+1)) x1000 x1001 x213000 x213001 x213002 x213003 x213004 (x213005 ++ [x7])) else (none))
def spec_l14Image.j1:Nat → Int → List Int → Int → Int → Int → Int → Int → Option (Int × Int × Int × Int × List Int × List Int × Int)
 | 0,_,_,_,_,_,_,_=>none
 | k+1,x4,x1000,x1001,x213000,x213001,x213002,x213003=>spec_l14Image.l0 k x4 0 x1000 x1001 x213000 x213001 x213002 x213003 ([]:List Int)
def spec_l14Image.l0:Nat → Int → Int → List Int → Int → Int → Int → Int → Int → List Int → Option (Int × Int × Int × Int × List Int × List Int × Int)
 | 0,_,_,_,_,_,_,_,_,_=>none
 | k+1,x4,x5,x1000,x1001,x213000,x213001,x213002,x213003,x213004=>if x5 < x4 then ((spec_l1Rd_pick.f k x1000 x1001 256).bind fun bt230=>((spec_l1Rd_pick.f k x1000 bt230.2 256).bind fun bt232=>((spec_l1Rd_pick.f k x1000 bt232.2 9).bind fun bt234=>(if x213004.length < 17592186044416 then (spec_l14Image.l0 k x4 (wrap64 (x5+1)) x1000 bt234.2 x213000 x213001 x213002 x213003 (x213004 ++ [wrap64 ((wrap64 ((wrap64 (bt230.1 * 65536))+(wrap64 (bt232.1 * 256))))+bt234.1)])) else (none))))) else (spec_l14Image.j3 k x1000 x1001 x213000 x213001 x213002 x213003 x213004)
end
def spec_l14Image.f (k:Nat) (s0_0:List Int) (s0_1:Int):Option (Int × Int × Int × Int × List Int × List Int × Int):=(spec_l1Rd_pick.f k s0_0 s0_1 4).bind fun bt206=>((spec_l1Rd_pick.f k s0_0 bt206.2 9).bind fun bt208=>((spec_l1Rd_pick.f k s0_0 bt208.2 9).bind fun bt210=>((spec_l1Rd_pick.f k s0_0 bt210.2 8).bind fun bt213=>(if bt213.1=0 then ((spec_l1Rd_pick.f k s0_0 bt213.2 20).bind fun bt215=>((spec_l1Rd_pick.f k s0_0 bt215.2 20).bind fun bt217=>(spec_l14Image.j0 k s0_0 bt217.2 (wrap64 (1+bt206.1)) 0 (wrap64 (1+bt215.1)) (wrap64 (1+bt217.1))))) else (spec_l14Image.j0 k s0_0 bt213.2 (wrap64 (1+bt206.1)) 0 (wrap64 (1+bt208.1)) (wrap64 (1+bt210.1)))))))
theorem spec_l14Image.mono_l:∀ k,(∀ y0 y1 y2 y3 y4 y5,LeO (spec_l14Image.j0 k y0 y1 y2 y3 y4 y5) (spec_l14Image.j0 (k+1) y0 y1 y2 y3 y4 y5))∧(∀ y0 y1 y2 y3 y4 y5 y6,LeO (spec_l14Image.j3 k y0 y1 y2 y3 y4 y5 y6) (spec_l14Image.j3 (k+1) y0 y1 y2 y3 y4 y5 y6))∧(∀ y0 y1 y2 y3 y4 y5 y6 y7,LeO (spec_l14Image.j4 k y0 y1 y2 y3 y4 y5 y6 y7) (spec_l14Image.j4 (k+1) y0 y1 y2 y3 y4 y5 y6 y7))∧(∀ y0 y1 y2 y3 y4 y5 y6 y7 y8 y9 y10,LeO (spec_l14Image.l1 k y0 y1 y2 y3 y4 y5 y6 y7 y8 y9 y10) (spec_l14Image.l1 (k+1) y0 y1 y2 y3 y4 y5 y6 y7 y8 y9 y10))∧(∀ y0 y1 y2 y3 y4 y5 y6 y7 y8 y9 y10,LeO (spec_l14Image.j6 k y0 y1 y2 y3 y4 y5 y6 y7 y8 y9 y10) (spec_l14Image.j6 (k+1) y0 y1 y2 y3 y4 y5 y6 y7 y8 y9 y10))∧(∀ y0 y1 y2 y3 y4 y5 y6,LeO (spec_l14Image.j1 k y0 y1 y2 y3 y4 y5 y6) (spec_l14Image.j1 (k+1) y0 y1 y2 y3 y4 y5 y6))∧(∀ y0 y1 y2 y3 y4 y5 y6 y7 y8,LeO (spec_l14Image.l0 k y0 y1 y2 y3 y4 y5 y6 y7 y8) (spec_l14Image.l0 (k+1) y0 y1 y2 y3 y4 y5 y6 y7 y8))
 | 0=>⟨fun _ _ _ _ _ _ r h=>by simp [spec_l14Image.j0] at h,fun _ _ _ _ _ _ _ r h=>by simp [spec_l14Image.j3] at h,fun _ _ _ _ _ _ _ _ r h=>by simp [spec_l14Image.j4] at h,fun _ _ _ _ _ _ _ _ _ _ _ r h=>by simp [spec_l14Image.l1] at h,fun _ _ _ _ _ _ _ _ _ _ _ r h=>by simp [spec_l14Image.j6] at h,fun _ _ _ _ _ _ _ r h=>by simp [spec_l14Image.j1] at h,fun _ _ _ _ _ _ _ _ _ r h=>by simp [spec_l14Image.l0] at h⟩
 | k+1=>by
  obtain ⟨ih0,ih1,ih2,ih3,ih4,ih5,ih6⟩:=spec_l14Image.mono_l k
  refine ⟨?_,?_,?_,?_,?_,?_,?_⟩
  ·intro y0 y1 y2 y3 y4 y5
   unfold spec_l14Image.j0
   repeat' first
   | (with_reducible exact ih0 _ _ _ _ _ _)
   | (with_reducible exact ih1 _ _ _ _ _ _ _)
   | (with_reducible exact ih2 _ _ _ _ _ _ _ _)
   | (with_reducible exact ih3 _ _ _ _ _ _ _ _ _ _ _)
   | (with_reducible exact ih4 _ _ _ _ _ _ _ _ _ _ _)
   | (with_reducible exact ih5 _ _ _ _ _ _ _)
   | (with_reducible exact ih6 _ _ _ _ _ _ _ _ _)
   | (with_reducible exact spec_l1Pow.mono _ _)
   | (with_reducible exact spec_l1Rd_pick.mono _ _ _ _)
   | (with_reducible exact LeO.refl _)
   | (with_reducible exact LeO.none _)
   | (with_reducible refine LeO.ite ?_ ?_)
   | (with_reducible refine LeO.bind ?_ (fun _=>?_))
  ·intro y0 y1 y2 y3 y4 y5 y6
   unfold spec_l14Image.j3
   repeat' first
   | (with_reducible exact ih0 _ _ _ _ _ _)
   | (with_reducible exact ih1 _ _ _ _ _ _ _)
   | (with_reducible exact ih2 _ _ _ _ _ _ _ _)
   | (with_reducible exact ih3 _ _ _ _ _ _ _ _ _ _ _)
   | (with_reducible exact ih4 _ _ _ _ _ _ _ _ _ _ _)
   | (with_reducible exact ih5 _ _ _ _ _ _ _)
   | (with_reducible exact ih6 _ _ _ _ _ _ _ _ _)
   | (with_reducible exact spec_l1Pow.mono _ _)
   | (with_reducible exact spec_l1Rd_pick.mono _ _ _ _)
   | (with_reducible exact LeO.refl _)
   | (with_reducible exact LeO.none _)
   | (with_reducible refine LeO.ite ?_ ?_)
   | (with_reducible refine LeO.bind ?_ (fun _=>?_))
  ·intro y0 y1 y2 y3 y4 y5 y6 y7
   unfold spec_l14Image.j4
   repeat' first
   | (with_reducible exact ih0 _ _ _ _ _ _)
   | (with_reducible exact ih1 _ _ _ _ _ _ _)
   | (with_reducible exact ih2 _ _ _ _ _ _ _ _)
   | (with_reducible exact ih3 _ _ _ _ _ _ _ _ _ _ _)
   | (with_reducible exact ih4 _ _ _ _ _ _ _ _ _ _ _)
   | (with_reducible exact ih5 _ _ _ _ _ _ _)
   | (with_reducible exact ih6 _ _ _ _ _ _ _ _ _)
   | (with_reducible exact spec_l1Pow.mono _ _)
   | (with_reducible exact spec_l1Rd_pick.mono _ _ _ _)
   | (with_reducible exact LeO.refl _)
   | (with_reducible exact LeO.none _)
   | (with_reducible refine LeO.ite ?_ ?_)
   | (with_reducible refine LeO.bind ?_ (fun _=>?_))
  ·intro y0 y1 y2 y3 y4 y5 y6 y7 y8 y9 y10
   unfold spec_l14Image.l1
   repeat' first
   | (with_reducible exact ih0 _ _ _ _ _ _)
   | (with_reducible exact ih1 _ _ _ _ _ _ _)
   | (with_reducible exact ih2 _ _ _ _ _ _ _ _)
   | (with_reducible exact ih3 _ _ _ _ _ _ _ _ _ _ _)
   | (with_reducible exact ih4 _ _ _ _ _ _ _ _ _ _ _)
   | (with_reducible exact ih5 _ _ _ _ _ _ _)
   | (with_reducible exact ih6 _ _ _ _ _ _ _ _ _)
   | (with_reducible exact spec_l1Pow.mono _ _)
   | (with_reducible exact spec_l1Rd_pick.mono _ _ _ _)
   | (with_reducible exact LeO.refl _)
   | (with_reducible exact LeO.none _)
   | (with_reducible refine LeO.ite ?_ ?_)
   | (with_reducible refine LeO.bind ?_ (fun _=>?_))
  ·intro y0 y1 y2 y3 y4 y5 y6 y7 y8 y9 y10
   unfold spec_l14Image.j6
   repeat' first
   | (with_reducible exact ih0 _ _ _ _ _ _)
   | (with_reducible exact ih1 _ _ _ _ _ _ _)
   | (with_reducible exact ih2 _ _ _ _ _ _ _ _)
   | (with_reducible exact ih3 _ _ _ _ _ _ _ _ _ _ _)
   | (with_reducible exact ih4 _ _ _ _ _ _ _ _ _ _ _)
   | (with_reducible exact ih5 _ _ _ _ _ _ _)
   | (with_reducible exact ih6 _ _ _ _ _ _ _ _ _)
   | (with_reducible exact spec_l1Pow.mono _ _)
   | (with_reducible exact spec_l1Rd_pick.mono _ _ _ _)
   | (with_reducible exact LeO.refl _)
   | (with_reducible exact LeO.none _)
   | (with_reducible refine LeO.ite ?_ ?_)
   | (with_reducible refine LeO.bind ?_ (fun _=>?_))
  ·intro y0 y1 y2 y3 y4 y5 y6
   unfold spec_l14Image.j1
   repeat' first
   | (with_reducible exact ih0 _ _ _ _ _ _)
   | (with_reducible exact ih1 _ _ _ _ _ _ _)
   | (with_reducible exact ih2 _ _ _ _ _ _ _ _)
   | (with_reducible exact ih3 _ _ _ _ _ _ _ _ _ _ _)
   | (with_reducible exact ih4 _ _ _ _ _ _ _ _ _ _ _)
   | (with_reducible exact ih5 _ _ _ _ _ _ _)
   | (with_reducible exact ih6 _ _ _ _ _ _ _ _ _)
   | (with_reducible exact spec_l1Pow.mono _ _)
   | (with_reducible exact spec_l1Rd_pick.mono _ _ _ _)
   | (with_reducible exact LeO.refl _)
   | (with_reducible exact LeO.none _)
   | (with_reducible refine LeO.ite ?_ ?_)
   | (with_reducible refine LeO.bind ?_ (fun _=>?_))
  ·intro y0 y1 y2 y3 y4 y5 y6 y7 y8
   unfold spec_l14Image.l0
   repeat' first
   | (with_reducible exact ih0 _ _ _ _ _ _)
   | (with_reducible exact ih1 _ _ _ _ _ _ _)
   | (with_reducible exact ih2 _ _ _ _ _ _ _ _)
   | (with_reducible exact ih3 _ _ _ _ _ _ _ _ _ _ _)
   | (with_reducible exact ih4 _ _ _ _ _ _ _ _ _ _ _)
   | (with_reducible exact ih5 _ _ _ _ _ _ _)
   | (with_reducible exact ih6 _ _ _ _ _ _ _ _ _)
   | (with_reducible exact spec_l1Pow.mono _ _)
   | (with_reducible exact spec_l1Rd_pick.mono _ _ _ _)
   | (with_reducible exact LeO.refl _)
   | (with_reducible exact LeO.none _)
   | (with_reducible refine LeO.ite ?_ ?_)
   | (with_reducible refine LeO.bind ?_ (fun _=>?_))
theorem spec_l14Image.mono:∀ a0 a1 k,LeO (spec_l14Image.f k a0 a1) (spec_l14Image.f (k+1) a0 a1):=by
 intro a0 a1 k
 obtain ⟨ih0,ih1,ih2,ih3,ih4,ih5,ih6⟩:=spec_l14Image.mono_l k
 unfold spec_l14Image.f
 repeat' first
   | (with_reducible exact ih0 _ _ _ _ _ _)
   | (with_reducible exact ih1 _ _ _ _ _ _ _)
   | (with_reducible exact ih2 _ _ _ _ _ _ _ _)
   | (with_reducible exact ih3 _ _ _ _ _ _ _ _ _ _ _)
   | (with_reducible exact ih4 _ _ _ _ _ _ _ _ _ _ _)
   | (with_reducible exact ih5 _ _ _ _ _ _ _)
   | (with_reducible exact ih6 _ _ _ _ _ _ _ _ _)
   | (with_reducible exact spec_l1Pow.mono _ _)
   | (with_reducible exact spec_l1Rd_pick.mono _ _ _ _)
   | (with_reducible exact LeO.refl _)
   | (with_reducible exact LeO.none _)
   | (with_reducible refine LeO.ite ?_ ?_)
   | (with_reducible refine LeO.bind ?_ (fun _=>?_))
def spec_l14Image.T18:Bool × List (List Nat × List Nat):=(true,[([],[]),([0],[0]),([],[]),([2],[2]),([3],[3]),([],[]),([5,3],[5]),([6],[6]),([4,7],[4,7]),([],[]),([9,6],[9]),([8,10],[8,10]),([11],[11]),([1,12,10],[1,12]),([0,1,2,3,4,5,6,7,8,9,10,11,12,13],[]),([14,13,13,0,1,2,3,4,5,6,7,8,9,10,11,12,13],[13,14])])
def spec_l14Image.B18:List Nat:=[0,1,0,4,12,0,44,108,252,0,620,2044,4092,8191,16383,32767]
theorem spec_l14Image.tab18:rtab .any (opsOf Try.f74 18)=spec_l14Image.T18:=by kernel_rfl
theorem spec_l14Image.bits18:waitsOk spec_l14Image.T18.2 spec_l14Image.B18=true:=by kernel_rfl
set_option maxHeartbeats 8000000 in
set_option maxRecDepth 100000 in
theorem spec_l14Image.calls (k:Nat) (g:Nat) (s0_0:List Int) (s0_1:Int) (r1:Int) (r2:Int) (r3:Int) (r4:Int) (r5:List Int) (r6:List Int) (r7:Int) (w0 w:World) (hI:IsS65 w0 w g s0_0 s0_1) (hB:Below w0.heap.size w0 w) (h:spec_l14Image.f k s0_0 s0_1=some (r1,r2,r3,r4,r5,r6,r7)) :
  Calls Try.prog 74 #[.pointer (some ⟨g,0,none⟩)] w fun e w'=>∃ v4_ v5_:Value,e=.returned (.agg #[.int .i64 r1,.int .i64 r2,.int .i64 r3,.int .i64 r4,v4_,v5_])∧Kd.R (Kd.int .i64) 3 w' w.heap.size (fun k_=>some k_≠(v5_:Value).ownBlock) v4_ r5∧Kd.R (Kd.int .i64) 3 w' w.heap.size (fun k_=>some k_≠(v4_:Value).ownBlock) v5_ r6∧IsS65 w0 w' g s0_0 r7∧Below w0.heap.size w0 w'∧KeepBut w w' g none:=by
 have hu27:=Try.underlying27
 have HI0:=aM_ hI
 have HK:=aM_ (KeepBut.refl w g none)
 have HL:=aM_ hB.size
 clear hI
 have HW0:=aM_ hB.size
 have HB:=aM_ hB
 clear hB
 have H:((spec_l1Rd_pick.f k s0_0 s0_1 4).bind fun bt206=>((spec_l1Rd_pick.f k s0_0 bt206.2 9).bind fun bt208=>((spec_l1Rd_pick.f k s0_0 bt208.2 9).bind fun bt210=>((spec_l1Rd_pick.f k s0_0 bt210.2 8).bind fun bt213=>(if bt213.1=0 then ((spec_l1Rd_pick.f k s0_0 bt213.2 20).bind fun bt215=>((spec_l1Rd_pick.f k s0_0 bt215.2 20).bind fun bt217=>(spec_l14Image.j0 k s0_0 bt217.2 (wrap64 (1+bt206.1)) 0 (wrap64 (1+bt215.1)) (wrap64 (1+bt217.1))))) else (spec_l14Image.j0 k s0_0 bt213.2 (wrap64 (1+bt206.1)) 0 (wrap64 (1+bt208.1)) (wrap64 (1+bt210.1))))))))=some (r1,r2,r3,r4,r5,r6,r7):=h
 clear h
 replace H:=Option.bind_eq_some_iff.mp H
 obtain ⟨⟨t206,t207⟩,A20,H⟩:=H
 replace H:((spec_l1Rd_pick.f k s0_0 t207 9).bind fun bt208=>((spec_l1Rd_pick.f k s0_0 bt208.2 9).bind fun bt210=>((spec_l1Rd_pick.f k s0_0 bt210.2 8).bind fun bt213=>(if bt213.1=0 then ((spec_l1Rd_pick.f k s0_0 bt213.2 20).bind fun bt215=>((spec_l1Rd_pick.f k s0_0 bt215.2 20).bind fun bt217=>(spec_l14Image.j0 k s0_0 bt217.2 (wrap64 (1+t206)) 0 (wrap64 (1+bt215.1)) (wrap64 (1+bt217.1))))) else (spec_l14Image.j0 k s0_0 bt213.2 (wrap64 (1+t206)) 0 (wrap64 (1+bt208.1)) (wrap64 (1+bt210.1)))))))=some (r1,r2,r3,r4,r5,r6,r7):=H
 have A2:=aM_ A20
 clear A20
 replace H:=Option.bind_eq_some_iff.mp H
 obtain ⟨⟨t208,t209⟩,A30,H⟩:=H
 replace H:((spec_l1Rd_pick.f k s0_0 t209 9).bind fun bt210=>((spec_l1Rd_pick.f k s0_0 bt210.2 8).bind fun bt213=>(if bt213.1=0 then ((spec_l1Rd_pick.f k s0_0 bt213.2 20).bind fun bt215=>((spec_l1Rd_pick.f k s0_0 bt215.2 20).bind fun bt217=>(spec_l14Image.j0 k s0_0 bt217.2 (wrap64 (1+t206)) 0 (wrap64 (1+bt215.1)) (wrap64 (1+bt217.1))))) else (spec_l14Image.j0 k s0_0 bt213.2 (wrap64 (1+t206)) 0 (wrap64 (1+t208)) (wrap64 (1+bt210.1))))))=some (r1,r2,r3,r4,r5,r6,r7):=H
 have A3:=aM_ A30
 clear A30
 replace H:=Option.bind_eq_some_iff.mp H
 obtain ⟨⟨t210,t211⟩,A40,H⟩:=H
 replace H:((spec_l1Rd_pick.f k s0_0 t211 8).bind fun bt213=>(if bt213.1=0 then ((spec_l1Rd_pick.f k s0_0 bt213.2 20).bind fun bt215=>((spec_l1Rd_pick.f k s0_0 bt215.2 20).bind fun bt217=>(spec_l14Image.j0 k s0_0 bt217.2 (wrap64 (1+t206)) 0 (wrap64 (1+bt215.1)) (wrap64 (1+bt217.1))))) else (spec_l14Image.j0 k s0_0 bt213.2 (wrap64 (1+t206)) 0 (wrap64 (1+t208)) (wrap64 (1+t210)))))=some (r1,r2,r3,r4,r5,r6,r7):=H
 have A4:=aM_ A40
 clear A40
 replace H:=Option.bind_eq_some_iff.mp H
 obtain ⟨⟨t213,t214⟩,A50,H⟩:=H
 replace H:(if t213=0 then ((spec_l1Rd_pick.f k s0_0 t214 20).bind fun bt215=>((spec_l1Rd_pick.f k s0_0 bt215.2 20).bind fun bt217=>(spec_l14Image.j0 k s0_0 bt217.2 (wrap64 (1+t206)) 0 (wrap64 (1+bt215.1)) (wrap64 (1+bt217.1))))) else (spec_l14Image.j0 k s0_0 t214 (wrap64 (1+t206)) 0 (wrap64 (1+t208)) (wrap64 (1+t210))))=some (r1,r2,r3,r4,r5,r6,r7):=H
 have A5:=aM_ A50
 clear A50
 have HC6:=aM_ H
 clear H
 go_enter Try.func74,Try.ntmps74
 go_upto_if 21 with (first|((with_reducible refine gate_dst (N:=2) rfl ?_);refine box_event ?hg (N:=2) ?hd (cs:=#[.int .i64 0,.int .i64 0,.int .i64 0,.int .i64 0,.slice none 0 0,.slice none 0 0]) (t:=27) ?hr ?_;(case hd=>rfl);(case hg=>rfl);(case hr=>first|(go_simp;done)|(go_simp;rfl));intro gb205 hg w7 hbox hb;have n0_:=aM_ (IsS65.below (by repeat (first|(with_reducible first|exact HI0.out|apply IsS65.alloc|apply IsS65.drewN|apply IsS65.drew|apply IsS65.set_1)|exact HI0.out)) hb);have n1_:=aM_ (KeepBut.trans (by repeat (first|(with_reducible first|exact HK.out|apply pS_|apply pN_|apply pD_|apply pA_)|exact HK.out)) (KeepBut.of_below hb g none) (.inl rfl));have n2_:=aM_ (below_step (by repeat (first|(with_reducible first|exact HB.out|apply wA_|apply wN_|apply wD_|refine below_set ?_ (IsS65.ge HI0.out))|exact HB.out)) hb);have n3_:=aM_ (hbox);have n4_:=aM_ ((by rw [hg];exact (keep_size (w:=w) (g:=g) (row:=none) (by repeat (first|(with_reducible first|exact HK.out|apply pS_|apply pN_|apply pD_|apply pA_)|exact HK.out))):w.heap.size≤gb205));have n5_:=aM_ ((Nat.le_trans HW0.out (by rw [hg];exact (keep_size (w:=w) (g:=g) (row:=none) (by repeat (first|(with_reducible first|exact HK.out|apply pS_|apply pN_|apply pD_|apply pA_)|exact HK.out))):w.heap.size≤gb205):w0.heap.size≤gb205));have n6_:=aM_ ((by rw [hg];exact Nat.ne_of_lt (IsS65.lt (show IsS65 w0 _ g s0_0 s0_1 from by repeat (first|(with_reducible first|exact HI0.out|apply IsS65.alloc|apply IsS65.drewN|apply IsS65.drew|apply IsS65.set_1)|exact HI0.out))):g≠gb205));have n7_:=aM_ n6_.out.symm;clear HI0;clear HK;clear HB;have HI0:=n0_;have HK:=n1_;have HB:=n2_;have BK205:=n3_;have GW205:=n4_;have GE205:=n5_;have NB0_205:=n6_;have NB205_0:=n7_;clear n0_ n1_ n2_ n3_ n4_ n5_ n6_ n7_;clear hb hbox hg)|((with_reducible refine gate_callee (f:=68) rfl ?_);refine goesL_ (some 10) rfl rfl Try.func68 (by kernel_rfl) rfl #[.pointer (some ⟨g,0,none⟩),.int .i64 4] rfl (by (try simp only [List.map_toArray,List.map_cons,List.map_nil]);first|done|rfl|(simp only [List.length_drop,List.length_take];rfl)) ?_;(with_reducible refine (spec_l1Rd_pick.calls k g s0_0 s0_1 4 t206 t207 w0 _ ?side1 ?side2 A2.out).mono ?_);(case side1=>repeat (first|(with_reducible first|exact HI0.out|apply IsS65.alloc|apply IsS65.drewN|apply IsS65.drew|apply IsS65.set_1|refine IsS65.far ?_ NB0_205.out _)|exact HI0.out));(case side2=>repeat (first|(with_reducible first|exact HB.out|apply wA_|apply wN_|apply wD_|refine below_set ?_ (IsS65.ge HI0.out)|refine below_set ?_ GE205.out)|exact HB.out));rintro e w8 ⟨rfl,hi,hb,hk⟩;refine ⟨_,rfl,?_⟩;have n0_:=aM_ (KeepBut.blk hk (g':=gb205) (o:=.cells #[.int .i64 0,.int .i64 0,.int .i64 0,.int .i64 0,.slice none 0 0,.slice none 0 0] 27 (0,0)) (by (with_reducible repeat (first|apply kN_|apply kD_|apply kA_));exact BK205.out) NB205_0.out (by simp));have n1_:=aM_ (KeepBut.trans (by repeat (first|(with_reducible first|exact HK.out|apply pS_|apply pN_|apply pD_|apply pA_|refine keep_far ?_ GW205.out _)|exact HK.out)) hk (.inl rfl));have n2_:=aM_ (hb);have n3_:=aM_ (hi);clear BK205;clear HK;clear HB;clear HI0;have BK205:=n0_;have HK:=n1_;have HB:=n2_;have HI0:=n3_;clear n0_ n1_ n2_ n3_;(try clear hb);(try clear hb2);(try clear hk);(try clear hi))|((with_reducible refine gate_callee (f:=68) rfl ?_);refine goesL_ (some 13) rfl rfl Try.func68 (by kernel_rfl) rfl #[.pointer (some ⟨g,0,none⟩),.int .i64 9] rfl (by (try simp only [List.map_toArray,List.map_cons,List.map_nil]);first|done|rfl|(simp only [List.length_drop,List.length_take];rfl)) ?_;(with_reducible refine (spec_l1Rd_pick.calls k g s0_0 t207 9 t208 t209 w0 _ ?side1 ?side2 A3.out).mono ?_);(case side1=>repeat (first|(with_reducible first|exact HI0.out|apply IsS65.alloc|apply IsS65.drewN|apply IsS65.drew|apply IsS65.set_1|refine IsS65.far ?_ NB0_205.out _)|exact HI0.out));(case side2=>repeat (first|(with_reducible first|exact HB.out|apply wA_|apply wN_|apply wD_|refine below_set ?_ (IsS65.ge HI0.out)|refine below_set ?_ GE205.out)|exact HB.out));rintro e w9 ⟨rfl,hi,hb,hk⟩;refine ⟨_,rfl,?_⟩;have n0_:=aM_ (KeepBut.blk hk (g':=gb205) (o:=.cells #[.int .i64 0,.int .i64 0,.int .i64 0,.int .i64 0,.slice none 0 0,.slice none 0 0] 27 (0,0)) (by (with_reducible repeat (first|apply kN_|apply kD_|apply kA_));exact BK205.out) NB205_0.out (by simp));have n1_:=aM_ (KeepBut.trans (by repeat (first|(with_reducible first|exact HK.out|apply pS_|apply pN_|apply pD_|apply pA_|refine keep_far ?_ GW205.out _)|exact HK.out)) hk (.inl rfl));have n2_:=aM_ (hb);have n3_:=aM_ (hi);clear BK205;clear HK;clear HB;clear HI0;have BK205:=n0_;have HK:=n1_;have HB:=n2_;have HI0:=n3_;clear n0_ n1_ n2_ n3_;(try clear hb);(try clear hb2);(try clear hk);(try clear hi))|((with_reducible refine gate_callee (f:=68) rfl ?_);refine goesL_ (some 16) rfl rfl Try.func68 (by kernel_rfl) rfl #[.pointer (some ⟨g,0,none⟩),.int .i64 9] rfl (by (try simp only [List.map_toArray,List.map_cons,List.map_nil]);first|done|rfl|(simp only [List.length_drop,List.length_take];rfl)) ?_;(with_reducible refine (spec_l1Rd_pick.calls k g s0_0 t209 9 t210 t211 w0 _ ?side1 ?side2 A4.out).mono ?_);(case side1=>repeat (first|(with_reducible first|exact HI0.out|apply IsS65.alloc|apply IsS65.drewN|apply IsS65.drew|apply IsS65.set_1|refine IsS65.far ?_ NB0_205.out _)|exact HI0.out));(case side2=>repeat (first|(with_reducible first|exact HB.out|apply wA_|apply wN_|apply wD_|refine below_set ?_ (IsS65.ge HI0.out)|refine below_set ?_ GE205.out)|exact HB.out));rintro e w10 ⟨rfl,hi,hb,hk⟩;refine ⟨_,rfl,?_⟩;have n0_:=aM_ (KeepBut.blk hk (g':=gb205) (o:=.cells #[.int .i64 0,.int .i64 0,.int .i64 0,.int .i64 0,.slice none 0 0,.slice none 0 0] 27 (0,0)) (by (with_reducible repeat (first|apply kN_|apply kD_|apply kA_));exact BK205.out) NB205_0.out (by simp));have n1_:=aM_ (KeepBut.trans (by repeat (first|(with_reducible first|exact HK.out|apply pS_|apply pN_|apply pD_|apply pA_|refine keep_far ?_ GW205.out _)|exact HK.out)) hk (.inl rfl));have n2_:=aM_ (hb);have n3_:=aM_ (hi);clear BK205;clear HK;clear HB;clear HI0;have BK205:=n0_;have HK:=n1_;have HB:=n2_;have HI0:=n3_;clear n0_ n1_ n2_ n3_;(try clear hb);(try clear hb2);(try clear hk);(try clear hi))|((with_reducible refine gate_dst (N:=3) rfl ?_);refine box_event ?hg (N:=3) ?hd (cs:=#[.int .i64 0,.int .i64 0,.int .i64 0,.int .i64 0,.slice none 0 0,.slice none 0 0]) (t:=27) ?hr ?_;(case hd=>rfl);(case hg=>rfl);(case hr=>first|(go_simp;done)|(go_simp;rfl));intro gb212 hg w11 hbox hb;have n0_:=aM_ (IsS65.below (by repeat (first|(with_reducible first|exact HI0.out|apply IsS65.alloc|apply IsS65.drewN|apply IsS65.drew|apply IsS65.set_1|refine IsS65.far ?_ NB0_205.out _)|exact HI0.out)) hb);have n1_:=aM_ (blk_below (g:=gb205) (by (with_reducible repeat (first|apply kN_|apply kD_|apply kA_));exact BK205.out) hb);have n2_:=aM_ (KeepBut.trans (by repeat (first|(with_reducible first|exact HK.out|apply pS_|apply pN_|apply pD_|apply pA_|refine keep_far ?_ GW205.out _)|exact HK.out)) (KeepBut.of_below hb g none) (.inl rfl));have n3_:=aM_ (below_step (by repeat (first|(with_reducible first|exact HB.out|apply wA_|apply wN_|apply wD_|refine below_set ?_ (IsS65.ge HI0.out)|refine below_set ?_ GE205.out)|exact HB.out)) hb);have n4_:=aM_ (hbox);have n5_:=aM_ ((by rw [hg];exact (keep_size (w:=w) (g:=g) (row:=none) (by repeat (first|(with_reducible first|exact HK.out|apply pS_|apply pN_|apply pD_|apply pA_|refine keep_far ?_ GW205.out _)|exact HK.out))):w.heap.size≤gb212));have n6_:=aM_ ((Nat.le_trans HW0.out (by rw [hg];exact (keep_size (w:=w) (g:=g) (row:=none) (by repeat (first|(with_reducible first|exact HK.out|apply pS_|apply pN_|apply pD_|apply pA_|refine keep_far ?_ GW205.out _)|exact HK.out))):w.heap.size≤gb212):w0.heap.size≤gb212));have n7_:=aM_ ((by rw [hg];exact Nat.ne_of_lt (blk_lt (g:=gb205) (by (with_reducible repeat (first|apply kN_|apply kD_|apply kA_));exact BK205.out)):gb205≠gb212));have n8_:=aM_ n7_.out.symm;have n9_:=aM_ ((by rw [hg];exact Nat.ne_of_lt (IsS65.lt (show IsS65 w0 _ g s0_0 t211 from by repeat (first|(with_reducible first|exact HI0.out|apply IsS65.alloc|apply IsS65.drewN|apply IsS65.drew|apply IsS65.set_1|refine IsS65.far ?_ NB0_205.out _)|exact HI0.out))):g≠gb212));have n10_:=aM_ n9_.out.symm;clear HI0;clear BK205;clear HK;clear HB;have HI0:=n0_;have BK205:=n1_;have HK:=n2_;have HB:=n3_;have BK212:=n4_;have GW212:=n5_;have GE212:=n6_;have NB205_212:=n7_;have NB212_205:=n8_;have NB0_212:=n9_;have NB212_0:=n10_;clear n0_ n1_ n2_ n3_ n4_ n5_ n6_ n7_ n8_ n9_ n10_;clear hb hbox hg;have hnb12:=NB212_205.out;have hnc12:=NB205_212.out;have hnb13:=NB212_0.out;have hnc13:=NB0_212.out;obtain ⟨hcz14_0,hcz14_1,hcz14_2,hcz14_3,hcz14_4,hcz14_5⟩:=bc6 BK212.out;obtain ⟨hfz14_0,hfz14_1,hfz14_2,hfz14_3,hfz14_4,hfz14_5⟩:=bf6 BK212.out)|((with_reducible refine gate_callee (f:=68) rfl ?_);refine goesL_ (some 20) rfl rfl Try.func68 (by kernel_rfl) rfl #[.pointer (some ⟨g,0,none⟩),.int .i64 8] rfl (by (try simp only [List.map_toArray,List.map_cons,List.map_nil]);first|done|rfl|(simp only [List.length_drop,List.length_take];rfl)) ?_;(with_reducible refine (spec_l1Rd_pick.calls k g s0_0 t211 8 t213 t214 w0 _ ?side1 ?side2 A5.out).mono ?_);(case side1=>repeat (first|(with_reducible first|exact HI0.out|apply IsS65.alloc|apply IsS65.drewN|apply IsS65.drew|apply IsS65.set_1|refine IsS65.far ?_ NB0_205.out _|refine IsS65.far ?_ NB0_212.out _)|exact HI0.out));(case side2=>repeat (first|(with_reducible first|exact HB.out|apply wA_|apply wN_|apply wD_|refine below_set ?_ (IsS65.ge HI0.out)|refine below_set ?_ GE205.out|refine below_set ?_ GE212.out)|exact HB.out));rintro e w15 ⟨rfl,hi,hb,hk⟩;refine ⟨_,rfl,?_⟩;have n0_:=aM_ (KeepBut.blk hk (g':=gb205) (o:=.cells #[.int .i64 0,.int .i64 0,.int .i64 0,.int .i64 0,.slice none 0 0,.slice none 0 0] 27 (0,0)) (by (with_reducible repeat (first|apply kN_|apply kD_|apply kA_));refine blk_far ?_ NB205_212.out _;(with_reducible repeat (first|apply kN_|apply kD_|apply kA_));refine blk_far ?_ NB205_212.out _;(with_reducible repeat (first|apply kN_|apply kD_|apply kA_));refine blk_far ?_ NB205_212.out _;(with_reducible repeat (first|apply kN_|apply kD_|apply kA_));refine blk_far ?_ NB205_212.out _;(with_reducible repeat (first|apply kN_|apply kD_|apply kA_));refine blk_far ?_ NB205_212.out _;(with_reducible repeat (first|apply kN_|apply kD_|apply kA_));refine blk_far ?_ NB205_212.out _;(with_reducible repeat (first|apply kN_|apply kD_|apply kA_));exact BK205.out) NB205_0.out (by simp));have n1_:=aM_ (KeepBut.blk hk (g':=gb212) (o:=.cells #[.int .i64 (wrap64 (1+t206)),.int .i64 0,.int .i64 (wrap64 (1+t208)),.int .i64 (wrap64 (1+t210)),.slice none 0 0,.slice none 0 0] 27 (0,0)) (by (with_reducible repeat (first|apply kN_|apply kD_|apply kA_));refine blk_put (cs:=#[.int .i64 (wrap64 (1+t206)),.int .i64 0,.int .i64 (wrap64 (1+t208)),.int .i64 (wrap64 (1+t210)),.slice none 0 0,.slice none 0 0]) ?_ 5 _ rfl;(with_reducible repeat (first|apply kN_|apply kD_|apply kA_));refine blk_put (cs:=#[.int .i64 (wrap64 (1+t206)),.int .i64 0,.int .i64 (wrap64 (1+t208)),.int .i64 (wrap64 (1+t210)),.slice none 0 0,.slice none 0 0]) ?_ 4 _ rfl;(with_reducible repeat (first|apply kN_|apply kD_|apply kA_));refine blk_put (cs:=#[.int .i64 (wrap64 (1+t206)),.int .i64 0,.int .i64 (wrap64 (1+t208)),.int .i64 0,.slice none 0 0,.slice none 0 0]) ?_ 3 _ rfl;(with_reducible repeat (first|apply kN_|apply kD_|apply kA_));refine blk_put (cs:=#[.int .i64 (wrap64 (1+t206)),.int .i64 0,.int .i64 0,.int .i64 0,.slice none 0 0,.slice none 0 0]) ?_ 2 _ rfl;(with_reducible repeat (first|apply kN_|apply kD_|apply kA_));refine blk_put (cs:=#[.int .i64 (wrap64 (1+t206)),.int .i64 0,.int .i64 0,.int .i64 0,.slice none 0 0,.slice none 0 0]) ?_ 1 _ rfl;(with_reducible repeat (first|apply kN_|apply kD_|apply kA_));refine blk_put (cs:=#[.int .i64 0,.int .i64 0,.int .i64 0,.int .i64 0,.slice none 0 0,.slice none 0 0]) ?_ 0 _ rfl;(with_reducible repeat (first|apply kN_|apply kD_|apply kA_));exact BK212.out) NB212_0.out (by simp));have n2_:=aM_ (KeepBut.trans (by repeat (first|(with_reducible first|exact HK.out|apply pS_|apply pN_|apply pD_|apply pA_|refine keep_far ?_ GW205.out _|refine keep_far ?_ GW212.out _)|exact HK.out)) hk (.inl rfl));have n3_:=aM_ (hb);have n4_:=aM_ (hi);clear BK205;clear BK212;clear HK;clear HB;clear HI0;have BK205:=n0_;have BK212:=n1_;have HK:=n2_;have HB:=n3_;have HI0:=n4_;clear n0_ n1_ n2_ n3_ n4_;(try clear hb);(try clear hb2);(try clear hk);(try clear hi)))
 (try simp only [Act.put,sA_,s0_,s1_])
 go_cut [] (fun wc=>∃ (kq:Nat) (x1001_5:Int) (x213002_5:Int) (x213003_5:Int),Aside0 (spec_l14Image.j0 kq s0_0 x1001_5 (wrap64 (1+t206)) 0 x213002_5 x213003_5=some (r1,r2,r3,r4,r5,r6,r7))∧Aside0 (kq≤k)∧Aside0 (wc.heap[gb205]?=some (.cells #[.int .i64 0,.int .i64 0,.int .i64 0,.int .i64 0,(.slice none 0 0),(.slice none 0 0)] 27 (0,0)))∧Aside0 (wc.heap[gb212]?=some (.cells #[.int .i64 (wrap64 (1+t206)),.int .i64 0,.int .i64 x213002_5,.int .i64 x213003_5,(.slice none 0 0),(.slice none 0 0)] 27 (0,0)))∧Aside0 (IsS65 w0 wc g s0_0 x1001_5)∧Aside0 (KeepBut w wc g none)∧Aside0 (Below w0.heap.size w0 wc))
 case first =>
  have H:=HC6.out
  clear HC6
  by_cases c16:t213=0
  ·rw [if_pos c16] at H
   have c16b0:(t213 == 0)=true:=beq_iff_eq.mpr c16
   have c16b1:(t213 != 0)=false:=bne_eq_false_iff_eq.mpr c16
   clear c16
   (first|rw [c16b0]|(simp only [i64_w,i32_w];rw [c16b0])|skip)
   replace H:=Option.bind_eq_some_iff.mp H
   obtain ⟨⟨t215,t216⟩,A170,H⟩:=H
   replace H:((spec_l1Rd_pick.f k s0_0 t216 20).bind fun bt217=>(spec_l14Image.j0 k s0_0 bt217.2 (wrap64 (1+t206)) 0 (wrap64 (1+t215)) (wrap64 (1+bt217.1))))=some (r1,r2,r3,r4,r5,r6,r7):=H
   have A17:=aM_ A170
   clear A170
   replace H:=Option.bind_eq_some_iff.mp H
   obtain ⟨⟨t217,t218⟩,A180,H⟩:=H
   replace H:(spec_l14Image.j0 k s0_0 t218 (wrap64 (1+t206)) 0 (wrap64 (1+t215)) (wrap64 (1+t217)))=some (r1,r2,r3,r4,r5,r6,r7):=H
   have A18:=aM_ A180
   clear A180
   have H':=aM_ H
   clear H
   go_wp2_with (first|((with_reducible refine gate_callee (f:=68) rfl ?_);refine goesL_ (some 23) rfl rfl Try.func68 (by kernel_rfl) rfl #[.pointer (some ⟨g,0,none⟩),.int .i64 20] rfl (by (try simp only [List.map_toArray,List.map_cons,List.map_nil]);first|done|rfl|(simp only [List.length_drop,List.length_take];rfl)) ?_;(with_reducible refine (spec_l1Rd_pick.calls k g s0_0 t214 20 t215 t216 w0 _ ?side1 ?side2 A17.out).mono ?_);(case side1=>repeat (first|(with_reducible first|exact HI0.out|apply IsS65.alloc|apply IsS65.drewN|apply IsS65.drew|apply IsS65.set_1|refine IsS65.far ?_ NB0_205.out _|refine IsS65.far ?_ NB0_212.out _)|exact HI0.out));(case side2=>repeat (first|(with_reducible first|exact HB.out|apply wA_|apply wN_|apply wD_|refine below_set ?_ (IsS65.ge HI0.out)|refine below_set ?_ GE205.out|refine below_set ?_ GE212.out)|exact HB.out));rintro e w19 ⟨rfl,hi,hb,hk⟩;refine ⟨_,rfl,?_⟩;have n0_:=aM_ (KeepBut.blk hk (g':=gb205) (o:=.cells #[.int .i64 0,.int .i64 0,.int .i64 0,.int .i64 0,.slice none 0 0,.slice none 0 0] 27 (0,0)) (by (with_reducible repeat (first|apply kN_|apply kD_|apply kA_));exact BK205.out) NB205_0.out (by simp));have n1_:=aM_ (KeepBut.blk hk (g':=gb212) (o:=.cells #[.int .i64 (wrap64 (1+t206)),.int .i64 0,.int .i64 (wrap64 (1+t208)),.int .i64 (wrap64 (1+t210)),.slice none 0 0,.slice none 0 0] 27 (0,0)) (by (with_reducible repeat (first|apply kN_|apply kD_|apply kA_));exact BK212.out) NB212_0.out (by simp));have n2_:=aM_ (KeepBut.trans (by repeat (first|(with_reducible first|exact HK.out|apply pS_|apply pN_|apply pD_|apply pA_|refine keep_far ?_ GW205.out _|refine keep_far ?_ GW212.out _)|exact HK.out)) hk (.inl rfl));have n3_:=aM_ (hb);have n4_:=aM_ (hi);clear BK205;clear BK212;clear HK;clear HB;clear HI0;have BK205:=n0_;have BK212:=n1_;have HK:=n2_;have HB:=n3_;have HI0:=n4_;clear n0_ n1_ n2_ n3_ n4_;(try clear hb);(try clear hb2);(try clear hk);(try clear hi);have hnb20:=NB212_205.out;have hnc20:=NB205_212.out;have hnb21:=NB212_0.out;have hnc21:=NB0_212.out;obtain ⟨hcz22_0,hcz22_1,hcz22_2,hcz22_3,hcz22_4,hcz22_5⟩:=bc6 BK212.out;obtain ⟨hfz22_0,hfz22_1,hfz22_2,hfz22_3,hfz22_4,hfz22_5⟩:=bf6 BK212.out)|((with_reducible refine gate_callee (f:=68) rfl ?_);refine goesL_ (some 27) rfl rfl Try.func68 (by kernel_rfl) rfl #[.pointer (some ⟨g,0,none⟩),.int .i64 20] rfl (by (try simp only [List.map_toArray,List.map_cons,List.map_nil]);first|done|rfl|(simp only [List.length_drop,List.length_take];rfl)) ?_;(with_reducible refine (spec_l1Rd_pick.calls k g s0_0 t216 20 t217 t218 w0 _ ?side1 ?side2 A18.out).mono ?_);(case side1=>repeat (first|(with_reducible first|exact HI0.out|apply IsS65.alloc|apply IsS65.drewN|apply IsS65.drew|apply IsS65.set_1|refine IsS65.far ?_ NB0_205.out _|refine IsS65.far ?_ NB0_212.out _)|exact HI0.out));(case side2=>repeat (first|(with_reducible first|exact HB.out|apply wA_|apply wN_|apply wD_|refine below_set ?_ (IsS65.ge HI0.out)|refine below_set ?_ GE205.out|refine below_set ?_ GE212.out)|exact HB.out));rintro e w23 ⟨rfl,hi,hb,hk⟩;refine ⟨_,rfl,?_⟩;have n0_:=aM_ (KeepBut.blk hk (g':=gb205) (o:=.cells #[.int .i64 0,.int .i64 0,.int .i64 0,.int .i64 0,.slice none 0 0,.slice none 0 0] 27 (0,0)) (by (with_reducible repeat (first|apply kN_|apply kD_|apply kA_));refine blk_far ?_ NB205_212.out _;(with_reducible repeat (first|apply kN_|apply kD_|apply kA_));exact BK205.out) NB205_0.out (by simp));have n1_:=aM_ (KeepBut.blk hk (g':=gb212) (o:=.cells #[.int .i64 (wrap64 (1+t206)),.int .i64 0,.int .i64 (wrap64 (1+t215)),.int .i64 (wrap64 (1+t210)),.slice none 0 0,.slice none 0 0] 27 (0,0)) (by (with_reducible repeat (first|apply kN_|apply kD_|apply kA_));refine blk_put (cs:=#[.int .i64 (wrap64 (1+t206)),.int .i64 0,.int .i64 (wrap64 (1+t208)),.int .i64 (wrap64 (1+t210)),.slice none 0 0,.slice none 0 0]) ?_ 2 _ rfl;(with_reducible repeat (first|apply kN_|apply kD_|apply kA_));exact BK212.out) NB212_0.out (by simp));have n2_:=aM_ (KeepBut.trans (by repeat (first|(with_reducible first|exact HK.out|apply pS_|apply pN_|apply pD_|apply pA_|refine keep_far ?_ GW205.out _|refine keep_far ?_ GW212.out _)|exact HK.out)) hk (.inl rfl));have n3_:=aM_ (hb);have n4_:=aM_ (hi);clear BK205;clear BK212;clear HK;clear HB;clear HI0;have BK205:=n0_;have BK212:=n1_;have HK:=n2_;have HB:=n3_;have HI0:=n4_;clear n0_ n1_ n2_ n3_ n4_;(try clear hb);(try clear hb2);(try clear hk);(try clear hi);obtain ⟨hcz24_0,hcz24_1,hcz24_2,hcz24_3,hcz24_4,hcz24_5⟩:=bc6 BK212.out;obtain ⟨hfz24_0,hfz24_1,hfz24_2,hfz24_3,hfz24_4,hfz24_5⟩:=bf6 BK212.out))
   go_meet
   case rel=>exact ⟨_,(t218),(wrap64 (1+t215)),(wrap64 (1+t217)),H',⟨by first|omega|exact Nat.le_refl _⟩,⟨by (with_reducible repeat (first|apply kN_|apply kD_|apply kA_));refine blk_far ?_ NB205_212.out _;(with_reducible repeat (first|apply kN_|apply kD_|apply kA_));exact BK205.out⟩,⟨by (with_reducible repeat (first|apply kN_|apply kD_|apply kA_));refine blk_put (cs:=#[.int .i64 (wrap64 (1+t206)),.int .i64 0,.int .i64 (wrap64 (1+t215)),.int .i64 (wrap64 (1+t210)),.slice none 0 0,.slice none 0 0]) ?_ 3 _ rfl;(with_reducible repeat (first|apply kN_|apply kD_|apply kA_));exact BK212.out⟩,⟨by repeat (first|(with_reducible first|exact HI0.out|apply IsS65.alloc|apply IsS65.drewN|apply IsS65.drew|apply IsS65.set_1|refine IsS65.far ?_ NB0_205.out _|refine IsS65.far ?_ NB0_212.out _)|exact HI0.out)⟩,⟨by repeat (first|(with_reducible first|exact HK.out|apply pS_|apply pN_|apply pD_|apply pA_|refine keep_far ?_ GW205.out _|refine keep_far ?_ GW212.out _)|exact HK.out)⟩,⟨by repeat (first|(with_reducible first|exact HB.out|apply wA_|apply wN_|apply wD_|refine below_set ?_ (IsS65.ge HI0.out)|refine below_set ?_ GE205.out|refine below_set ?_ GE212.out)|exact HB.out)⟩⟩
  ·rw [if_neg c16] at H
   have c16b0:(t213 == 0)=false:=beq_eq_false_iff_ne.mpr c16
   have c16b1:(t213 != 0)=true:=bne_iff_ne.mpr c16
   (first|rw [c16b0]|(simp only [i64_w,i32_w];rw [c16b0])|skip)
   have H':=aM_ H
   clear H
   go_wp2
   go_meet
   case rel=>exact ⟨_,(t214),(wrap64 (1+t208)),(wrap64 (1+t210)),H',⟨by first|omega|exact Nat.le_refl _⟩,⟨by (with_reducible repeat (first|apply kN_|apply kD_|apply kA_));exact BK205.out⟩,⟨by (with_reducible repeat (first|apply kN_|apply kD_|apply kA_));exact BK212.out⟩,⟨by repeat (first|(with_reducible first|exact HI0.out|apply IsS65.alloc|apply IsS65.drewN|apply IsS65.drew|apply IsS65.set_1|refine IsS65.far ?_ NB0_205.out _|refine IsS65.far ?_ NB0_212.out _)|exact HI0.out)⟩,⟨by repeat (first|(with_reducible first|exact HK.out|apply pS_|apply pN_|apply pD_|apply pA_|refine keep_far ?_ GW205.out _|refine keep_far ?_ GW212.out _)|exact HK.out)⟩,⟨by repeat (first|(with_reducible first|exact HB.out|apply wA_|apply wN_|apply wD_|refine below_set ?_ (IsS65.ge HI0.out)|refine below_set ?_ GE205.out|refine below_set ?_ GE212.out)|exact HB.out)⟩⟩
 case rest =>
  clear HC6
  try clear c1
  try clear c2
  try clear p2
  try clear c6
  try clear p6
  try clear c7
  try clear c12
  try clear c13
  try clear c16
  try clear c16b0
  try clear c16b1
  try clear c20
  try clear c21
  try clear hcz14_0 hcz14_1 hcz14_2 hcz14_3 hcz14_4 hcz14_5
  try clear hcz22_0 hcz22_1 hcz22_2 hcz22_3 hcz22_4 hcz22_5
  try clear hcz24_0 hcz24_1 hcz24_2 hcz24_3 hcz24_4 hcz24_5
  try clear hfz14_0 hfz14_1 hfz14_2 hfz14_3 hfz14_4 hfz14_5
  try clear hfz22_0 hfz22_1 hfz22_2 hfz22_3 hfz22_4 hfz22_5
  try clear hfz24_0 hfz24_1 hfz24_2 hfz24_3 hfz24_4 hfz24_5
  obtain ⟨kq,x1001_5,x213002_5,x213003_5,HA,HJ5,BK205,BK212,HI0,HK,HB⟩:=hcut
  cases kq with
  | zero=>exact absurd HA.out (by simp [spec_l14Image.j0])
  | succ kj5 =>
   have H:=HA.out
   clear HA
   simp only [spec_l14Image.j0] at H
   obtain ⟨y219,hy219⟩:∃ y_:List Int,y_=(([1,2,4,8]:List Int)):=⟨_,rfl⟩
   replace H:((spec_l1Rd_pick.f kj5 s0_0 x1001_5 4).bind fun bt222=>(if 0≤bt222.1 then (if bt222.1 < (y219.length:Int) then (if (wrap64 (1+t206))=2 then (spec_l14Image.j3 kj5 s0_0 bt222.2 (wrap64 (1+t206)) 24 x213002_5 x213003_5 ([]:List Int)) else (if (wrap64 (1+t206))=3 then (spec_l14Image.j3 kj5 s0_0 bt222.2 (wrap64 (1+t206)) 32 x213002_5 x213003_5 ([]:List Int)) else (if (wrap64 (1+t206))=4 then ((spec_l1Pow.f kj5 (rd y219 bt222.1)).bind fun t225=>((spec_l1Rd_pick.f kj5 s0_0 bt222.2 2).bind fun bt226=>(if bt226.1=0 then ((spec_l1Rd_pick.f kj5 s0_0 bt226.2 t225).bind fun bt228=>(spec_l14Image.j1 kj5 (wrap64 (1+bt228.1)) s0_0 bt228.2 (wrap64 (1+t206)) (rd y219 bt222.1) x213002_5 x213003_5)) else (spec_l14Image.j1 kj5 t225 s0_0 bt226.2 (wrap64 (1+t206)) (rd y219 bt222.1) x213002_5 x213003_5)))) else (spec_l14Image.j3 kj5 s0_0 bt222.2 (wrap64 (1+t206)) (rd y219 bt222.1) x213002_5 x213003_5 ([]:List Int))))) else (none)) else (none)))=some (r1,r2,r3,r4,r5,r6,r7):=by first|(rw [hy219];with_reducible exact H)|(have H2_:=(Option.bind_some _ _).symm.trans H;rw [hy219];with_reducible exact H2_)|(have H2_:=(Option.bind_some _ _).symm.trans H;with_reducible exact H2_)|with_reducible exact H|(rw [hy219];exact H)|exact H
   have Ny219:=aM_ hy219
   clear hy219
   replace H:=Option.bind_eq_some_iff.mp H
   obtain ⟨⟨t222,t223⟩,A250,H⟩:=H
   replace H:(if 0≤t222 then (if t222 < (y219.length:Int) then (if (wrap64 (1+t206))=2 then (spec_l14Image.j3 kj5 s0_0 t223 (wrap64 (1+t206)) 24 x213002_5 x213003_5 ([]:List Int)) else (if (wrap64 (1+t206))=3 then (spec_l14Image.j3 kj5 s0_0 t223 (wrap64 (1+t206)) 32 x213002_5 x213003_5 ([]:List Int)) else (if (wrap64 (1+t206))=4 then ((spec_l1Pow.f kj5 (rd y219 t222)).bind fun t225=>((spec_l1Rd_pick.f kj5 s0_0 t223 2).bind fun bt226=>(if bt226.1=0 then ((spec_l1Rd_pick.f kj5 s0_0 bt226.2 t225).bind fun bt228=>(spec_l14Image.j1 kj5 (wrap64 (1+bt228.1)) s0_0 bt228.2 (wrap64 (1+t206)) (rd y219 t222) x213002_5 x213003_5)) else (spec_l14Image.j1 kj5 t225 s0_0 bt226.2 (wrap64 (1+t206)) (rd y219 t222) x213002_5 x213003_5)))) else (spec_l14Image.j3 kj5 s0_0 t223 (wrap64 (1+t206)) (rd y219 t222) x213002_5 x213003_5 ([]:List Int))))) else (none)) else (none))=some (r1,r2,r3,r4,r5,r6,r7):=H
   have A25:=aM_ A250
   clear A250
   by_cases c26:0≤t222
   ·rw [if_pos c26] at H
    have c26b0:decide (0≤t222)=true:=decide_eq_true c26
    clear c26
    by_cases c27:t222 < (y219.length:Int)
    ·rw [if_pos c27] at H
     have c27b0:decide (t222 < (y219.length:Int))=true:=decide_eq_true c27
     clear c27
     have HC28:=aM_ H
     clear H
     go_upto_block 0 with (first|((with_reducible refine gate_dst (N:=30) rfl ?_);refine Kd.R_lit (Kd.int .i64) _ 3 ?hg (N:=30) ?hd (xs:=([1,2,4,8]:List Int)) (inner:=[.int .i64 1,.int .i64 2,.int .i64 4,.int .i64 8]) (ok:=fun _=>True) (okp:=fun _=>True) ?hr ?hp (fun _ hk=>hk) trivial (Below.refl _ _) (Nat.le_refl _) (by simp) ?_;(case hd=>rfl);(case hg=>rfl);(case hr=>first|(go_simp;done)|(go_simp;rfl));(case hp=>exact (Reps.one (show Kd.M (Kd.int .i64) _ _ _ 1 [.int .i64 1] from rfl) (Reps.one (show Kd.M (Kd.int .i64) _ _ _ 2 [.int .i64 2] from rfl) (Reps.one (show Kd.M (Kd.int .i64) _ _ _ 4 [.int .i64 4] from rfl) (Reps.one (show Kd.M (Kd.int .i64) _ _ _ 8 [.int .i64 8] from rfl) (Reps.none _ _))))));intro v220 w29 ho30 hb hg_ hnew_;clear hg_ hnew_;(first|rw [← Ny219.out] at ho30|(simp only [Int.reduceToNat] at ho30;rw [← Ny219.out] at ho30));have n0_:=aM_ (Kd.R_lower ho30 (keep_size (w:=w) (g:=g) (row:=none) (by repeat (first|(with_reducible first|exact HK.out|apply pS_|apply pN_|apply pD_|apply pA_|refine keep_far ?_ GW205.out _|refine keep_far ?_ GW212.out _)|exact HK.out))));have n1_:=aM_ (blk_below (g:=gb205) (by (with_reducible repeat (first|apply kN_|apply kD_|apply kA_));exact BK205.out) hb);have n2_:=aM_ (blk_below (g:=gb212) (by (with_reducible repeat (first|apply kN_|apply kD_|apply kA_));exact BK212.out) hb);have n3_:=aM_ (IsS65.below (by repeat (first|(with_reducible first|exact HI0.out|apply IsS65.alloc|apply IsS65.drewN|apply IsS65.drew|apply IsS65.set_1|refine IsS65.far ?_ NB0_205.out _|refine IsS65.far ?_ NB0_212.out _)|exact HI0.out)) hb);have n4_:=aM_ (KeepBut.trans (by repeat (first|(with_reducible first|exact HK.out|apply pS_|apply pN_|apply pD_|apply pA_|refine keep_far ?_ GW205.out _|refine keep_far ?_ GW212.out _)|exact HK.out)) (KeepBut.of_below hb g none) (.inl rfl));have n5_:=aM_ (below_step (by repeat (first|(with_reducible first|exact HB.out|apply wA_|apply wN_|apply wD_|refine below_set ?_ (IsS65.ge HI0.out)|refine below_set ?_ GE205.out|refine below_set ?_ GE212.out)|exact HB.out)) hb);clear BK205;clear BK212;clear HI0;clear HK;clear HB;have HO221:=n0_;have BK205:=n1_;have BK212:=n2_;have HI0:=n3_;have HK:=n4_;have HB:=n5_;clear n0_ n1_ n2_ n3_ n4_ n5_;clear hb ho30)|((with_reducible refine gate_callee (f:=68) rfl ?_);refine goesL_ (some 32) rfl rfl Try.func68 (by kernel_rfl) rfl #[.pointer (some ⟨g,0,none⟩),.int .i64 4] rfl (by (try simp only [List.map_toArray,List.map_cons,List.map_nil]);first|done|rfl|(simp only [List.length_drop,List.length_take];rfl)) ?_;(with_reducible refine (spec_l1Rd_pick.calls kj5 g s0_0 x1001_5 4 t222 t223 w0 _ ?side1 ?side2 A25.out).mono ?_);(case side1=>repeat (first|(with_reducible first|exact HI0.out|apply IsS65.alloc|apply IsS65.drewN|apply IsS65.drew|apply IsS65.set_1|refine IsS65.far ?_ NB0_205.out _|refine IsS65.far ?_ NB0_212.out _)|exact HI0.out));(case side2=>repeat (first|(with_reducible first|exact HB.out|apply wA_|apply wN_|apply wD_|refine below_set ?_ (IsS65.ge HI0.out)|refine below_set ?_ GE205.out|refine below_set ?_ GE212.out)|exact HB.out));rintro e w31 ⟨rfl,hi,hb,hk⟩;refine ⟨_,rfl,?_⟩;have n0_:=aM_ (KeepBut.blk hk (g':=gb205) (o:=.cells #[.int .i64 0,.int .i64 0,.int .i64 0,.int .i64 0,.slice none 0 0,.slice none 0 0] 27 (0,0)) (by (with_reducible repeat (first|apply kN_|apply kD_|apply kA_));exact BK205.out) NB205_0.out (by simp));have n1_:=aM_ (KeepBut.blk hk (g':=gb212) (o:=.cells #[.int .i64 (wrap64 (1+t206)),.int .i64 0,.int .i64 x213002_5,.int .i64 x213003_5,.slice none 0 0,.slice none 0 0] 27 (0,0)) (by (with_reducible repeat (first|apply kN_|apply kD_|apply kA_));exact BK212.out) NB212_0.out (by simp));have n2_:=aM_ (Kd.R_mono (Kd.R_keep (IsS65.apart (show IsS65 w0 _ g s0_0 x1001_5 from by repeat (first|(with_reducible first|exact HI0.out|apply IsS65.alloc|apply IsS65.drewN|apply IsS65.drew|apply IsS65.set_1|refine IsS65.far ?_ NB0_205.out _|refine IsS65.far ?_ NB0_212.out _)|exact HI0.out)) (by (with_reducible repeat (first|apply rA_|apply rN_|apply rD_));exact HO221.out) (by decide)) hk (fun _ h=>h.2)) (fun _ h=>h.1));have n3_:=aM_ (KeepBut.trans (by repeat (first|(with_reducible first|exact HK.out|apply pS_|apply pN_|apply pD_|apply pA_|refine keep_far ?_ GW205.out _|refine keep_far ?_ GW212.out _)|exact HK.out)) hk (.inl rfl));have n4_:=aM_ (hb);have n5_:=aM_ (hi);clear BK205;clear BK212;clear HO221;clear HK;clear HB;clear HI0;have BK205:=n0_;have BK212:=n1_;have HO221:=n2_;have HK:=n3_;have HB:=n4_;have HI0:=n5_;clear n0_ n1_ n2_ n3_ n4_ n5_;(try clear hb);(try clear hb2);(try clear hk);(try clear hi);obtain ⟨Ao32,co32,eo32⟩:=Kd.R_slice HO221.out;subst eo32;have p224:0≤(t222:Int):=of_decide_eq_true (by first|(with_reducible assumption)|assumption);have q224:t222 < (y219.length:Int):=of_decide_eq_true (by first|(with_reducible assumption)|assumption);obtain ⟨ad224,e224,hx224_0⟩:=Kd.at_int (Kd.R_reads' HO221.out).2.2 t222 p224 q224;cases e224;replace p224:=eq_true p224;replace q224:=eq_true q224;have hnb33:=NB212_205.out;have hnc33:=NB205_212.out;have hnb34:=NB212_0.out;have hnc34:=NB0_212.out;obtain ⟨hcz35_0,hcz35_1,hcz35_2,hcz35_3,hcz35_4,hcz35_5⟩:=bc6 BK212.out;obtain ⟨hfz35_0,hfz35_1,hfz35_2,hfz35_3,hfz35_4,hfz35_5⟩:=bf6 BK212.out))
     (try simp only [Act.put,sA_,s0_,s1_])
     go_cut [] (fun wc=>∃ (kq:Nat) (x1001_27:Int) (x213001_27:Int) (x213004_27:List Int) (u213004:Value),Aside0 (spec_l14Image.j3 kq s0_0 x1001_27 (wrap64 (1+t206)) x213001_27 x213002_5 x213003_5 x213004_27=some (r1,r2,r3,r4,r5,r6,r7))∧Aside0 (kq≤kj5)∧Aside0 (Kd.R (Kd.int .i64) 3 wc w.heap.size (fun _=>True) u213004 x213004_27)∧Aside0 (wc.heap[gb205]?=some (.cells #[.int .i64 0,.int .i64 0,.int .i64 0,.int .i64 0,(.slice none 0 0),(.slice none 0 0)] 27 (0,0)))∧Aside0 (wc.heap[gb212]?=some (.cells #[.int .i64 (wrap64 (1+t206)),.int .i64 x213001_27,.int .i64 x213002_5,.int .i64 x213003_5,u213004,(.slice none 0 0)] 27 (0,0)))∧Aside0 (IsS65 w0 wc g s0_0 x1001_27)∧Aside0 (KeepBut w wc g none)∧Aside0 (Below w0.heap.size w0 wc))
     case first =>
      have H:=HC28.out
      clear HC28
      by_cases c36:(wrap64 (1+t206))=2
      ·rw [if_pos c36] at H
       have c36b0:((wrap64 (1+t206)) == 2)=true:=beq_iff_eq.mpr c36
       have c36b1:((wrap64 (1+t206)) != 2)=false:=bne_eq_false_iff_eq.mpr c36
       clear c36
       (first|rw [c36b0]|(simp only [i64_w,i32_w];rw [c36b0])|skip)
       have H':=aM_ H
       clear H
       have hnb37:=NB212_205.out
       have hnc37:=NB205_212.out
       have hnb38:=NB212_0.out
       have hnc38:=NB0_212.out
       obtain ⟨hcz39_0,hcz39_1,hcz39_2,hcz39_3,hcz39_4,hcz39_5⟩:=bc6 BK212.out
       obtain ⟨hfz39_0,hfz39_1,hfz39_2,hfz39_3,hfz39_4,hfz39_5⟩:=bf6 BK212.out
       go_wp2
       go_meet
       case rel=>exact ⟨_,(t223),(24),(([]:List Int)),(.slice none 0 0),H',⟨by have:=HJ5.out;first|omega|exact Nat.le_refl _⟩,⟨by first|exact Kd.R_nil _ _ _ _ _|exact Kd.N_nil _ _ _ _ _|exact Kd.V_nil _ _ _ _ _|exact Kd.Q_nil _ _ _ _ _|exact Kd.S_nil _ _ _ _ _⟩,⟨by (with_reducible repeat (first|apply kN_|apply kD_|apply kA_));refine blk_far ?_ NB205_212.out _;(with_reducible repeat (first|apply kN_|apply kD_|apply kA_));refine blk_far ?_ NB205_212.out _;(with_reducible repeat (first|apply kN_|apply kD_|apply kA_));exact BK205.out⟩,⟨by (with_reducible repeat (first|apply kN_|apply kD_|apply kA_));refine blk_put (cs:=#[.int .i64 (wrap64 (1+t206)),.int .i64 (rd y219 t222),.int .i64 x213002_5,.int .i64 x213003_5,.slice none 0 0,.slice none 0 0]) ?_ 1 _ rfl;(with_reducible repeat (first|apply kN_|apply kD_|apply kA_));refine blk_put (cs:=#[.int .i64 (wrap64 (1+t206)),.int .i64 0,.int .i64 x213002_5,.int .i64 x213003_5,.slice none 0 0,.slice none 0 0]) ?_ 1 _ rfl;(with_reducible repeat (first|apply kN_|apply kD_|apply kA_));exact BK212.out⟩,⟨by repeat (first|(with_reducible first|exact HI0.out|apply IsS65.alloc|apply IsS65.drewN|apply IsS65.drew|apply IsS65.set_1|refine IsS65.far ?_ NB0_205.out _|refine IsS65.far ?_ NB0_212.out _)|exact HI0.out)⟩,⟨by repeat (first|(with_reducible first|exact HK.out|apply pS_|apply pN_|apply pD_|apply pA_|refine keep_far ?_ GW205.out _|refine keep_far ?_ GW212.out _)|exact HK.out)⟩,⟨by repeat (first|(with_reducible first|exact HB.out|apply wA_|apply wN_|apply wD_|refine below_set ?_ (IsS65.ge HI0.out)|refine below_set ?_ GE205.out|refine below_set ?_ GE212.out)|exact HB.out)⟩⟩
      ·rw [if_neg c36] at H
       have c36b0:((wrap64 (1+t206)) == 2)=false:=beq_eq_false_iff_ne.mpr c36
       have c36b1:((wrap64 (1+t206)) != 2)=true:=bne_iff_ne.mpr c36
       (first|rw [c36b0]|(simp only [i64_w,i32_w];rw [c36b0])|skip)
       by_cases c40:(wrap64 (1+t206))=3
       ·rw [if_pos c40] at H
        have c40b0:((wrap64 (1+t206)) == 3)=true:=beq_iff_eq.mpr c40
        have c40b1:((wrap64 (1+t206)) != 3)=false:=bne_eq_false_iff_eq.mpr c40
        clear c40
        have H':=aM_ H
        clear H
        have hnb41:=NB212_205.out
        have hnc41:=NB205_212.out
        have hnb42:=NB212_0.out
        have hnc42:=NB0_212.out
        obtain ⟨hcz43_0,hcz43_1,hcz43_2,hcz43_3,hcz43_4,hcz43_5⟩:=bc6 BK212.out
        obtain ⟨hfz43_0,hfz43_1,hfz43_2,hfz43_3,hfz43_4,hfz43_5⟩:=bf6 BK212.out
        go_wp2
        go_meet
        case rel=>exact ⟨_,(t223),(32),(([]:List Int)),(.slice none 0 0),H',⟨by have:=HJ5.out;first|omega|exact Nat.le_refl _⟩,⟨by first|exact Kd.R_nil _ _ _ _ _|exact Kd.N_nil _ _ _ _ _|exact Kd.V_nil _ _ _ _ _|exact Kd.Q_nil _ _ _ _ _|exact Kd.S_nil _ _ _ _ _⟩,⟨by (with_reducible repeat (first|apply kN_|apply kD_|apply kA_));refine blk_far ?_ NB205_212.out _;(with_reducible repeat (first|apply kN_|apply kD_|apply kA_));refine blk_far ?_ NB205_212.out _;(with_reducible repeat (first|apply kN_|apply kD_|apply kA_));exact BK205.out⟩,⟨by (with_reducible repeat (first|apply kN_|apply kD_|apply kA_));refine blk_put (cs:=#[.int .i64 (wrap64 (1+t206)),.int .i64 (rd y219 t222),.int .i64 x213002_5,.int .i64 x213003_5,.slice none 0 0,.slice none 0 0]) ?_ 1 _ rfl;(with_reducible repeat (first|apply kN_|apply kD_|apply kA_));refine blk_put (cs:=#[.int .i64 (wrap64 (1+t206)),.int .i64 0,.int .i64 x213002_5,.int .i64 x213003_5,.slice none 0 0,.slice none 0 0]) ?_ 1 _ rfl;(with_reducible repeat (first|apply kN_|apply kD_|apply kA_));exact BK212.out⟩,⟨by repeat (first|(with_reducible first|exact HI0.out|apply IsS65.alloc|apply IsS65.drewN|apply IsS65.drew|apply IsS65.set_1|refine IsS65.far ?_ NB0_205.out _|refine IsS65.far ?_ NB0_212.out _)|exact HI0.out)⟩,⟨by repeat (first|(with_reducible first|exact HK.out|apply pS_|apply pN_|apply pD_|apply pA_|refine keep_far ?_ GW205.out _|refine keep_far ?_ GW212.out _)|exact HK.out)⟩,⟨by repeat (first|(with_reducible first|exact HB.out|apply wA_|apply wN_|apply wD_|refine below_set ?_ (IsS65.ge HI0.out)|refine below_set ?_ GE205.out|refine below_set ?_ GE212.out)|exact HB.out)⟩⟩
       ·rw [if_neg c40] at H
        have c40b0:((wrap64 (1+t206)) == 3)=false:=beq_eq_false_iff_ne.mpr c40
        have c40b1:((wrap64 (1+t206)) != 3)=true:=bne_iff_ne.mpr c40
        by_cases c44:(wrap64 (1+t206))=4
        ·rw [if_pos c44] at H
         have c44b0:((wrap64 (1+t206)) == 4)=true:=beq_iff_eq.mpr c44
         have c44b1:((wrap64 (1+t206)) != 4)=false:=bne_eq_false_iff_eq.mpr c44
         clear c44
         replace H:=Option.bind_eq_some_iff.mp H
         obtain ⟨t225,A450,H⟩:=H
         replace H:((spec_l1Rd_pick.f kj5 s0_0 t223 2).bind fun bt226=>(if bt226.1=0 then ((spec_l1Rd_pick.f kj5 s0_0 bt226.2 t225).bind fun bt228=>(spec_l14Image.j1 kj5 (wrap64 (1+bt228.1)) s0_0 bt228.2 (wrap64 (1+t206)) (rd y219 t222) x213002_5 x213003_5)) else (spec_l14Image.j1 kj5 t225 s0_0 bt226.2 (wrap64 (1+t206)) (rd y219 t222) x213002_5 x213003_5)))=some (r1,r2,r3,r4,r5,r6,r7):=H
         have A45:=aM_ A450
         clear A450
         replace H:=Option.bind_eq_some_iff.mp H
         obtain ⟨⟨t226,t227⟩,A460,H⟩:=H
         replace H:(if t226=0 then ((spec_l1Rd_pick.f kj5 s0_0 t227 t225).bind fun bt228=>(spec_l14Image.j1 kj5 (wrap64 (1+bt228.1)) s0_0 bt228.2 (wrap64 (1+t206)) (rd y219 t222) x213002_5 x213003_5)) else (spec_l14Image.j1 kj5 t225 s0_0 t227 (wrap64 (1+t206)) (rd y219 t222) x213002_5 x213003_5))=some (r1,r2,r3,r4,r5,r6,r7):=H
         have A46:=aM_ A460
         clear A460
         have HC47:=aM_ H
         clear H
         have hnb48:=NB212_205.out
         have hnc48:=NB205_212.out
         have hnb49:=NB212_0.out
         have hnc49:=NB0_212.out
         obtain ⟨hcz50_0,hcz50_1,hcz50_2,hcz50_3,hcz50_4,hcz50_5⟩:=bc6 BK212.out
         obtain ⟨hfz50_0,hfz50_1,hfz50_2,hfz50_3,hfz50_4,hfz50_5⟩:=bf6 BK212.out
         go_upto_if 51 with (first|((with_reducible refine gate_callee (f:=46) rfl ?_);refine goesL_ (some 48) rfl rfl Try.func46 (by kernel_rfl) rfl #[.int .i64 (rd y219 t222)] rfl (by (try simp only [List.map_toArray,List.map_cons,List.map_nil]);first|done|rfl|(simp only [List.length_drop,List.length_take];rfl)) ?_;(with_reducible refine (spec_l1Pow.calls kj5 (rd y219 t222) t225 _ A45.out).mono ?_);rintro e w' ⟨rfl,⟨nd,rfl⟩⟩;refine ⟨_,rfl,?_⟩)|((with_reducible refine gate_callee (f:=68) rfl ?_);refine goesL_ (some 50) rfl rfl Try.func68 (by kernel_rfl) rfl #[.pointer (some ⟨g,0,none⟩),.int .i64 2] rfl (by (try simp only [List.map_toArray,List.map_cons,List.map_nil]);first|done|rfl|(simp only [List.length_drop,List.length_take];rfl)) ?_;(with_reducible refine (spec_l1Rd_pick.calls kj5 g s0_0 t223 2 t226 t227 w0 _ ?side1 ?side2 A46.out).mono ?_);(case side1=>repeat (first|(with_reducible first|exact HI0.out|apply IsS65.alloc|apply IsS65.drewN|apply IsS65.drew|apply IsS65.set_1|refine IsS65.far ?_ NB0_205.out _|refine IsS65.far ?_ NB0_212.out _)|exact HI0.out));(case side2=>repeat (first|(with_reducible first|exact HB.out|apply wA_|apply wN_|apply wD_|refine below_set ?_ (IsS65.ge HI0.out)|refine below_set ?_ GE205.out|refine below_set ?_ GE212.out)|exact HB.out));rintro e w51 ⟨rfl,hi,hb,hk⟩;refine ⟨_,rfl,?_⟩;have n0_:=aM_ (KeepBut.blk hk (g':=gb205) (o:=.cells #[.int .i64 0,.int .i64 0,.int .i64 0,.int .i64 0,.slice none 0 0,.slice none 0 0] 27 (0,0)) (by (with_reducible repeat (first|apply kN_|apply kD_|apply kA_));refine blk_far ?_ NB205_212.out _;(with_reducible repeat (first|apply kN_|apply kD_|apply kA_));exact BK205.out) NB205_0.out (by simp));have n1_:=aM_ (KeepBut.blk hk (g':=gb212) (o:=.cells #[.int .i64 (wrap64 (1+t206)),.int .i64 (rd y219 t222),.int .i64 x213002_5,.int .i64 x213003_5,.slice none 0 0,.slice none 0 0] 27 (0,0)) (by (with_reducible repeat (first|apply kN_|apply kD_|apply kA_));refine blk_put (cs:=#[.int .i64 (wrap64 (1+t206)),.int .i64 0,.int .i64 x213002_5,.int .i64 x213003_5,.slice none 0 0,.slice none 0 0]) ?_ 1 _ rfl;(with_reducible repeat (first|apply kN_|apply kD_|apply kA_));exact BK212.out) NB212_0.out (by simp));have n2_:=aM_ (Kd.R_mono (Kd.R_keep (IsS65.apart (show IsS65 w0 _ g s0_0 t223 from by repeat (first|(with_reducible first|exact HI0.out|apply IsS65.alloc|apply IsS65.drewN|apply IsS65.drew|apply IsS65.set_1|refine IsS65.far ?_ NB0_205.out _|refine IsS65.far ?_ NB0_212.out _)|exact HI0.out)) (by (with_reducible repeat (first|apply rA_|apply rN_|apply rD_));exact (Kd.R_mono (Kd.R_far (Kd.R_types HO221.out BK212.out (by decide)) (fun _ hk=>hk.2) (.int .i64 (rd y219 t222))) (fun _ h_=>h_.1))) (by decide)) hk (fun _ h=>h.2)) (fun _ h=>h.1));have n3_:=aM_ (KeepBut.trans (by repeat (first|(with_reducible first|exact HK.out|apply pS_|apply pN_|apply pD_|apply pA_|refine keep_far ?_ GW205.out _|refine keep_far ?_ GW212.out _)|exact HK.out)) hk (.inl rfl));have n4_:=aM_ (hb);have n5_:=aM_ (hi);clear BK205;clear BK212;clear HO221;clear HK;clear HB;clear HI0;have BK205:=n0_;have BK212:=n1_;have HO221:=n2_;have HK:=n3_;have HB:=n4_;have HI0:=n5_;clear n0_ n1_ n2_ n3_ n4_ n5_;(try clear hb);(try clear hb2);(try clear hk);(try clear hi)))
         (try simp only [Act.put,sA_,s0_,s1_])
         go_cut [4] (fun v4 wc=>∃ (kq:Nat) (x4_46:Int) (x1001_46:Int),v4=.int .i64 x4_46∧Aside0 (spec_l14Image.j1 kq x4_46 s0_0 x1001_46 (wrap64 (1+t206)) (rd y219 t222) x213002_5 x213003_5=some (r1,r2,r3,r4,r5,r6,r7))∧Aside0 (kq≤kj5)∧Aside0 (wc.heap[gb205]?=some (.cells #[.int .i64 0,.int .i64 0,.int .i64 0,.int .i64 0,(.slice none 0 0),(.slice none 0 0)] 27 (0,0)))∧Aside0 (wc.heap[gb212]?=some (.cells #[.int .i64 (wrap64 (1+t206)),.int .i64 (rd y219 t222),.int .i64 x213002_5,.int .i64 x213003_5,(.slice none 0 0),(.slice none 0 0)] 27 (0,0)))∧Aside0 (IsS65 w0 wc g s0_0 x1001_46)∧Aside0 (KeepBut w wc g none)∧Aside0 (Below w0.heap.size w0 wc))
         case first =>
          have H:=HC47.out
          clear HC47
          by_cases c52:t226=0
          ·rw [if_pos c52] at H
           have c52b0:(t226 == 0)=true:=beq_iff_eq.mpr c52
           have c52b1:(t226 != 0)=false:=bne_eq_false_iff_eq.mpr c52
           clear c52
           (first|rw [c52b0]|(simp only [i64_w,i32_w];rw [c52b0])|skip)
           replace H:=Option.bind_eq_some_iff.mp H
           obtain ⟨⟨t228,t229⟩,A530,H⟩:=H
           replace H:(spec_l14Image.j1 kj5 (wrap64 (1+t228)) s0_0 t229 (wrap64 (1+t206)) (rd y219 t222) x213002_5 x213003_5)=some (r1,r2,r3,r4,r5,r6,r7):=H
           have A53:=aM_ A530
           clear A530
           have H':=aM_ H
           clear H
           go_wp2_with (first|((with_reducible refine gate_callee (f:=68) rfl ?_);refine goesL_ (some 54) rfl rfl Try.func68 (by kernel_rfl) rfl #[.pointer (some ⟨g,0,none⟩),.int .i64 t225] rfl (by (try simp only [List.map_toArray,List.map_cons,List.map_nil]);first|done|rfl|(simp only [List.length_drop,List.length_take];rfl)) ?_;(with_reducible refine (spec_l1Rd_pick.calls kj5 g s0_0 t227 t225 t228 t229 w0 _ ?side1 ?side2 A53.out).mono ?_);(case side1=>repeat (first|(with_reducible first|exact HI0.out|apply IsS65.alloc|apply IsS65.drewN|apply IsS65.drew|apply IsS65.set_1|refine IsS65.far ?_ NB0_205.out _|refine IsS65.far ?_ NB0_212.out _)|exact HI0.out));(case side2=>repeat (first|(with_reducible first|exact HB.out|apply wA_|apply wN_|apply wD_|refine below_set ?_ (IsS65.ge HI0.out)|refine below_set ?_ GE205.out|refine below_set ?_ GE212.out)|exact HB.out));rintro e w54 ⟨rfl,hi,hb,hk⟩;refine ⟨_,rfl,?_⟩;have n0_:=aM_ (KeepBut.blk hk (g':=gb205) (o:=.cells #[.int .i64 0,.int .i64 0,.int .i64 0,.int .i64 0,.slice none 0 0,.slice none 0 0] 27 (0,0)) (by (with_reducible repeat (first|apply kN_|apply kD_|apply kA_));exact BK205.out) NB205_0.out (by simp));have n1_:=aM_ (KeepBut.blk hk (g':=gb212) (o:=.cells #[.int .i64 (wrap64 (1+t206)),.int .i64 (rd y219 t222),.int .i64 x213002_5,.int .i64 x213003_5,.slice none 0 0,.slice none 0 0] 27 (0,0)) (by (with_reducible repeat (first|apply kN_|apply kD_|apply kA_));exact BK212.out) NB212_0.out (by simp));have n2_:=aM_ (Kd.R_mono (Kd.R_keep (IsS65.apart (show IsS65 w0 _ g s0_0 t227 from by repeat (first|(with_reducible first|exact HI0.out|apply IsS65.alloc|apply IsS65.drewN|apply IsS65.drew|apply IsS65.set_1|refine IsS65.far ?_ NB0_205.out _|refine IsS65.far ?_ NB0_212.out _)|exact HI0.out)) (by (with_reducible repeat (first|apply rA_|apply rN_|apply rD_));exact HO221.out) (by decide)) hk (fun _ h=>h.2)) (fun _ h=>h.1));have n3_:=aM_ (KeepBut.trans (by repeat (first|(with_reducible first|exact HK.out|apply pS_|apply pN_|apply pD_|apply pA_|refine keep_far ?_ GW205.out _|refine keep_far ?_ GW212.out _)|exact HK.out)) hk (.inl rfl));have n4_:=aM_ (hb);have n5_:=aM_ (hi);clear BK205;clear BK212;clear HO221;clear HK;clear HB;clear HI0;have BK205:=n0_;have BK212:=n1_;have HO221:=n2_;have HK:=n3_;have HB:=n4_;have HI0:=n5_;clear n0_ n1_ n2_ n3_ n4_ n5_;(try clear hb);(try clear hb2);(try clear hk);(try clear hi)))
           go_meet
           case rel=>exact ⟨_,(wrap64 (1+t228)),(t229),(by first|rfl|(simp;done)|(simp [*];done)),H',⟨by have:=HJ5.out;first|omega|exact Nat.le_refl _⟩,⟨by (with_reducible repeat (first|apply kN_|apply kD_|apply kA_));exact BK205.out⟩,⟨by (with_reducible repeat (first|apply kN_|apply kD_|apply kA_));exact BK212.out⟩,⟨by repeat (first|(with_reducible first|exact HI0.out|apply IsS65.alloc|apply IsS65.drewN|apply IsS65.drew|apply IsS65.set_1|refine IsS65.far ?_ NB0_205.out _|refine IsS65.far ?_ NB0_212.out _)|exact HI0.out)⟩,⟨by repeat (first|(with_reducible first|exact HK.out|apply pS_|apply pN_|apply pD_|apply pA_|refine keep_far ?_ GW205.out _|refine keep_far ?_ GW212.out _)|exact HK.out)⟩,⟨by repeat (first|(with_reducible first|exact HB.out|apply wA_|apply wN_|apply wD_|refine below_set ?_ (IsS65.ge HI0.out)|refine below_set ?_ GE205.out|refine below_set ?_ GE212.out)|exact HB.out)⟩⟩
          ·rw [if_neg c52] at H
           have c52b0:(t226 == 0)=false:=beq_eq_false_iff_ne.mpr c52
           have c52b1:(t226 != 0)=true:=bne_iff_ne.mpr c52
           (first|rw [c52b0]|(simp only [i64_w,i32_w];rw [c52b0])|skip)
           have H':=aM_ H
           clear H
           go_wp2
           go_meet
           case rel=>exact ⟨_,(t225),(t227),(by first|rfl|(simp;done)|(simp [*];done)),H',⟨by have:=HJ5.out;first|omega|exact Nat.le_refl _⟩,⟨by (with_reducible repeat (first|apply kN_|apply kD_|apply kA_));exact BK205.out⟩,⟨by (with_reducible repeat (first|apply kN_|apply kD_|apply kA_));exact BK212.out⟩,⟨by repeat (first|(with_reducible first|exact HI0.out|apply IsS65.alloc|apply IsS65.drewN|apply IsS65.drew|apply IsS65.set_1|refine IsS65.far ?_ NB0_205.out _|refine IsS65.far ?_ NB0_212.out _)|exact HI0.out)⟩,⟨by repeat (first|(with_reducible first|exact HK.out|apply pS_|apply pN_|apply pD_|apply pA_|refine keep_far ?_ GW205.out _|refine keep_far ?_ GW212.out _)|exact HK.out)⟩,⟨by repeat (first|(with_reducible first|exact HB.out|apply wA_|apply wN_|apply wD_|refine below_set ?_ (IsS65.ge HI0.out)|refine below_set ?_ GE205.out|refine below_set ?_ GE212.out)|exact HB.out)⟩⟩
         case rest =>
          clear HC47
          try clear c1
          try clear c2
          try clear p2
          try clear q2
          try clear hx2
          try clear c3
          try clear c4
          try clear c5
          try clear c6
          try clear p6
          try clear c7
          try clear c12
          try clear c13
          try clear c16
          try clear c16b0
          try clear c16b1
          try clear c20
          try clear c21
          try clear p22
          try clear q22
          try clear hx22
          try clear c26
          try clear c26b0
          try clear c27
          try clear c27b0
          try clear c33
          try clear c34
          try clear c36
          try clear c36b0
          try clear c36b1
          try clear c37
          try clear c38
          try clear c40
          try clear c40b0
          try clear c40b1
          try clear c41
          try clear c42
          try clear c44
          try clear c44b0
          try clear c44b1
          try clear c46
          try clear c48
          try clear c49
          try clear c52
          try clear c52b0
          try clear c52b1
          try clear hcz14_0 hcz14_1 hcz14_2 hcz14_3 hcz14_4 hcz14_5
          try clear hcz22_0 hcz22_1 hcz22_2 hcz22_3 hcz22_4 hcz22_5
          try clear hcz24_0 hcz24_1 hcz24_2 hcz24_3 hcz24_4 hcz24_5
          try clear hcz35_0 hcz35_1 hcz35_2 hcz35_3 hcz35_4 hcz35_5
          try clear hcz39_0 hcz39_1 hcz39_2 hcz39_3 hcz39_4 hcz39_5
          try clear hcz43_0 hcz43_1 hcz43_2 hcz43_3 hcz43_4 hcz43_5
          try clear hcz50_0 hcz50_1 hcz50_2 hcz50_3 hcz50_4 hcz50_5
          try clear hfz14_0 hfz14_1 hfz14_2 hfz14_3 hfz14_4 hfz14_5
          try clear hfz22_0 hfz22_1 hfz22_2 hfz22_3 hfz22_4 hfz22_5
          try clear hfz24_0 hfz24_1 hfz24_2 hfz24_3 hfz24_4 hfz24_5
          try clear hfz35_0 hfz35_1 hfz35_2 hfz35_3 hfz35_4 hfz35_5
          try clear hfz39_0 hfz39_1 hfz39_2 hfz39_3 hfz39_4 hfz39_5
          try clear hfz43_0 hfz43_1 hfz43_2 hfz43_3 hfz43_4 hfz43_5
          try clear hfz50_0 hfz50_1 hfz50_2 hfz50_3 hfz50_4 hfz50_5
          try clear hx224_0
          try clear p2
          try clear p224
          try clear p6
          try clear q224
          obtain ⟨kq,x4_46,x1001_46,rfl,HA,HJ46,BK205,BK212,HI0,HK,HB⟩:=hcut
          cases kq with
          | zero=>exact absurd HA.out (by simp [spec_l14Image.j1])
          | succ kj46 =>
           have H:=HA.out
           clear HA
           simp only [spec_l14Image.j1] at H
           have H':=aM_ H
           clear H
           go_wp2
           go_loopg [5] kj46 (fun kq v5 w'=>∃ (x5_3:Int) (x1001_3:Int) (x213004_3:List Int) (u213004:Value),v5=.int .i64 x5_3∧Aside0 (spec_l14Image.l0 kq x4_46 x5_3 s0_0 x1001_3 (wrap64 (1+t206)) (rd y219 t222) x213002_5 x213003_5 x213004_3=some (r1,r2,r3,r4,r5,r6,r7))∧Aside0 (kq≤kj46)∧Aside0 (Kd.R (Kd.int .i64) 3 w' w.heap.size (fun _=>True) u213004 x213004_3)∧Aside0 (w'.heap[gb205]?=some (.cells #[.int .i64 0,.int .i64 0,.int .i64 0,.int .i64 0,(.slice none 0 0),(.slice none 0 0)] 27 (0,0)))∧Aside0 (w'.heap[gb212]?=some (.cells #[.int .i64 (wrap64 (1+t206)),.int .i64 (rd y219 t222),.int .i64 x213002_5,.int .i64 x213003_5,u213004,(.slice none 0 0)] 27 (0,0)))∧Aside0 (IsS65 w0 w' g s0_0 x1001_3)∧Aside0 (KeepBut w w' g none)∧Aside0 (Below w0.heap.size w0 w'))
           case atStart=>exact ⟨(0),(x1001_46),(([]:List Int)),(.slice none 0 0),(by first|rfl|(simp;done)|(simp [*];done)),H',⟨Nat.le_refl _⟩,⟨by first|exact Kd.R_nil _ _ _ _ _|exact Kd.N_nil _ _ _ _ _|exact Kd.V_nil _ _ _ _ _|exact Kd.Q_nil _ _ _ _ _|exact Kd.S_nil _ _ _ _ _⟩,⟨by (with_reducible repeat (first|apply kN_|apply kD_|apply kA_));exact BK205.out⟩,⟨by (with_reducible repeat (first|apply kN_|apply kD_|apply kA_));exact BK212.out⟩,⟨by repeat (first|(with_reducible first|exact HI0.out|apply IsS65.alloc|apply IsS65.drewN|apply IsS65.drew|apply IsS65.set_1|refine IsS65.far ?_ NB0_205.out _|refine IsS65.far ?_ NB0_212.out _)|exact HI0.out)⟩,⟨by repeat (first|(with_reducible first|exact HK.out|apply pS_|apply pN_|apply pD_|apply pA_|refine keep_far ?_ GW205.out _|refine keep_far ?_ GW212.out _)|exact HK.out)⟩,⟨by repeat (first|(with_reducible first|exact HB.out|apply wA_|apply wN_|apply wD_|refine below_set ?_ (IsS65.ge HI0.out)|refine below_set ?_ GE205.out|refine below_set ?_ GE212.out)|exact HB.out)⟩⟩
           case round =>
            clear H'
            try clear c1
            try clear c2
            try clear p2
            try clear q2
            try clear hx2
            try clear c3
            try clear c4
            try clear c5
            try clear c6
            try clear p6
            try clear c7
            try clear c12
            try clear c13
            try clear c16
            try clear c16b0
            try clear c16b1
            try clear c20
            try clear c21
            try clear p22
            try clear q22
            try clear hx22
            try clear c26
            try clear c26b0
            try clear c27
            try clear c27b0
            try clear c33
            try clear c34
            try clear c36
            try clear c36b0
            try clear c36b1
            try clear c37
            try clear c38
            try clear c40
            try clear c40b0
            try clear c40b1
            try clear c41
            try clear c42
            try clear c44
            try clear c44b0
            try clear c44b1
            try clear c46
            try clear c48
            try clear c49
            try clear c52
            try clear c52b0
            try clear c52b1
            try clear hcz14_0 hcz14_1 hcz14_2 hcz14_3 hcz14_4 hcz14_5
            try clear hcz22_0 hcz22_1 hcz22_2 hcz22_3 hcz22_4 hcz22_5
            try clear hcz24_0 hcz24_1 hcz24_2 hcz24_3 hcz24_4 hcz24_5
            try clear hcz35_0 hcz35_1 hcz35_2 hcz35_3 hcz35_4 hcz35_5
            try clear hcz39_0 hcz39_1 hcz39_2 hcz39_3 hcz39_4 hcz39_5
            try clear hcz43_0 hcz43_1 hcz43_2 hcz43_3 hcz43_4 hcz43_5
            try clear hcz50_0 hcz50_1 hcz50_2 hcz50_3 hcz50_4 hcz50_5
            try clear hfz14_0 hfz14_1 hfz14_2 hfz14_3 hfz14_4 hfz14_5
            try clear hfz22_0 hfz22_1 hfz22_2 hfz22_3 hfz22_4 hfz22_5
            try clear hfz24_0 hfz24_1 hfz24_2 hfz24_3 hfz24_4 hfz24_5
            try clear hfz35_0 hfz35_1 hfz35_2 hfz35_3 hfz35_4 hfz35_5
            try clear hfz39_0 hfz39_1 hfz39_2 hfz39_3 hfz39_4 hfz39_5
            try clear hfz43_0 hfz43_1 hfz43_2 hfz43_3 hfz43_4 hfz43_5
            try clear hfz50_0 hfz50_1 hfz50_2 hfz50_3 hfz50_4 hfz50_5
            try clear hx224_0
            try clear p2
            try clear p22
            try clear p224
            try clear p6
            try clear q2
            try clear q22
            try clear q224
            obtain ⟨x5_3,x1001_3,x213004_3,u213004,rfl,HA,HK3,HO_213004,BK205,BK212,HI0,HK,HB⟩:=hrel
            cases gk with
            | zero=>exact absurd HA.out (by simp [spec_l14Image.l0])
            | succ k3 =>
             have H:=HA.out
             clear HA
             simp only [spec_l14Image.l0] at H
             by_cases c55:x5_3 < x4_46
             ·rw [if_pos c55] at H
              have c55b0:decide (x5_3 < x4_46)=true:=decide_eq_true c55
              clear c55
              replace H:=Option.bind_eq_some_iff.mp H
              obtain ⟨⟨t230,t231⟩,A560,H⟩:=H
              replace H:((spec_l1Rd_pick.f k3 s0_0 t231 256).bind fun bt232=>((spec_l1Rd_pick.f k3 s0_0 bt232.2 9).bind fun bt234=>(if x213004_3.length < 17592186044416 then (spec_l14Image.l0 k3 x4_46 (wrap64 (x5_3+1)) s0_0 bt234.2 (wrap64 (1+t206)) (rd y219 t222) x213002_5 x213003_5 (x213004_3 ++ [wrap64 ((wrap64 ((wrap64 (t230 * 65536))+(wrap64 (bt232.1 * 256))))+bt234.1)])) else (none))))=some (r1,r2,r3,r4,r5,r6,r7):=H
              have A56:=aM_ A560
              clear A560
              replace H:=Option.bind_eq_some_iff.mp H
              obtain ⟨⟨t232,t233⟩,A570,H⟩:=H
              replace H:((spec_l1Rd_pick.f k3 s0_0 t233 9).bind fun bt234=>(if x213004_3.length < 17592186044416 then (spec_l14Image.l0 k3 x4_46 (wrap64 (x5_3+1)) s0_0 bt234.2 (wrap64 (1+t206)) (rd y219 t222) x213002_5 x213003_5 (x213004_3 ++ [wrap64 ((wrap64 ((wrap64 (t230 * 65536))+(wrap64 (t232 * 256))))+bt234.1)])) else (none)))=some (r1,r2,r3,r4,r5,r6,r7):=H
              have A57:=aM_ A570
              clear A570
              replace H:=Option.bind_eq_some_iff.mp H
              obtain ⟨⟨t234,t235⟩,A580,H⟩:=H
              replace H:(if x213004_3.length < 17592186044416 then (spec_l14Image.l0 k3 x4_46 (wrap64 (x5_3+1)) s0_0 t235 (wrap64 (1+t206)) (rd y219 t222) x213002_5 x213003_5 (x213004_3 ++ [wrap64 ((wrap64 ((wrap64 (t230 * 65536))+(wrap64 (t232 * 256))))+t234)])) else (none))=some (r1,r2,r3,r4,r5,r6,r7):=H
              have A58:=aM_ A580
              clear A580
              by_cases c59:x213004_3.length < 17592186044416
              ·rw [if_pos c59] at H
               have LMc59:=aM_ c59
               clear c59
               obtain ⟨y236,hy236⟩:∃ y_:List Int,y_=(x213004_3 ++ [wrap64 ((wrap64 ((wrap64 (t230 * 65536))+(wrap64 (t232 * 256))))+t234)]):=⟨_,rfl⟩
               replace H:(spec_l14Image.l0 k3 x4_46 (wrap64 (x5_3+1)) s0_0 t235 (wrap64 (1+t206)) (rd y219 t222) x213002_5 x213003_5 y236)=some (r1,r2,r3,r4,r5,r6,r7):=by first|(rw [hy236];with_reducible exact H)|(have H2_:=(Option.bind_some _ _).symm.trans H;rw [hy236];with_reducible exact H2_)|(have H2_:=(Option.bind_some _ _).symm.trans H;with_reducible exact H2_)|with_reducible exact H|(rw [hy236];exact H)|exact H
               have Ny236:=aM_ hy236
               clear hy236
               have H':=aM_ H
               clear H
               try go_wp2
               have n0_:=aM_ (rD_ HO_213004.out)
               have n1_:=aM_ (kD_ BK205.out)
               have n2_:=aM_ (kD_ BK212.out)
               have n3_:=aM_ (IsS65.drew HI0.out)
               have n4_:=aM_ (pD_ HK.out)
               have n5_:=aM_ (wD_ HB.out)
               clear HO_213004
               clear BK205
               clear BK212
               clear HI0
               clear HK
               clear HB
               have HO_213004:=n0_
               have BK205:=n1_
               have BK212:=n2_
               have HI0:=n3_
               have HK:=n4_
               have HB:=n5_
               clear n0_ n1_ n2_ n3_ n4_ n5_
               refine start_ (n:=16) (S:=fun w'=>w'.cell? ⟨gb212,0,none⟩=some (.int .i64 (wrap64 (1+t206)))∧w'.cell? ⟨gb212,1,none⟩=some (.int .i64 (rd y219 t222))∧w'.cell? ⟨gb212,2,none⟩=some (.int .i64 x213002_5)∧w'.cell? ⟨gb212,3,none⟩=some (.int .i64 x213003_5)∧w'.cell? ⟨gb212,4,none⟩=some (u213004)∧w'.cell? ⟨gb212,5,none⟩=some (.slice none 0 0)) (ds:=[15]) #[false,false,false,false,false,false,false,false,false,false,false,false,false,false,false,false] (by kernel_rfl) rfl rfl (bc6 BK212.out) (fun hHeld=>?_);refine with_tabW spec_l14Image.tab18 spec_l14Image.bits18 (fun HT_ HW_=>?_)
               generalize wr.drew=w60 at HO_213004 BK205 BK212 HI0 HK HB hHeld ⊢
               refine pure_ (i:=0) (N:=some 61) (v:=?_) (a':=?_) #[true,false,false,false,false,false,false,false,false,false,false,false,false,false,false,false] rfl rfl (any_of HT_.out (by kernel_rfl)) (fun _ _ _ h=>h) (Or.inl ⟨by rfl,?_⟩) ?_ ?_
               rotate_left
               ·intro w'
                go_simp
                with_reducible rfl
               rotate_left
               ·simp only [Act.put,sA_,s0_,s1_,i64_w,i32_w]
                rfl
               refine pure_ (i:=2) (N:=some 63) (v:=?_) (a':=?_) #[true,false,true,false,false,false,false,false,false,false,false,false,false,false,false,false] rfl rfl (any_of HT_.out (by kernel_rfl)) (fun _ _ _ h=>h) (Or.inl ⟨by rfl,?_⟩) ?_ ?_
               rotate_left
               ·intro w'
                go_simp
                with_reducible rfl
               rotate_left
               ·simp only [Act.put,sA_,s0_,s1_,i64_w,i32_w]
                rfl
               refine pure_ (i:=5) (N:=some 66) (v:=?_) (a':=?_) #[true,false,true,false,false,true,false,false,false,false,false,false,false,false,false,false] rfl rfl (any_of HT_.out (by kernel_rfl)) (fun _ _ _ h=>h) (Or.inl ⟨by rfl,?_⟩) ?_ ?_
               rotate_left
               ·intro w'
                go_simp
                with_reducible rfl
               rotate_left
               ·simp only [Act.put,sA_,s0_,s1_,i64_w,i32_w]
                rfl
               refine pure_ (i:=9) (N:=some 70) (v:=?_) (a':=?_) #[true,false,true,false,false,true,false,false,false,true,false,false,false,false,false,false] rfl rfl (any_of HT_.out (by kernel_rfl)) (fun _ _ _ h=>h) (Or.inl ⟨by rfl,?_⟩) ?_ ?_
               rotate_left
               ·intro w'
                go_simp
                with_reducible rfl
               rotate_left
               ·simp only [Act.put,sA_,s0_,s1_,i64_w,i32_w]
                rfl
               refine take_ (i:=1) (N:=some 62) (v:=?_) (a':=?_) #[true,true,true,false,false,true,false,false,false,true,false,false,false,false,false,false] rfl rfl (take_ofW HT_.out HW_.out (by kernel_rfl)) (fun _ _ _ h=>h) (Or.inl ⟨by rfl,?_⟩) hHeld ?_ ?_
               rotate_left
               ·rintro w' ⟨s0,s1,s2,s3,s4,s5⟩
                go_simp
                with_reducible rfl
               rotate_left
               ·simp only [Act.put,sA_,s0_,s1_,i64_w,i32_w]
                rfl
               refine one_ (i:=3) (N:=some 64) #[true,true,true,true,false,true,false,false,false,true,false,false,false,false,false,false] rfl rfl (one_of HT_.out (by kernel_rfl)) (by decide) (fun K hK=>?_)
               refine goes_ Try.func68 (by kernel_rfl) rfl #[.pointer (some ⟨g,0,none⟩),.int .i64 256] (by rfl) rfl rfl (by (try simp only [List.map_toArray,List.map_cons,List.map_nil]);first|done|rfl|(simp only [List.length_drop,List.length_take];rfl)) ?_
               with_reducible refine (spec_l1Rd_pick.calls k3 g s0_0 x1001_3 256 t230 t231 w0 _ ?side1 ?side2 A56.out).mono ?_
               (case side1=>repeat (first|(with_reducible first|exact HI0.out|apply IsS65.alloc|apply IsS65.drewN|apply IsS65.drew|apply IsS65.set_1|refine IsS65.far ?_ NB0_205.out _|refine IsS65.far ?_ NB0_212.out _)|exact HI0.out))
               (case side2=>repeat (first|(with_reducible first|exact HB.out|apply wA_|apply wN_|apply wD_|refine below_set ?_ (IsS65.ge HI0.out)|refine below_set ?_ GE205.out|refine below_set ?_ GE212.out)|exact HB.out))
               rintro e w61 ⟨rfl,hi,hb,hk⟩
               refine ⟨_,rfl,?_⟩
               have n0_:=aM_ (Kd.R_mono (Kd.R_keep (IsS65.apart (show IsS65 w0 _ g s0_0 x1001_3 from by repeat (first|(with_reducible first|exact HI0.out|apply IsS65.alloc|apply IsS65.drewN|apply IsS65.drew|apply IsS65.set_1|refine IsS65.far ?_ NB0_205.out _|refine IsS65.far ?_ NB0_212.out _)|exact HI0.out)) (by (with_reducible repeat (first|apply rA_|apply rN_|apply rD_));exact HO_213004.out) (by decide)) hk (fun _ h=>h.2)) (fun _ h=>h.1))
               have n1_:=aM_ (KeepBut.blk hk (g':=gb205) (o:=.cells #[.int .i64 0,.int .i64 0,.int .i64 0,.int .i64 0,.slice none 0 0,.slice none 0 0] 27 (0,0)) (by (with_reducible repeat (first|apply kN_|apply kD_|apply kA_));exact BK205.out) NB205_0.out (by simp))
               have n2_:=aM_ (KeepBut.blk hk (g':=gb212) (o:=.cells #[.int .i64 (wrap64 (1+t206)),.int .i64 (rd y219 t222),.int .i64 x213002_5,.int .i64 x213003_5,u213004,.slice none 0 0] 27 (0,0)) (by (with_reducible repeat (first|apply kN_|apply kD_|apply kA_));exact BK212.out) NB212_0.out (by simp))
               have n3_:=aM_ (KeepBut.trans (by repeat (first|(with_reducible first|exact HK.out|apply pS_|apply pN_|apply pD_|apply pA_|refine keep_far ?_ GW205.out _|refine keep_far ?_ GW212.out _)|exact HK.out)) hk (.inl rfl))
               have n4_:=aM_ (hb)
               have n5_:=aM_ (hi)
               clear HO_213004
               clear BK205
               clear BK212
               clear HK
               clear HB
               clear HI0
               have HO_213004:=n0_
               have BK205:=n1_
               have BK212:=n2_
               have HK:=n3_
               have HB:=n4_
               have HI0:=n5_
               clear n0_ n1_ n2_ n3_ n4_ n5_
               (try clear hb)
               (try clear hb2)
               (try clear hk)
               (try clear hi)
               refine hK.out _ _ (bc6 BK212.out) (fun hHeld=>?_)
               clear hK K
               refine norm_ (a':=?_) ?_ ?_
               rotate_left
               ·show Act.put _ (some 64) _=_
                simp only [Act.put,sA_,s0_,s1_,i64_w,i32_w]
                rfl
               refine pure_ (i:=4) (N:=some 65) (v:=?_) (a':=?_) #[true,true,true,true,true,true,false,false,false,true,false,false,false,false,false,false] rfl rfl (any_of HT_.out (by kernel_rfl)) (fun _ _ _ h=>h) (Or.inl ⟨by rfl,?_⟩) ?_ ?_
               rotate_left
               ·intro w'
                go_simp
                with_reducible rfl
               rotate_left
               ·simp only [Act.put,sA_,s0_,s1_,i64_w,i32_w]
                rfl
               refine one_ (i:=6) (N:=some 67) #[true,true,true,true,true,true,true,false,false,true,false,false,false,false,false,false] rfl rfl (one_of HT_.out (by kernel_rfl)) (by decide) (fun K hK=>?_)
               refine goes_ Try.func68 (by kernel_rfl) rfl #[.pointer (some ⟨g,0,none⟩),.int .i64 256] (by rfl) rfl rfl (by (try simp only [List.map_toArray,List.map_cons,List.map_nil]);first|done|rfl|(simp only [List.length_drop,List.length_take];rfl)) ?_
               with_reducible refine (spec_l1Rd_pick.calls k3 g s0_0 t231 256 t232 t233 w0 _ ?side1 ?side2 A57.out).mono ?_
               (case side1=>repeat (first|(with_reducible first|exact HI0.out|apply IsS65.alloc|apply IsS65.drewN|apply IsS65.drew|apply IsS65.set_1|refine IsS65.far ?_ NB0_205.out _|refine IsS65.far ?_ NB0_212.out _)|exact HI0.out))
               (case side2=>repeat (first|(with_reducible first|exact HB.out|apply wA_|apply wN_|apply wD_|refine below_set ?_ (IsS65.ge HI0.out)|refine below_set ?_ GE205.out|refine below_set ?_ GE212.out)|exact HB.out))
               rintro e w62 ⟨rfl,hi,hb,hk⟩
               refine ⟨_,rfl,?_⟩
               have n0_:=aM_ (Kd.R_mono (Kd.R_keep (IsS65.apart (show IsS65 w0 _ g s0_0 t231 from by repeat (first|(with_reducible first|exact HI0.out|apply IsS65.alloc|apply IsS65.drewN|apply IsS65.drew|apply IsS65.set_1|refine IsS65.far ?_ NB0_205.out _|refine IsS65.far ?_ NB0_212.out _)|exact HI0.out)) (by (with_reducible repeat (first|apply rA_|apply rN_|apply rD_));exact HO_213004.out) (by decide)) hk (fun _ h=>h.2)) (fun _ h=>h.1))
               have n1_:=aM_ (KeepBut.blk hk (g':=gb205) (o:=.cells #[.int .i64 0,.int .i64 0,.int .i64 0,.int .i64 0,.slice none 0 0,.slice none 0 0] 27 (0,0)) (by (with_reducible repeat (first|apply kN_|apply kD_|apply kA_));exact BK205.out) NB205_0.out (by simp))
               have n2_:=aM_ (KeepBut.blk hk (g':=gb212) (o:=.cells #[.int .i64 (wrap64 (1+t206)),.int .i64 (rd y219 t222),.int .i64 x213002_5,.int .i64 x213003_5,u213004,.slice none 0 0] 27 (0,0)) (by (with_reducible repeat (first|apply kN_|apply kD_|apply kA_));exact BK212.out) NB212_0.out (by simp))
               have n3_:=aM_ (KeepBut.trans (by repeat (first|(with_reducible first|exact HK.out|apply pS_|apply pN_|apply pD_|apply pA_|refine keep_far ?_ GW205.out _|refine keep_far ?_ GW212.out _)|exact HK.out)) hk (.inl rfl))
               have n4_:=aM_ (hb)
               have n5_:=aM_ (hi)
               clear HO_213004
               clear BK205
               clear BK212
               clear HK
               clear HB
               clear HI0
               have HO_213004:=n0_
               have BK205:=n1_
               have BK212:=n2_
               have HK:=n3_
               have HB:=n4_
               have HI0:=n5_
               clear n0_ n1_ n2_ n3_ n4_ n5_
               (try clear hb)
               (try clear hb2)
               (try clear hk)
               (try clear hi)
               refine hK.out _ _ (bc6 BK212.out) (fun hHeld=>?_)
               clear hK K
               refine norm_ (a':=?_) ?_ ?_
               rotate_left
               ·show Act.put _ (some 67) _=_
                simp only [Act.put,sA_,s0_,s1_,i64_w,i32_w]
                rfl
               refine pure_ (i:=7) (N:=some 68) (v:=?_) (a':=?_) #[true,true,true,true,true,true,true,true,false,true,false,false,false,false,false,false] rfl rfl (any_of HT_.out (by kernel_rfl)) (fun _ _ _ h=>h) (Or.inl ⟨by rfl,?_⟩) ?_ ?_
               rotate_left
               ·intro w'
                go_simp
                with_reducible rfl
               rotate_left
               ·simp only [Act.put,sA_,s0_,s1_,i64_w,i32_w]
                rfl
               refine pure_ (i:=8) (N:=some 69) (v:=?_) (a':=?_) #[true,true,true,true,true,true,true,true,true,true,false,false,false,false,false,false] rfl rfl (any_of HT_.out (by kernel_rfl)) (fun _ _ _ h=>h) (Or.inl ⟨by rfl,?_⟩) ?_ ?_
               rotate_left
               ·intro w'
                go_simp
                with_reducible rfl
               rotate_left
               ·simp only [Act.put,sA_,s0_,s1_,i64_w,i32_w]
                rfl
               refine one_ (i:=10) (N:=some 71) #[true,true,true,true,true,true,true,true,true,true,true,false,false,false,false,false] rfl rfl (one_of HT_.out (by kernel_rfl)) (by decide) (fun K hK=>?_)
               refine goes_ Try.func68 (by kernel_rfl) rfl #[.pointer (some ⟨g,0,none⟩),.int .i64 9] (by rfl) rfl rfl (by (try simp only [List.map_toArray,List.map_cons,List.map_nil]);first|done|rfl|(simp only [List.length_drop,List.length_take];rfl)) ?_
               with_reducible refine (spec_l1Rd_pick.calls k3 g s0_0 t233 9 t234 t235 w0 _ ?side1 ?side2 A58.out).mono ?_
               (case side1=>repeat (first|(with_reducible first|exact HI0.out|apply IsS65.alloc|apply IsS65.drewN|apply IsS65.drew|apply IsS65.set_1|refine IsS65.far ?_ NB0_205.out _|refine IsS65.far ?_ NB0_212.out _)|exact HI0.out))
               (case side2=>repeat (first|(with_reducible first|exact HB.out|apply wA_|apply wN_|apply wD_|refine below_set ?_ (IsS65.ge HI0.out)|refine below_set ?_ GE205.out|refine below_set ?_ GE212.out)|exact HB.out))
               rintro e w63 ⟨rfl,hi,hb,hk⟩
               refine ⟨_,rfl,?_⟩
               have n0_:=aM_ (Kd.R_mono (Kd.R_keep (IsS65.apart (show IsS65 w0 _ g s0_0 t233 from by repeat (first|(with_reducible first|exact HI0.out|apply IsS65.alloc|apply IsS65.drewN|apply IsS65.drew|apply IsS65.set_1|refine IsS65.far ?_ NB0_205.out _|refine IsS65.far ?_ NB0_212.out _)|exact HI0.out)) (by (with_reducible repeat (first|apply rA_|apply rN_|apply rD_));exact HO_213004.out) (by decide)) hk (fun _ h=>h.2)) (fun _ h=>h.1))
               have n1_:=aM_ (KeepBut.blk hk (g':=gb205) (o:=.cells #[.int .i64 0,.int .i64 0,.int .i64 0,.int .i64 0,.slice none 0 0,.slice none 0 0] 27 (0,0)) (by (with_reducible repeat (first|apply kN_|apply kD_|apply kA_));exact BK205.out) NB205_0.out (by simp))
               have n2_:=aM_ (KeepBut.blk hk (g':=gb212) (o:=.cells #[.int .i64 (wrap64 (1+t206)),.int .i64 (rd y219 t222),.int .i64 x213002_5,.int .i64 x213003_5,u213004,.slice none 0 0] 27 (0,0)) (by (with_reducible repeat (first|apply kN_|apply kD_|apply kA_));exact BK212.out) NB212_0.out (by simp))
               have n3_:=aM_ (KeepBut.trans (by repeat (first|(with_reducible first|exact HK.out|apply pS_|apply pN_|apply pD_|apply pA_|refine keep_far ?_ GW205.out _|refine keep_far ?_ GW212.out _)|exact HK.out)) hk (.inl rfl))
               have n4_:=aM_ (hb)
               have n5_:=aM_ (hi)
               clear HO_213004
               clear BK205
               clear BK212
               clear HK
               clear HB
               clear HI0
               have HO_213004:=n0_
               have BK205:=n1_
               have BK212:=n2_
               have HK:=n3_
               have HB:=n4_
               have HI0:=n5_
               clear n0_ n1_ n2_ n3_ n4_ n5_
               (try clear hb)
               (try clear hb2)
               (try clear hk)
               (try clear hi)
               refine hK.out _ _ (bc6 BK212.out) (fun hHeld=>?_)
               clear hK K
               refine norm_ (a':=?_) ?_ ?_
               rotate_left
               ·show Act.put _ (some 71) _=_
                simp only [Act.put,sA_,s0_,s1_,i64_w,i32_w]
                rfl
               refine pure_ (i:=11) (N:=some 72) (v:=?_) (a':=?_) #[true,true,true,true,true,true,true,true,true,true,true,true,false,false,false,false] rfl rfl (any_of HT_.out (by kernel_rfl)) (fun _ _ _ h=>h) (Or.inl ⟨by rfl,?_⟩) ?_ ?_
               rotate_left
               ·intro w'
                go_simp
                with_reducible rfl
               rotate_left
               ·simp only [Act.put,sA_,s0_,s1_,i64_w,i32_w]
                rfl
               refine one_ (i:=12) (N:=some 73) #[true,true,true,true,true,true,true,true,true,true,true,true,true,false,false,false] rfl rfl (one_of HT_.out (by kernel_rfl)) (by decide) (fun K hK=>?_)
               refine value_ (w1:=?_) (v:=?_) (by rfl) rfl ?_ ?_
               rotate_left 2
               ·go_simp
                constructor
                ·rfl
                ·rfl
               refine hK.out _ _ ⟨(blk_cell (kA_ BK212.out _) 0).trans rfl,(blk_cell (kA_ BK212.out _) 1).trans rfl,(blk_cell (kA_ BK212.out _) 2).trans rfl,(blk_cell (kA_ BK212.out _) 3).trans rfl,(blk_cell (kA_ BK212.out _) 4).trans rfl,(blk_cell (kA_ BK212.out _) 5).trans rfl⟩ (fun hHeld=>?_)
               clear hK K
               refine norm_ (a':=?_) ?_ ?_
               rotate_left
               ·show Act.put _ (some 73) _=_
                simp only [Act.put,sA_,s0_,s1_,i64_w,i32_w]
                rfl
               refine one_ (i:=13) (N:=some 74) #[true,true,true,true,true,true,true,true,true,true,true,true,true,true,false,false] rfl rfl (one_of HT_.out (by kernel_rfl)) (by decide) (fun K hK=>?_)
               refine Kd.R_append_step (Kd.int .i64) w.heap.size (by rfl) (.tmp 62) (.tmp 73) 22 3 (.int .i64 0) 8 rfl Try.underlying22 info3 rfl (by decide) (by omega) u213004 x213004_3 (wrap64 ((wrap64 ((wrap64 (t230 * 65536))+(wrap64 (t232 * 256))))+t234)) [.int .i64 (wrap64 ((wrap64 ((wrap64 (t230 * 65536))+(wrap64 (t232 * 256))))+t234))] (fun _=>True) (fun _=>False) rfl rfl ?aP (fun _ hk=>hk.elim) ?aF ?aO (Below.refl _ _) ?aS ?aL ?_
               (case aP=>exact rfl)
               (case aF=>exact (fun _ _=>trivial))
               (case aO=>exact (by (with_reducible repeat (first|apply rA_|apply rN_|apply rD_));exact HO_213004.out))
               (case aS=>exact (keep_size (w:=w) (g:=g) (row:=none) (by repeat (first|(with_reducible first|exact HK.out|apply pS_|apply pN_|apply pD_|apply pA_|refine keep_far ?_ GW205.out _|refine keep_far ?_ GW212.out _)|exact HK.out))))
               (case aL=>have:=LMc59.out;omega)
               intro v237 w64 ho hb hg hat
               rw [← Ny236.out] at ho
               have n0_:=aM_ (blk_grown (g:=gb205) (o:=.cells #[.int .i64 0,.int .i64 0,.int .i64 0,.int .i64 0,.slice none 0 0,.slice none 0 0] 27 (0,0)) (by (with_reducible repeat (first|apply kN_|apply kD_|apply kA_));exact BK205.out) hg (Kd.R_ne HO_213004.out BK205.out (by decide)))
               have n1_:=aM_ (blk_grown (g:=gb212) (o:=.cells #[.int .i64 (wrap64 (1+t206)),.int .i64 (rd y219 t222),.int .i64 x213002_5,.int .i64 x213003_5,u213004,.slice none 0 0] 27 (0,0)) (by (with_reducible repeat (first|apply kN_|apply kD_|apply kA_));exact BK212.out) hg (Kd.R_ne HO_213004.out BK212.out (by decide)))
               have n2_:=aM_ (IsS65.grown (by repeat (first|(with_reducible first|exact HI0.out|apply IsS65.alloc|apply IsS65.drewN|apply IsS65.drew|apply IsS65.set_1|refine IsS65.far ?_ NB0_205.out _|refine IsS65.far ?_ NB0_212.out _)|exact HI0.out)) hg (IsS65.own_ne HI0.out HO_213004.out (by decide)))
               have n3_:=aM_ (below_weaken (by repeat (first|(with_reducible first|exact HB.out|apply wA_|apply wN_|apply wD_|refine below_set ?_ (IsS65.ge HI0.out)|refine below_set ?_ GE205.out|refine below_set ?_ GE212.out)|exact HB.out)) HL.out hb)
               have n4_:=aM_ (KeepBut.trans (by repeat (first|(with_reducible first|exact HK.out|apply pS_|apply pN_|apply pD_|apply pA_|refine keep_far ?_ GW205.out _|refine keep_far ?_ GW212.out _)|exact HK.out)) (KeepBut.of_grown hg g) (Kd.R_base2 HO_213004.out))
               have n5_:=aM_ (ho)
               clear BK205
               clear BK212
               clear HI0
               clear HB
               clear HK
               clear HO_213004
               have BK205:=n0_
               have BK212:=n1_
               have HI0:=n2_
               have HB:=n3_
               have HK:=n4_
               have HO238:=n5_
               clear n0_ n1_ n2_ n3_ n4_ n5_
               clear ho hb hg hat
               obtain ⟨Ao65,co65,eo65⟩:=Kd.R_slice HO238.out
               (first|subst eo65|(injection eo65 with f1_ f2_ f3_;have f4_:=f1_.symm;have f5_:=f3_.symm;clear f1_ f2_ f3_;subst f4_;subst f5_))
               refine hK.out _ _ (bc6 BK212.out) (fun hHeld=>?_)
               clear hK K
               refine norm_ (a':=?_) ?_ ?_
               rotate_left
               ·show Act.put _ (some 74) _=_
                simp only [Act.put,sA_,s0_,s1_,i64_w,i32_w]
                rfl
               refine pure_ (i:=14) (N:=some 75) (v:=?_) (a':=?_) #[true,true,true,true,true,true,true,true,true,true,true,true,true,true,true,false] rfl rfl (any_of HT_.out (by kernel_rfl)) (fun _ _ _ h=>h) (Or.inl ⟨by rfl,?_⟩) ?_ ?_
               rotate_left
               ·intro w'
                go_simp
                with_reducible rfl
               rotate_left
               ·simp only [Act.put,sA_,s0_,s1_,i64_w,i32_w]
                rfl
               refine last_ (i:=15) (N:=none) #[true,true,true,true,true,true,true,true,true,true,true,true,true,true,true,true] rfl rfl (one_of HT_.out (by kernel_rfl)) (by decide) (fun K hK=>?_)
               have hs66:w64.cell? ⟨gb212,4,none⟩=some (u213004):=(blk_cell BK212.out 4).trans rfl
               have hfs66:=blk_frozen BK212.out 4
               have hns66_0:=NB205_212.out
               have hms66_0:=NB212_205.out
               refine skip_ (w1:=?_) (by rfl) rfl ?_ ?_
               rotate_left
               ·go_simp
                rfl
               refine hK.out _ _ ?_
               clear hK K
               refine done_ (done_of HT_.out (by kernel_rfl)) ?_
               try go_wp2
               go_roundg k3
               case measure=>have:=HJ5.out;have:=HJ46.out;have:=HK3.out;omega
               case rel=>exact ⟨(wrap64 (x5_3+1)),(t235),(y236),(.slice Ao65 y236.length co65),(by first|rfl|(simp;done)|(simp [*];done)),H',⟨by have:=HJ5.out;have:=HJ46.out;have:=HK3.out;omega⟩,⟨by (with_reducible repeat (first|apply rA_|apply rN_|apply rD_));exact Kd.R_mono (Kd.R_far (Kd.R_types HO238.out BK212.out (by decide)) (fun _ hk=>hk.2) _) (fun _ hk=>trivial)⟩,⟨by (with_reducible repeat (first|apply kN_|apply kD_|apply kA_));refine blk_far ?_ NB205_212.out _;(with_reducible repeat (first|apply kN_|apply kD_|apply kA_));exact BK205.out⟩,⟨by (with_reducible repeat (first|apply kN_|apply kD_|apply kA_));refine blk_put (cs:=#[.int .i64 (wrap64 (1+t206)),.int .i64 (rd y219 t222),.int .i64 x213002_5,.int .i64 x213003_5,u213004,.slice none 0 0]) ?_ 4 _ rfl;(with_reducible repeat (first|apply kN_|apply kD_|apply kA_));exact BK212.out⟩,⟨by repeat (first|(with_reducible first|exact HI0.out|apply IsS65.alloc|apply IsS65.drewN|apply IsS65.drew|apply IsS65.set_1|refine IsS65.far ?_ NB0_205.out _|refine IsS65.far ?_ NB0_212.out _)|exact HI0.out)⟩,⟨by repeat (first|(with_reducible first|exact HK.out|apply pS_|apply pN_|apply pD_|apply pA_|refine keep_far ?_ GW205.out _|refine keep_far ?_ GW212.out _)|exact HK.out)⟩,⟨by repeat (first|(with_reducible first|exact HB.out|apply wA_|apply wN_|apply wD_|refine below_set ?_ (IsS65.ge HI0.out)|refine below_set ?_ GE205.out|refine below_set ?_ GE212.out)|exact HB.out)⟩⟩
              ·rw [if_neg c59] at H
               exact absurd H (by simp)
             ·rw [if_neg c55] at H
              have c55b0:decide (x5_3 < x4_46)=false:=decide_eq_false c55
              clear c55
              have H':=aM_ H
              clear H
              go_wp2
              go_meet
              case rel=>exact ⟨_,(x1001_3),((rd y219 t222)),(x213004_3),(u213004),H',⟨by have:=HJ5.out;have:=HJ46.out;have:=HK3.out;first|omega|exact Nat.le_refl _⟩,⟨by (with_reducible repeat (first|apply rA_|apply rN_|apply rD_));exact HO_213004.out⟩,⟨by (with_reducible repeat (first|apply kN_|apply kD_|apply kA_));exact BK205.out⟩,⟨by (with_reducible repeat (first|apply kN_|apply kD_|apply kA_));exact BK212.out⟩,⟨by repeat (first|(with_reducible first|exact HI0.out|apply IsS65.alloc|apply IsS65.drewN|apply IsS65.drew|apply IsS65.set_1|refine IsS65.far ?_ NB0_205.out _|refine IsS65.far ?_ NB0_212.out _)|exact HI0.out)⟩,⟨by repeat (first|(with_reducible first|exact HK.out|apply pS_|apply pN_|apply pD_|apply pA_|refine keep_far ?_ GW205.out _|refine keep_far ?_ GW212.out _)|exact HK.out)⟩,⟨by repeat (first|(with_reducible first|exact HB.out|apply wA_|apply wN_|apply wD_|refine below_set ?_ (IsS65.ge HI0.out)|refine below_set ?_ GE205.out|refine below_set ?_ GE212.out)|exact HB.out)⟩⟩
        ·rw [if_neg c44] at H
         have c44b0:((wrap64 (1+t206)) == 4)=false:=beq_eq_false_iff_ne.mpr c44
         have c44b1:((wrap64 (1+t206)) != 4)=true:=bne_iff_ne.mpr c44
         have H':=aM_ H
         clear H
         go_wp2
         go_meet
         case rel=>exact ⟨_,(t223),(rd y219 t222),(([]:List Int)),(.slice none 0 0),H',⟨by have:=HJ5.out;first|omega|exact Nat.le_refl _⟩,⟨by first|exact Kd.R_nil _ _ _ _ _|exact Kd.N_nil _ _ _ _ _|exact Kd.V_nil _ _ _ _ _|exact Kd.Q_nil _ _ _ _ _|exact Kd.S_nil _ _ _ _ _⟩,⟨by (with_reducible repeat (first|apply kN_|apply kD_|apply kA_));refine blk_far ?_ NB205_212.out _;(with_reducible repeat (first|apply kN_|apply kD_|apply kA_));exact BK205.out⟩,⟨by (with_reducible repeat (first|apply kN_|apply kD_|apply kA_));refine blk_put (cs:=#[.int .i64 (wrap64 (1+t206)),.int .i64 0,.int .i64 x213002_5,.int .i64 x213003_5,.slice none 0 0,.slice none 0 0]) ?_ 1 _ rfl;(with_reducible repeat (first|apply kN_|apply kD_|apply kA_));exact BK212.out⟩,⟨by repeat (first|(with_reducible first|exact HI0.out|apply IsS65.alloc|apply IsS65.drewN|apply IsS65.drew|apply IsS65.set_1|refine IsS65.far ?_ NB0_205.out _|refine IsS65.far ?_ NB0_212.out _)|exact HI0.out)⟩,⟨by repeat (first|(with_reducible first|exact HK.out|apply pS_|apply pN_|apply pD_|apply pA_|refine keep_far ?_ GW205.out _|refine keep_far ?_ GW212.out _)|exact HK.out)⟩,⟨by repeat (first|(with_reducible first|exact HB.out|apply wA_|apply wN_|apply wD_|refine below_set ?_ (IsS65.ge HI0.out)|refine below_set ?_ GE205.out|refine below_set ?_ GE212.out)|exact HB.out)⟩⟩
     case rest =>
      clear HC28
      try clear c1
      try clear c2
      try clear p2
      try clear q2
      try clear hx2
      try clear c3
      try clear c4
      try clear c5
      try clear c6
      try clear p6
      try clear c7
      try clear c12
      try clear c13
      try clear c16
      try clear c16b0
      try clear c16b1
      try clear c20
      try clear c21
      try clear p22
      try clear q22
      try clear hx22
      try clear c26
      try clear c26b0
      try clear c27
      try clear c27b0
      try clear c33
      try clear c34
      try clear c36
      try clear c36b0
      try clear c36b1
      try clear c37
      try clear c38
      try clear c40
      try clear c40b0
      try clear c40b1
      try clear c41
      try clear c42
      try clear c44
      try clear c44b0
      try clear c44b1
      try clear c46
      try clear c48
      try clear c49
      try clear c52
      try clear c52b0
      try clear c52b1
      try clear c55
      try clear c55b0
      try clear c59
      try clear p64
      try clear hcz14_0 hcz14_1 hcz14_2 hcz14_3 hcz14_4 hcz14_5
      try clear hcz22_0 hcz22_1 hcz22_2 hcz22_3 hcz22_4 hcz22_5
      try clear hcz24_0 hcz24_1 hcz24_2 hcz24_3 hcz24_4 hcz24_5
      try clear hcz35_0 hcz35_1 hcz35_2 hcz35_3 hcz35_4 hcz35_5
      try clear hcz39_0 hcz39_1 hcz39_2 hcz39_3 hcz39_4 hcz39_5
      try clear hcz43_0 hcz43_1 hcz43_2 hcz43_3 hcz43_4 hcz43_5
      try clear hcz50_0 hcz50_1 hcz50_2 hcz50_3 hcz50_4 hcz50_5
      try clear hfz14_0 hfz14_1 hfz14_2 hfz14_3 hfz14_4 hfz14_5
      try clear hfz22_0 hfz22_1 hfz22_2 hfz22_3 hfz22_4 hfz22_5
      try clear hfz24_0 hfz24_1 hfz24_2 hfz24_3 hfz24_4 hfz24_5
      try clear hfz35_0 hfz35_1 hfz35_2 hfz35_3 hfz35_4 hfz35_5
      try clear hfz39_0 hfz39_1 hfz39_2 hfz39_3 hfz39_4 hfz39_5
      try clear hfz43_0 hfz43_1 hfz43_2 hfz43_3 hfz43_4 hfz43_5
      try clear hfz50_0 hfz50_1 hfz50_2 hfz50_3 hfz50_4 hfz50_5
      try clear hx224_0
      try clear p2
      try clear p22
      try clear p224
      try clear p6
      try clear q2
      try clear q22
      try clear q224
      obtain ⟨kq,x1001_27,x213001_27,x213004_27,u213004,HA,HJ27,HO_213004,BK205,BK212,HI0,HK,HB⟩:=hcut
      cases kq with
      | zero=>exact absurd HA.out (by simp [spec_l14Image.j3])
      | succ kj27 =>
       have H:=HA.out
       clear HA
       simp only [spec_l14Image.j3] at H
       replace H:=Option.bind_eq_some_iff.mp H
       obtain ⟨t239,A670,H⟩:=H
       replace H:(if (wrap64 (1+t206))=4 then (spec_l14Image.j4 kj27 (x213004_27.length:Int) s0_0 x1001_27 (wrap64 (1+t206)) x213001_27 x213002_5 x213003_5 x213004_27) else (spec_l14Image.j4 kj27 t239 s0_0 x1001_27 (wrap64 (1+t206)) x213001_27 x213002_5 x213003_5 x213004_27))=some (r1,r2,r3,r4,r5,r6,r7):=H
       have A67:=aM_ A670
       clear A670
       have HC68:=aM_ H
       clear H
       have hnb69:=NB212_205.out
       have hnc69:=NB205_212.out
       have hnb70:=NB212_0.out
       have hnc70:=NB0_212.out
       obtain ⟨hcz71_0,hcz71_1,hcz71_2,hcz71_3,hcz71_4,hcz71_5⟩:=bc6 BK212.out
       obtain ⟨hfz71_0,hfz71_1,hfz71_2,hfz71_3,hfz71_4,hfz71_5⟩:=bf6 BK212.out
       go_upto_if 81 with (first|((with_reducible refine gate_callee (f:=46) rfl ?_);refine goesL_ (some 78) rfl rfl Try.func46 (by kernel_rfl) rfl #[.int .i64 x213001_27] rfl (by (try simp only [List.map_toArray,List.map_cons,List.map_nil]);first|done|rfl|(simp only [List.length_drop,List.length_take];rfl)) ?_;(with_reducible refine (spec_l1Pow.calls kj27 x213001_27 t239 _ A67.out).mono ?_);rintro e w' ⟨rfl,⟨nd,rfl⟩⟩;refine ⟨_,rfl,?_⟩))
       (try simp only [Act.put,sA_,s0_,s1_])
       go_cut [6] (fun v6 wc=>∃ (kq:Nat) (x6_67:Int),v6=.int .i64 x6_67∧Aside0 (spec_l14Image.j4 kq x6_67 s0_0 x1001_27 (wrap64 (1+t206)) x213001_27 x213002_5 x213003_5 x213004_27=some (r1,r2,r3,r4,r5,r6,r7))∧Aside0 (kq≤kj27)∧Aside0 (Kd.R (Kd.int .i64) 3 wc w.heap.size (fun _=>True) u213004 x213004_27)∧Aside0 (wc.heap[gb205]?=some (.cells #[.int .i64 0,.int .i64 0,.int .i64 0,.int .i64 0,(.slice none 0 0),(.slice none 0 0)] 27 (0,0)))∧Aside0 (wc.heap[gb212]?=some (.cells #[.int .i64 (wrap64 (1+t206)),.int .i64 x213001_27,.int .i64 x213002_5,.int .i64 x213003_5,u213004,(.slice none 0 0)] 27 (0,0)))∧Aside0 (IsS65 w0 wc g s0_0 x1001_27)∧Aside0 (KeepBut w wc g none)∧Aside0 (Below w0.heap.size w0 wc))
       case first =>
        have H:=HC68.out
        clear HC68
        by_cases c72:(wrap64 (1+t206))=4
        ·rw [if_pos c72] at H
         have c72b0:((wrap64 (1+t206)) == 4)=true:=beq_iff_eq.mpr c72
         have c72b1:((wrap64 (1+t206)) != 4)=false:=bne_eq_false_iff_eq.mpr c72
         clear c72
         (first|rw [c72b0]|(simp only [i64_w,i32_w];rw [c72b0])|skip)
         have H':=aM_ H
         clear H
         have hnb73:=NB212_205.out
         have hnc73:=NB205_212.out
         have hnb74:=NB212_0.out
         have hnc74:=NB0_212.out
         obtain ⟨hcz75_0,hcz75_1,hcz75_2,hcz75_3,hcz75_4,hcz75_5⟩:=bc6 BK212.out
         obtain ⟨hfz75_0,hfz75_1,hfz75_2,hfz75_3,hfz75_4,hfz75_5⟩:=bf6 BK212.out
         obtain ⟨Ao76,co76,eo76⟩:=Kd.R_slice HO_213004.out
         subst eo76
         go_wp2
         go_meet
         case rel=>exact ⟨_,((x213004_27.length:Int)),(by first|rfl|(simp;done)|(simp [*];done)),H',⟨by have:=HJ5.out;have:=HJ27.out;first|omega|exact Nat.le_refl _⟩,⟨by (with_reducible repeat (first|apply rA_|apply rN_|apply rD_));exact HO_213004.out⟩,⟨by (with_reducible repeat (first|apply kN_|apply kD_|apply kA_));exact BK205.out⟩,⟨by (with_reducible repeat (first|apply kN_|apply kD_|apply kA_));exact BK212.out⟩,⟨by repeat (first|(with_reducible first|exact HI0.out|apply IsS65.alloc|apply IsS65.drewN|apply IsS65.drew|apply IsS65.set_1|refine IsS65.far ?_ NB0_205.out _|refine IsS65.far ?_ NB0_212.out _)|exact HI0.out)⟩,⟨by repeat (first|(with_reducible first|exact HK.out|apply pS_|apply pN_|apply pD_|apply pA_|refine keep_far ?_ GW205.out _|refine keep_far ?_ GW212.out _)|exact HK.out)⟩,⟨by repeat (first|(with_reducible first|exact HB.out|apply wA_|apply wN_|apply wD_|refine below_set ?_ (IsS65.ge HI0.out)|refine below_set ?_ GE205.out|refine below_set ?_ GE212.out)|exact HB.out)⟩⟩
        ·rw [if_neg c72] at H
         have c72b0:((wrap64 (1+t206)) == 4)=false:=beq_eq_false_iff_ne.mpr c72
         have c72b1:((wrap64 (1+t206)) != 4)=true:=bne_iff_ne.mpr c72
         (first|rw [c72b0]|(simp only [i64_w,i32_w];rw [c72b0])|skip)
         have H':=aM_ H
         clear H
         go_wp2
         go_meet
         case rel=>exact ⟨_,(t239),(by first|rfl|(simp;done)|(simp [*];done)),H',⟨by have:=HJ5.out;have:=HJ27.out;first|omega|exact Nat.le_refl _⟩,⟨by (with_reducible repeat (first|apply rA_|apply rN_|apply rD_));exact HO_213004.out⟩,⟨by (with_reducible repeat (first|apply kN_|apply kD_|apply kA_));exact BK205.out⟩,⟨by (with_reducible repeat (first|apply kN_|apply kD_|apply kA_));exact BK212.out⟩,⟨by repeat (first|(with_reducible first|exact HI0.out|apply IsS65.alloc|apply IsS65.drewN|apply IsS65.drew|apply IsS65.set_1|refine IsS65.far ?_ NB0_205.out _|refine IsS65.far ?_ NB0_212.out _)|exact HI0.out)⟩,⟨by repeat (first|(with_reducible first|exact HK.out|apply pS_|apply pN_|apply pD_|apply pA_|refine keep_far ?_ GW205.out _|refine keep_far ?_ GW212.out _)|exact HK.out)⟩,⟨by repeat (first|(with_reducible first|exact HB.out|apply wA_|apply wN_|apply wD_|refine below_set ?_ (IsS65.ge HI0.out)|refine below_set ?_ GE205.out|refine below_set ?_ GE212.out)|exact HB.out)⟩⟩
       case rest =>
        clear HC68
        try clear c1
        try clear c2
        try clear p2
        try clear q2
        try clear hx2
        try clear c3
        try clear c4
        try clear c5
        try clear c6
        try clear p6
        try clear c7
        try clear c12
        try clear c13
        try clear c16
        try clear c16b0
        try clear c16b1
        try clear c20
        try clear c21
        try clear p22
        try clear q22
        try clear hx22
        try clear c26
        try clear c26b0
        try clear c27
        try clear c27b0
        try clear c33
        try clear c34
        try clear c36
        try clear c36b0
        try clear c36b1
        try clear c37
        try clear c38
        try clear c40
        try clear c40b0
        try clear c40b1
        try clear c41
        try clear c42
        try clear c44
        try clear c44b0
        try clear c44b1
        try clear c46
        try clear c48
        try clear c49
        try clear c52
        try clear c52b0
        try clear c52b1
        try clear c55
        try clear c55b0
        try clear c59
        try clear p64
        try clear c68
        try clear c69
        try clear c70
        try clear c72
        try clear c72b0
        try clear c72b1
        try clear c73
        try clear c74
        try clear hcz14_0 hcz14_1 hcz14_2 hcz14_3 hcz14_4 hcz14_5
        try clear hcz22_0 hcz22_1 hcz22_2 hcz22_3 hcz22_4 hcz22_5
        try clear hcz24_0 hcz24_1 hcz24_2 hcz24_3 hcz24_4 hcz24_5
        try clear hcz35_0 hcz35_1 hcz35_2 hcz35_3 hcz35_4 hcz35_5
        try clear hcz39_0 hcz39_1 hcz39_2 hcz39_3 hcz39_4 hcz39_5
        try clear hcz43_0 hcz43_1 hcz43_2 hcz43_3 hcz43_4 hcz43_5
        try clear hcz50_0 hcz50_1 hcz50_2 hcz50_3 hcz50_4 hcz50_5
        try clear hcz71_0 hcz71_1 hcz71_2 hcz71_3 hcz71_4 hcz71_5
        try clear hcz75_0 hcz75_1 hcz75_2 hcz75_3 hcz75_4 hcz75_5
        try clear hfz14_0 hfz14_1 hfz14_2 hfz14_3 hfz14_4 hfz14_5
        try clear hfz22_0 hfz22_1 hfz22_2 hfz22_3 hfz22_4 hfz22_5
        try clear hfz24_0 hfz24_1 hfz24_2 hfz24_3 hfz24_4 hfz24_5
        try clear hfz35_0 hfz35_1 hfz35_2 hfz35_3 hfz35_4 hfz35_5
        try clear hfz39_0 hfz39_1 hfz39_2 hfz39_3 hfz39_4 hfz39_5
        try clear hfz43_0 hfz43_1 hfz43_2 hfz43_3 hfz43_4 hfz43_5
        try clear hfz50_0 hfz50_1 hfz50_2 hfz50_3 hfz50_4 hfz50_5
        try clear hfz71_0 hfz71_1 hfz71_2 hfz71_3 hfz71_4 hfz71_5
        try clear hfz75_0 hfz75_1 hfz75_2 hfz75_3 hfz75_4 hfz75_5
        try clear hx224_0
        try clear p2
        try clear p22
        try clear p224
        try clear p6
        try clear p64
        try clear q2
        try clear q22
        try clear q224
        obtain ⟨kq,x6_67,rfl,HA,HJ67,HO_213004,BK205,BK212,HI0,HK,HB⟩:=hcut
        cases kq with
        | zero=>exact absurd HA.out (by simp [spec_l14Image.j4])
        | succ kj67 =>
         have H:=HA.out
         clear HA
         simp only [spec_l14Image.j4] at H
         have H':=aM_ H
         clear H
         go_wp2
         go_loopg [7,8] kj67 (fun kq v7 v8 w'=>∃ (x7_4:Int) (x8_4:Int) (x1001_4:Int) (x213005_4:List Int) (u213005:Value),v7=.int .i64 x7_4∧v8=.int .i64 x8_4∧Aside0 (spec_l14Image.l1 kq x6_67 x7_4 x8_4 s0_0 x1001_4 (wrap64 (1+t206)) x213001_27 x213002_5 x213003_5 x213004_27 x213005_4=some (r1,r2,r3,r4,r5,r6,r7))∧Aside0 (kq≤kj67)∧Aside0 (Kd.R (Kd.int .i64) 3 w' w.heap.size (fun k_=>some k_≠(u213005:Value).ownBlock) u213004 x213004_27)∧Aside0 (Kd.R (Kd.int .i64) 3 w' w.heap.size (fun k_=>some k_≠(u213004:Value).ownBlock) u213005 x213005_4)∧Aside0 (w'.heap[gb205]?=some (.cells #[.int .i64 0,.int .i64 0,.int .i64 0,.int .i64 0,(.slice none 0 0),(.slice none 0 0)] 27 (0,0)))∧Aside0 (w'.heap[gb212]?=some (.cells #[.int .i64 (wrap64 (1+t206)),.int .i64 x213001_27,.int .i64 x213002_5,.int .i64 x213003_5,u213004,u213005] 27 (0,0)))∧Aside0 (IsS65 w0 w' g s0_0 x1001_4)∧Aside0 (KeepBut w w' g none)∧Aside0 (Below w0.heap.size w0 w'))
         case atStart=>exact ⟨(0),(0),(x1001_27),(([]:List Int)),(.slice none 0 0),(by first|rfl|(simp;done)|(simp [*];done)),(by first|rfl|(simp;done)|(simp [*];done)),H',⟨Nat.le_refl _⟩,⟨by (with_reducible repeat (first|apply rA_|apply rN_|apply rD_));exact Kd.R_mono HO_213004.out (fun _ hk=>(by simp [Value.ownBlock]))⟩,⟨by first|exact Kd.R_nil _ _ _ _ _|exact Kd.N_nil _ _ _ _ _|exact Kd.V_nil _ _ _ _ _|exact Kd.Q_nil _ _ _ _ _|exact Kd.S_nil _ _ _ _ _⟩,⟨by (with_reducible repeat (first|apply kN_|apply kD_|apply kA_));exact BK205.out⟩,⟨by (with_reducible repeat (first|apply kN_|apply kD_|apply kA_));exact BK212.out⟩,⟨by repeat (first|(with_reducible first|exact HI0.out|apply IsS65.alloc|apply IsS65.drewN|apply IsS65.drew|apply IsS65.set_1|refine IsS65.far ?_ NB0_205.out _|refine IsS65.far ?_ NB0_212.out _)|exact HI0.out)⟩,⟨by repeat (first|(with_reducible first|exact HK.out|apply pS_|apply pN_|apply pD_|apply pA_|refine keep_far ?_ GW205.out _|refine keep_far ?_ GW212.out _)|exact HK.out)⟩,⟨by repeat (first|(with_reducible first|exact HB.out|apply wA_|apply wN_|apply wD_|refine below_set ?_ (IsS65.ge HI0.out)|refine below_set ?_ GE205.out|refine below_set ?_ GE212.out)|exact HB.out)⟩⟩
         case round =>
          clear H'
          try clear c1
          try clear c2
          try clear p2
          try clear q2
          try clear hx2
          try clear c3
          try clear c4
          try clear c5
          try clear c6
          try clear p6
          try clear c7
          try clear c12
          try clear c13
          try clear c16
          try clear c16b0
          try clear c16b1
          try clear c20
          try clear c21
          try clear p22
          try clear q22
          try clear hx22
          try clear c26
          try clear c26b0
          try clear c27
          try clear c27b0
          try clear c33
          try clear c34
          try clear c36
          try clear c36b0
          try clear c36b1
          try clear c37
          try clear c38
          try clear c40
          try clear c40b0
          try clear c40b1
          try clear c41
          try clear c42
          try clear c44
          try clear c44b0
          try clear c44b1
          try clear c46
          try clear c48
          try clear c49
          try clear c52
          try clear c52b0
          try clear c52b1
          try clear c55
          try clear c55b0
          try clear c59
          try clear p64
          try clear c68
          try clear c69
          try clear c70
          try clear c72
          try clear c72b0
          try clear c72b1
          try clear c73
          try clear c74
          try clear hcz14_0 hcz14_1 hcz14_2 hcz14_3 hcz14_4 hcz14_5
          try clear hcz22_0 hcz22_1 hcz22_2 hcz22_3 hcz22_4 hcz22_5
          try clear hcz24_0 hcz24_1 hcz24_2 hcz24_3 hcz24_4 hcz24_5
          try clear hcz35_0 hcz35_1 hcz35_2 hcz35_3 hcz35_4 hcz35_5
          try clear hcz39_0 hcz39_1 hcz39_2 hcz39_3 hcz39_4 hcz39_5
          try clear hcz43_0 hcz43_1 hcz43_2 hcz43_3 hcz43_4 hcz43_5
          try clear hcz50_0 hcz50_1 hcz50_2 hcz50_3 hcz50_4 hcz50_5
          try clear hcz71_0 hcz71_1 hcz71_2 hcz71_3 hcz71_4 hcz71_5
          try clear hcz75_0 hcz75_1 hcz75_2 hcz75_3 hcz75_4 hcz75_5
          try clear hfz14_0 hfz14_1 hfz14_2 hfz14_3 hfz14_4 hfz14_5
          try clear hfz22_0 hfz22_1 hfz22_2 hfz22_3 hfz22_4 hfz22_5
          try clear hfz24_0 hfz24_1 hfz24_2 hfz24_3 hfz24_4 hfz24_5
          try clear hfz35_0 hfz35_1 hfz35_2 hfz35_3 hfz35_4 hfz35_5
          try clear hfz39_0 hfz39_1 hfz39_2 hfz39_3 hfz39_4 hfz39_5
          try clear hfz43_0 hfz43_1 hfz43_2 hfz43_3 hfz43_4 hfz43_5
          try clear hfz50_0 hfz50_1 hfz50_2 hfz50_3 hfz50_4 hfz50_5
          try clear hfz71_0 hfz71_1 hfz71_2 hfz71_3 hfz71_4 hfz71_5
          try clear hfz75_0 hfz75_1 hfz75_2 hfz75_3 hfz75_4 hfz75_5
          try clear hx224_0
          try clear p2
          try clear p22
          try clear p224
          try clear p6
          try clear p64
          try clear q2
          try clear q22
          try clear q224
          obtain ⟨x7_4,x8_4,x1001_4,x213005_4,u213005,rfl,rfl,HA,HK4,HO_213004,HO_213005,BK205,BK212,HI0,HK,HB⟩:=hrel
          cases gk with
          | zero=>exact absurd HA.out (by simp [spec_l14Image.l1])
          | succ k4 =>
           have H:=HA.out
           clear HA
           simp only [spec_l14Image.l1] at H
           by_cases c77:x8_4 < (wrap64 (x213002_5 * x213003_5))
           ·rw [if_pos c77] at H
            have c77b0:decide (x8_4 < (wrap64 (x213002_5 * x213003_5)))=true:=decide_eq_true c77
            clear c77
            replace H:=Option.bind_eq_some_iff.mp H
            obtain ⟨⟨t240,t241⟩,A780,H⟩:=H
            replace H:(if t240 > 0 then ((spec_l1Rd_pick.f k4 s0_0 t241 256).bind fun bt242=>((spec_l1Rd_pick.f k4 s0_0 bt242.2 3).bind fun bt244=>((spec_l1Rd_pick.f k4 s0_0 bt244.2 256).bind fun bt246=>(if x6_67=0 then (none) else (spec_l14Image.j6 k4 x6_67 (Int.tmod (wrap64 ((wrap64 ((wrap64 (bt242.1 * 16777216))+(wrap64 (bt244.1 * 65536))))+bt246.1)) x6_67) x8_4 s0_0 bt246.2 (wrap64 (1+t206)) x213001_27 x213002_5 x213003_5 x213004_27 x213005_4))))) else (spec_l14Image.j6 k4 x6_67 x7_4 x8_4 s0_0 t241 (wrap64 (1+t206)) x213001_27 x213002_5 x213003_5 x213004_27 x213005_4))=some (r1,r2,r3,r4,r5,r6,r7):=H
            have A78:=aM_ A780
            clear A780
            have HC79:=aM_ H
            clear H
            have hnb80:=NB212_205.out
            have hnc80:=NB205_212.out
            have hnb81:=NB212_0.out
            have hnc81:=NB0_212.out
            obtain ⟨hcz82_0,hcz82_1,hcz82_2,hcz82_3,hcz82_4,hcz82_5⟩:=bc6 BK212.out
            obtain ⟨hfz82_0,hfz82_1,hfz82_2,hfz82_3,hfz82_4,hfz82_5⟩:=bf6 BK212.out
            go_upto_if 96 with (first|((with_reducible refine gate_callee (f:=68) rfl ?_);refine goesL_ (some 95) rfl rfl Try.func68 (by kernel_rfl) rfl #[.pointer (some ⟨g,0,none⟩),.int .i64 3] rfl (by (try simp only [List.map_toArray,List.map_cons,List.map_nil]);first|done|rfl|(simp only [List.length_drop,List.length_take];rfl)) ?_;(with_reducible refine (spec_l1Rd_pick.calls k4 g s0_0 x1001_4 3 t240 t241 w0 _ ?side1 ?side2 A78.out).mono ?_);(case side1=>repeat (first|(with_reducible first|exact HI0.out|apply IsS65.alloc|apply IsS65.drewN|apply IsS65.drew|apply IsS65.set_1|refine IsS65.far ?_ NB0_205.out _|refine IsS65.far ?_ NB0_212.out _)|exact HI0.out));(case side2=>repeat (first|(with_reducible first|exact HB.out|apply wA_|apply wN_|apply wD_|refine below_set ?_ (IsS65.ge HI0.out)|refine below_set ?_ GE205.out|refine below_set ?_ GE212.out)|exact HB.out));rintro e w83 ⟨rfl,hi,hb,hk⟩;refine ⟨_,rfl,?_⟩;have n0_:=aM_ (Kd.R_mono (Kd.R_keep (IsS65.apart (show IsS65 w0 _ g s0_0 x1001_4 from by repeat (first|(with_reducible first|exact HI0.out|apply IsS65.alloc|apply IsS65.drewN|apply IsS65.drew|apply IsS65.set_1|refine IsS65.far ?_ NB0_205.out _|refine IsS65.far ?_ NB0_212.out _)|exact HI0.out)) (by (with_reducible repeat (first|apply rA_|apply rN_|apply rD_));exact HO_213004.out) (by decide)) hk (fun _ h=>h.2)) (fun _ h=>h.1));have n1_:=aM_ (Kd.R_mono (Kd.R_keep (IsS65.apart (show IsS65 w0 _ g s0_0 x1001_4 from by repeat (first|(with_reducible first|exact HI0.out|apply IsS65.alloc|apply IsS65.drewN|apply IsS65.drew|apply IsS65.set_1|refine IsS65.far ?_ NB0_205.out _|refine IsS65.far ?_ NB0_212.out _)|exact HI0.out)) (by (with_reducible repeat (first|apply rA_|apply rN_|apply rD_));exact HO_213005.out) (by decide)) hk (fun _ h=>h.2)) (fun _ h=>h.1));have n2_:=aM_ (KeepBut.blk hk (g':=gb205) (o:=.cells #[.int .i64 0,.int .i64 0,.int .i64 0,.int .i64 0,.slice none 0 0,.slice none 0 0] 27 (0,0)) (by (with_reducible repeat (first|apply kN_|apply kD_|apply kA_));exact BK205.out) NB205_0.out (by simp));have n3_:=aM_ (KeepBut.blk hk (g':=gb212) (o:=.cells #[.int .i64 (wrap64 (1+t206)),.int .i64 x213001_27,.int .i64 x213002_5,.int .i64 x213003_5,u213004,u213005] 27 (0,0)) (by (with_reducible repeat (first|apply kN_|apply kD_|apply kA_));exact BK212.out) NB212_0.out (by simp));have n4_:=aM_ (KeepBut.trans (by repeat (first|(with_reducible first|exact HK.out|apply pS_|apply pN_|apply pD_|apply pA_|refine keep_far ?_ GW205.out _|refine keep_far ?_ GW212.out _)|exact HK.out)) hk (.inl rfl));have n5_:=aM_ (hb);have n6_:=aM_ (hi);clear HO_213004;clear HO_213005;clear BK205;clear BK212;clear HK;clear HB;clear HI0;have HO_213004:=n0_;have HO_213005:=n1_;have BK205:=n2_;have BK212:=n3_;have HK:=n4_;have HB:=n5_;have HI0:=n6_;clear n0_ n1_ n2_ n3_ n4_ n5_ n6_;(try clear hb);(try clear hb2);(try clear hk);(try clear hi)))
            (try simp only [Act.put,sA_,s0_,s1_])
            go_cut [7] (fun v7 wc=>∃ (kq:Nat) (x7_78:Int) (x1001_78:Int),v7=.int .i64 x7_78∧Aside0 (spec_l14Image.j6 kq x6_67 x7_78 x8_4 s0_0 x1001_78 (wrap64 (1+t206)) x213001_27 x213002_5 x213003_5 x213004_27 x213005_4=some (r1,r2,r3,r4,r5,r6,r7))∧Aside0 (kq≤k4)∧Aside0 (Kd.R (Kd.int .i64) 3 wc w.heap.size (fun k_=>some k_≠(u213005:Value).ownBlock) u213004 x213004_27)∧Aside0 (Kd.R (Kd.int .i64) 3 wc w.heap.size (fun k_=>some k_≠(u213004:Value).ownBlock) u213005 x213005_4)∧Aside0 (wc.heap[gb205]?=some (.cells #[.int .i64 0,.int .i64 0,.int .i64 0,.int .i64 0,(.slice none 0 0),(.slice none 0 0)] 27 (0,0)))∧Aside0 (wc.heap[gb212]?=some (.cells #[.int .i64 (wrap64 (1+t206)),.int .i64 x213001_27,.int .i64 x213002_5,.int .i64 x213003_5,u213004,u213005] 27 (0,0)))∧Aside0 (IsS65 w0 wc g s0_0 x1001_78)∧Aside0 (KeepBut w wc g none)∧Aside0 (Below w0.heap.size w0 wc))
            case first =>
             have H:=HC79.out
             clear HC79
             by_cases c84:t240 > 0
             ·rw [if_pos c84] at H
              have c84b0:decide (0 < t240)=true:=decide_eq_true c84
              clear c84
              (first|rw [c84b0]|(simp only [i64_w,i32_w];rw [c84b0])|skip)
              replace H:=Option.bind_eq_some_iff.mp H
              obtain ⟨⟨t242,t243⟩,A850,H⟩:=H
              replace H:((spec_l1Rd_pick.f k4 s0_0 t243 3).bind fun bt244=>((spec_l1Rd_pick.f k4 s0_0 bt244.2 256).bind fun bt246=>(if x6_67=0 then (none) else (spec_l14Image.j6 k4 x6_67 (Int.tmod (wrap64 ((wrap64 ((wrap64 (t242 * 16777216))+(wrap64 (bt244.1 * 65536))))+bt246.1)) x6_67) x8_4 s0_0 bt246.2 (wrap64 (1+t206)) x213001_27 x213002_5 x213003_5 x213004_27 x213005_4))))=some (r1,r2,r3,r4,r5,r6,r7):=H
              have A85:=aM_ A850
              clear A850
              replace H:=Option.bind_eq_some_iff.mp H
              obtain ⟨⟨t244,t245⟩,A860,H⟩:=H
              replace H:((spec_l1Rd_pick.f k4 s0_0 t245 256).bind fun bt246=>(if x6_67=0 then (none) else (spec_l14Image.j6 k4 x6_67 (Int.tmod (wrap64 ((wrap64 ((wrap64 (t242 * 16777216))+(wrap64 (t244 * 65536))))+bt246.1)) x6_67) x8_4 s0_0 bt246.2 (wrap64 (1+t206)) x213001_27 x213002_5 x213003_5 x213004_27 x213005_4)))=some (r1,r2,r3,r4,r5,r6,r7):=H
              have A86:=aM_ A860
              clear A860
              replace H:=Option.bind_eq_some_iff.mp H
              obtain ⟨⟨t246,t247⟩,A870,H⟩:=H
              replace H:(if x6_67=0 then (none) else (spec_l14Image.j6 k4 x6_67 (Int.tmod (wrap64 ((wrap64 ((wrap64 (t242 * 16777216))+(wrap64 (t244 * 65536))))+t246)) x6_67) x8_4 s0_0 t247 (wrap64 (1+t206)) x213001_27 x213002_5 x213003_5 x213004_27 x213005_4))=some (r1,r2,r3,r4,r5,r6,r7):=H
              have A87:=aM_ A870
              clear A870
              by_cases c88:x6_67=0
              ·rw [if_pos c88] at H
               exact absurd H (by simp)
              ·rw [if_neg c88] at H
               have c88b0:(x6_67 == 0)=false:=beq_eq_false_iff_ne.mpr c88
               have c88b1:(x6_67 != 0)=true:=bne_iff_ne.mpr c88
               have H':=aM_ H
               clear H
               go_wp2_with (first|((with_reducible refine gate_callee (f:=68) rfl ?_);refine goesL_ (some 98) rfl rfl Try.func68 (by kernel_rfl) rfl #[.pointer (some ⟨g,0,none⟩),.int .i64 256] rfl (by (try simp only [List.map_toArray,List.map_cons,List.map_nil]);first|done|rfl|(simp only [List.length_drop,List.length_take];rfl)) ?_;(with_reducible refine (spec_l1Rd_pick.calls k4 g s0_0 t241 256 t242 t243 w0 _ ?side1 ?side2 A85.out).mono ?_);(case side1=>repeat (first|(with_reducible first|exact HI0.out|apply IsS65.alloc|apply IsS65.drewN|apply IsS65.drew|apply IsS65.set_1|refine IsS65.far ?_ NB0_205.out _|refine IsS65.far ?_ NB0_212.out _)|exact HI0.out));(case side2=>repeat (first|(with_reducible first|exact HB.out|apply wA_|apply wN_|apply wD_|refine below_set ?_ (IsS65.ge HI0.out)|refine below_set ?_ GE205.out|refine below_set ?_ GE212.out)|exact HB.out));rintro e w89 ⟨rfl,hi,hb,hk⟩;refine ⟨_,rfl,?_⟩;have n0_:=aM_ (Kd.R_mono (Kd.R_keep (IsS65.apart (show IsS65 w0 _ g s0_0 t241 from by repeat (first|(with_reducible first|exact HI0.out|apply IsS65.alloc|apply IsS65.drewN|apply IsS65.drew|apply IsS65.set_1|refine IsS65.far ?_ NB0_205.out _|refine IsS65.far ?_ NB0_212.out _)|exact HI0.out)) (by (with_reducible repeat (first|apply rA_|apply rN_|apply rD_));exact HO_213004.out) (by decide)) hk (fun _ h=>h.2)) (fun _ h=>h.1));have n1_:=aM_ (Kd.R_mono (Kd.R_keep (IsS65.apart (show IsS65 w0 _ g s0_0 t241 from by repeat (first|(with_reducible first|exact HI0.out|apply IsS65.alloc|apply IsS65.drewN|apply IsS65.drew|apply IsS65.set_1|refine IsS65.far ?_ NB0_205.out _|refine IsS65.far ?_ NB0_212.out _)|exact HI0.out)) (by (with_reducible repeat (first|apply rA_|apply rN_|apply rD_));exact HO_213005.out) (by decide)) hk (fun _ h=>h.2)) (fun _ h=>h.1));have n2_:=aM_ (KeepBut.blk hk (g':=gb205) (o:=.cells #[.int .i64 0,.int .i64 0,.int .i64 0,.int .i64 0,.slice none 0 0,.slice none 0 0] 27 (0,0)) (by (with_reducible repeat (first|apply kN_|apply kD_|apply kA_));exact BK205.out) NB205_0.out (by simp));have n3_:=aM_ (KeepBut.blk hk (g':=gb212) (o:=.cells #[.int .i64 (wrap64 (1+t206)),.int .i64 x213001_27,.int .i64 x213002_5,.int .i64 x213003_5,u213004,u213005] 27 (0,0)) (by (with_reducible repeat (first|apply kN_|apply kD_|apply kA_));exact BK212.out) NB212_0.out (by simp));have n4_:=aM_ (KeepBut.trans (by repeat (first|(with_reducible first|exact HK.out|apply pS_|apply pN_|apply pD_|apply pA_|refine keep_far ?_ GW205.out _|refine keep_far ?_ GW212.out _)|exact HK.out)) hk (.inl rfl));have n5_:=aM_ (hb);have n6_:=aM_ (hi);clear HO_213004;clear HO_213005;clear BK205;clear BK212;clear HK;clear HB;clear HI0;have HO_213004:=n0_;have HO_213005:=n1_;have BK205:=n2_;have BK212:=n3_;have HK:=n4_;have HB:=n5_;have HI0:=n6_;clear n0_ n1_ n2_ n3_ n4_ n5_ n6_;(try clear hb);(try clear hb2);(try clear hk);(try clear hi))|((with_reducible refine gate_callee (f:=68) rfl ?_);refine goesL_ (some 101) rfl rfl Try.func68 (by kernel_rfl) rfl #[.pointer (some ⟨g,0,none⟩),.int .i64 3] rfl (by (try simp only [List.map_toArray,List.map_cons,List.map_nil]);first|done|rfl|(simp only [List.length_drop,List.length_take];rfl)) ?_;(with_reducible refine (spec_l1Rd_pick.calls k4 g s0_0 t243 3 t244 t245 w0 _ ?side1 ?side2 A86.out).mono ?_);(case side1=>repeat (first|(with_reducible first|exact HI0.out|apply IsS65.alloc|apply IsS65.drewN|apply IsS65.drew|apply IsS65.set_1|refine IsS65.far ?_ NB0_205.out _|refine IsS65.far ?_ NB0_212.out _)|exact HI0.out));(case side2=>repeat (first|(with_reducible first|exact HB.out|apply wA_|apply wN_|apply wD_|refine below_set ?_ (IsS65.ge HI0.out)|refine below_set ?_ GE205.out|refine below_set ?_ GE212.out)|exact HB.out));rintro e w90 ⟨rfl,hi,hb,hk⟩;refine ⟨_,rfl,?_⟩;have n0_:=aM_ (Kd.R_mono (Kd.R_keep (IsS65.apart (show IsS65 w0 _ g s0_0 t243 from by repeat (first|(with_reducible first|exact HI0.out|apply IsS65.alloc|apply IsS65.drewN|apply IsS65.drew|apply IsS65.set_1|refine IsS65.far ?_ NB0_205.out _|refine IsS65.far ?_ NB0_212.out _)|exact HI0.out)) (by (with_reducible repeat (first|apply rA_|apply rN_|apply rD_));exact HO_213004.out) (by decide)) hk (fun _ h=>h.2)) (fun _ h=>h.1));have n1_:=aM_ (Kd.R_mono (Kd.R_keep (IsS65.apart (show IsS65 w0 _ g s0_0 t243 from by repeat (first|(with_reducible first|exact HI0.out|apply IsS65.alloc|apply IsS65.drewN|apply IsS65.drew|apply IsS65.set_1|refine IsS65.far ?_ NB0_205.out _|refine IsS65.far ?_ NB0_212.out _)|exact HI0.out)) (by (with_reducible repeat (first|apply rA_|apply rN_|apply rD_));exact HO_213005.out) (by decide)) hk (fun _ h=>h.2)) (fun _ h=>h.1));have n2_:=aM_ (KeepBut.blk hk (g':=gb205) (o:=.cells #[.int .i64 0,.int .i64 0,.int .i64 0,.int .i64 0,.slice none 0 0,.slice none 0 0] 27 (0,0)) (by (with_reducible repeat (first|apply kN_|apply kD_|apply kA_));exact BK205.out) NB205_0.out (by simp));have n3_:=aM_ (KeepBut.blk hk (g':=gb212) (o:=.cells #[.int .i64 (wrap64 (1+t206)),.int .i64 x213001_27,.int .i64 x213002_5,.int .i64 x213003_5,u213004,u213005] 27 (0,0)) (by (with_reducible repeat (first|apply kN_|apply kD_|apply kA_));exact BK212.out) NB212_0.out (by simp));have n4_:=aM_ (KeepBut.trans (by repeat (first|(with_reducible first|exact HK.out|apply pS_|apply pN_|apply pD_|apply pA_|refine keep_far ?_ GW205.out _|refine keep_far ?_ GW212.out _)|exact HK.out)) hk (.inl rfl));have n5_:=aM_ (hb);have n6_:=aM_ (hi);clear HO_213004;clear HO_213005;clear BK205;clear BK212;clear HK;clear HB;clear HI0;have HO_213004:=n0_;have HO_213005:=n1_;have BK205:=n2_;have BK212:=n3_;have HK:=n4_;have HB:=n5_;have HI0:=n6_;clear n0_ n1_ n2_ n3_ n4_ n5_ n6_;(try clear hb);(try clear hb2);(try clear hk);(try clear hi))|((with_reducible refine gate_callee (f:=68) rfl ?_);refine goesL_ (some 105) rfl rfl Try.func68 (by kernel_rfl) rfl #[.pointer (some ⟨g,0,none⟩),.int .i64 256] rfl (by (try simp only [List.map_toArray,List.map_cons,List.map_nil]);first|done|rfl|(simp only [List.length_drop,List.length_take];rfl)) ?_;(with_reducible refine (spec_l1Rd_pick.calls k4 g s0_0 t245 256 t246 t247 w0 _ ?side1 ?side2 A87.out).mono ?_);(case side1=>repeat (first|(with_reducible first|exact HI0.out|apply IsS65.alloc|apply IsS65.drewN|apply IsS65.drew|apply IsS65.set_1|refine IsS65.far ?_ NB0_205.out _|refine IsS65.far ?_ NB0_212.out _)|exact HI0.out));(case side2=>repeat (first|(with_reducible first|exact HB.out|apply wA_|apply wN_|apply wD_|refine below_set ?_ (IsS65.ge HI0.out)|refine below_set ?_ GE205.out|refine below_set ?_ GE212.out)|exact HB.out));rintro e w91 ⟨rfl,hi,hb,hk⟩;refine ⟨_,rfl,?_⟩;have n0_:=aM_ (Kd.R_mono (Kd.R_keep (IsS65.apart (show IsS65 w0 _ g s0_0 t245 from by repeat (first|(with_reducible first|exact HI0.out|apply IsS65.alloc|apply IsS65.drewN|apply IsS65.drew|apply IsS65.set_1|refine IsS65.far ?_ NB0_205.out _|refine IsS65.far ?_ NB0_212.out _)|exact HI0.out)) (by (with_reducible repeat (first|apply rA_|apply rN_|apply rD_));exact HO_213004.out) (by decide)) hk (fun _ h=>h.2)) (fun _ h=>h.1));have n1_:=aM_ (Kd.R_mono (Kd.R_keep (IsS65.apart (show IsS65 w0 _ g s0_0 t245 from by repeat (first|(with_reducible first|exact HI0.out|apply IsS65.alloc|apply IsS65.drewN|apply IsS65.drew|apply IsS65.set_1|refine IsS65.far ?_ NB0_205.out _|refine IsS65.far ?_ NB0_212.out _)|exact HI0.out)) (by (with_reducible repeat (first|apply rA_|apply rN_|apply rD_));exact HO_213005.out) (by decide)) hk (fun _ h=>h.2)) (fun _ h=>h.1));have n2_:=aM_ (KeepBut.blk hk (g':=gb205) (o:=.cells #[.int .i64 0,.int .i64 0,.int .i64 0,.int .i64 0,.slice none 0 0,.slice none 0 0] 27 (0,0)) (by (with_reducible repeat (first|apply kN_|apply kD_|apply kA_));exact BK205.out) NB205_0.out (by simp));have n3_:=aM_ (KeepBut.blk hk (g':=gb212) (o:=.cells #[.int .i64 (wrap64 (1+t206)),.int .i64 x213001_27,.int .i64 x213002_5,.int .i64 x213003_5,u213004,u213005] 27 (0,0)) (by (with_reducible repeat (first|apply kN_|apply kD_|apply kA_));exact BK212.out) NB212_0.out (by simp));have n4_:=aM_ (KeepBut.trans (by repeat (first|(with_reducible first|exact HK.out|apply pS_|apply pN_|apply pD_|apply pA_|refine keep_far ?_ GW205.out _|refine keep_far ?_ GW212.out _)|exact HK.out)) hk (.inl rfl));have n5_:=aM_ (hb);have n6_:=aM_ (hi);clear HO_213004;clear HO_213005;clear BK205;clear BK212;clear HK;clear HB;clear HI0;have HO_213004:=n0_;have HO_213005:=n1_;have BK205:=n2_;have BK212:=n3_;have HK:=n4_;have HB:=n5_;have HI0:=n6_;clear n0_ n1_ n2_ n3_ n4_ n5_ n6_;(try clear hb);(try clear hb2);(try clear hk);(try clear hi)))
               go_meet
               case rel=>exact ⟨_,(Int.tmod (wrap64 ((wrap64 ((wrap64 (t242 * 16777216))+(wrap64 (t244 * 65536))))+t246)) x6_67),(t247),(by first|rfl|(simp;done)|(simp [*];done)),H',⟨by have:=HJ5.out;have:=HJ27.out;have:=HJ67.out;have:=HK4.out;first|omega|exact Nat.le_refl _⟩,⟨by (with_reducible repeat (first|apply rA_|apply rN_|apply rD_));exact HO_213004.out⟩,⟨by (with_reducible repeat (first|apply rA_|apply rN_|apply rD_));exact HO_213005.out⟩,⟨by (with_reducible repeat (first|apply kN_|apply kD_|apply kA_));exact BK205.out⟩,⟨by (with_reducible repeat (first|apply kN_|apply kD_|apply kA_));exact BK212.out⟩,⟨by repeat (first|(with_reducible first|exact HI0.out|apply IsS65.alloc|apply IsS65.drewN|apply IsS65.drew|apply IsS65.set_1|refine IsS65.far ?_ NB0_205.out _|refine IsS65.far ?_ NB0_212.out _)|exact HI0.out)⟩,⟨by repeat (first|(with_reducible first|exact HK.out|apply pS_|apply pN_|apply pD_|apply pA_|refine keep_far ?_ GW205.out _|refine keep_far ?_ GW212.out _)|exact HK.out)⟩,⟨by repeat (first|(with_reducible first|exact HB.out|apply wA_|apply wN_|apply wD_|refine below_set ?_ (IsS65.ge HI0.out)|refine below_set ?_ GE205.out|refine below_set ?_ GE212.out)|exact HB.out)⟩⟩
             ·rw [if_neg c84] at H
              have c84b0:decide (0 < t240)=false:=decide_eq_false c84
              clear c84
              (first|rw [c84b0]|(simp only [i64_w,i32_w];rw [c84b0])|skip)
              have H':=aM_ H
              clear H
              go_wp2
              go_meet
              case rel=>exact ⟨_,(x7_4),(t241),(by first|rfl|(simp;done)|(simp [*];done)),H',⟨by have:=HJ5.out;have:=HJ27.out;have:=HJ67.out;have:=HK4.out;first|omega|exact Nat.le_refl _⟩,⟨by (with_reducible repeat (first|apply rA_|apply rN_|apply rD_));exact HO_213004.out⟩,⟨by (with_reducible repeat (first|apply rA_|apply rN_|apply rD_));exact HO_213005.out⟩,⟨by (with_reducible repeat (first|apply kN_|apply kD_|apply kA_));exact BK205.out⟩,⟨by (with_reducible repeat (first|apply kN_|apply kD_|apply kA_));exact BK212.out⟩,⟨by repeat (first|(with_reducible first|exact HI0.out|apply IsS65.alloc|apply IsS65.drewN|apply IsS65.drew|apply IsS65.set_1|refine IsS65.far ?_ NB0_205.out _|refine IsS65.far ?_ NB0_212.out _)|exact HI0.out)⟩,⟨by repeat (first|(with_reducible first|exact HK.out|apply pS_|apply pN_|apply pD_|apply pA_|refine keep_far ?_ GW205.out _|refine keep_far ?_ GW212.out _)|exact HK.out)⟩,⟨by repeat (first|(with_reducible first|exact HB.out|apply wA_|apply wN_|apply wD_|refine below_set ?_ (IsS65.ge HI0.out)|refine below_set ?_ GE205.out|refine below_set ?_ GE212.out)|exact HB.out)⟩⟩
            case rest =>
             clear HC79
             try clear c1
             try clear c2
             try clear p2
             try clear q2
             try clear hx2
             try clear c3
             try clear c4
             try clear c5
             try clear c6
             try clear p6
             try clear c7
             try clear c8
             try clear c12
             try clear c13
             try clear c16
             try clear c16b0
             try clear c16b1
             try clear c20
             try clear c21
             try clear p22
             try clear q22
             try clear hx22
             try clear c26
             try clear c26b0
             try clear c27
             try clear c27b0
             try clear c33
             try clear c34
             try clear c36
             try clear c36b0
             try clear c36b1
             try clear c37
             try clear c38
             try clear c40
             try clear c40b0
             try clear c40b1
             try clear c41
             try clear c42
             try clear c44
             try clear c44b0
             try clear c44b1
             try clear c46
             try clear c48
             try clear c49
             try clear c52
             try clear c52b0
             try clear c52b1
             try clear c55
             try clear c55b0
             try clear c59
             try clear p64
             try clear c68
             try clear c69
             try clear c70
             try clear c72
             try clear c72b0
             try clear c72b1
             try clear c73
             try clear c74
             try clear c77
             try clear c77b0
             try clear c80
             try clear c81
             try clear c84
             try clear c84b0
             try clear c88
             try clear c88b0
             try clear c88b1
             try clear hcz14_0 hcz14_1 hcz14_2 hcz14_3 hcz14_4 hcz14_5
             try clear hcz22_0 hcz22_1 hcz22_2 hcz22_3 hcz22_4 hcz22_5
             try clear hcz24_0 hcz24_1 hcz24_2 hcz24_3 hcz24_4 hcz24_5
             try clear hcz35_0 hcz35_1 hcz35_2 hcz35_3 hcz35_4 hcz35_5
             try clear hcz39_0 hcz39_1 hcz39_2 hcz39_3 hcz39_4 hcz39_5
             try clear hcz43_0 hcz43_1 hcz43_2 hcz43_3 hcz43_4 hcz43_5
             try clear hcz50_0 hcz50_1 hcz50_2 hcz50_3 hcz50_4 hcz50_5
             try clear hcz71_0 hcz71_1 hcz71_2 hcz71_3 hcz71_4 hcz71_5
             try clear hcz75_0 hcz75_1 hcz75_2 hcz75_3 hcz75_4 hcz75_5
             try clear hcz82_0 hcz82_1 hcz82_2 hcz82_3 hcz82_4 hcz82_5
             try clear hfz14_0 hfz14_1 hfz14_2 hfz14_3 hfz14_4 hfz14_5
             try clear hfz22_0 hfz22_1 hfz22_2 hfz22_3 hfz22_4 hfz22_5
             try clear hfz24_0 hfz24_1 hfz24_2 hfz24_3 hfz24_4 hfz24_5
             try clear hfz35_0 hfz35_1 hfz35_2 hfz35_3 hfz35_4 hfz35_5
             try clear hfz39_0 hfz39_1 hfz39_2 hfz39_3 hfz39_4 hfz39_5
             try clear hfz43_0 hfz43_1 hfz43_2 hfz43_3 hfz43_4 hfz43_5
             try clear hfz50_0 hfz50_1 hfz50_2 hfz50_3 hfz50_4 hfz50_5
             try clear hfz71_0 hfz71_1 hfz71_2 hfz71_3 hfz71_4 hfz71_5
             try clear hfz75_0 hfz75_1 hfz75_2 hfz75_3 hfz75_4 hfz75_5
             try clear hfz82_0 hfz82_1 hfz82_2 hfz82_3 hfz82_4 hfz82_5
             try clear hx224_0
             try clear p2
             try clear p22
             try clear p224
             try clear p6
             try clear p64
             try clear q2
             try clear q22
             try clear q224
             obtain ⟨kq,x7_78,x1001_78,rfl,HA,HJ78,HO_213004,HO_213005,BK205,BK212,HI0,HK,HB⟩:=hcut
             cases kq with
             | zero=>exact absurd HA.out (by simp [spec_l14Image.j6])
             | succ kj78 =>
              have H:=HA.out
              clear HA
              simp only [spec_l14Image.j6] at H
              by_cases c92:(wrap64 (1+t206))=3
              ·rw [if_pos c92] at H
               have c92b0:((wrap64 (1+t206)) == 3)=true:=beq_iff_eq.mpr c92
               have c92b1:((wrap64 (1+t206)) != 3)=false:=bne_eq_false_iff_eq.mpr c92
               clear c92
               replace H:=Option.bind_eq_some_iff.mp H
               obtain ⟨⟨t248,t249⟩,A930,H⟩:=H
               replace H:(if t248=0 then (if x213005_4.length < 17592186044416 then (spec_l14Image.l1 kj78 x6_67 (wrap64 ((wrap64 ((wrap64 (Int.tdiv x7_78 256)) * 256))+255)) (wrap64 (x8_4+1)) s0_0 t249 (wrap64 (1+t206)) x213001_27 x213002_5 x213003_5 x213004_27 (x213005_4 ++ [wrap64 ((wrap64 ((wrap64 (Int.tdiv x7_78 256)) * 256))+255)])) else (none)) else (if x213005_4.length < 17592186044416 then (spec_l14Image.l1 kj78 x6_67 x7_78 (wrap64 (x8_4+1)) s0_0 t249 (wrap64 (1+t206)) x213001_27 x213002_5 x213003_5 x213004_27 (x213005_4 ++ [x7_78])) else (none)))=some (r1,r2,r3,r4,r5,r6,r7):=H
               have A93:=aM_ A930
               clear A930
               by_cases c94:t248=0
               ·rw [if_pos c94] at H
                have c94b0:(t248 == 0)=true:=beq_iff_eq.mpr c94
                have c94b1:(t248 != 0)=false:=bne_eq_false_iff_eq.mpr c94
                clear c94
                by_cases c95:x213005_4.length < 17592186044416
                ·rw [if_pos c95] at H
                 have LMc95:=aM_ c95
                 clear c95
                 obtain ⟨y250,hy250⟩:∃ y_:List Int,y_=(x213005_4 ++ [wrap64 ((wrap64 ((wrap64 (Int.tdiv x7_78 256)) * 256))+255)]):=⟨_,rfl⟩
                 replace H:(spec_l14Image.l1 kj78 x6_67 (wrap64 ((wrap64 ((wrap64 (Int.tdiv x7_78 256)) * 256))+255)) (wrap64 (x8_4+1)) s0_0 t249 (wrap64 (1+t206)) x213001_27 x213002_5 x213003_5 x213004_27 y250)=some (r1,r2,r3,r4,r5,r6,r7):=by first|(rw [hy250];with_reducible exact H)|(have H2_:=(Option.bind_some _ _).symm.trans H;rw [hy250];with_reducible exact H2_)|(have H2_:=(Option.bind_some _ _).symm.trans H;with_reducible exact H2_)|with_reducible exact H|(rw [hy250];exact H)|exact H
                 have Ny250:=aM_ hy250
                 clear hy250
                 have H':=aM_ H
                 clear H
                 have hnb96:=NB212_205.out
                 have hnc96:=NB205_212.out
                 have hnb97:=NB212_0.out
                 have hnc97:=NB0_212.out
                 obtain ⟨hcz98_0,hcz98_1,hcz98_2,hcz98_3,hcz98_4,hcz98_5⟩:=bc6 BK212.out
                 obtain ⟨hfz98_0,hfz98_1,hfz98_2,hfz98_3,hfz98_4,hfz98_5⟩:=bf6 BK212.out
                 go_wp2_with (first|(go_at_call 68;(with_reducible refine (spec_l1Rd_pick.calls kj78 g s0_0 x1001_78 2 t248 t249 w0 _ ?side1 ?side2 A93.out).mono ?_);(case side1=>repeat (first|(with_reducible first|exact HI0.out|apply IsS65.alloc|apply IsS65.drewN|apply IsS65.drew|apply IsS65.set_1|refine IsS65.far ?_ NB0_205.out _|refine IsS65.far ?_ NB0_212.out _)|exact HI0.out));(case side2=>repeat (first|(with_reducible first|exact HB.out|apply wA_|apply wN_|apply wD_|refine below_set ?_ (IsS65.ge HI0.out)|refine below_set ?_ GE205.out|refine below_set ?_ GE212.out)|exact HB.out));rintro e w99 ⟨rfl,hi,hb,hk⟩;have n0_:=aM_ (Kd.R_mono (Kd.R_keep (IsS65.apart (show IsS65 w0 _ g s0_0 x1001_78 from by repeat (first|(with_reducible first|exact HI0.out|apply IsS65.alloc|apply IsS65.drewN|apply IsS65.drew|apply IsS65.set_1|refine IsS65.far ?_ NB0_205.out _|refine IsS65.far ?_ NB0_212.out _)|exact HI0.out)) (by (with_reducible repeat (first|apply rA_|apply rN_|apply rD_));exact HO_213004.out) (by decide)) hk (fun _ h=>h.2)) (fun _ h=>h.1));have n1_:=aM_ (Kd.R_mono (Kd.R_keep (IsS65.apart (show IsS65 w0 _ g s0_0 x1001_78 from by repeat (first|(with_reducible first|exact HI0.out|apply IsS65.alloc|apply IsS65.drewN|apply IsS65.drew|apply IsS65.set_1|refine IsS65.far ?_ NB0_205.out _|refine IsS65.far ?_ NB0_212.out _)|exact HI0.out)) (by (with_reducible repeat (first|apply rA_|apply rN_|apply rD_));exact HO_213005.out) (by decide)) hk (fun _ h=>h.2)) (fun _ h=>h.1));have n2_:=aM_ (KeepBut.blk hk (g':=gb205) (o:=.cells #[.int .i64 0,.int .i64 0,.int .i64 0,.int .i64 0,.slice none 0 0,.slice none 0 0] 27 (0,0)) (by (with_reducible repeat (first|apply kN_|apply kD_|apply kA_));exact BK205.out) NB205_0.out (by simp));have n3_:=aM_ (KeepBut.blk hk (g':=gb212) (o:=.cells #[.int .i64 (wrap64 (1+t206)),.int .i64 x213001_27,.int .i64 x213002_5,.int .i64 x213003_5,u213004,u213005] 27 (0,0)) (by (with_reducible repeat (first|apply kN_|apply kD_|apply kA_));exact BK212.out) NB212_0.out (by simp));have n4_:=aM_ (KeepBut.trans (by repeat (first|(with_reducible first|exact HK.out|apply pS_|apply pN_|apply pD_|apply pA_|refine keep_far ?_ GW205.out _|refine keep_far ?_ GW212.out _)|exact HK.out)) hk (.inl rfl));have n5_:=aM_ (hb);have n6_:=aM_ (hi);clear HO_213004;clear HO_213005;clear BK205;clear BK212;clear HK;clear HB;clear HI0;have HO_213004:=n0_;have HO_213005:=n1_;have BK205:=n2_;have BK212:=n3_;have HK:=n4_;have HB:=n5_;have HI0:=n6_;clear n0_ n1_ n2_ n3_ n4_ n5_ n6_;(try clear hb);(try clear hb2);(try clear hk);(try clear hi);obtain ⟨hcz100_0,hcz100_1,hcz100_2,hcz100_3,hcz100_4,hcz100_5⟩:=bc6 BK212.out;obtain ⟨hfz100_0,hfz100_1,hfz100_2,hfz100_3,hfz100_4,hfz100_5⟩:=bf6 BK212.out)|((with_reducible refine gate_builtin (b:=.append) (xs:=#[.tmp 122,.tmp 124]) rfl ?_);at_builtin;refine Kd.R_append (Kd.int .i64) w.heap.size rfl (.tmp 122) (.tmp 124) 22 3 (.int .i64 0) 8 rfl Try.underlying22 info3 rfl (by decide) (by omega) u213005 x213005_4 (wrap64 ((wrap64 ((wrap64 (Int.tdiv x7_78 256)) * 256))+255)) [.int .i64 (wrap64 ((wrap64 ((wrap64 (Int.tdiv x7_78 256)) * 256))+255))] (fun k_=>some k_≠(u213004:Value).ownBlock) (fun _=>False) rfl rfl ?aP (fun _ hk=>hk.elim) ?aF ?aO (Below.refl _ _) ?aS ?aL ?_;(case aP=>exact rfl);(case aF=>exact (fun k_ hk=>Kd.fresh' (Kd.R_lt (by (with_reducible repeat (first|apply rA_|apply rN_|apply rD_));exact HO_213004.out)) k_ hk));(case aO=>exact (by (with_reducible repeat (first|apply rA_|apply rN_|apply rD_));exact HO_213005.out));(case aS=>exact (keep_size (w:=w) (g:=g) (row:=none) (by repeat (first|(with_reducible first|exact HK.out|apply pS_|apply pN_|apply pD_|apply pA_|refine keep_far ?_ GW205.out _|refine keep_far ?_ GW212.out _)|exact HK.out))));(case aL=>have:=LMc95.out;omega);intro v251 w101 ho hb hg hat;rw [← Ny250.out] at ho;have n0_:=aM_ (Kd.R_after (ok:=(fun _=>True)) (by (with_reducible repeat (first|apply rA_|apply rN_|apply rD_));exact Kd.R_mono HO_213004.out (fun _ hk=>⟨trivial,hk⟩)) hg hat);have n1_:=aM_ (blk_grown (g:=gb205) (o:=.cells #[.int .i64 0,.int .i64 0,.int .i64 0,.int .i64 0,.slice none 0 0,.slice none 0 0] 27 (0,0)) (by (with_reducible repeat (first|apply kN_|apply kD_|apply kA_));exact BK205.out) hg (Kd.R_ne HO_213005.out BK205.out (by decide)));have n2_:=aM_ (blk_grown (g:=gb212) (o:=.cells #[.int .i64 (wrap64 (1+t206)),.int .i64 x213001_27,.int .i64 x213002_5,.int .i64 x213003_5,u213004,u213005] 27 (0,0)) (by (with_reducible repeat (first|apply kN_|apply kD_|apply kA_));exact BK212.out) hg (Kd.R_ne HO_213005.out BK212.out (by decide)));have n3_:=aM_ (IsS65.grown (by repeat (first|(with_reducible first|exact HI0.out|apply IsS65.alloc|apply IsS65.drewN|apply IsS65.drew|apply IsS65.set_1|refine IsS65.far ?_ NB0_205.out _|refine IsS65.far ?_ NB0_212.out _)|exact HI0.out)) hg (IsS65.own_ne HI0.out HO_213005.out (by decide)));have n4_:=aM_ (below_weaken (by repeat (first|(with_reducible first|exact HB.out|apply wA_|apply wN_|apply wD_|refine below_set ?_ (IsS65.ge HI0.out)|refine below_set ?_ GE205.out|refine below_set ?_ GE212.out)|exact HB.out)) HL.out hb);have n5_:=aM_ (KeepBut.trans (by repeat (first|(with_reducible first|exact HK.out|apply pS_|apply pN_|apply pD_|apply pA_|refine keep_far ?_ GW205.out _|refine keep_far ?_ GW212.out _)|exact HK.out)) (KeepBut.of_grown hg g) (Kd.R_base2 HO_213005.out));have n6_:=aM_ (ho);clear HO_213004;clear BK205;clear BK212;clear HI0;clear HB;clear HK;clear HO_213005;have HO_213004:=n0_;have BK205:=n1_;have BK212:=n2_;have HI0:=n3_;have HB:=n4_;have HK:=n5_;have HO252:=n6_;clear n0_ n1_ n2_ n3_ n4_ n5_ n6_;clear ho hb hg hat;obtain ⟨Ao102,co102,eo102⟩:=Kd.R_slice HO252.out;subst eo102;obtain ⟨hcz103_0,hcz103_1,hcz103_2,hcz103_3,hcz103_4,hcz103_5⟩:=bc6 BK212.out;obtain ⟨hfz103_0,hfz103_1,hfz103_2,hfz103_3,hfz103_4,hfz103_5⟩:=bf6 BK212.out))
                 go_roundg kj78
                 case measure=>have:=HJ5.out;have:=HJ27.out;have:=HJ67.out;have:=HK4.out;have:=HJ78.out;omega
                 case rel=>exact ⟨(wrap64 ((wrap64 ((wrap64 (Int.tdiv x7_78 256)) * 256))+255)),(wrap64 (x8_4+1)),(t249),(y250),(.slice Ao102 y250.length co102),(by first|rfl|(simp;done)|(simp [*];done)),(by first|rfl|(simp;done)|(simp [*];done)),H',⟨by have:=HJ5.out;have:=HJ27.out;have:=HJ67.out;have:=HK4.out;have:=HJ78.out;omega⟩,⟨by (with_reducible repeat (first|apply rA_|apply rN_|apply rD_));exact Kd.R_mono (Kd.R_far (Kd.R_types HO_213004.out BK212.out (by decide)) (fun _ hk=>hk.2) _) (fun _ hk=>hk.1.2)⟩,⟨by (with_reducible repeat (first|apply rA_|apply rN_|apply rD_));exact Kd.R_mono (Kd.R_far (Kd.R_types HO252.out BK212.out (by decide)) (fun _ hk=>hk.2) _) (fun _ hk=>hk.1)⟩,⟨by (with_reducible repeat (first|apply kN_|apply kD_|apply kA_));refine blk_far ?_ NB205_212.out _;(with_reducible repeat (first|apply kN_|apply kD_|apply kA_));exact BK205.out⟩,⟨by (with_reducible repeat (first|apply kN_|apply kD_|apply kA_));refine blk_put (cs:=#[.int .i64 (wrap64 (1+t206)),.int .i64 x213001_27,.int .i64 x213002_5,.int .i64 x213003_5,u213004,u213005]) ?_ 5 _ rfl;(with_reducible repeat (first|apply kN_|apply kD_|apply kA_));exact BK212.out⟩,⟨by repeat (first|(with_reducible first|exact HI0.out|apply IsS65.alloc|apply IsS65.drewN|apply IsS65.drew|apply IsS65.set_1|refine IsS65.far ?_ NB0_205.out _|refine IsS65.far ?_ NB0_212.out _)|exact HI0.out)⟩,⟨by repeat (first|(with_reducible first|exact HK.out|apply pS_|apply pN_|apply pD_|apply pA_|refine keep_far ?_ GW205.out _|refine keep_far ?_ GW212.out _)|exact HK.out)⟩,⟨by repeat (first|(with_reducible first|exact HB.out|apply wA_|apply wN_|apply wD_|refine below_set ?_ (IsS65.ge HI0.out)|refine below_set ?_ GE205.out|refine below_set ?_ GE212.out)|exact HB.out)⟩⟩
                ·rw [if_neg c95] at H
                 exact absurd H (by simp)
               ·rw [if_neg c94] at H
                have c94b0:(t248 == 0)=false:=beq_eq_false_iff_ne.mpr c94
                have c94b1:(t248 != 0)=true:=bne_iff_ne.mpr c94
                by_cases c104:x213005_4.length < 17592186044416
                ·rw [if_pos c104] at H
                 have LMc104:=aM_ c104
                 clear c104
                 obtain ⟨y253,hy253⟩:∃ y_:List Int,y_=(x213005_4 ++ [x7_78]):=⟨_,rfl⟩
                 replace H:(spec_l14Image.l1 kj78 x6_67 x7_78 (wrap64 (x8_4+1)) s0_0 t249 (wrap64 (1+t206)) x213001_27 x213002_5 x213003_5 x213004_27 y253)=some (r1,r2,r3,r4,r5,r6,r7):=by first|(rw [hy253];with_reducible exact H)|(have H2_:=(Option.bind_some _ _).symm.trans H;rw [hy253];with_reducible exact H2_)|(have H2_:=(Option.bind_some _ _).symm.trans H;with_reducible exact H2_)|with_reducible exact H|(rw [hy253];exact H)|exact H
                 have Ny253:=aM_ hy253
                 clear hy253
                 have H':=aM_ H
                 clear H
                 have hnb105:=NB212_205.out
                 have hnc105:=NB205_212.out
                 have hnb106:=NB212_0.out
                 have hnc106:=NB0_212.out
                 obtain ⟨hcz107_0,hcz107_1,hcz107_2,hcz107_3,hcz107_4,hcz107_5⟩:=bc6 BK212.out
                 obtain ⟨hfz107_0,hfz107_1,hfz107_2,hfz107_3,hfz107_4,hfz107_5⟩:=bf6 BK212.out
                 go_wp2_with (first|(go_at_call 68;(with_reducible refine (spec_l1Rd_pick.calls kj78 g s0_0 x1001_78 2 t248 t249 w0 _ ?side1 ?side2 A93.out).mono ?_);(case side1=>repeat (first|(with_reducible first|exact HI0.out|apply IsS65.alloc|apply IsS65.drewN|apply IsS65.drew|apply IsS65.set_1|refine IsS65.far ?_ NB0_205.out _|refine IsS65.far ?_ NB0_212.out _)|exact HI0.out));(case side2=>repeat (first|(with_reducible first|exact HB.out|apply wA_|apply wN_|apply wD_|refine below_set ?_ (IsS65.ge HI0.out)|refine below_set ?_ GE205.out|refine below_set ?_ GE212.out)|exact HB.out));rintro e w108 ⟨rfl,hi,hb,hk⟩;have n0_:=aM_ (Kd.R_mono (Kd.R_keep (IsS65.apart (show IsS65 w0 _ g s0_0 x1001_78 from by repeat (first|(with_reducible first|exact HI0.out|apply IsS65.alloc|apply IsS65.drewN|apply IsS65.drew|apply IsS65.set_1|refine IsS65.far ?_ NB0_205.out _|refine IsS65.far ?_ NB0_212.out _)|exact HI0.out)) (by (with_reducible repeat (first|apply rA_|apply rN_|apply rD_));exact HO_213004.out) (by decide)) hk (fun _ h=>h.2)) (fun _ h=>h.1));have n1_:=aM_ (Kd.R_mono (Kd.R_keep (IsS65.apart (show IsS65 w0 _ g s0_0 x1001_78 from by repeat (first|(with_reducible first|exact HI0.out|apply IsS65.alloc|apply IsS65.drewN|apply IsS65.drew|apply IsS65.set_1|refine IsS65.far ?_ NB0_205.out _|refine IsS65.far ?_ NB0_212.out _)|exact HI0.out)) (by (with_reducible repeat (first|apply rA_|apply rN_|apply rD_));exact HO_213005.out) (by decide)) hk (fun _ h=>h.2)) (fun _ h=>h.1));have n2_:=aM_ (KeepBut.blk hk (g':=gb205) (o:=.cells #[.int .i64 0,.int .i64 0,.int .i64 0,.int .i64 0,.slice none 0 0,.slice none 0 0] 27 (0,0)) (by (with_reducible repeat (first|apply kN_|apply kD_|apply kA_));exact BK205.out) NB205_0.out (by simp));have n3_:=aM_ (KeepBut.blk hk (g':=gb212) (o:=.cells #[.int .i64 (wrap64 (1+t206)),.int .i64 x213001_27,.int .i64 x213002_5,.int .i64 x213003_5,u213004,u213005] 27 (0,0)) (by (with_reducible repeat (first|apply kN_|apply kD_|apply kA_));exact BK212.out) NB212_0.out (by simp));have n4_:=aM_ (KeepBut.trans (by repeat (first|(with_reducible first|exact HK.out|apply pS_|apply pN_|apply pD_|apply pA_|refine keep_far ?_ GW205.out _|refine keep_far ?_ GW212.out _)|exact HK.out)) hk (.inl rfl));have n5_:=aM_ (hb);have n6_:=aM_ (hi);clear HO_213004;clear HO_213005;clear BK205;clear BK212;clear HK;clear HB;clear HI0;have HO_213004:=n0_;have HO_213005:=n1_;have BK205:=n2_;have BK212:=n3_;have HK:=n4_;have HB:=n5_;have HI0:=n6_;clear n0_ n1_ n2_ n3_ n4_ n5_ n6_;(try clear hb);(try clear hb2);(try clear hk);(try clear hi);obtain ⟨hcz109_0,hcz109_1,hcz109_2,hcz109_3,hcz109_4,hcz109_5⟩:=bc6 BK212.out;obtain ⟨hfz109_0,hfz109_1,hfz109_2,hfz109_3,hfz109_4,hfz109_5⟩:=bf6 BK212.out)|((with_reducible refine gate_builtin (b:=.append) (xs:=#[.tmp 122,.tmp 124]) rfl ?_);at_builtin;refine Kd.R_append (Kd.int .i64) w.heap.size rfl (.tmp 122) (.tmp 124) 22 3 (.int .i64 0) 8 rfl Try.underlying22 info3 rfl (by decide) (by omega) u213005 x213005_4 x7_78 [.int .i64 x7_78] (fun k_=>some k_≠(u213004:Value).ownBlock) (fun _=>False) rfl rfl ?aP (fun _ hk=>hk.elim) ?aF ?aO (Below.refl _ _) ?aS ?aL ?_;(case aP=>exact rfl);(case aF=>exact (fun k_ hk=>Kd.fresh' (Kd.R_lt (by (with_reducible repeat (first|apply rA_|apply rN_|apply rD_));exact HO_213004.out)) k_ hk));(case aO=>exact (by (with_reducible repeat (first|apply rA_|apply rN_|apply rD_));exact HO_213005.out));(case aS=>exact (keep_size (w:=w) (g:=g) (row:=none) (by repeat (first|(with_reducible first|exact HK.out|apply pS_|apply pN_|apply pD_|apply pA_|refine keep_far ?_ GW205.out _|refine keep_far ?_ GW212.out _)|exact HK.out))));(case aL=>have:=LMc104.out;omega);intro v254 w110 ho hb hg hat;rw [← Ny253.out] at ho;have n0_:=aM_ (Kd.R_after (ok:=(fun _=>True)) (by (with_reducible repeat (first|apply rA_|apply rN_|apply rD_));exact Kd.R_mono HO_213004.out (fun _ hk=>⟨trivial,hk⟩)) hg hat);have n1_:=aM_ (blk_grown (g:=gb205) (o:=.cells #[.int .i64 0,.int .i64 0,.int .i64 0,.int .i64 0,.slice none 0 0,.slice none 0 0] 27 (0,0)) (by (with_reducible repeat (first|apply kN_|apply kD_|apply kA_));exact BK205.out) hg (Kd.R_ne HO_213005.out BK205.out (by decide)));have n2_:=aM_ (blk_grown (g:=gb212) (o:=.cells #[.int .i64 (wrap64 (1+t206)),.int .i64 x213001_27,.int .i64 x213002_5,.int .i64 x213003_5,u213004,u213005] 27 (0,0)) (by (with_reducible repeat (first|apply kN_|apply kD_|apply kA_));exact BK212.out) hg (Kd.R_ne HO_213005.out BK212.out (by decide)));have n3_:=aM_ (IsS65.grown (by repeat (first|(with_reducible first|exact HI0.out|apply IsS65.alloc|apply IsS65.drewN|apply IsS65.drew|apply IsS65.set_1|refine IsS65.far ?_ NB0_205.out _|refine IsS65.far ?_ NB0_212.out _)|exact HI0.out)) hg (IsS65.own_ne HI0.out HO_213005.out (by decide)));have n4_:=aM_ (below_weaken (by repeat (first|(with_reducible first|exact HB.out|apply wA_|apply wN_|apply wD_|refine below_set ?_ (IsS65.ge HI0.out)|refine below_set ?_ GE205.out|refine below_set ?_ GE212.out)|exact HB.out)) HL.out hb);have n5_:=aM_ (KeepBut.trans (by repeat (first|(with_reducible first|exact HK.out|apply pS_|apply pN_|apply pD_|apply pA_|refine keep_far ?_ GW205.out _|refine keep_far ?_ GW212.out _)|exact HK.out)) (KeepBut.of_grown hg g) (Kd.R_base2 HO_213005.out));have n6_:=aM_ (ho);clear HO_213004;clear BK205;clear BK212;clear HI0;clear HB;clear HK;clear HO_213005;have HO_213004:=n0_;have BK205:=n1_;have BK212:=n2_;have HI0:=n3_;have HB:=n4_;have HK:=n5_;have HO255:=n6_;clear n0_ n1_ n2_ n3_ n4_ n5_ n6_;clear ho hb hg hat;obtain ⟨Ao111,co111,eo111⟩:=Kd.R_slice HO255.out;subst eo111;obtain ⟨hcz112_0,hcz112_1,hcz112_2,hcz112_3,hcz112_4,hcz112_5⟩:=bc6 BK212.out;obtain ⟨hfz112_0,hfz112_1,hfz112_2,hfz112_3,hfz112_4,hfz112_5⟩:=bf6 BK212.out))
                 go_roundg kj78
                 case measure=>have:=HJ5.out;have:=HJ27.out;have:=HJ67.out;have:=HK4.out;have:=HJ78.out;omega
                 case rel=>exact ⟨(x7_78),(wrap64 (x8_4+1)),(t249),(y253),(.slice Ao111 y253.length co111),(by first|rfl|(simp;done)|(simp [*];done)),(by first|rfl|(simp;done)|(simp [*];done)),H',⟨by have:=HJ5.out;have:=HJ27.out;have:=HJ67.out;have:=HK4.out;have:=HJ78.out;omega⟩,⟨by (with_reducible repeat (first|apply rA_|apply rN_|apply rD_));exact Kd.R_mono (Kd.R_far (Kd.R_types HO_213004.out BK212.out (by decide)) (fun _ hk=>hk.2) _) (fun _ hk=>hk.1.2)⟩,⟨by (with_reducible repeat (first|apply rA_|apply rN_|apply rD_));exact Kd.R_mono (Kd.R_far (Kd.R_types HO255.out BK212.out (by decide)) (fun _ hk=>hk.2) _) (fun _ hk=>hk.1)⟩,⟨by (with_reducible repeat (first|apply kN_|apply kD_|apply kA_));refine blk_far ?_ NB205_212.out _;(with_reducible repeat (first|apply kN_|apply kD_|apply kA_));exact BK205.out⟩,⟨by (with_reducible repeat (first|apply kN_|apply kD_|apply kA_));refine blk_put (cs:=#[.int .i64 (wrap64 (1+t206)),.int .i64 x213001_27,.int .i64 x213002_5,.int .i64 x213003_5,u213004,u213005]) ?_ 5 _ rfl;(with_reducible repeat (first|apply kN_|apply kD_|apply kA_));exact BK212.out⟩,⟨by repeat (first|(with_reducible first|exact HI0.out|apply IsS65.alloc|apply IsS65.drewN|apply IsS65.drew|apply IsS65.set_1|refine IsS65.far ?_ NB0_205.out _|refine IsS65.far ?_ NB0_212.out _)|exact HI0.out)⟩,⟨by repeat (first|(with_reducible first|exact HK.out|apply pS_|apply pN_|apply pD_|apply pA_|refine keep_far ?_ GW205.out _|refine keep_far ?_ GW212.out _)|exact HK.out)⟩,⟨by repeat (first|(with_reducible first|exact HB.out|apply wA_|apply wN_|apply wD_|refine below_set ?_ (IsS65.ge HI0.out)|refine below_set ?_ GE205.out|refine below_set ?_ GE212.out)|exact HB.out)⟩⟩
                ·rw [if_neg c104] at H
                 exact absurd H (by simp)
              ·rw [if_neg c92] at H
               have c92b0:((wrap64 (1+t206)) == 3)=false:=beq_eq_false_iff_ne.mpr c92
               have c92b1:((wrap64 (1+t206)) != 3)=true:=bne_iff_ne.mpr c92
               by_cases c113:x213005_4.length < 17592186044416
               ·rw [if_pos c113] at H
                have LMc113:=aM_ c113
                clear c113
                obtain ⟨y256,hy256⟩:∃ y_:List Int,y_=(x213005_4 ++ [x7_78]):=⟨_,rfl⟩
                replace H:(spec_l14Image.l1 kj78 x6_67 x7_78 (wrap64 (x8_4+1)) s0_0 x1001_78 (wrap64 (1+t206)) x213001_27 x213002_5 x213003_5 x213004_27 y256)=some (r1,r2,r3,r4,r5,r6,r7):=by first|(rw [hy256];with_reducible exact H)|(have H2_:=(Option.bind_some _ _).symm.trans H;rw [hy256];with_reducible exact H2_)|(have H2_:=(Option.bind_some _ _).symm.trans H;with_reducible exact H2_)|with_reducible exact H|(rw [hy256];exact H)|exact H
                have Ny256:=aM_ hy256
                clear hy256
                have H':=aM_ H
                clear H
                have hnb114:=NB212_205.out
                have hnc114:=NB205_212.out
                have hnb115:=NB212_0.out
                have hnc115:=NB0_212.out
                obtain ⟨hcz116_0,hcz116_1,hcz116_2,hcz116_3,hcz116_4,hcz116_5⟩:=bc6 BK212.out
                obtain ⟨hfz116_0,hfz116_1,hfz116_2,hfz116_3,hfz116_4,hfz116_5⟩:=bf6 BK212.out
                go_wp2_with (first|((with_reducible refine gate_builtin (b:=.append) (xs:=#[.tmp 122,.tmp 124]) rfl ?_);at_builtin;refine Kd.R_append (Kd.int .i64) w.heap.size rfl (.tmp 122) (.tmp 124) 22 3 (.int .i64 0) 8 rfl Try.underlying22 info3 rfl (by decide) (by omega) u213005 x213005_4 x7_78 [.int .i64 x7_78] (fun k_=>some k_≠(u213004:Value).ownBlock) (fun _=>False) rfl rfl ?aP (fun _ hk=>hk.elim) ?aF ?aO (Below.refl _ _) ?aS ?aL ?_;(case aP=>exact rfl);(case aF=>exact (fun k_ hk=>Kd.fresh' (Kd.R_lt (by (with_reducible repeat (first|apply rA_|apply rN_|apply rD_));exact HO_213004.out)) k_ hk));(case aO=>exact (by (with_reducible repeat (first|apply rA_|apply rN_|apply rD_));exact HO_213005.out));(case aS=>exact (keep_size (w:=w) (g:=g) (row:=none) (by repeat (first|(with_reducible first|exact HK.out|apply pS_|apply pN_|apply pD_|apply pA_|refine keep_far ?_ GW205.out _|refine keep_far ?_ GW212.out _)|exact HK.out))));(case aL=>have:=LMc113.out;omega);intro v257 w117 ho hb hg hat;rw [← Ny256.out] at ho;have n0_:=aM_ (Kd.R_after (ok:=(fun _=>True)) (by (with_reducible repeat (first|apply rA_|apply rN_|apply rD_));exact Kd.R_mono HO_213004.out (fun _ hk=>⟨trivial,hk⟩)) hg hat);have n1_:=aM_ (blk_grown (g:=gb205) (o:=.cells #[.int .i64 0,.int .i64 0,.int .i64 0,.int .i64 0,.slice none 0 0,.slice none 0 0] 27 (0,0)) (by (with_reducible repeat (first|apply kN_|apply kD_|apply kA_));exact BK205.out) hg (Kd.R_ne HO_213005.out BK205.out (by decide)));have n2_:=aM_ (blk_grown (g:=gb212) (o:=.cells #[.int .i64 (wrap64 (1+t206)),.int .i64 x213001_27,.int .i64 x213002_5,.int .i64 x213003_5,u213004,u213005] 27 (0,0)) (by (with_reducible repeat (first|apply kN_|apply kD_|apply kA_));exact BK212.out) hg (Kd.R_ne HO_213005.out BK212.out (by decide)));have n3_:=aM_ (IsS65.grown (by repeat (first|(with_reducible first|exact HI0.out|apply IsS65.alloc|apply IsS65.drewN|apply IsS65.drew|apply IsS65.set_1|refine IsS65.far ?_ NB0_205.out _|refine IsS65.far ?_ NB0_212.out _)|exact HI0.out)) hg (IsS65.own_ne HI0.out HO_213005.out (by decide)));have n4_:=aM_ (below_weaken (by repeat (first|(with_reducible first|exact HB.out|apply wA_|apply wN_|apply wD_|refine below_set ?_ (IsS65.ge HI0.out)|refine below_set ?_ GE205.out|refine below_set ?_ GE212.out)|exact HB.out)) HL.out hb);have n5_:=aM_ (KeepBut.trans (by repeat (first|(with_reducible first|exact HK.out|apply pS_|apply pN_|apply pD_|apply pA_|refine keep_far ?_ GW205.out _|refine keep_far ?_ GW212.out _)|exact HK.out)) (KeepBut.of_grown hg g) (Kd.R_base2 HO_213005.out));have n6_:=aM_ (ho);clear HO_213004;clear BK205;clear BK212;clear HI0;clear HB;clear HK;clear HO_213005;have HO_213004:=n0_;have BK205:=n1_;have BK212:=n2_;have HI0:=n3_;have HB:=n4_;have HK:=n5_;have HO258:=n6_;clear n0_ n1_ n2_ n3_ n4_ n5_ n6_;clear ho hb hg hat;obtain ⟨Ao118,co118,eo118⟩:=Kd.R_slice HO258.out;subst eo118;obtain ⟨hcz119_0,hcz119_1,hcz119_2,hcz119_3,hcz119_4,hcz119_5⟩:=bc6 BK212.out;obtain ⟨hfz119_0,hfz119_1,hfz119_2,hfz119_3,hfz119_4,hfz119_5⟩:=bf6 BK212.out))
                go_roundg kj78
                case measure=>have:=HJ5.out;have:=HJ27.out;have:=HJ67.out;have:=HK4.out;have:=HJ78.out;omega
                case rel=>exact ⟨(x7_78),(wrap64 (x8_4+1)),(x1001_78),(y256),(.slice Ao118 y256.length co118),(by first|rfl|(simp;done)|(simp [*];done)),(by first|rfl|(simp;done)|(simp [*];done)),H',⟨by have:=HJ5.out;have:=HJ27.out;have:=HJ67.out;have:=HK4.out;have:=HJ78.out;omega⟩,⟨by (with_reducible repeat (first|apply rA_|apply rN_|apply rD_));exact Kd.R_mono (Kd.R_far (Kd.R_types HO_213004.out BK212.out (by decide)) (fun _ hk=>hk.2) _) (fun _ hk=>hk.1.2)⟩,⟨by (with_reducible repeat (first|apply rA_|apply rN_|apply rD_));exact Kd.R_mono (Kd.R_far (Kd.R_types HO258.out BK212.out (by decide)) (fun _ hk=>hk.2) _) (fun _ hk=>hk.1)⟩,⟨by (with_reducible repeat (first|apply kN_|apply kD_|apply kA_));refine blk_far ?_ NB205_212.out _;(with_reducible repeat (first|apply kN_|apply kD_|apply kA_));exact BK205.out⟩,⟨by (with_reducible repeat (first|apply kN_|apply kD_|apply kA_));refine blk_put (cs:=#[.int .i64 (wrap64 (1+t206)),.int .i64 x213001_27,.int .i64 x213002_5,.int .i64 x213003_5,u213004,u213005]) ?_ 5 _ rfl;(with_reducible repeat (first|apply kN_|apply kD_|apply kA_));exact BK212.out⟩,⟨by repeat (first|(with_reducible first|exact HI0.out|apply IsS65.alloc|apply IsS65.drewN|apply IsS65.drew|apply IsS65.set_1|refine IsS65.far ?_ NB0_205.out _|refine IsS65.far ?_ NB0_212.out _)|exact HI0.out)⟩,⟨by repeat (first|(with_reducible first|exact HK.out|apply pS_|apply pN_|apply pD_|apply pA_|refine keep_far ?_ GW205.out _|refine keep_far ?_ GW212.out _)|exact HK.out)⟩,⟨by repeat (first|(with_reducible first|exact HB.out|apply wA_|apply wN_|apply wD_|refine below_set ?_ (IsS65.ge HI0.out)|refine below_set ?_ GE205.out|refine below_set ?_ GE212.out)|exact HB.out)⟩⟩
               ·rw [if_neg c113] at H
                exact absurd H (by simp)
           ·rw [if_neg c77] at H
            have c77b0:decide (x8_4 < (wrap64 (x213002_5 * x213003_5)))=false:=decide_eq_false c77
            clear c77
            simp only [Option.some.injEq,Prod.mk.injEq] at H
            obtain ⟨rfl,rfl,rfl,rfl,rfl,rfl,rfl⟩:=H
            have hnb120:=NB212_205.out
            have hnc120:=NB205_212.out
            have hnb121:=NB212_0.out
            have hnc121:=NB0_212.out
            obtain ⟨hcz122_0,hcz122_1,hcz122_2,hcz122_3,hcz122_4,hcz122_5⟩:=bc6 BK212.out
            obtain ⟨hfz122_0,hfz122_1,hfz122_2,hfz122_3,hfz122_4,hfz122_5⟩:=bf6 BK212.out
            have hnb123:=NB205_0.out
            have hnc123:=NB0_205.out
            obtain ⟨hcz124_0,hcz124_1,hcz124_2,hcz124_3,hcz124_4,hcz124_5⟩:=bc6 BK205.out
            obtain ⟨hfz124_0,hfz124_1,hfz124_2,hfz124_3,hfz124_4,hfz124_5⟩:=bf6 BK205.out
            obtain ⟨Ao125,co125,eo125⟩:=Kd.R_slice HO_213004.out
            subst eo125
            obtain ⟨Ao126,co126,eo126⟩:=Kd.R_slice HO_213005.out
            subst eo126
            go_wp2
            refine bodyPost_ret (results_cell_row rfl _ _ gb205 27 #[.int .i64 (wrap64 (1+t206)),.int .i64 x213001_27,.int .i64 x213002_5,.int .i64 x213003_5,.slice Ao125 x213004_27.length co125,.slice Ao126 x213005_4.length co126] (0,0) _ rfl (by (with_reducible repeat (first|apply kN_|apply kD_|apply kA_));refine blk_put (cs:=#[.int .i64 (wrap64 (1+t206)),.int .i64 x213001_27,.int .i64 x213002_5,.int .i64 x213003_5,.slice Ao125 x213004_27.length co125,.slice none 0 0]) ?_ 5 _ rfl;(with_reducible repeat (first|apply kN_|apply kD_|apply kA_));refine blk_put (cs:=#[.int .i64 (wrap64 (1+t206)),.int .i64 x213001_27,.int .i64 x213002_5,.int .i64 x213003_5,.slice none 0 0,.slice none 0 0]) ?_ 4 _ rfl;(with_reducible repeat (first|apply kN_|apply kD_|apply kA_));refine blk_put (cs:=#[.int .i64 (wrap64 (1+t206)),.int .i64 x213001_27,.int .i64 x213002_5,.int .i64 0,.slice none 0 0,.slice none 0 0]) ?_ 3 _ rfl;(with_reducible repeat (first|apply kN_|apply kD_|apply kA_));refine blk_put (cs:=#[.int .i64 (wrap64 (1+t206)),.int .i64 x213001_27,.int .i64 0,.int .i64 0,.slice none 0 0,.slice none 0 0]) ?_ 2 _ rfl;(with_reducible repeat (first|apply kN_|apply kD_|apply kA_));refine blk_put (cs:=#[.int .i64 (wrap64 (1+t206)),.int .i64 0,.int .i64 0,.int .i64 0,.slice none 0 0,.slice none 0 0]) ?_ 1 _ rfl;(with_reducible repeat (first|apply kN_|apply kD_|apply kA_));refine blk_put (cs:=#[.int .i64 0,.int .i64 0,.int .i64 0,.int .i64 0,.slice none 0 0,.slice none 0 0]) ?_ 0 _ rfl;(with_reducible repeat (first|apply kN_|apply kD_|apply kA_));exact BK205.out) Try.underlying27 rfl (by kernel_rfl)) rfl ?_
            exact ⟨_,_,by first|rfl|(simp [errW_none,errW_some] <;> rfl)|(simp [*,errW_none,errW_some] <;> rfl),by (with_reducible repeat (first|apply rA_|apply rN_|apply rD_));exact Kd.R_mono (Kd.R_far (Kd.R_far (Kd.R_far (Kd.R_far (Kd.R_far (Kd.R_far (Kd.R_types HO_213004.out BK205.out (by decide)) (fun _ hk=>hk.2) (.int .i64 (wrap64 (1+t206)))) (fun _ hk=>hk.2) _) (fun _ hk=>hk.2) _) (fun _ hk=>hk.2) _) (fun _ hk=>hk.2) _) (fun _ hk=>hk.2) _) (fun _ hk=>hk.1),by (with_reducible repeat (first|apply rA_|apply rN_|apply rD_));exact Kd.R_mono (Kd.R_far (Kd.R_far (Kd.R_far (Kd.R_far (Kd.R_far (Kd.R_far (Kd.R_types HO_213005.out BK205.out (by decide)) (fun _ hk=>hk.2) (.int .i64 (wrap64 (1+t206)))) (fun _ hk=>hk.2) _) (fun _ hk=>hk.2) _) (fun _ hk=>hk.2) _) (fun _ hk=>hk.2) _) (fun _ hk=>hk.2) _) (fun _ hk=>hk.1),by repeat (first|(with_reducible first|exact HI0.out|apply IsS65.alloc|apply IsS65.drewN|apply IsS65.drew|apply IsS65.set_1|refine IsS65.far ?_ NB0_205.out _|refine IsS65.far ?_ NB0_212.out _)|exact HI0.out),by repeat (first|(with_reducible first|exact HB.out|apply wA_|apply wN_|apply wD_|refine below_set ?_ (IsS65.ge HI0.out)|refine below_set ?_ GE205.out|refine below_set ?_ GE212.out)|exact HB.out),by repeat (first|(with_reducible first|exact HK.out|apply pS_|apply pN_|apply pD_|apply pA_|refine keep_far ?_ GW205.out _|refine keep_far ?_ GW212.out _)|exact HK.out)⟩
    ·rw [if_neg c27] at H
     exact absurd H (by simp)
   ·rw [if_neg c26] at H
    exact absurd H (by simp)

end Go.Proofs.Ytkjfefiphdloiaa.PFnImageCut
