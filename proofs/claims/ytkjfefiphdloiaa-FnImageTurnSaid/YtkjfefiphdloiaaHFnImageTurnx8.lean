/- What the functions that the law comes to compute, as plain functions, and that the machine's calls come to just that: written by a program for this claim, and turned where Lean did not take it. No condition. -/
import Derived.Test.YtkjfefiphdloiaaHFnImageTurnx0
import Derived.Test.YtkjfefiphdloiaaHFnImageTurnx1
import Derived.Test.YtkjfefiphdloiaaHFnImageTurnx7
namespace Go.Proofs.Ytkjfefiphdloiaa.PFnImageTurn
open Go.RowKit Go.Proofs.YtkjfefiphdloiaaW.PrintWords Go.Proofs.YtkjfefiphdloiaaW.PrintLast Go.Proofs.YtkjfefiphdloiaaW.PrintMore
attribute [local go_sem] max2_int min2_int max_two min_two max_three min_three max_four min_four   -- for this text's walks alone
set_option linter.unusedVariables false
set_option linter.unusedSimpArgs false

/-! ### spec_l14Image: function 74 -/
mutual
def spec_l14Image.j0:Nat → List Int → Int → Int → Int → Int → Int → Option (Int × Int × Int × Int × List Int × List Int × Int)
 | 0,_,_,_,_,_,_=>none
 | k+1,x1000,x1001,x191000,x191001,x191002,x191003=>(some (([1,2,4,8]:List Int):List Int)).bind fun y197=>((spec_l1Rd_pick.f k x1000 x1001 4).bind fun bt200=>(if 0≤bt200.1 then (if bt200.1 < (y197.length:Int) then (if x191000=2 then (spec_l14Image.j3 k x1000 bt200.2 x191000 24 x191002 x191003 ([]:List Int)) else (if x191000=3 then (spec_l14Image.j3 k x1000 bt200.2 x191000 32 x191002 x191003 ([]:List Int)) else (if x191000=4 then ((spec_l1Pow.f k (rd y197 bt200.1)).bind fun t203=>((spec_l1Rd_pick.f k x1000 bt200.2 2).bind fun bt204=>(if bt204.1=0 then ((spec_l1Rd_pick.f k x1000 bt204.2 t203).bind fun bt206=>(spec_l14Image.j1 k (wrap64 (1+bt206.1)) x1000 bt206.2 x191000 (rd y197 bt200.1) x191002 x191003)) else (spec_l14Image.j1 k t203 x1000 bt204.2 x191000 (rd y197 bt200.1) x191002 x191003)))) else (spec_l14Image.j3 k x1000 bt200.2 x191000 (rd y197 bt200.1) x191002 x191003 ([]:List Int))))) else (none)) else (none)))
def spec_l14Image.j3:Nat → List Int → Int → Int → Int → Int → Int → List Int → Option (Int × Int × Int × Int × List Int × List Int × Int)
 | 0,_,_,_,_,_,_,_=>none
 | k+1,x1000,x1001,x191000,x191001,x191002,x191003,x191004=>(spec_l1Pow.f k x191001).bind fun t217=>(if x191000=4 then (spec_l14Image.j4 k (x191004.length:Int) x1000 x1001 x191000 x191001 x191002 x191003 x191004) else (spec_l14Image.j4 k t217 x1000 x1001 x191000 x191001 x191002 x191003 x191004))
def spec_l14Image.j4:Nat → Int → List Int → Int → Int → Int → Int → Int → List Int → Option (Int × Int × Int × Int × List Int × List Int × Int)
 | 0,_,_,_,_,_,_,_,_=>none
 | k+1,x6,x1000,x1001,x191000,x191001,x191002,x191003,x191004=>spec_l14Image.l1 k x6 0 0 x1000 x1001 x191000 x191001 x191002 x191003 x191004 ([]:List Int)
def spec_l14Image.l1:Nat → Int → Int → Int → List Int → Int → Int → Int → Int → Int → List Int → List Int → Option (Int × Int × Int × Int × List Int × List Int × Int)
 | 0,_,_,_,_,_,_,_,_,_,_,_=>none
 | k+1,x6,x7,x8,x1000,x1001,x191000,x191001,x191002,x191003,x191004,x191005=>if x8 < (wrap64 (x191002 * x191003)) then ((spec_l1Rd_pick.f k x1000 x1001 3).bind fun bt218=>(if bt218.1 > 0 then ((spec_l1Rd_pick.f k x1000 bt218.2 256).bind fun bt220=>((spec_l1Rd_pick.f k x1000 bt220.2 3).bind fun bt222=>((spec_l1Rd_pick.f k x1000 bt222.2 256).bind fun bt224=>(if x6=0 then (none) else (spec_l14Image.j6 k x6 (Int.tmod (wrap64 ((wrap64 ((wrap64 (bt220.1 * 16777216))+(wrap64 (bt222.1 * 65536))))+bt224.1)) x6) x8 x1000 bt224.2 x191000 x191001 x191002 x191003 x191004 x191005))))) else (spec_l14Image.j6 k x6 x7 x8 x1000 bt218.2 x191000 x191001 x191002 x191003 x191004 x191005))) else (some (x191000,x191001,x191002,x191003,x191004,x191005,x1001))
def spec_l14Image.j6:Nat → Int → Int → Int → List Int → Int → Int → Int → Int → Int → List Int → List Int → Option (Int × Int × Int × Int × List Int × List Int × Int)
 | 0,_,_,_,_,_,_,_,_,_,_,_=>none
 | k+1,x6,x7,x8,x1000,x1001,x191000,x191001,x191002,x191003,x191004,x191005=>if x191000=3 then ((spec_l1Rd_pick.f k x1000 x1001 2).bind fun bt226=>(if bt226.1=0 then (if x191005.length < 17592186044416 then (spec_l14Image.l1 k x6 (wrap64 ((wrap64 ((wrap64 (Int.tdiv x7 256)) * 256))+255)) (wrap64 (x8+1)) x1000 bt226.2 x191000 x191001 x191002 x191003 x191004 (x191005 ++ [wrap64 ((wrap64 ((wrap64 (Int.tdiv x7 256)) * 256))+255)])) else (none)) else (if x191005.length < 17592186044416 then (spec_l14Image.l1 k x6 x7 (wrap64 (x8+1)) x1000 bt226.2 x191000 x191001 x191002 x191003 x191004 (x191005 ++ [x7])) else (none)))) else (if x191005.length < 17592186044416 then (spec_l14Image.l1 k x6 x7 (wrap64 (x8+1)) x1000 x1001 x191000 x191001 x191002 x191003 x191004 (x191005 ++ [x7])) else (none))
def spec_l14Image.j1:Nat → Int → List Int → Int → Int → Int → Int → Int → Option (Int × Int × Int × Int × List Int × List Int × Int)
 | 0,_,_,_,_,_,_,_=>none
 | k+1,x4,x1000,x1001,x191000,x191001,x191002,x191003=>spec_l14Image.l0 k x4 0 x1000 x1001 x191000 x191001 x191002 x191003 ([]:List Int)
def spec_l14Image.l0:Nat → Int → Int → List Int → Int → Int → Int → Int → Int → List Int → Option (Int × Int × Int × Int × List Int × List Int × Int)
 | 0,_,_,_,_,_,_,_,_,_=>none
 | k+1,x4,x5,x1000,x1001,x191000,x191001,x191002,x191003,x191004=>if x5 < x4 then ((spec_l1Rd_pick.f k x1000 x1001 256).bind fun bt208=>((spec_l1Rd_pick.f k x1000 bt208.2 256).bind fun bt210=>((spec_l1Rd_pick.f k x1000 bt210.2 9).bind fun bt212=>(if x191004.length < 17592186044416 then (spec_l14Image.l0 k x4 (wrap64 (x5+1)) x1000 bt212.2 x191000 x191001 x191002 x191003 (x191004 ++ [wrap64 ((wrap64 ((wrap64 (bt208.1 * 65536))+(wrap64 (bt210.1 * 256))))+bt212.1)])) else (none))))) else (spec_l14Image.j3 k x1000 x1001 x191000 x191001 x191002 x191003 x191004)
end
def spec_l14Image.f (k:Nat) (s0_0:List Int) (s0_1:Int):Option (Int × Int × Int × Int × List Int × List Int × Int):=(spec_l1Rd_pick.f k s0_0 s0_1 4).bind fun bt184=>((spec_l1Rd_pick.f k s0_0 bt184.2 9).bind fun bt186=>((spec_l1Rd_pick.f k s0_0 bt186.2 9).bind fun bt188=>((spec_l1Rd_pick.f k s0_0 bt188.2 8).bind fun bt191=>(if bt191.1=0 then ((spec_l1Rd_pick.f k s0_0 bt191.2 20).bind fun bt193=>((spec_l1Rd_pick.f k s0_0 bt193.2 20).bind fun bt195=>(spec_l14Image.j0 k s0_0 bt195.2 (wrap64 (1+bt184.1)) 0 (wrap64 (1+bt193.1)) (wrap64 (1+bt195.1))))) else (spec_l14Image.j0 k s0_0 bt191.2 (wrap64 (1+bt184.1)) 0 (wrap64 (1+bt186.1)) (wrap64 (1+bt188.1)))))))
theorem spec_l14Image.mono_l:∀ k,(∀ y0 y1 y2 y3 y4 y5,LeO (spec_l14Image.j0 k y0 y1 y2 y3 y4 y5) (spec_l14Image.j0 (k+1) y0 y1 y2 y3 y4 y5))∧(∀ y0 y1 y2 y3 y4 y5 y6,LeO (spec_l14Image.j3 k y0 y1 y2 y3 y4 y5 y6) (spec_l14Image.j3 (k+1) y0 y1 y2 y3 y4 y5 y6))∧(∀ y0 y1 y2 y3 y4 y5 y6 y7,LeO (spec_l14Image.j4 k y0 y1 y2 y3 y4 y5 y6 y7) (spec_l14Image.j4 (k+1) y0 y1 y2 y3 y4 y5 y6 y7))∧(∀ y0 y1 y2 y3 y4 y5 y6 y7 y8 y9 y10,LeO (spec_l14Image.l1 k y0 y1 y2 y3 y4 y5 y6 y7 y8 y9 y10) (spec_l14Image.l1 (k+1) y0 y1 y2 y3 y4 y5 y6 y7 y8 y9 y10))∧(∀ y0 y1 y2 y3 y4 y5 y6 y7 y8 y9 y10,LeO (spec_l14Image.j6 k y0 y1 y2 y3 y4 y5 y6 y7 y8 y9 y10) (spec_l14Image.j6 (k+1) y0 y1 y2 y3 y4 y5 y6 y7 y8 y9 y10))∧(∀ y0 y1 y2 y3 y4 y5 y6,LeO (spec_l14Image.j1 k y0 y1 y2 y3 y4 y5 y6) (spec_l14Image.j1 (k+1) y0 y1 y2 y3 y4 y5 y6))∧(∀ y0 y1 y2 y3 y4 y5 y6 y7 y8,LeO (spec_l14Image.l0 k y0 y1 y2 y3 y4 y5 y6 y7 y8) (spec_l14Image.l0 (k+1) y0 y1 y2 y3 y4 y5 y6 y7 y8))
 | 0=>⟨fun _ _ _ _ _ _ r h=>by simp [spec_l14Image.j0] at h,fun _ _ _ _ _ _ _ r h=>by simp [spec_l14Image.j3] at h,fun _ _ _ _ _ _ _ _ r h=>by simp [spec_l14Image.j4] at h,fun _ _ _ _ _ _ _ _ _ _ _ r h=>by simp [spec_l14Image.l1] at h,fun _ _ _ _ _ _ _ _ _ _ _ r h=>by simp [spec_l14Image.j6] at h,fun _ _ _ _ _ _ _ r h=>by simp [spec_l14Image.j1] at h,fun _ _ _ _ _ _ _ _ _ r h=>by simp [spec_l14Image.l0] at h⟩
 | k+1=>by
  obtain ⟨ih0,ih1,ih2,ih3,ih4,ih5,ih6⟩:=spec_l14Image.mono_l k
  refine ⟨?_,?_,?_,?_,?_,?_,?_⟩
  ·intro y0 y1 y2 y3 y4 y5
   unfold spec_l14Image.j0
   repeat' first
   | (with_reducible exact ih0 _ _ _ _ _ _)
   | (with_reducible exact ih1 _ _ _ _ _ _ _)
   | (with_reducible exact ih2 _ _ _ _ _ _ _ _)
   | (with_reducible exact ih3 _ _ _ _ _ _ _ _ _ _ _)
   | (with_reducible exact ih4 _ _ _ _ _ _ _ _ _ _ _)
   | (with_reducible exact ih5 _ _ _ _ _ _ _)
   | (with_reducible exact ih6 _ _ _ _ _ _ _ _ _)
   | (with_reducible exact spec_l1Pow.mono _ _)
   | (with_reducible exact spec_l1Rd_pick.mono _ _ _ _)
   | (with_reducible exact LeO.refl _)
   | (with_reducible exact LeO.none _)
   | (with_reducible refine LeO.ite ?_ ?_)
   | (with_reducible refine LeO.bind ?_ (fun _=>?_))
  ·intro y0 y1 y2 y3 y4 y5 y6
   unfold spec_l14Image.j3
   repeat' first
   | (with_reducible exact ih0 _ _ _ _ _ _)
   | (with_reducible exact ih1 _ _ _ _ _ _ _)
   | (with_reducible exact ih2 _ _ _ _ _ _ _ _)
   | (with_reducible exact ih3 _ _ _ _ _ _ _ _ _ _ _)
   | (with_reducible exact ih4 _ _ _ _ _ _ _ _ _ _ _)
   | (with_reducible exact ih5 _ _ _ _ _ _ _)
   | (with_reducible exact ih6 _ _ _ _ _ _ _ _ _)
   | (with_reducible exact spec_l1Pow.mono _ _)
   | (with_reducible exact spec_l1Rd_pick.mono _ _ _ _)
   | (with_reducible exact LeO.refl _)
   | (with_reducible exact LeO.none _)
   | (with_reducible refine LeO.ite ?_ ?_)
   | (with_reducible refine LeO.bind ?_ (fun _=>?_))
  ·intro y0 y1 y2 y3 y4 y5 y6 y7
   unfold spec_l14Image.j4
   repeat' first
   | (with_reducible exact ih0 _ _ _ _ _ _)
   | (with_reducible exact ih1 _ _ _ _ _ _ _)
   | (with_reducible exact ih2 _ _ _ _ _ _ _ _)
   | (with_reducible exact ih3 _ _ _ _ _ _ _ _ _ _ _)
   | (with_reducible exact ih4 _ _ _ _ _ _ _ _ _ _ _)
   | (with_reducible exact ih5 _ _ _ _ _ _ _)
   | (with_reducible exact ih6 _ _ _ _ _ _ _ _ _)
   | (with_reducible exact spec_l1Pow.mono _ _)
   | (with_reducible exact spec_l1Rd_pick.mono _ _ _ _)
   | (with_reducible exact LeO.refl _)
   | (with_reducible exact LeO.none _)
   | (with_reducible refine LeO.ite ?_ ?_)
   | (with_reducible refine LeO.bind ?_ (fun _=>?_))
  ·intro y0 y1 y2 y3 y4 y5 y6 y7 y8 y9 y10
   unfold spec_l14Image.l1
   repeat' first
   | (with_reducible exact ih0 _ _ _ _ _ _)
   | (with_reducible exact ih1 _ _ _ _ _ _ _)
   | (with_reducible exact ih2 _ _ _ _ _ _ _ _)
   | (with_reducible exact ih3 _ _ _ _ _ _ _ _ _ _ _)
   | (with_reducible exact ih4 _ _ _ _ _ _ _ _ _ _ _)
   | (with_reducible exact ih5 _ _ _ _ _ _ _)
   | (with_reducible exact ih6 _ _ _ _ _ _ _ _ _)
   | (with_reducible exact spec_l1Pow.mono _ _)
   | (with_reducible exact spec_l1Rd_pick.mono _ _ _ _)
   | (with_reducible exact LeO.refl _)
   | (with_reducible exact LeO.none _)
   | (with_reducible refine LeO.ite ?_ ?_)
   | (with_reducible refine LeO.bind ?_ (fun _=>?_))
  ·intro y0 y1 y2 y3 y4 y5 y6 y7 y8 y9 y10
   unfold spec_l14Image.j6
   repeat' first
   | (with_reducible exact ih0 _ _ _ _ _ _)
   | (with_reducible exact ih1 _ _ _ _ _ _ _)
   | (with_reducible exact ih2 _ _ _ _ _ _ _ _)
   | (with_reducible exact ih3 _ _ _ _ _ _ _ _ _ _ _)
   | (with_reducible exact ih4 _ _ _ _ _ _ _ _ _ _ _)
   | (with_reducible exact ih5 _ _ _ _ _ _ _)
   | (with_reducible exact ih6 _ _ _ _ _ _ _ _ _)
   | (with_reducible exact spec_l1Pow.mono _ _)
   | (with_reducible exact spec_l1Rd_pick.mono _ _ _ _)
   | (with_reducible exact LeO.refl _)
   | (with_reducible exact LeO.none _)
   | (with_reducible refine LeO.ite ?_ ?_)
   | (with_reducible refine LeO.bind ?_ (fun _=>?_))
  ·intro y0 y1 y2 y3 y4 y5 y6
   unfold spec_l14Image.j1
   repeat' first
   | (with_reducible exact ih0 _ _ _ _ _ _)
   | (with_reducible exact ih1 _ _ _ _ _ _ _)
   | (with_reducible exact ih2 _ _ _ _ _ _ _ _)
   | (with_reducible exact ih3 _ _ _ _ _ _ _ _ _ _ _)
   | (with_reducible exact ih4 _ _ _ _ _ _ _ _ _ _ _)
   | (with_reducible exact ih5 _ _ _ _ _ _ _)
   | (with_reducible exact ih6 _ _ _ _ _ _ _ _ _)
   | (with_reducible exact spec_l1Pow.mono _ _)
   | (with_reducible exact spec_l1Rd_pick.mono _ _ _ _)
   | (with_reducible exact LeO.refl _)
   | (with_reducible exact LeO.none _)
   | (with_reducible refine LeO.ite ?_ ?_)
   | (with_reducible refine LeO.bind ?_ (fun _=>?_))
  ·intro y0 y1 y2 y3 y4 y5 y6 y7 y8
   unfold spec_l14Image.l0
   repeat' first
   | (with_reducible exact ih0 _ _ _ _ _ _)
   | (with_reducible exact ih1 _ _ _ _ _ _ _)
   | (with_reducible exact ih2 _ _ _ _ _ _ _ _)
   | (with_reducible exact ih3 _ _ _ _ _ _ _ _ _ _ _)
   | (with_reducible exact ih4 _ _ _ _ _ _ _ _ _ _ _)
   | (with_reducible exact ih5 _ _ _ _ _ _ _)
   | (with_reducible exact ih6 _ _ _ _ _ _ _ _ _)
   | (with_reducible exact spec_l1Pow.mono _ _)
   | (with_reducible exact spec_l1Rd_pick.mono _ _ _ _)
   | (with_reducible exact LeO.refl _)
   | (with_reducible exact LeO.none _)
   | (with_reducible refine LeO.ite ?_ ?_)
   | (with_reducible refine LeO.bind ?_ (fun _=>?_))
theorem spec_l14Image.mono:∀ a0 a1 k,LeO (spec_l14Image.f k a0 a1) (spec_l14Image.f (k+1) a0 a1):=by
 intro a0 a1 k
 obtain ⟨ih0,ih1,ih2,ih3,ih4,ih5,ih6⟩:=spec_l14Image.mono_l k
 unfold spec_l14Image.f
 repeat' first
   | (with_reducible exact ih0 _ _ _ _ _ _)
   | (with_reducible exact ih1 _ _ _ _ _ _ _)
   | (with_reducible exact ih2 _ _ _ _ _ _ _ _)
   | (with_reducible exact ih3 _ _ _ _ _ _ _ _ _ _ _)
   | (with_reducible exact ih4 _ _ _ _ _ _ _ _ _ _ _)
   | (with_reducible exact ih5 _ _ _ _ _ _ _)
   | (with_reducible exact ih6 _ _ _ _ _ _ _ _ _)
   | (with_reducible exact spec_l1Pow.mono _ _)
   | (with_reducible exact spec_l1Rd_pick.mono _ _ _ _)
   | (with_reducible exact LeO.refl _)
   | (with_reducible exact LeO.none _)
   | (with_reducible refine LeO.ite ?_ ?_)
   | (with_reducible refine LeO.bind ?_ (fun _=>?_))
def spec_l14Image.T18:Bool × List (List Nat × List Nat):=(true,[([],[]),([0],[0]),([],[]),([2],[2]),([3],[3]),([],[]),([5,3],[5]),([6],[6]),([4,7],[4,7]),([],[]),([9,6],[9]),([8,10],[8,10]),([11],[11]),([1,12,10],[1,12]),([0,1,2,3,4,5,6,7,8,9,10,11,12,13],[]),([14,13,13,0,1,2,3,4,5,6,7,8,9,10,11,12,13],[13,14])])
def spec_l14Image.B18:List Nat:=[0,1,0,4,12,0,44,108,252,0,620,2044,4092,8191,16383,32767]
theorem spec_l14Image.tab18:rtab .any (opsOf Try.f74 18)=spec_l14Image.T18:=by kernel_rfl
theorem spec_l14Image.bits18:waitsOk spec_l14Image.T18.2 spec_l14Image.B18=true:=by kernel_rfl
set_option maxHeartbeats 8000000 in
set_option maxRecDepth 100000 in
theorem spec_l14Image.calls (k:Nat) (g:Nat) (s0_0:List Int) (s0_1:Int) (r1:Int) (r2:Int) (r3:Int) (r4:Int) (r5:List Int) (r6:List Int) (r7:Int) (w0 w:World) (hI:IsS65 w0 w g s0_0 s0_1) (hB:Below w0.heap.size w0 w) (h:spec_l14Image.f k s0_0 s0_1=some (r1,r2,r3,r4,r5,r6,r7)) :
  Calls Try.prog 74 #[.pointer (some ⟨g,0,none⟩)] w fun e w'=>∃ v4_ v5_:Value,e=.returned (.agg #[.int .i64 r1,.int .i64 r2,.int .i64 r3,.int .i64 r4,v4_,v5_])∧Kd.R (Kd.int .i64) 3 w' w.heap.size (fun k_=>some k_≠(v5_:Value).ownBlock) v4_ r5∧Kd.R (Kd.int .i64) 3 w' w.heap.size (fun k_=>some k_≠(v4_:Value).ownBlock) v5_ r6∧IsS65 w0 w' g s0_0 r7∧Below w0.heap.size w0 w'∧KeepBut w w' g none:=by
 have hu27:=Try.underlying27
 have HI0:=aM_ hI
 have HK:=aM_ (KeepBut.refl w g none)
 have HL:=aM_ hB.size
 clear hI
 have HW0:=aM_ hB.size
 have HB:=aM_ hB
 clear hB
 have H:((spec_l1Rd_pick.f k s0_0 s0_1 4).bind fun bt184=>((spec_l1Rd_pick.f k s0_0 bt184.2 9).bind fun bt186=>((spec_l1Rd_pick.f k s0_0 bt186.2 9).bind fun bt188=>((spec_l1Rd_pick.f k s0_0 bt188.2 8).bind fun bt191=>(if bt191.1=0 then ((spec_l1Rd_pick.f k s0_0 bt191.2 20).bind fun bt193=>((spec_l1Rd_pick.f k s0_0 bt193.2 20).bind fun bt195=>(spec_l14Image.j0 k s0_0 bt195.2 (wrap64 (1+bt184.1)) 0 (wrap64 (1+bt193.1)) (wrap64 (1+bt195.1))))) else (spec_l14Image.j0 k s0_0 bt191.2 (wrap64 (1+bt184.1)) 0 (wrap64 (1+bt186.1)) (wrap64 (1+bt188.1))))))))=some (r1,r2,r3,r4,r5,r6,r7):=h
 clear h
 replace H:=Option.bind_eq_some_iff.mp H
 obtain ⟨⟨t184,t185⟩,A20,H⟩:=H
 replace H:((spec_l1Rd_pick.f k s0_0 t185 9).bind fun bt186=>((spec_l1Rd_pick.f k s0_0 bt186.2 9).bind fun bt188=>((spec_l1Rd_pick.f k s0_0 bt188.2 8).bind fun bt191=>(if bt191.1=0 then ((spec_l1Rd_pick.f k s0_0 bt191.2 20).bind fun bt193=>((spec_l1Rd_pick.f k s0_0 bt193.2 20).bind fun bt195=>(spec_l14Image.j0 k s0_0 bt195.2 (wrap64 (1+t184)) 0 (wrap64 (1+bt193.1)) (wrap64 (1+bt195.1))))) else (spec_l14Image.j0 k s0_0 bt191.2 (wrap64 (1+t184)) 0 (wrap64 (1+bt186.1)) (wrap64 (1+bt188.1)))))))=some (r1,r2,r3,r4,r5,r6,r7):=H
 have A2:=aM_ A20
 clear A20
 replace H:=Option.bind_eq_some_iff.mp H
 obtain ⟨⟨t186,t187⟩,A30,H⟩:=H
 replace H:((spec_l1Rd_pick.f k s0_0 t187 9).bind fun bt188=>((spec_l1Rd_pick.f k s0_0 bt188.2 8).bind fun bt191=>(if bt191.1=0 then ((spec_l1Rd_pick.f k s0_0 bt191.2 20).bind fun bt193=>((spec_l1Rd_pick.f k s0_0 bt193.2 20).bind fun bt195=>(spec_l14Image.j0 k s0_0 bt195.2 (wrap64 (1+t184)) 0 (wrap64 (1+bt193.1)) (wrap64 (1+bt195.1))))) else (spec_l14Image.j0 k s0_0 bt191.2 (wrap64 (1+t184)) 0 (wrap64 (1+t186)) (wrap64 (1+bt188.1))))))=some (r1,r2,r3,r4,r5,r6,r7):=H
 have A3:=aM_ A30
 clear A30
 replace H:=Option.bind_eq_some_iff.mp H
 obtain ⟨⟨t188,t189⟩,A40,H⟩:=H
 replace H:((spec_l1Rd_pick.f k s0_0 t189 8).bind fun bt191=>(if bt191.1=0 then ((spec_l1Rd_pick.f k s0_0 bt191.2 20).bind fun bt193=>((spec_l1Rd_pick.f k s0_0 bt193.2 20).bind fun bt195=>(spec_l14Image.j0 k s0_0 bt195.2 (wrap64 (1+t184)) 0 (wrap64 (1+bt193.1)) (wrap64 (1+bt195.1))))) else (spec_l14Image.j0 k s0_0 bt191.2 (wrap64 (1+t184)) 0 (wrap64 (1+t186)) (wrap64 (1+t188)))))=some (r1,r2,r3,r4,r5,r6,r7):=H
 have A4:=aM_ A40
 clear A40
 replace H:=Option.bind_eq_some_iff.mp H
 obtain ⟨⟨t191,t192⟩,A50,H⟩:=H
 replace H:(if t191=0 then ((spec_l1Rd_pick.f k s0_0 t192 20).bind fun bt193=>((spec_l1Rd_pick.f k s0_0 bt193.2 20).bind fun bt195=>(spec_l14Image.j0 k s0_0 bt195.2 (wrap64 (1+t184)) 0 (wrap64 (1+bt193.1)) (wrap64 (1+bt195.1))))) else (spec_l14Image.j0 k s0_0 t192 (wrap64 (1+t184)) 0 (wrap64 (1+t186)) (wrap64 (1+t188))))=some (r1,r2,r3,r4,r5,r6,r7):=H
 have A5:=aM_ A50
 clear A50
 have HC6:=aM_ H
 clear H
 go_enter Try.func74,Try.ntmps74
 go_upto_if 21 with (first|((with_reducible refine gate_dst (N:=2) rfl ?_);refine box_event ?hg (N:=2) ?hd (cs:=#[.int .i64 0,.int .i64 0,.int .i64 0,.int .i64 0,.slice none 0 0,.slice none 0 0]) (t:=27) ?hr ?_;(case hd=>rfl);(case hg=>rfl);(case hr=>first|(go_simp;done)|(go_simp;rfl));intro gb183 hg w7 hbox hb;have n0_:=aM_ (IsS65.below (by repeat (first|(with_reducible first|exact HI0.out|apply IsS65.alloc|apply IsS65.drewN|apply IsS65.drew|apply IsS65.set_1)|exact HI0.out)) hb);have n1_:=aM_ (KeepBut.trans (by repeat (first|(with_reducible first|exact HK.out|apply pS_|apply pN_|apply pD_|apply pA_)|exact HK.out)) (KeepBut.of_below hb g none) (.inl rfl));have n2_:=aM_ (below_step (by repeat (first|(with_reducible first|exact HB.out|apply wA_|apply wN_|apply wD_|refine below_set ?_ (IsS65.ge HI0.out))|exact HB.out)) hb);have n3_:=aM_ (hbox);have n4_:=aM_ ((by rw [hg];exact (keep_size (w:=w) (g:=g) (row:=none) (by repeat (first|(with_reducible first|exact HK.out|apply pS_|apply pN_|apply pD_|apply pA_)|exact HK.out))):w.heap.size≤gb183));have n5_:=aM_ ((Nat.le_trans HW0.out (by rw [hg];exact (keep_size (w:=w) (g:=g) (row:=none) (by repeat (first|(with_reducible first|exact HK.out|apply pS_|apply pN_|apply pD_|apply pA_)|exact HK.out))):w.heap.size≤gb183):w0.heap.size≤gb183));have n6_:=aM_ ((by rw [hg];exact Nat.ne_of_lt (IsS65.lt (show IsS65 w0 _ g s0_0 s0_1 from by repeat (first|(with_reducible first|exact HI0.out|apply IsS65.alloc|apply IsS65.drewN|apply IsS65.drew|apply IsS65.set_1)|exact HI0.out))):g≠gb183));have n7_:=aM_ n6_.out.symm;clear HI0;clear HK;clear HB;have HI0:=n0_;have HK:=n1_;have HB:=n2_;have BK183:=n3_;have GW183:=n4_;have GE183:=n5_;have NB0_183:=n6_;have NB183_0:=n7_;clear n0_ n1_ n2_ n3_ n4_ n5_ n6_ n7_;clear hb hbox hg)|((with_reducible refine gate_callee (f:=68) rfl ?_);refine goesL_ (some 10) rfl rfl Try.func68 (by kernel_rfl) rfl #[.pointer (some ⟨g,0,none⟩),.int .i64 4] rfl (by (try simp only [List.map_toArray,List.map_cons,List.map_nil]);first|done|rfl|(simp only [List.length_drop,List.length_take];rfl)) ?_;(with_reducible refine (spec_l1Rd_pick.calls k g s0_0 s0_1 4 t184 t185 w0 _ ?side1 ?side2 A2.out).mono ?_);(case side1=>repeat (first|(with_reducible first|exact HI0.out|apply IsS65.alloc|apply IsS65.drewN|apply IsS65.drew|apply IsS65.set_1|refine IsS65.far ?_ NB0_183.out _)|exact HI0.out));(case side2=>repeat (first|(with_reducible first|exact HB.out|apply wA_|apply wN_|apply wD_|refine below_set ?_ (IsS65.ge HI0.out)|refine below_set ?_ GE183.out)|exact HB.out));rintro e w8 ⟨rfl,hi,hb,hk⟩;refine ⟨_,rfl,?_⟩;have n0_:=aM_ (KeepBut.blk hk (g':=gb183) (o:=.cells #[.int .i64 0,.int .i64 0,.int .i64 0,.int .i64 0,.slice none 0 0,.slice none 0 0] 27 (0,0)) (by (with_reducible repeat (first|apply kN_|apply kD_|apply kA_));exact BK183.out) NB183_0.out (by simp));have n1_:=aM_ (KeepBut.trans (by repeat (first|(with_reducible first|exact HK.out|apply pS_|apply pN_|apply pD_|apply pA_|refine keep_far ?_ GW183.out _)|exact HK.out)) hk (.inl rfl));have n2_:=aM_ (hb);have n3_:=aM_ (hi);clear BK183;clear HK;clear HB;clear HI0;have BK183:=n0_;have HK:=n1_;have HB:=n2_;have HI0:=n3_;clear n0_ n1_ n2_ n3_;(try clear hb);(try clear hb2);(try clear hk);(try clear hi))|((with_reducible refine gate_callee (f:=68) rfl ?_);refine goesL_ (some 13) rfl rfl Try.func68 (by kernel_rfl) rfl #[.pointer (some ⟨g,0,none⟩),.int .i64 9] rfl (by (try simp only [List.map_toArray,List.map_cons,List.map_nil]);first|done|rfl|(simp only [List.length_drop,List.length_take];rfl)) ?_;(with_reducible refine (spec_l1Rd_pick.calls k g s0_0 t185 9 t186 t187 w0 _ ?side1 ?side2 A3.out).mono ?_);(case side1=>repeat (first|(with_reducible first|exact HI0.out|apply IsS65.alloc|apply IsS65.drewN|apply IsS65.drew|apply IsS65.set_1|refine IsS65.far ?_ NB0_183.out _)|exact HI0.out));(case side2=>repeat (first|(with_reducible first|exact HB.out|apply wA_|apply wN_|apply wD_|refine below_set ?_ (IsS65.ge HI0.out)|refine below_set ?_ GE183.out)|exact HB.out));rintro e w9 ⟨rfl,hi,hb,hk⟩;refine ⟨_,rfl,?_⟩;have n0_:=aM_ (KeepBut.blk hk (g':=gb183) (o:=.cells #[.int .i64 0,.int .i64 0,.int .i64 0,.int .i64 0,.slice none 0 0,.slice none 0 0] 27 (0,0)) (by (with_reducible repeat (first|apply kN_|apply kD_|apply kA_));exact BK183.out) NB183_0.out (by simp));have n1_:=aM_ (KeepBut.trans (by repeat (first|(with_reducible first|exact HK.out|apply pS_|apply pN_|apply pD_|apply pA_|refine keep_far ?_ GW183.out _)|exact HK.out)) hk (.inl rfl));have n2_:=aM_ (hb);have n3_:=aM_ (hi);clear BK183;clear HK;clear HB;clear HI0;have BK183:=n0_;have HK:=n1_;have HB:=n2_;have HI0:=n3_;clear n0_ n1_ n2_ n3_;(try clear hb);(try clear hb2);(try clear hk);(try clear hi))|((with_reducible refine gate_callee (f:=68) rfl ?_);refine goesL_ (some 16) rfl rfl Try.func68 (by kernel_rfl) rfl #[.pointer (some ⟨g,0,none⟩),.int .i64 9] rfl (by (try simp only [List.map_toArray,List.map_cons,List.map_nil]);first|done|rfl|(simp only [List.length_drop,List.length_take];rfl)) ?_;(with_reducible refine (spec_l1Rd_pick.calls k g s0_0 t187 9 t188 t189 w0 _ ?side1 ?side2 A4.out).mono ?_);(case side1=>repeat (first|(with_reducible first|exact HI0.out|apply IsS65.alloc|apply IsS65.drewN|apply IsS65.drew|apply IsS65.set_1|refine IsS65.far ?_ NB0_183.out _)|exact HI0.out));(case side2=>repeat (first|(with_reducible first|exact HB.out|apply wA_|apply wN_|apply wD_|refine below_set ?_ (IsS65.ge HI0.out)|refine below_set ?_ GE183.out)|exact HB.out));rintro e w10 ⟨rfl,hi,hb,hk⟩;refine ⟨_,rfl,?_⟩;have n0_:=aM_ (KeepBut.blk hk (g':=gb183) (o:=.cells #[.int .i64 0,.int .i64 0,.int .i64 0,.int .i64 0,.slice none 0 0,.slice none 0 0] 27 (0,0)) (by (with_reducible repeat (first|apply kN_|apply kD_|apply kA_));exact BK183.out) NB183_0.out (by simp));have n1_:=aM_ (KeepBut.trans (by repeat (first|(with_reducible first|exact HK.out|apply pS_|apply pN_|apply pD_|apply pA_|refine keep_far ?_ GW183.out _)|exact HK.out)) hk (.inl rfl));have n2_:=aM_ (hb);have n3_:=aM_ (hi);clear BK183;clear HK;clear HB;clear HI0;have BK183:=n0_;have HK:=n1_;have HB:=n2_;have HI0:=n3_;clear n0_ n1_ n2_ n3_;(try clear hb);(try clear hb2);(try clear hk);(try clear hi))|((with_reducible refine gate_dst (N:=3) rfl ?_);refine box_event ?hg (N:=3) ?hd (cs:=#[.int .i64 0,.int .i64 0,.int .i64 0,.int .i64 0,.slice none 0 0,.slice none 0 0]) (t:=27) ?hr ?_;(case hd=>rfl);(case hg=>rfl);(case hr=>first|(go_simp;done)|(go_simp;rfl));intro gb190 hg w11 hbox hb;have n0_:=aM_ (IsS65.below (by repeat (first|(with_reducible first|exact HI0.out|apply IsS65.alloc|apply IsS65.drewN|apply IsS65.drew|apply IsS65.set_1|refine IsS65.far ?_ NB0_183.out _)|exact HI0.out)) hb);have n1_:=aM_ (blk_below (g:=gb183) (by (with_reducible repeat (first|apply kN_|apply kD_|apply kA_));exact BK183.out) hb);have n2_:=aM_ (KeepBut.trans (by repeat (first|(with_reducible first|exact HK.out|apply pS_|apply pN_|apply pD_|apply pA_|refine keep_far ?_ GW183.out _)|exact HK.out)) (KeepBut.of_below hb g none) (.inl rfl));have n3_:=aM_ (below_step (by repeat (first|(with_reducible first|exact HB.out|apply wA_|apply wN_|apply wD_|refine below_set ?_ (IsS65.ge HI0.out)|refine below_set ?_ GE183.out)|exact HB.out)) hb);have n4_:=aM_ (hbox);have n5_:=aM_ ((by rw [hg];exact (keep_size (w:=w) (g:=g) (row:=none) (by repeat (first|(with_reducible first|exact HK.out|apply pS_|apply pN_|apply pD_|apply pA_|refine keep_far ?_ GW183.out _)|exact HK.out))):w.heap.size≤gb190));have n6_:=aM_ ((Nat.le_trans HW0.out (by rw [hg];exact (keep_size (w:=w) (g:=g) (row:=none) (by repeat (first|(with_reducible first|exact HK.out|apply pS_|apply pN_|apply pD_|apply pA_|refine keep_far ?_ GW183.out _)|exact HK.out))):w.heap.size≤gb190):w0.heap.size≤gb190));have n7_:=aM_ ((by rw [hg];exact Nat.ne_of_lt (blk_lt (g:=gb183) (by (with_reducible repeat (first|apply kN_|apply kD_|apply kA_));exact BK183.out)):gb183≠gb190));have n8_:=aM_ n7_.out.symm;have n9_:=aM_ ((by rw [hg];exact Nat.ne_of_lt (IsS65.lt (show IsS65 w0 _ g s0_0 t189 from by repeat (first|(with_reducible first|exact HI0.out|apply IsS65.alloc|apply IsS65.drewN|apply IsS65.drew|apply IsS65.set_1|refine IsS65.far ?_ NB0_183.out _)|exact HI0.out))):g≠gb190));have n10_:=aM_ n9_.out.symm;clear HI0;clear BK183;clear HK;clear HB;have HI0:=n0_;have BK183:=n1_;have HK:=n2_;have HB:=n3_;have BK190:=n4_;have GW190:=n5_;have GE190:=n6_;have NB183_190:=n7_;have NB190_183:=n8_;have NB0_190:=n9_;have NB190_0:=n10_;clear n0_ n1_ n2_ n3_ n4_ n5_ n6_ n7_ n8_ n9_ n10_;clear hb hbox hg;have hnb12:=NB190_183.out;have hnc12:=NB183_190.out;have hnb13:=NB190_0.out;have hnc13:=NB0_190.out;obtain ⟨hcz14_0,hcz14_1,hcz14_2,hcz14_3,hcz14_4,hcz14_5⟩:=bc6 BK190.out;obtain ⟨hfz14_0,hfz14_1,hfz14_2,hfz14_3,hfz14_4,hfz14_5⟩:=bf6 BK190.out)|((with_reducible refine gate_callee (f:=68) rfl ?_);refine goesL_ (some 20) rfl rfl Try.func68 (by kernel_rfl) rfl #[.pointer (some ⟨g,0,none⟩),.int .i64 8] rfl (by (try simp only [List.map_toArray,List.map_cons,List.map_nil]);first|done|rfl|(simp only [List.length_drop,List.length_take];rfl)) ?_;(with_reducible refine (spec_l1Rd_pick.calls k g s0_0 t189 8 t191 t192 w0 _ ?side1 ?side2 A5.out).mono ?_);(case side1=>repeat (first|(with_reducible first|exact HI0.out|apply IsS65.alloc|apply IsS65.drewN|apply IsS65.drew|apply IsS65.set_1|refine IsS65.far ?_ NB0_183.out _|refine IsS65.far ?_ NB0_190.out _)|exact HI0.out));(case side2=>repeat (first|(with_reducible first|exact HB.out|apply wA_|apply wN_|apply wD_|refine below_set ?_ (IsS65.ge HI0.out)|refine below_set ?_ GE183.out|refine below_set ?_ GE190.out)|exact HB.out));rintro e w15 ⟨rfl,hi,hb,hk⟩;refine ⟨_,rfl,?_⟩;have n0_:=aM_ (KeepBut.blk hk (g':=gb183) (o:=.cells #[.int .i64 0,.int .i64 0,.int .i64 0,.int .i64 0,.slice none 0 0,.slice none 0 0] 27 (0,0)) (by (with_reducible repeat (first|apply kN_|apply kD_|apply kA_));refine blk_far ?_ NB183_190.out _;(with_reducible repeat (first|apply kN_|apply kD_|apply kA_));refine blk_far ?_ NB183_190.out _;(with_reducible repeat (first|apply kN_|apply kD_|apply kA_));refine blk_far ?_ NB183_190.out _;(with_reducible repeat (first|apply kN_|apply kD_|apply kA_));refine blk_far ?_ NB183_190.out _;(with_reducible repeat (first|apply kN_|apply kD_|apply kA_));refine blk_far ?_ NB183_190.out _;(with_reducible repeat (first|apply kN_|apply kD_|apply kA_));refine blk_far ?_ NB183_190.out _;(with_reducible repeat (first|apply kN_|apply kD_|apply kA_));exact BK183.out) NB183_0.out (by simp));have n1_:=aM_ (KeepBut.blk hk (g':=gb190) (o:=.cells #[.int .i64 (wrap64 (1+t184)),.int .i64 0,.int .i64 (wrap64 (1+t186)),.int .i64 (wrap64 (1+t188)),.slice none 0 0,.slice none 0 0] 27 (0,0)) (by (with_reducible repeat (first|apply kN_|apply kD_|apply kA_));refine blk_put (cs:=#[.int .i64 (wrap64 (1+t184)),.int .i64 0,.int .i64 (wrap64 (1+t186)),.int .i64 (wrap64 (1+t188)),.slice none 0 0,.slice none 0 0]) ?_ 5 _ rfl;(with_reducible repeat (first|apply kN_|apply kD_|apply kA_));refine blk_put (cs:=#[.int .i64 (wrap64 (1+t184)),.int .i64 0,.int .i64 (wrap64 (1+t186)),.int .i64 (wrap64 (1+t188)),.slice none 0 0,.slice none 0 0]) ?_ 4 _ rfl;(with_reducible repeat (first|apply kN_|apply kD_|apply kA_));refine blk_put (cs:=#[.int .i64 (wrap64 (1+t184)),.int .i64 0,.int .i64 (wrap64 (1+t186)),.int .i64 0,.slice none 0 0,.slice none 0 0]) ?_ 3 _ rfl;(with_reducible repeat (first|apply kN_|apply kD_|apply kA_));refine blk_put (cs:=#[.int .i64 (wrap64 (1+t184)),.int .i64 0,.int .i64 0,.int .i64 0,.slice none 0 0,.slice none 0 0]) ?_ 2 _ rfl;(with_reducible repeat (first|apply kN_|apply kD_|apply kA_));refine blk_put (cs:=#[.int .i64 (wrap64 (1+t184)),.int .i64 0,.int .i64 0,.int .i64 0,.slice none 0 0,.slice none 0 0]) ?_ 1 _ rfl;(with_reducible repeat (first|apply kN_|apply kD_|apply kA_));refine blk_put (cs:=#[.int .i64 0,.int .i64 0,.int .i64 0,.int .i64 0,.slice none 0 0,.slice none 0 0]) ?_ 0 _ rfl;(with_reducible repeat (first|apply kN_|apply kD_|apply kA_));exact BK190.out) NB190_0.out (by simp));have n2_:=aM_ (KeepBut.trans (by repeat (first|(with_reducible first|exact HK.out|apply pS_|apply pN_|apply pD_|apply pA_|refine keep_far ?_ GW183.out _|refine keep_far ?_ GW190.out _)|exact HK.out)) hk (.inl rfl));have n3_:=aM_ (hb);have n4_:=aM_ (hi);clear BK183;clear BK190;clear HK;clear HB;clear HI0;have BK183:=n0_;have BK190:=n1_;have HK:=n2_;have HB:=n3_;have HI0:=n4_;clear n0_ n1_ n2_ n3_ n4_;(try clear hb);(try clear hb2);(try clear hk);(try clear hi)))
 (try simp only [Act.put,sA_,s0_,s1_])
 go_cut [] (fun wc=>∃ (kq:Nat) (x1001_5:Int) (x191002_5:Int) (x191003_5:Int),Aside0 (spec_l14Image.j0 kq s0_0 x1001_5 (wrap64 (1+t184)) 0 x191002_5 x191003_5=some (r1,r2,r3,r4,r5,r6,r7))∧Aside0 (kq≤k)∧Aside0 (wc.heap[gb183]?=some (.cells #[.int .i64 0,.int .i64 0,.int .i64 0,.int .i64 0,(.slice none 0 0),(.slice none 0 0)] 27 (0,0)))∧Aside0 (wc.heap[gb190]?=some (.cells #[.int .i64 (wrap64 (1+t184)),.int .i64 0,.int .i64 x191002_5,.int .i64 x191003_5,(.slice none 0 0),(.slice none 0 0)] 27 (0,0)))∧Aside0 (IsS65 w0 wc g s0_0 x1001_5)∧Aside0 (KeepBut w wc g none)∧Aside0 (Below w0.heap.size w0 wc))
 case first =>
  have H:=HC6.out
  clear HC6
  by_cases c16:t191=0
  ·rw [if_pos c16] at H
   have c16b0:(t191 == 0)=true:=beq_iff_eq.mpr c16
   have c16b1:(t191 != 0)=false:=bne_eq_false_iff_eq.mpr c16
   clear c16
   (first|rw [c16b0]|(simp only [i64_w,i32_w];rw [c16b0])|skip)
   replace H:=Option.bind_eq_some_iff.mp H
   obtain ⟨⟨t193,t194⟩,A170,H⟩:=H
   replace H:((spec_l1Rd_pick.f k s0_0 t194 20).bind fun bt195=>(spec_l14Image.j0 k s0_0 bt195.2 (wrap64 (1+t184)) 0 (wrap64 (1+t193)) (wrap64 (1+bt195.1))))=some (r1,r2,r3,r4,r5,r6,r7):=H
   have A17:=aM_ A170
   clear A170
   replace H:=Option.bind_eq_some_iff.mp H
   obtain ⟨⟨t195,t196⟩,A180,H⟩:=H
   replace H:(spec_l14Image.j0 k s0_0 t196 (wrap64 (1+t184)) 0 (wrap64 (1+t193)) (wrap64 (1+t195)))=some (r1,r2,r3,r4,r5,r6,r7):=H
   have A18:=aM_ A180
   clear A180
   have H':=aM_ H
   clear H
   go_wp2_with (first|((with_reducible refine gate_callee (f:=68) rfl ?_);refine goesL_ (some 23) rfl rfl Try.func68 (by kernel_rfl) rfl #[.pointer (some ⟨g,0,none⟩),.int .i64 20] rfl (by (try simp only [List.map_toArray,List.map_cons,List.map_nil]);first|done|rfl|(simp only [List.length_drop,List.length_take];rfl)) ?_;(with_reducible refine (spec_l1Rd_pick.calls k g s0_0 t192 20 t193 t194 w0 _ ?side1 ?side2 A17.out).mono ?_);(case side1=>repeat (first|(with_reducible first|exact HI0.out|apply IsS65.alloc|apply IsS65.drewN|apply IsS65.drew|apply IsS65.set_1|refine IsS65.far ?_ NB0_183.out _|refine IsS65.far ?_ NB0_190.out _)|exact HI0.out));(case side2=>repeat (first|(with_reducible first|exact HB.out|apply wA_|apply wN_|apply wD_|refine below_set ?_ (IsS65.ge HI0.out)|refine below_set ?_ GE183.out|refine below_set ?_ GE190.out)|exact HB.out));rintro e w19 ⟨rfl,hi,hb,hk⟩;refine ⟨_,rfl,?_⟩;have n0_:=aM_ (KeepBut.blk hk (g':=gb183) (o:=.cells #[.int .i64 0,.int .i64 0,.int .i64 0,.int .i64 0,.slice none 0 0,.slice none 0 0] 27 (0,0)) (by (with_reducible repeat (first|apply kN_|apply kD_|apply kA_));exact BK183.out) NB183_0.out (by simp));have n1_:=aM_ (KeepBut.blk hk (g':=gb190) (o:=.cells #[.int .i64 (wrap64 (1+t184)),.int .i64 0,.int .i64 (wrap64 (1+t186)),.int .i64 (wrap64 (1+t188)),.slice none 0 0,.slice none 0 0] 27 (0,0)) (by (with_reducible repeat (first|apply kN_|apply kD_|apply kA_));exact BK190.out) NB190_0.out (by simp));have n2_:=aM_ (KeepBut.trans (by repeat (first|(with_reducible first|exact HK.out|apply pS_|apply pN_|apply pD_|apply pA_|refine keep_far ?_ GW183.out _|refine keep_far ?_ GW190.out _)|exact HK.out)) hk (.inl rfl));have n3_:=aM_ (hb);have n4_:=aM_ (hi);clear BK183;clear BK190;clear HK;clear HB;clear HI0;have BK183:=n0_;have BK190:=n1_;have HK:=n2_;have HB:=n3_;have HI0:=n4_;clear n0_ n1_ n2_ n3_ n4_;(try clear hb);(try clear hb2);(try clear hk);(try clear hi);have hnb20:=NB190_183.out;have hnc20:=NB183_190.out;have hnb21:=NB190_0.out;have hnc21:=NB0_190.out;obtain ⟨hcz22_0,hcz22_1,hcz22_2,hcz22_3,hcz22_4,hcz22_5⟩:=bc6 BK190.out;obtain ⟨hfz22_0,hfz22_1,hfz22_2,hfz22_3,hfz22_4,hfz22_5⟩:=bf6 BK190.out)|((with_reducible refine gate_callee (f:=68) rfl ?_);refine goesL_ (some 27) rfl rfl Try.func68 (by kernel_rfl) rfl #[.pointer (some ⟨g,0,none⟩),.int .i64 20] rfl (by (try simp only [List.map_toArray,List.map_cons,List.map_nil]);first|done|rfl|(simp only [List.length_drop,List.length_take];rfl)) ?_;(with_reducible refine (spec_l1Rd_pick.calls k g s0_0 t194 20 t195 t196 w0 _ ?side1 ?side2 A18.out).mono ?_);(case side1=>repeat (first|(with_reducible first|exact HI0.out|apply IsS65.alloc|apply IsS65.drewN|apply IsS65.drew|apply IsS65.set_1|refine IsS65.far ?_ NB0_183.out _|refine IsS65.far ?_ NB0_190.out _)|exact HI0.out));(case side2=>repeat (first|(with_reducible first|exact HB.out|apply wA_|apply wN_|apply wD_|refine below_set ?_ (IsS65.ge HI0.out)|refine below_set ?_ GE183.out|refine below_set ?_ GE190.out)|exact HB.out));rintro e w23 ⟨rfl,hi,hb,hk⟩;refine ⟨_,rfl,?_⟩;have n0_:=aM_ (KeepBut.blk hk (g':=gb183) (o:=.cells #[.int .i64 0,.int .i64 0,.int .i64 0,.int .i64 0,.slice none 0 0,.slice none 0 0] 27 (0,0)) (by (with_reducible repeat (first|apply kN_|apply kD_|apply kA_));refine blk_far ?_ NB183_190.out _;(with_reducible repeat (first|apply kN_|apply kD_|apply kA_));exact BK183.out) NB183_0.out (by simp));have n1_:=aM_ (KeepBut.blk hk (g':=gb190) (o:=.cells #[.int .i64 (wrap64 (1+t184)),.int .i64 0,.int .i64 (wrap64 (1+t193)),.int .i64 (wrap64 (1+t188)),.slice none 0 0,.slice none 0 0] 27 (0,0)) (by (with_reducible repeat (first|apply kN_|apply kD_|apply kA_));refine blk_put (cs:=#[.int .i64 (wrap64 (1+t184)),.int .i64 0,.int .i64 (wrap64 (1+t186)),.int .i64 (wrap64 (1+t188)),.slice none 0 0,.slice none 0 0]) ?_ 2 _ rfl;(with_reducible repeat (first|apply kN_|apply kD_|apply kA_));exact BK190.out) NB190_0.out (by simp));have n2_:=aM_ (KeepBut.trans (by repeat (first|(with_reducible first|exact HK.out|apply pS_|apply pN_|apply pD_|apply pA_|refine keep_far ?_ GW183.out _|refine keep_far ?_ GW190.out _)|exact HK.out)) hk (.inl rfl));have n3_:=aM_ (hb);have n4_:=aM_ (hi);clear BK183;clear BK190;clear HK;clear HB;clear HI0;have BK183:=n0_;have BK190:=n1_;have HK:=n2_;have HB:=n3_;have HI0:=n4_;clear n0_ n1_ n2_ n3_ n4_;(try clear hb);(try clear hb2);(try clear hk);(try clear hi);obtain ⟨hcz24_0,hcz24_1,hcz24_2,hcz24_3,hcz24_4,hcz24_5⟩:=bc6 BK190.out;obtain ⟨hfz24_0,hfz24_1,hfz24_2,hfz24_3,hfz24_4,hfz24_5⟩:=bf6 BK190.out))
   go_meet
   case rel=>exact ⟨_,(t196),(wrap64 (1+t193)),(wrap64 (1+t195)),H',⟨by first|omega|exact Nat.le_refl _⟩,⟨by (with_reducible repeat (first|apply kN_|apply kD_|apply kA_));refine blk_far ?_ NB183_190.out _;(with_reducible repeat (first|apply kN_|apply kD_|apply kA_));exact BK183.out⟩,⟨by (with_reducible repeat (first|apply kN_|apply kD_|apply kA_));refine blk_put (cs:=#[.int .i64 (wrap64 (1+t184)),.int .i64 0,.int .i64 (wrap64 (1+t193)),.int .i64 (wrap64 (1+t188)),.slice none 0 0,.slice none 0 0]) ?_ 3 _ rfl;(with_reducible repeat (first|apply kN_|apply kD_|apply kA_));exact BK190.out⟩,⟨by repeat (first|(with_reducible first|exact HI0.out|apply IsS65.alloc|apply IsS65.drewN|apply IsS65.drew|apply IsS65.set_1|refine IsS65.far ?_ NB0_183.out _|refine IsS65.far ?_ NB0_190.out _)|exact HI0.out)⟩,⟨by repeat (first|(with_reducible first|exact HK.out|apply pS_|apply pN_|apply pD_|apply pA_|refine keep_far ?_ GW183.out _|refine keep_far ?_ GW190.out _)|exact HK.out)⟩,⟨by repeat (first|(with_reducible first|exact HB.out|apply wA_|apply wN_|apply wD_|refine below_set ?_ (IsS65.ge HI0.out)|refine below_set ?_ GE183.out|refine below_set ?_ GE190.out)|exact HB.out)⟩⟩
  ·rw [if_neg c16] at H
   have c16b0:(t191 == 0)=false:=beq_eq_false_iff_ne.mpr c16
   have c16b1:(t191 != 0)=true:=bne_iff_ne.mpr c16
   (first|rw [c16b0]|(simp only [i64_w,i32_w];rw [c16b0])|skip)
   have H':=aM_ H
   clear H
   go_wp2
   go_meet
   case rel=>exact ⟨_,(t192),(wrap64 (1+t186)),(wrap64 (1+t188)),H',⟨by first|omega|exact Nat.le_refl _⟩,⟨by (with_reducible repeat (first|apply kN_|apply kD_|apply kA_));exact BK183.out⟩,⟨by (with_reducible repeat (first|apply kN_|apply kD_|apply kA_));exact BK190.out⟩,⟨by repeat (first|(with_reducible first|exact HI0.out|apply IsS65.alloc|apply IsS65.drewN|apply IsS65.drew|apply IsS65.set_1|refine IsS65.far ?_ NB0_183.out _|refine IsS65.far ?_ NB0_190.out _)|exact HI0.out)⟩,⟨by repeat (first|(with_reducible first|exact HK.out|apply pS_|apply pN_|apply pD_|apply pA_|refine keep_far ?_ GW183.out _|refine keep_far ?_ GW190.out _)|exact HK.out)⟩,⟨by repeat (first|(with_reducible first|exact HB.out|apply wA_|apply wN_|apply wD_|refine below_set ?_ (IsS65.ge HI0.out)|refine below_set ?_ GE183.out|refine below_set ?_ GE190.out)|exact HB.out)⟩⟩
 case rest =>
  clear HC6
  try clear c1
  try clear c2
  try clear p2
  try clear c6
  try clear p6
  try clear c7
  try clear c12
  try clear c13
  try clear c16
  try clear c16b0
  try clear c16b1
  try clear c20
  try clear c21
  try clear hcz14_0 hcz14_1 hcz14_2 hcz14_3 hcz14_4 hcz14_5
  try clear hcz22_0 hcz22_1 hcz22_2 hcz22_3 hcz22_4 hcz22_5
  try clear hcz24_0 hcz24_1 hcz24_2 hcz24_3 hcz24_4 hcz24_5
  try clear hfz14_0 hfz14_1 hfz14_2 hfz14_3 hfz14_4 hfz14_5
  try clear hfz22_0 hfz22_1 hfz22_2 hfz22_3 hfz22_4 hfz22_5
  try clear hfz24_0 hfz24_1 hfz24_2 hfz24_3 hfz24_4 hfz24_5
  obtain ⟨kq,x1001_5,x191002_5,x191003_5,HA,HJ5,BK183,BK190,HI0,HK,HB⟩:=hcut
  cases kq with
  | zero=>exact absurd HA.out (by simp [spec_l14Image.j0])
  | succ kj5 =>
   have H:=HA.out
   clear HA
   simp only [spec_l14Image.j0] at H
   obtain ⟨y197,hy197⟩:∃ y_:List Int,y_=(([1,2,4,8]:List Int)):=⟨_,rfl⟩
   replace H:((spec_l1Rd_pick.f kj5 s0_0 x1001_5 4).bind fun bt200=>(if 0≤bt200.1 then (if bt200.1 < (y197.length:Int) then (if (wrap64 (1+t184))=2 then (spec_l14Image.j3 kj5 s0_0 bt200.2 (wrap64 (1+t184)) 24 x191002_5 x191003_5 ([]:List Int)) else (if (wrap64 (1+t184))=3 then (spec_l14Image.j3 kj5 s0_0 bt200.2 (wrap64 (1+t184)) 32 x191002_5 x191003_5 ([]:List Int)) else (if (wrap64 (1+t184))=4 then ((spec_l1Pow.f kj5 (rd y197 bt200.1)).bind fun t203=>((spec_l1Rd_pick.f kj5 s0_0 bt200.2 2).bind fun bt204=>(if bt204.1=0 then ((spec_l1Rd_pick.f kj5 s0_0 bt204.2 t203).bind fun bt206=>(spec_l14Image.j1 kj5 (wrap64 (1+bt206.1)) s0_0 bt206.2 (wrap64 (1+t184)) (rd y197 bt200.1) x191002_5 x191003_5)) else (spec_l14Image.j1 kj5 t203 s0_0 bt204.2 (wrap64 (1+t184)) (rd y197 bt200.1) x191002_5 x191003_5)))) else (spec_l14Image.j3 kj5 s0_0 bt200.2 (wrap64 (1+t184)) (rd y197 bt200.1) x191002_5 x191003_5 ([]:List Int))))) else (none)) else (none)))=some (r1,r2,r3,r4,r5,r6,r7):=by first|(rw [hy197];with_reducible exact H)|(have H2_:=(Option.bind_some _ _).symm.trans H;rw [hy197];with_reducible exact H2_)|(have H2_:=(Option.bind_some _ _).symm.trans H;with_reducible exact H2_)|with_reducible exact H|(rw [hy197];exact H)|exact H
   have Ny197:=aM_ hy197
   clear hy197
   replace H:=Option.bind_eq_some_iff.mp H
   obtain ⟨⟨t200,t201⟩,A250,H⟩:=H
   replace H:(if 0≤t200 then (if t200 < (y197.length:Int) then (if (wrap64 (1+t184))=2 then (spec_l14Image.j3 kj5 s0_0 t201 (wrap64 (1+t184)) 24 x191002_5 x191003_5 ([]:List Int)) else (if (wrap64 (1+t184))=3 then (spec_l14Image.j3 kj5 s0_0 t201 (wrap64 (1+t184)) 32 x191002_5 x191003_5 ([]:List Int)) else (if (wrap64 (1+t184))=4 then ((spec_l1Pow.f kj5 (rd y197 t200)).bind fun t203=>((spec_l1Rd_pick.f kj5 s0_0 t201 2).bind fun bt204=>(if bt204.1=0 then ((spec_l1Rd_pick.f kj5 s0_0 bt204.2 t203).bind fun bt206=>(spec_l14Image.j1 kj5 (wrap64 (1+bt206.1)) s0_0 bt206.2 (wrap64 (1+t184)) (rd y197 t200) x191002_5 x191003_5)) else (spec_l14Image.j1 kj5 t203 s0_0 bt204.2 (wrap64 (1+t184)) (rd y197 t200) x191002_5 x191003_5)))) else (spec_l14Image.j3 kj5 s0_0 t201 (wrap64 (1+t184)) (rd y197 t200) x191002_5 x191003_5 ([]:List Int))))) else (none)) else (none))=some (r1,r2,r3,r4,r5,r6,r7):=H
   have A25:=aM_ A250
   clear A250
   by_cases c26:0≤t200
   ·rw [if_pos c26] at H
    have c26b0:decide (0≤t200)=true:=decide_eq_true c26
    clear c26
    by_cases c27:t200 < (y197.length:Int)
    ·rw [if_pos c27] at H
     have c27b0:decide (t200 < (y197.length:Int))=true:=decide_eq_true c27
     clear c27
     have HC28:=aM_ H
     clear H
     go_upto_block 0 with (first|((with_reducible refine gate_dst (N:=30) rfl ?_);refine Kd.R_lit (Kd.int .i64) _ 3 ?hg (N:=30) ?hd (xs:=([1,2,4,8]:List Int)) (inner:=[.int .i64 1,.int .i64 2,.int .i64 4,.int .i64 8]) (ok:=fun _=>True) (okp:=fun _=>True) ?hr ?hp (fun _ hk=>hk) trivial (Below.refl _ _) (Nat.le_refl _) (by simp) ?_;(case hd=>rfl);(case hg=>rfl);(case hr=>first|(go_simp;done)|(go_simp;rfl));(case hp=>exact (Reps.one (show Kd.M (Kd.int .i64) _ _ _ 1 [.int .i64 1] from rfl) (Reps.one (show Kd.M (Kd.int .i64) _ _ _ 2 [.int .i64 2] from rfl) (Reps.one (show Kd.M (Kd.int .i64) _ _ _ 4 [.int .i64 4] from rfl) (Reps.one (show Kd.M (Kd.int .i64) _ _ _ 8 [.int .i64 8] from rfl) (Reps.none _ _))))));intro v198 w29 ho30 hb hg_ hnew_;clear hg_ hnew_;(first|rw [← Ny197.out] at ho30|(simp only [Int.reduceToNat] at ho30;rw [← Ny197.out] at ho30));have n0_:=aM_ (Kd.R_lower ho30 (keep_size (w:=w) (g:=g) (row:=none) (by repeat (first|(with_reducible first|exact HK.out|apply pS_|apply pN_|apply pD_|apply pA_|refine keep_far ?_ GW183.out _|refine keep_far ?_ GW190.out _)|exact HK.out))));have n1_:=aM_ (blk_below (g:=gb183) (by (with_reducible repeat (first|apply kN_|apply kD_|apply kA_));exact BK183.out) hb);have n2_:=aM_ (blk_below (g:=gb190) (by (with_reducible repeat (first|apply kN_|apply kD_|apply kA_));exact BK190.out) hb);have n3_:=aM_ (IsS65.below (by repeat (first|(with_reducible first|exact HI0.out|apply IsS65.alloc|apply IsS65.drewN|apply IsS65.drew|apply IsS65.set_1|refine IsS65.far ?_ NB0_183.out _|refine IsS65.far ?_ NB0_190.out _)|exact HI0.out)) hb);have n4_:=aM_ (KeepBut.trans (by repeat (first|(with_reducible first|exact HK.out|apply pS_|apply pN_|apply pD_|apply pA_|refine keep_far ?_ GW183.out _|refine keep_far ?_ GW190.out _)|exact HK.out)) (KeepBut.of_below hb g none) (.inl rfl));have n5_:=aM_ (below_step (by repeat (first|(with_reducible first|exact HB.out|apply wA_|apply wN_|apply wD_|refine below_set ?_ (IsS65.ge HI0.out)|refine below_set ?_ GE183.out|refine below_set ?_ GE190.out)|exact HB.out)) hb);clear BK183;clear BK190;clear HI0;clear HK;clear HB;have HO199:=n0_;have BK183:=n1_;have BK190:=n2_;have HI0:=n3_;have HK:=n4_;have HB:=n5_;clear n0_ n1_ n2_ n3_ n4_ n5_;clear hb ho30)|((with_reducible refine gate_callee (f:=68) rfl ?_);refine goesL_ (some 32) rfl rfl Try.func68 (by kernel_rfl) rfl #[.pointer (some ⟨g,0,none⟩),.int .i64 4] rfl (by (try simp only [List.map_toArray,List.map_cons,List.map_nil]);first|done|rfl|(simp only [List.length_drop,List.length_take];rfl)) ?_;(with_reducible refine (spec_l1Rd_pick.calls kj5 g s0_0 x1001_5 4 t200 t201 w0 _ ?side1 ?side2 A25.out).mono ?_);(case side1=>repeat (first|(with_reducible first|exact HI0.out|apply IsS65.alloc|apply IsS65.drewN|apply IsS65.drew|apply IsS65.set_1|refine IsS65.far ?_ NB0_183.out _|refine IsS65.far ?_ NB0_190.out _)|exact HI0.out));(case side2=>repeat (first|(with_reducible first|exact HB.out|apply wA_|apply wN_|apply wD_|refine below_set ?_ (IsS65.ge HI0.out)|refine below_set ?_ GE183.out|refine below_set ?_ GE190.out)|exact HB.out));rintro e w31 ⟨rfl,hi,hb,hk⟩;refine ⟨_,rfl,?_⟩;have n0_:=aM_ (KeepBut.blk hk (g':=gb183) (o:=.cells #[.int .i64 0,.int .i64 0,.int .i64 0,.int .i64 0,.slice none 0 0,.slice none 0 0] 27 (0,0)) (by (with_reducible repeat (first|apply kN_|apply kD_|apply kA_));exact BK183.out) NB183_0.out (by simp));have n1_:=aM_ (KeepBut.blk hk (g':=gb190) (o:=.cells #[.int .i64 (wrap64 (1+t184)),.int .i64 0,.int .i64 x191002_5,.int .i64 x191003_5,.slice none 0 0,.slice none 0 0] 27 (0,0)) (by (with_reducible repeat (first|apply kN_|apply kD_|apply kA_));exact BK190.out) NB190_0.out (by simp));have n2_:=aM_ (Kd.R_mono (Kd.R_keep (IsS65.apart (show IsS65 w0 _ g s0_0 x1001_5 from by repeat (first|(with_reducible first|exact HI0.out|apply IsS65.alloc|apply IsS65.drewN|apply IsS65.drew|apply IsS65.set_1|refine IsS65.far ?_ NB0_183.out _|refine IsS65.far ?_ NB0_190.out _)|exact HI0.out)) (by (with_reducible repeat (first|apply rA_|apply rN_|apply rD_));exact HO199.out) (by decide)) hk (fun _ h=>h.2)) (fun _ h=>h.1));have n3_:=aM_ (KeepBut.trans (by repeat (first|(with_reducible first|exact HK.out|apply pS_|apply pN_|apply pD_|apply pA_|refine keep_far ?_ GW183.out _|refine keep_far ?_ GW190.out _)|exact HK.out)) hk (.inl rfl));have n4_:=aM_ (hb);have n5_:=aM_ (hi);clear BK183;clear BK190;clear HO199;clear HK;clear HB;clear HI0;have BK183:=n0_;have BK190:=n1_;have HO199:=n2_;have HK:=n3_;have HB:=n4_;have HI0:=n5_;clear n0_ n1_ n2_ n3_ n4_ n5_;(try clear hb);(try clear hb2);(try clear hk);(try clear hi);obtain ⟨Ao32,co32,eo32⟩:=Kd.R_slice HO199.out;subst eo32;have p202:0≤(t200:Int):=of_decide_eq_true (by first|(with_reducible assumption)|assumption);have q202:t200 < (y197.length:Int):=of_decide_eq_true (by first|(with_reducible assumption)|assumption);obtain ⟨ad202,e202,hx202_0⟩:=Kd.at_int (Kd.R_reads' HO199.out).2.2 t200 p202 q202;cases e202;replace p202:=eq_true p202;replace q202:=eq_true q202;have hnb33:=NB190_183.out;have hnc33:=NB183_190.out;have hnb34:=NB190_0.out;have hnc34:=NB0_190.out;obtain ⟨hcz35_0,hcz35_1,hcz35_2,hcz35_3,hcz35_4,hcz35_5⟩:=bc6 BK190.out;obtain ⟨hfz35_0,hfz35_1,hfz35_2,hfz35_3,hfz35_4,hfz35_5⟩:=bf6 BK190.out))
     (try simp only [Act.put,sA_,s0_,s1_])
     go_cut [] (fun wc=>∃ (kq:Nat) (x1001_27:Int) (x191001_27:Int) (x191004_27:List Int) (u191004:Value),Aside0 (spec_l14Image.j3 kq s0_0 x1001_27 (wrap64 (1+t184)) x191001_27 x191002_5 x191003_5 x191004_27=some (r1,r2,r3,r4,r5,r6,r7))∧Aside0 (kq≤kj5)∧Aside0 (Kd.R (Kd.int .i64) 3 wc w.heap.size (fun _=>True) u191004 x191004_27)∧Aside0 (wc.heap[gb183]?=some (.cells #[.int .i64 0,.int .i64 0,.int .i64 0,.int .i64 0,(.slice none 0 0),(.slice none 0 0)] 27 (0,0)))∧Aside0 (wc.heap[gb190]?=some (.cells #[.int .i64 (wrap64 (1+t184)),.int .i64 x191001_27,.int .i64 x191002_5,.int .i64 x191003_5,u191004,(.slice none 0 0)] 27 (0,0)))∧Aside0 (IsS65 w0 wc g s0_0 x1001_27)∧Aside0 (KeepBut w wc g none)∧Aside0 (Below w0.heap.size w0 wc))
     case first =>
      have H:=HC28.out
      clear HC28
      by_cases c36:(wrap64 (1+t184))=2
      ·rw [if_pos c36] at H
       have c36b0:((wrap64 (1+t184)) == 2)=true:=beq_iff_eq.mpr c36
       have c36b1:((wrap64 (1+t184)) != 2)=false:=bne_eq_false_iff_eq.mpr c36
       clear c36
       (first|rw [c36b0]|(simp only [i64_w,i32_w];rw [c36b0])|skip)
       have H':=aM_ H
       clear H
       have hnb37:=NB190_183.out
       have hnc37:=NB183_190.out
       have hnb38:=NB190_0.out
       have hnc38:=NB0_190.out
       obtain ⟨hcz39_0,hcz39_1,hcz39_2,hcz39_3,hcz39_4,hcz39_5⟩:=bc6 BK190.out
       obtain ⟨hfz39_0,hfz39_1,hfz39_2,hfz39_3,hfz39_4,hfz39_5⟩:=bf6 BK190.out
       go_wp2
       go_meet
       case rel=>exact ⟨_,(t201),(24),(([]:List Int)),(.slice none 0 0),H',⟨by have:=HJ5.out;first|omega|exact Nat.le_refl _⟩,⟨by first|exact Kd.R_nil _ _ _ _ _|exact Kd.N_nil _ _ _ _ _|exact Kd.V_nil _ _ _ _ _|exact Kd.Q_nil _ _ _ _ _|exact Kd.S_nil _ _ _ _ _⟩,⟨by (with_reducible repeat (first|apply kN_|apply kD_|apply kA_));refine blk_far ?_ NB183_190.out _;(with_reducible repeat (first|apply kN_|apply kD_|apply kA_));refine blk_far ?_ NB183_190.out _;(with_reducible repeat (first|apply kN_|apply kD_|apply kA_));exact BK183.out⟩,⟨by (with_reducible repeat (first|apply kN_|apply kD_|apply kA_));refine blk_put (cs:=#[.int .i64 (wrap64 (1+t184)),.int .i64 (rd y197 t200),.int .i64 x191002_5,.int .i64 x191003_5,.slice none 0 0,.slice none 0 0]) ?_ 1 _ rfl;(with_reducible repeat (first|apply kN_|apply kD_|apply kA_));refine blk_put (cs:=#[.int .i64 (wrap64 (1+t184)),.int .i64 0,.int .i64 x191002_5,.int .i64 x191003_5,.slice none 0 0,.slice none 0 0]) ?_ 1 _ rfl;(with_reducible repeat (first|apply kN_|apply kD_|apply kA_));exact BK190.out⟩,⟨by repeat (first|(with_reducible first|exact HI0.out|apply IsS65.alloc|apply IsS65.drewN|apply IsS65.drew|apply IsS65.set_1|refine IsS65.far ?_ NB0_183.out _|refine IsS65.far ?_ NB0_190.out _)|exact HI0.out)⟩,⟨by repeat (first|(with_reducible first|exact HK.out|apply pS_|apply pN_|apply pD_|apply pA_|refine keep_far ?_ GW183.out _|refine keep_far ?_ GW190.out _)|exact HK.out)⟩,⟨by repeat (first|(with_reducible first|exact HB.out|apply wA_|apply wN_|apply wD_|refine below_set ?_ (IsS65.ge HI0.out)|refine below_set ?_ GE183.out|refine below_set ?_ GE190.out)|exact HB.out)⟩⟩
      ·rw [if_neg c36] at H
       have c36b0:((wrap64 (1+t184)) == 2)=false:=beq_eq_false_iff_ne.mpr c36
       have c36b1:((wrap64 (1+t184)) != 2)=true:=bne_iff_ne.mpr c36
       (first|rw [c36b0]|(simp only [i64_w,i32_w];rw [c36b0])|skip)
       by_cases c40:(wrap64 (1+t184))=3
       ·rw [if_pos c40] at H
        have c40b0:((wrap64 (1+t184)) == 3)=true:=beq_iff_eq.mpr c40
        have c40b1:((wrap64 (1+t184)) != 3)=false:=bne_eq_false_iff_eq.mpr c40
        clear c40
        have H':=aM_ H
        clear H
        have hnb41:=NB190_183.out
        have hnc41:=NB183_190.out
        have hnb42:=NB190_0.out
        have hnc42:=NB0_190.out
        obtain ⟨hcz43_0,hcz43_1,hcz43_2,hcz43_3,hcz43_4,hcz43_5⟩:=bc6 BK190.out
        obtain ⟨hfz43_0,hfz43_1,hfz43_2,hfz43_3,hfz43_4,hfz43_5⟩:=bf6 BK190.out
        go_wp2
        go_meet
        case rel=>exact ⟨_,(t201),(32),(([]:List Int)),(.slice none 0 0),H',⟨by have:=HJ5.out;first|omega|exact Nat.le_refl _⟩,⟨by first|exact Kd.R_nil _ _ _ _ _|exact Kd.N_nil _ _ _ _ _|exact Kd.V_nil _ _ _ _ _|exact Kd.Q_nil _ _ _ _ _|exact Kd.S_nil _ _ _ _ _⟩,⟨by (with_reducible repeat (first|apply kN_|apply kD_|apply kA_));refine blk_far ?_ NB183_190.out _;(with_reducible repeat (first|apply kN_|apply kD_|apply kA_));refine blk_far ?_ NB183_190.out _;(with_reducible repeat (first|apply kN_|apply kD_|apply kA_));exact BK183.out⟩,⟨by (with_reducible repeat (first|apply kN_|apply kD_|apply kA_));refine blk_put (cs:=#[.int .i64 (wrap64 (1+t184)),.int .i64 (rd y197 t200),.int .i64 x191002_5,.int .i64 x191003_5,.slice none 0 0,.slice none 0 0]) ?_ 1 _ rfl;(with_reducible repeat (first|apply kN_|apply kD_|apply kA_));refine blk_put (cs:=#[.int .i64 (wrap64 (1+t184)),.int .i64 0,.int .i64 x191002_5,.int .i64 x191003_5,.slice none 0 0,.slice none 0 0]) ?_ 1 _ rfl;(with_reducible repeat (first|apply kN_|apply kD_|apply kA_));exact BK190.out⟩,⟨by repeat (first|(with_reducible first|exact HI0.out|apply IsS65.alloc|apply IsS65.drewN|apply IsS65.drew|apply IsS65.set_1|refine IsS65.far ?_ NB0_183.out _|refine IsS65.far ?_ NB0_190.out _)|exact HI0.out)⟩,⟨by repeat (first|(with_reducible first|exact HK.out|apply pS_|apply pN_|apply pD_|apply pA_|refine keep_far ?_ GW183.out _|refine keep_far ?_ GW190.out _)|exact HK.out)⟩,⟨by repeat (first|(with_reducible first|exact HB.out|apply wA_|apply wN_|apply wD_|refine below_set ?_ (IsS65.ge HI0.out)|refine below_set ?_ GE183.out|refine below_set ?_ GE190.out)|exact HB.out)⟩⟩
       ·rw [if_neg c40] at H
        have c40b0:((wrap64 (1+t184)) == 3)=false:=beq_eq_false_iff_ne.mpr c40
        have c40b1:((wrap64 (1+t184)) != 3)=true:=bne_iff_ne.mpr c40
        by_cases c44:(wrap64 (1+t184))=4
        ·rw [if_pos c44] at H
         have c44b0:((wrap64 (1+t184)) == 4)=true:=beq_iff_eq.mpr c44
         have c44b1:((wrap64 (1+t184)) != 4)=false:=bne_eq_false_iff_eq.mpr c44
         clear c44
         replace H:=Option.bind_eq_some_iff.mp H
         obtain ⟨t203,A450,H⟩:=H
         replace H:((spec_l1Rd_pick.f kj5 s0_0 t201 2).bind fun bt204=>(if bt204.1=0 then ((spec_l1Rd_pick.f kj5 s0_0 bt204.2 t203).bind fun bt206=>(spec_l14Image.j1 kj5 (wrap64 (1+bt206.1)) s0_0 bt206.2 (wrap64 (1+t184)) (rd y197 t200) x191002_5 x191003_5)) else (spec_l14Image.j1 kj5 t203 s0_0 bt204.2 (wrap64 (1+t184)) (rd y197 t200) x191002_5 x191003_5)))=some (r1,r2,r3,r4,r5,r6,r7):=H
         have A45:=aM_ A450
         clear A450
         replace H:=Option.bind_eq_some_iff.mp H
         obtain ⟨⟨t204,t205⟩,A460,H⟩:=H
         replace H:(if t204=0 then ((spec_l1Rd_pick.f kj5 s0_0 t205 t203).bind fun bt206=>(spec_l14Image.j1 kj5 (wrap64 (1+bt206.1)) s0_0 bt206.2 (wrap64 (1+t184)) (rd y197 t200) x191002_5 x191003_5)) else (spec_l14Image.j1 kj5 t203 s0_0 t205 (wrap64 (1+t184)) (rd y197 t200) x191002_5 x191003_5))=some (r1,r2,r3,r4,r5,r6,r7):=H
         have A46:=aM_ A460
         clear A460
         have HC47:=aM_ H
         clear H
         have hnb48:=NB190_183.out
         have hnc48:=NB183_190.out
         have hnb49:=NB190_0.out
         have hnc49:=NB0_190.out
         obtain ⟨hcz50_0,hcz50_1,hcz50_2,hcz50_3,hcz50_4,hcz50_5⟩:=bc6 BK190.out
         obtain ⟨hfz50_0,hfz50_1,hfz50_2,hfz50_3,hfz50_4,hfz50_5⟩:=bf6 BK190.out
         go_upto_if 51 with (first|((with_reducible refine gate_callee (f:=46) rfl ?_);refine goesL_ (some 48) rfl rfl Try.func46 (by kernel_rfl) rfl #[.int .i64 (rd y197 t200)] rfl (by (try simp only [List.map_toArray,List.map_cons,List.map_nil]);first|done|rfl|(simp only [List.length_drop,List.length_take];rfl)) ?_;(with_reducible refine (spec_l1Pow.calls kj5 (rd y197 t200) t203 _ A45.out).mono ?_);rintro e w' ⟨rfl,⟨nd,rfl⟩⟩;refine ⟨_,rfl,?_⟩)|((with_reducible refine gate_callee (f:=68) rfl ?_);refine goesL_ (some 50) rfl rfl Try.func68 (by kernel_rfl) rfl #[.pointer (some ⟨g,0,none⟩),.int .i64 2] rfl (by (try simp only [List.map_toArray,List.map_cons,List.map_nil]);first|done|rfl|(simp only [List.length_drop,List.length_take];rfl)) ?_;(with_reducible refine (spec_l1Rd_pick.calls kj5 g s0_0 t201 2 t204 t205 w0 _ ?side1 ?side2 A46.out).mono ?_);(case side1=>repeat (first|(with_reducible first|exact HI0.out|apply IsS65.alloc|apply IsS65.drewN|apply IsS65.drew|apply IsS65.set_1|refine IsS65.far ?_ NB0_183.out _|refine IsS65.far ?_ NB0_190.out _)|exact HI0.out));(case side2=>repeat (first|(with_reducible first|exact HB.out|apply wA_|apply wN_|apply wD_|refine below_set ?_ (IsS65.ge HI0.out)|refine below_set ?_ GE183.out|refine below_set ?_ GE190.out)|exact HB.out));rintro e w51 ⟨rfl,hi,hb,hk⟩;refine ⟨_,rfl,?_⟩;have n0_:=aM_ (KeepBut.blk hk (g':=gb183) (o:=.cells #[.int .i64 0,.int .i64 0,.int .i64 0,.int .i64 0,.slice none 0 0,.slice none 0 0] 27 (0,0)) (by (with_reducible repeat (first|apply kN_|apply kD_|apply kA_));refine blk_far ?_ NB183_190.out _;(with_reducible repeat (first|apply kN_|apply kD_|apply kA_));exact BK183.out) NB183_0.out (by simp));have n1_:=aM_ (KeepBut.blk hk (g':=gb190) (o:=.cells #[.int .i64 (wrap64 (1+t184)),.int .i64 (rd y197 t200),.int .i64 x191002_5,.int .i64 x191003_5,.slice none 0 0,.slice none 0 0] 27 (0,0)) (by (with_reducible repeat (first|apply kN_|apply kD_|apply kA_));refine blk_put (cs:=#[.int .i64 (wrap64 (1+t184)),.int .i64 0,.int .i64 x191002_5,.int .i64 x191003_5,.slice none 0 0,.slice none 0 0]) ?_ 1 _ rfl;(with_reducible repeat (first|apply kN_|apply kD_|apply kA_));exact BK190.out) NB190_0.out (by simp));have n2_:=aM_ (Kd.R_mono (Kd.R_keep (IsS65.apart (show IsS65 w0 _ g s0_0 t201 from by repeat (first|(with_reducible first|exact HI0.out|apply IsS65.alloc|apply IsS65.drewN|apply IsS65.drew|apply IsS65.set_1|refine IsS65.far ?_ NB0_183.out _|refine IsS65.far ?_ NB0_190.out _)|exact HI0.out)) (by (with_reducible repeat (first|apply rA_|apply rN_|apply rD_));exact (Kd.R_mono (Kd.R_far (Kd.R_types HO199.out BK190.out (by decide)) (fun _ hk=>hk.2) (.int .i64 (rd y197 t200))) (fun _ h_=>h_.1))) (by decide)) hk (fun _ h=>h.2)) (fun _ h=>h.1));have n3_:=aM_ (KeepBut.trans (by repeat (first|(with_reducible first|exact HK.out|apply pS_|apply pN_|apply pD_|apply pA_|refine keep_far ?_ GW183.out _|refine keep_far ?_ GW190.out _)|exact HK.out)) hk (.inl rfl));have n4_:=aM_ (hb);have n5_:=aM_ (hi);clear BK183;clear BK190;clear HO199;clear HK;clear HB;clear HI0;have BK183:=n0_;have BK190:=n1_;have HO199:=n2_;have HK:=n3_;have HB:=n4_;have HI0:=n5_;clear n0_ n1_ n2_ n3_ n4_ n5_;(try clear hb);(try clear hb2);(try clear hk);(try clear hi)))
         (try simp only [Act.put,sA_,s0_,s1_])
         go_cut [4] (fun v4 wc=>∃ (kq:Nat) (x4_46:Int) (x1001_46:Int),v4=.int .i64 x4_46∧Aside0 (spec_l14Image.j1 kq x4_46 s0_0 x1001_46 (wrap64 (1+t184)) (rd y197 t200) x191002_5 x191003_5=some (r1,r2,r3,r4,r5,r6,r7))∧Aside0 (kq≤kj5)∧Aside0 (wc.heap[gb183]?=some (.cells #[.int .i64 0,.int .i64 0,.int .i64 0,.int .i64 0,(.slice none 0 0),(.slice none 0 0)] 27 (0,0)))∧Aside0 (wc.heap[gb190]?=some (.cells #[.int .i64 (wrap64 (1+t184)),.int .i64 (rd y197 t200),.int .i64 x191002_5,.int .i64 x191003_5,(.slice none 0 0),(.slice none 0 0)] 27 (0,0)))∧Aside0 (IsS65 w0 wc g s0_0 x1001_46)∧Aside0 (KeepBut w wc g none)∧Aside0 (Below w0.heap.size w0 wc))
         case first =>
          have H:=HC47.out
          clear HC47
          by_cases c52:t204=0
          ·rw [if_pos c52] at H
           have c52b0:(t204 == 0)=true:=beq_iff_eq.mpr c52
           have c52b1:(t204 != 0)=false:=bne_eq_false_iff_eq.mpr c52
           clear c52
           (first|rw [c52b0]|(simp only [i64_w,i32_w];rw [c52b0])|skip)
           replace H:=Option.bind_eq_some_iff.mp H
           obtain ⟨⟨t206,t207⟩,A530,H⟩:=H
           replace H:(spec_l14Image.j1 kj5 (wrap64 (1+t206)) s0_0 t207 (wrap64 (1+t184)) (rd y197 t200) x191002_5 x191003_5)=some (r1,r2,r3,r4,r5,r6,r7):=H
           have A53:=aM_ A530
           clear A530
           have H':=aM_ H
           clear H
           go_wp2_with (first|((with_reducible refine gate_callee (f:=68) rfl ?_);refine goesL_ (some 54) rfl rfl Try.func68 (by kernel_rfl) rfl #[.pointer (some ⟨g,0,none⟩),.int .i64 t203] rfl (by (try simp only [List.map_toArray,List.map_cons,List.map_nil]);first|done|rfl|(simp only [List.length_drop,List.length_take];rfl)) ?_;(with_reducible refine (spec_l1Rd_pick.calls kj5 g s0_0 t205 t203 t206 t207 w0 _ ?side1 ?side2 A53.out).mono ?_);(case side1=>repeat (first|(with_reducible first|exact HI0.out|apply IsS65.alloc|apply IsS65.drewN|apply IsS65.drew|apply IsS65.set_1|refine IsS65.far ?_ NB0_183.out _|refine IsS65.far ?_ NB0_190.out _)|exact HI0.out));(case side2=>repeat (first|(with_reducible first|exact HB.out|apply wA_|apply wN_|apply wD_|refine below_set ?_ (IsS65.ge HI0.out)|refine below_set ?_ GE183.out|refine below_set ?_ GE190.out)|exact HB.out));rintro e w54 ⟨rfl,hi,hb,hk⟩;refine ⟨_,rfl,?_⟩;have n0_:=aM_ (KeepBut.blk hk (g':=gb183) (o:=.cells #[.int .i64 0,.int .i64 0,.int .i64 0,.int .i64 0,.slice none 0 0,.slice none 0 0] 27 (0,0)) (by (with_reducible repeat (first|apply kN_|apply kD_|apply kA_));exact BK183.out) NB183_0.out (by simp));have n1_:=aM_ (KeepBut.blk hk (g':=gb190) (o:=.cells #[.int .i64 (wrap64 (1+t184)),.int .i64 (rd y197 t200),.int .i64 x191002_5,.int .i64 x191003_5,.slice none 0 0,.slice none 0 0] 27 (0,0)) (by (with_reducible repeat (first|apply kN_|apply kD_|apply kA_));exact BK190.out) NB190_0.out (by simp));have n2_:=aM_ (Kd.R_mono (Kd.R_keep (IsS65.apart (show IsS65 w0 _ g s0_0 t205 from by repeat (first|(with_reducible first|exact HI0.out|apply IsS65.alloc|apply IsS65.drewN|apply IsS65.drew|apply IsS65.set_1|refine IsS65.far ?_ NB0_183.out _|refine IsS65.far ?_ NB0_190.out _)|exact HI0.out)) (by (with_reducible repeat (first|apply rA_|apply rN_|apply rD_));exact HO199.out) (by decide)) hk (fun _ h=>h.2)) (fun _ h=>h.1));have n3_:=aM_ (KeepBut.trans (by repeat (first|(with_reducible first|exact HK.out|apply pS_|apply pN_|apply pD_|apply pA_|refine keep_far ?_ GW183.out _|refine keep_far ?_ GW190.out _)|exact HK.out)) hk (.inl rfl));have n4_:=aM_ (hb);have n5_:=aM_ (hi);clear BK183;clear BK190;clear HO199;clear HK;clear HB;clear HI0;have BK183:=n0_;have BK190:=n1_;have HO199:=n2_;have HK:=n3_;have HB:=n4_;have HI0:=n5_;clear n0_ n1_ n2_ n3_ n4_ n5_;(try clear hb);(try clear hb2);(try clear hk);(try clear hi)))
           go_meet
           case rel=>exact ⟨_,(wrap64 (1+t206)),(t207),(by first|rfl|(simp;done)|(simp [*];done)),H',⟨by have:=HJ5.out;first|omega|exact Nat.le_refl _⟩,⟨by (with_reducible repeat (first|apply kN_|apply kD_|apply kA_));exact BK183.out⟩,⟨by (with_reducible repeat (first|apply kN_|apply kD_|apply kA_));exact BK190.out⟩,⟨by repeat (first|(with_reducible first|exact HI0.out|apply IsS65.alloc|apply IsS65.drewN|apply IsS65.drew|apply IsS65.set_1|refine IsS65.far ?_ NB0_183.out _|refine IsS65.far ?_ NB0_190.out _)|exact HI0.out)⟩,⟨by repeat (first|(with_reducible first|exact HK.out|apply pS_|apply pN_|apply pD_|apply pA_|refine keep_far ?_ GW183.out _|refine keep_far ?_ GW190.out _)|exact HK.out)⟩,⟨by repeat (first|(with_reducible first|exact HB.out|apply wA_|apply wN_|apply wD_|refine below_set ?_ (IsS65.ge HI0.out)|refine below_set ?_ GE183.out|refine below_set ?_ GE190.out)|exact HB.out)⟩⟩
          ·rw [if_neg c52] at H
           have c52b0:(t204 == 0)=false:=beq_eq_false_iff_ne.mpr c52
           have c52b1:(t204 != 0)=true:=bne_iff_ne.mpr c52
           (first|rw [c52b0]|(simp only [i64_w,i32_w];rw [c52b0])|skip)
           have H':=aM_ H
           clear H
           go_wp2
           go_meet
           case rel=>exact ⟨_,(t203),(t205),(by first|rfl|(simp;done)|(simp [*];done)),H',⟨by have:=HJ5.out;first|omega|exact Nat.le_refl _⟩,⟨by (with_reducible repeat (first|apply kN_|apply kD_|apply kA_));exact BK183.out⟩,⟨by (with_reducible repeat (first|apply kN_|apply kD_|apply kA_));exact BK190.out⟩,⟨by repeat (first|(with_reducible first|exact HI0.out|apply IsS65.alloc|apply IsS65.drewN|apply IsS65.drew|apply IsS65.set_1|refine IsS65.far ?_ NB0_183.out _|refine IsS65.far ?_ NB0_190.out _)|exact HI0.out)⟩,⟨by repeat (first|(with_reducible first|exact HK.out|apply pS_|apply pN_|apply pD_|apply pA_|refine keep_far ?_ GW183.out _|refine keep_far ?_ GW190.out _)|exact HK.out)⟩,⟨by repeat (first|(with_reducible first|exact HB.out|apply wA_|apply wN_|apply wD_|refine below_set ?_ (IsS65.ge HI0.out)|refine below_set ?_ GE183.out|refine below_set ?_ GE190.out)|exact HB.out)⟩⟩
         case rest =>
          clear HC47
          try clear c1
          try clear c2
          try clear p2
          try clear q2
          try clear hx2
          try clear c3
          try clear c4
          try clear c5
          try clear c6
          try clear p6
          try clear c7
          try clear c12
          try clear c13
          try clear c16
          try clear c16b0
          try clear c16b1
          try clear c20
          try clear p20
          try clear q20
          try clear hx20
          try clear c21
          try clear c26
          try clear c26b0
          try clear c27
          try clear c27b0
          try clear c33
          try clear c34
          try clear c36
          try clear c36b0
          try clear c36b1
          try clear c37
          try clear c38
          try clear c40
          try clear c40b0
          try clear c40b1
          try clear c41
          try clear c42
          try clear c44
          try clear c44b0
          try clear c44b1
          try clear c46
          try clear c48
          try clear c49
          try clear c52
          try clear c52b0
          try clear c52b1
          try clear hcz14_0 hcz14_1 hcz14_2 hcz14_3 hcz14_4 hcz14_5
          try clear hcz22_0 hcz22_1 hcz22_2 hcz22_3 hcz22_4 hcz22_5
          try clear hcz24_0 hcz24_1 hcz24_2 hcz24_3 hcz24_4 hcz24_5
          try clear hcz35_0 hcz35_1 hcz35_2 hcz35_3 hcz35_4 hcz35_5
          try clear hcz39_0 hcz39_1 hcz39_2 hcz39_3 hcz39_4 hcz39_5
          try clear hcz43_0 hcz43_1 hcz43_2 hcz43_3 hcz43_4 hcz43_5
          try clear hcz50_0 hcz50_1 hcz50_2 hcz50_3 hcz50_4 hcz50_5
          try clear hfz14_0 hfz14_1 hfz14_2 hfz14_3 hfz14_4 hfz14_5
          try clear hfz22_0 hfz22_1 hfz22_2 hfz22_3 hfz22_4 hfz22_5
          try clear hfz24_0 hfz24_1 hfz24_2 hfz24_3 hfz24_4 hfz24_5
          try clear hfz35_0 hfz35_1 hfz35_2 hfz35_3 hfz35_4 hfz35_5
          try clear hfz39_0 hfz39_1 hfz39_2 hfz39_3 hfz39_4 hfz39_5
          try clear hfz43_0 hfz43_1 hfz43_2 hfz43_3 hfz43_4 hfz43_5
          try clear hfz50_0 hfz50_1 hfz50_2 hfz50_3 hfz50_4 hfz50_5
          try clear hx202_0
          try clear p2
          try clear p202
          try clear p6
          try clear q202
          obtain ⟨kq,x4_46,x1001_46,rfl,HA,HJ46,BK183,BK190,HI0,HK,HB⟩:=hcut
          cases kq with
          | zero=>exact absurd HA.out (by simp [spec_l14Image.j1])
          | succ kj46 =>
           have H:=HA.out
           clear HA
           simp only [spec_l14Image.j1] at H
           have H':=aM_ H
           clear H
           go_wp2
           go_loopg [5] kj46 (fun kq v5 w'=>∃ (x5_3:Int) (x1001_3:Int) (x191004_3:List Int) (u191004:Value),v5=.int .i64 x5_3∧Aside0 (spec_l14Image.l0 kq x4_46 x5_3 s0_0 x1001_3 (wrap64 (1+t184)) (rd y197 t200) x191002_5 x191003_5 x191004_3=some (r1,r2,r3,r4,r5,r6,r7))∧Aside0 (kq≤kj46)∧Aside0 (Kd.R (Kd.int .i64) 3 w' w.heap.size (fun _=>True) u191004 x191004_3)∧Aside0 (w'.heap[gb183]?=some (.cells #[.int .i64 0,.int .i64 0,.int .i64 0,.int .i64 0,(.slice none 0 0),(.slice none 0 0)] 27 (0,0)))∧Aside0 (w'.heap[gb190]?=some (.cells #[.int .i64 (wrap64 (1+t184)),.int .i64 (rd y197 t200),.int .i64 x191002_5,.int .i64 x191003_5,u191004,(.slice none 0 0)] 27 (0,0)))∧Aside0 (IsS65 w0 w' g s0_0 x1001_3)∧Aside0 (KeepBut w w' g none)∧Aside0 (Below w0.heap.size w0 w'))
           case atStart=>exact ⟨(0),(x1001_46),(([]:List Int)),(.slice none 0 0),(by first|rfl|(simp;done)|(simp [*];done)),H',⟨Nat.le_refl _⟩,⟨by first|exact Kd.R_nil _ _ _ _ _|exact Kd.N_nil _ _ _ _ _|exact Kd.V_nil _ _ _ _ _|exact Kd.Q_nil _ _ _ _ _|exact Kd.S_nil _ _ _ _ _⟩,⟨by (with_reducible repeat (first|apply kN_|apply kD_|apply kA_));exact BK183.out⟩,⟨by (with_reducible repeat (first|apply kN_|apply kD_|apply kA_));exact BK190.out⟩,⟨by repeat (first|(with_reducible first|exact HI0.out|apply IsS65.alloc|apply IsS65.drewN|apply IsS65.drew|apply IsS65.set_1|refine IsS65.far ?_ NB0_183.out _|refine IsS65.far ?_ NB0_190.out _)|exact HI0.out)⟩,⟨by repeat (first|(with_reducible first|exact HK.out|apply pS_|apply pN_|apply pD_|apply pA_|refine keep_far ?_ GW183.out _|refine keep_far ?_ GW190.out _)|exact HK.out)⟩,⟨by repeat (first|(with_reducible first|exact HB.out|apply wA_|apply wN_|apply wD_|refine below_set ?_ (IsS65.ge HI0.out)|refine below_set ?_ GE183.out|refine below_set ?_ GE190.out)|exact HB.out)⟩⟩
           case round =>
            clear H'
            try clear c1
            try clear c2
            try clear p2
            try clear q2
            try clear hx2
            try clear c3
            try clear c4
            try clear c5
            try clear c6
            try clear p6
            try clear c7
            try clear c12
            try clear c13
            try clear c16
            try clear c16b0
            try clear c16b1
            try clear c20
            try clear p20
            try clear q20
            try clear hx20
            try clear c21
            try clear c26
            try clear c26b0
            try clear c27
            try clear c27b0
            try clear c33
            try clear c34
            try clear c36
            try clear c36b0
            try clear c36b1
            try clear c37
            try clear c38
            try clear c40
            try clear c40b0
            try clear c40b1
            try clear c41
            try clear c42
            try clear c44
            try clear c44b0
            try clear c44b1
            try clear c46
            try clear c48
            try clear c49
            try clear c52
            try clear c52b0
            try clear c52b1
            try clear hcz14_0 hcz14_1 hcz14_2 hcz14_3 hcz14_4 hcz14_5
            try clear hcz22_0 hcz22_1 hcz22_2 hcz22_3 hcz22_4 hcz22_5
            try clear hcz24_0 hcz24_1 hcz24_2 hcz24_3 hcz24_4 hcz24_5
            try clear hcz35_0 hcz35_1 hcz35_2 hcz35_3 hcz35_4 hcz35_5
            try clear hcz39_0 hcz39_1 hcz39_2 hcz39_3 hcz39_4 hcz39_5
            try clear hcz43_0 hcz43_1 hcz43_2 hcz43_3 hcz43_4 hcz43_5
            try clear hcz50_0 hcz50_1 hcz50_2 hcz50_3 hcz50_4 hcz50_5
            try clear hfz14_0 hfz14_1 hfz14_2 hfz14_3 hfz14_4 hfz14_5
            try clear hfz22_0 hfz22_1 hfz22_2 hfz22_3 hfz22_4 hfz22_5
            try clear hfz24_0 hfz24_1 hfz24_2 hfz24_3 hfz24_4 hfz24_5
            try clear hfz35_0 hfz35_1 hfz35_2 hfz35_3 hfz35_4 hfz35_5
            try clear hfz39_0 hfz39_1 hfz39_2 hfz39_3 hfz39_4 hfz39_5
            try clear hfz43_0 hfz43_1 hfz43_2 hfz43_3 hfz43_4 hfz43_5
            try clear hfz50_0 hfz50_1 hfz50_2 hfz50_3 hfz50_4 hfz50_5
            try clear hx202_0
            try clear p2
            try clear p20
            try clear p202
            try clear p6
            try clear q2
            try clear q20
            try clear q202
            obtain ⟨x5_3,x1001_3,x191004_3,u191004,rfl,HA,HK3,HO_191004,BK183,BK190,HI0,HK,HB⟩:=hrel
            cases gk with
            | zero=>exact absurd HA.out (by simp [spec_l14Image.l0])
            | succ k3 =>
             have H:=HA.out
             clear HA
             simp only [spec_l14Image.l0] at H
             by_cases c55:x5_3 < x4_46
             ·rw [if_pos c55] at H
              have c55b0:decide (x5_3 < x4_46)=true:=decide_eq_true c55
              clear c55
              replace H:=Option.bind_eq_some_iff.mp H
              obtain ⟨⟨t208,t209⟩,A560,H⟩:=H
              replace H:((spec_l1Rd_pick.f k3 s0_0 t209 256).bind fun bt210=>((spec_l1Rd_pick.f k3 s0_0 bt210.2 9).bind fun bt212=>(if x191004_3.length < 17592186044416 then (spec_l14Image.l0 k3 x4_46 (wrap64 (x5_3+1)) s0_0 bt212.2 (wrap64 (1+t184)) (rd y197 t200) x191002_5 x191003_5 (x191004_3 ++ [wrap64 ((wrap64 ((wrap64 (t208 * 65536))+(wrap64 (bt210.1 * 256))))+bt212.1)])) else (none))))=some (r1,r2,r3,r4,r5,r6,r7):=H
              have A56:=aM_ A560
              clear A560
              replace H:=Option.bind_eq_some_iff.mp H
              obtain ⟨⟨t210,t211⟩,A570,H⟩:=H
              replace H:((spec_l1Rd_pick.f k3 s0_0 t211 9).bind fun bt212=>(if x191004_3.length < 17592186044416 then (spec_l14Image.l0 k3 x4_46 (wrap64 (x5_3+1)) s0_0 bt212.2 (wrap64 (1+t184)) (rd y197 t200) x191002_5 x191003_5 (x191004_3 ++ [wrap64 ((wrap64 ((wrap64 (t208 * 65536))+(wrap64 (t210 * 256))))+bt212.1)])) else (none)))=some (r1,r2,r3,r4,r5,r6,r7):=H
              have A57:=aM_ A570
              clear A570
              replace H:=Option.bind_eq_some_iff.mp H
              obtain ⟨⟨t212,t213⟩,A580,H⟩:=H
              replace H:(if x191004_3.length < 17592186044416 then (spec_l14Image.l0 k3 x4_46 (wrap64 (x5_3+1)) s0_0 t213 (wrap64 (1+t184)) (rd y197 t200) x191002_5 x191003_5 (x191004_3 ++ [wrap64 ((wrap64 ((wrap64 (t208 * 65536))+(wrap64 (t210 * 256))))+t212)])) else (none))=some (r1,r2,r3,r4,r5,r6,r7):=H
              have A58:=aM_ A580
              clear A580
              by_cases c59:x191004_3.length < 17592186044416
              ·rw [if_pos c59] at H
               have LMc59:=aM_ c59
               clear c59
               obtain ⟨y214,hy214⟩:∃ y_:List Int,y_=(x191004_3 ++ [wrap64 ((wrap64 ((wrap64 (t208 * 65536))+(wrap64 (t210 * 256))))+t212)]):=⟨_,rfl⟩
               replace H:(spec_l14Image.l0 k3 x4_46 (wrap64 (x5_3+1)) s0_0 t213 (wrap64 (1+t184)) (rd y197 t200) x191002_5 x191003_5 y214)=some (r1,r2,r3,r4,r5,r6,r7):=by first|(rw [hy214];with_reducible exact H)|(have H2_:=(Option.bind_some _ _).symm.trans H;rw [hy214];with_reducible exact H2_)|(have H2_:=(Option.bind_some _ _).symm.trans H;with_reducible exact H2_)|with_reducible exact H|(rw [hy214];exact H)|exact H
               have Ny214:=aM_ hy214
               clear hy214
               have H':=aM_ H
               clear H
               try go_wp2
               have n0_:=aM_ (rD_ HO_191004.out)
               have n1_:=aM_ (kD_ BK183.out)
               have n2_:=aM_ (kD_ BK190.out)
               have n3_:=aM_ (IsS65.drew HI0.out)
               have n4_:=aM_ (pD_ HK.out)
               have n5_:=aM_ (wD_ HB.out)
               clear HO_191004
               clear BK183
               clear BK190
               clear HI0
               clear HK
               clear HB
               have HO_191004:=n0_
               have BK183:=n1_
               have BK190:=n2_
               have HI0:=n3_
               have HK:=n4_
               have HB:=n5_
               clear n0_ n1_ n2_ n3_ n4_ n5_
               refine start_ (n:=16) (S:=fun w'=>w'.cell? ⟨gb190,0,none⟩=some (.int .i64 (wrap64 (1+t184)))∧w'.cell? ⟨gb190,1,none⟩=some (.int .i64 (rd y197 t200))∧w'.cell? ⟨gb190,2,none⟩=some (.int .i64 x191002_5)∧w'.cell? ⟨gb190,3,none⟩=some (.int .i64 x191003_5)∧w'.cell? ⟨gb190,4,none⟩=some (u191004)∧w'.cell? ⟨gb190,5,none⟩=some (.slice none 0 0)) (ds:=[15]) #[false,false,false,false,false,false,false,false,false,false,false,false,false,false,false,false] (by kernel_rfl) rfl rfl (bc6 BK190.out) (fun hHeld=>?_);refine with_tabW spec_l14Image.tab18 spec_l14Image.bits18 (fun HT_ HW_=>?_)
               generalize wr.drew=w60 at HO_191004 BK183 BK190 HI0 HK HB hHeld ⊢
               refine pure_ (i:=0) (N:=some 61) (v:=?_) (a':=?_) #[true,false,false,false,false,false,false,false,false,false,false,false,false,false,false,false] rfl rfl (any_of HT_.out (by kernel_rfl)) (fun _ _ _ h=>h) (Or.inl ⟨by rfl,?_⟩) ?_ ?_
               rotate_left
               ·intro w'
                go_simp
                with_reducible rfl
               rotate_left
               ·simp only [Act.put,sA_,s0_,s1_,i64_w,i32_w]
                rfl
               refine pure_ (i:=2) (N:=some 63) (v:=?_) (a':=?_) #[true,false,true,false,false,false,false,false,false,false,false,false,false,false,false,false] rfl rfl (any_of HT_.out (by kernel_rfl)) (fun _ _ _ h=>h) (Or.inl ⟨by rfl,?_⟩) ?_ ?_
               rotate_left
               ·intro w'
                go_simp
                with_reducible rfl
               rotate_left
               ·simp only [Act.put,sA_,s0_,s1_,i64_w,i32_w]
                rfl
               refine pure_ (i:=5) (N:=some 66) (v:=?_) (a':=?_) #[true,false,true,false,false,true,false,false,false,false,false,false,false,false,false,false] rfl rfl (any_of HT_.out (by kernel_rfl)) (fun _ _ _ h=>h) (Or.inl ⟨by rfl,?_⟩) ?_ ?_
               rotate_left
               ·intro w'
                go_simp
                with_reducible rfl
               rotate_left
               ·simp only [Act.put,sA_,s0_,s1_,i64_w,i32_w]
                rfl
               refine pure_ (i:=9) (N:=some 70) (v:=?_) (a':=?_) #[true,false,true,false,false,true,false,false,false,true,false,false,false,false,false,false] rfl rfl (any_of HT_.out (by kernel_rfl)) (fun _ _ _ h=>h) (Or.inl ⟨by rfl,?_⟩) ?_ ?_
               rotate_left
               ·intro w'
                go_simp
                with_reducible rfl
               rotate_left
               ·simp only [Act.put,sA_,s0_,s1_,i64_w,i32_w]
                rfl
               refine take_ (i:=1) (N:=some 62) (v:=?_) (a':=?_) #[true,true,true,false,false,true,false,false,false,true,false,false,false,false,false,false] rfl rfl (take_ofW HT_.out HW_.out (by kernel_rfl)) (fun _ _ _ h=>h) (Or.inl ⟨by rfl,?_⟩) hHeld ?_ ?_
               rotate_left
               ·rintro w' ⟨s0,s1,s2,s3,s4,s5⟩
                go_simp
                with_reducible rfl
               rotate_left
               ·simp only [Act.put,sA_,s0_,s1_,i64_w,i32_w]
                rfl
               refine one_ (i:=3) (N:=some 64) #[true,true,true,true,false,true,false,false,false,true,false,false,false,false,false,false] rfl rfl (one_of HT_.out (by kernel_rfl)) (by decide) (fun K hK=>?_)
               refine goes_ Try.func68 (by kernel_rfl) rfl #[.pointer (some ⟨g,0,none⟩),.int .i64 256] (by rfl) rfl rfl (by (try simp only [List.map_toArray,List.map_cons,List.map_nil]);first|done|rfl|(simp only [List.length_drop,List.length_take];rfl)) ?_
               with_reducible refine (spec_l1Rd_pick.calls k3 g s0_0 x1001_3 256 t208 t209 w0 _ ?side1 ?side2 A56.out).mono ?_
               (case side1=>repeat (first|(with_reducible first|exact HI0.out|apply IsS65.alloc|apply IsS65.drewN|apply IsS65.drew|apply IsS65.set_1|refine IsS65.far ?_ NB0_183.out _|refine IsS65.far ?_ NB0_190.out _)|exact HI0.out))
               (case side2=>repeat (first|(with_reducible first|exact HB.out|apply wA_|apply wN_|apply wD_|refine below_set ?_ (IsS65.ge HI0.out)|refine below_set ?_ GE183.out|refine below_set ?_ GE190.out)|exact HB.out))
               rintro e w61 ⟨rfl,hi,hb,hk⟩
               refine ⟨_,rfl,?_⟩
               have n0_:=aM_ (Kd.R_mono (Kd.R_keep (IsS65.apart (show IsS65 w0 _ g s0_0 x1001_3 from by repeat (first|(with_reducible first|exact HI0.out|apply IsS65.alloc|apply IsS65.drewN|apply IsS65.drew|apply IsS65.set_1|refine IsS65.far ?_ NB0_183.out _|refine IsS65.far ?_ NB0_190.out _)|exact HI0.out)) (by (with_reducible repeat (first|apply rA_|apply rN_|apply rD_));exact HO_191004.out) (by decide)) hk (fun _ h=>h.2)) (fun _ h=>h.1))
               have n1_:=aM_ (KeepBut.blk hk (g':=gb183) (o:=.cells #[.int .i64 0,.int .i64 0,.int .i64 0,.int .i64 0,.slice none 0 0,.slice none 0 0] 27 (0,0)) (by (with_reducible repeat (first|apply kN_|apply kD_|apply kA_));exact BK183.out) NB183_0.out (by simp))
               have n2_:=aM_ (KeepBut.blk hk (g':=gb190) (o:=.cells #[.int .i64 (wrap64 (1+t184)),.int .i64 (rd y197 t200),.int .i64 x191002_5,.int .i64 x191003_5,u191004,.slice none 0 0] 27 (0,0)) (by (with_reducible repeat (first|apply kN_|apply kD_|apply kA_));exact BK190.out) NB190_0.out (by simp))
               have n3_:=aM_ (KeepBut.trans (by repeat (first|(with_reducible first|exact HK.out|apply pS_|apply pN_|apply pD_|apply pA_|refine keep_far ?_ GW183.out _|refine keep_far ?_ GW190.out _)|exact HK.out)) hk (.inl rfl))
               have n4_:=aM_ (hb)
               have n5_:=aM_ (hi)
               clear HO_191004
               clear BK183
               clear BK190
               clear HK
               clear HB
               clear HI0
               have HO_191004:=n0_
               have BK183:=n1_
               have BK190:=n2_
               have HK:=n3_
               have HB:=n4_
               have HI0:=n5_
               clear n0_ n1_ n2_ n3_ n4_ n5_
               (try clear hb)
               (try clear hb2)
               (try clear hk)
               (try clear hi)
               refine hK.out _ _ (bc6 BK190.out) (fun hHeld=>?_)
               clear hK K
               refine norm_ (a':=?_) ?_ ?_
               rotate_left
               ·show Act.put _ (some 64) _=_
                simp only [Act.put,sA_,s0_,s1_,i64_w,i32_w]
                rfl
               refine pure_ (i:=4) (N:=some 65) (v:=?_) (a':=?_) #[true,true,true,true,true,true,false,false,false,true,false,false,false,false,false,false] rfl rfl (any_of HT_.out (by kernel_rfl)) (fun _ _ _ h=>h) (Or.inl ⟨by rfl,?_⟩) ?_ ?_
               rotate_left
               ·intro w'
                go_simp
                with_reducible rfl
               rotate_left
               ·simp only [Act.put,sA_,s0_,s1_,i64_w,i32_w]
                rfl
               refine one_ (i:=6) (N:=some 67) #[true,true,true,true,true,true,true,false,false,true,false,false,false,false,false,false] rfl rfl (one_of HT_.out (by kernel_rfl)) (by decide) (fun K hK=>?_)
               refine goes_ Try.func68 (by kernel_rfl) rfl #[.pointer (some ⟨g,0,none⟩),.int .i64 256] (by rfl) rfl rfl (by (try simp only [List.map_toArray,List.map_cons,List.map_nil]);first|done|rfl|(simp only [List.length_drop,List.length_take];rfl)) ?_
               with_reducible refine (spec_l1Rd_pick.calls k3 g s0_0 t209 256 t210 t211 w0 _ ?side1 ?side2 A57.out).mono ?_
               (case side1=>repeat (first|(with_reducible first|exact HI0.out|apply IsS65.alloc|apply IsS65.drewN|apply IsS65.drew|apply IsS65.set_1|refine IsS65.far ?_ NB0_183.out _|refine IsS65.far ?_ NB0_190.out _)|exact HI0.out))
               (case side2=>repeat (first|(with_reducible first|exact HB.out|apply wA_|apply wN_|apply wD_|refine below_set ?_ (IsS65.ge HI0.out)|refine below_set ?_ GE183.out|refine below_set ?_ GE190.out)|exact HB.out))
               rintro e w62 ⟨rfl,hi,hb,hk⟩
               refine ⟨_,rfl,?_⟩
               have n0_:=aM_ (Kd.R_mono (Kd.R_keep (IsS65.apart (show IsS65 w0 _ g s0_0 t209 from by repeat (first|(with_reducible first|exact HI0.out|apply IsS65.alloc|apply IsS65.drewN|apply IsS65.drew|apply IsS65.set_1|refine IsS65.far ?_ NB0_183.out _|refine IsS65.far ?_ NB0_190.out _)|exact HI0.out)) (by (with_reducible repeat (first|apply rA_|apply rN_|apply rD_));exact HO_191004.out) (by decide)) hk (fun _ h=>h.2)) (fun _ h=>h.1))
               have n1_:=aM_ (KeepBut.blk hk (g':=gb183) (o:=.cells #[.int .i64 0,.int .i64 0,.int .i64 0,.int .i64 0,.slice none 0 0,.slice none 0 0] 27 (0,0)) (by (with_reducible repeat (first|apply kN_|apply kD_|apply kA_));exact BK183.out) NB183_0.out (by simp))
               have n2_:=aM_ (KeepBut.blk hk (g':=gb190) (o:=.cells #[.int .i64 (wrap64 (1+t184)),.int .i64 (rd y197 t200),.int .i64 x191002_5,.int .i64 x191003_5,u191004,.slice none 0 0] 27 (0,0)) (by (with_reducible repeat (first|apply kN_|apply kD_|apply kA_));exact BK190.out) NB190_0.out (by simp))
               have n3_:=aM_ (KeepBut.trans (by repeat (first|(with_reducible first|exact HK.out|apply pS_|apply pN_|apply pD_|apply pA_|refine keep_far ?_ GW183.out _|refine keep_far ?_ GW190.out _)|exact HK.out)) hk (.inl rfl))
               have n4_:=aM_ (hb)
               have n5_:=aM_ (hi)
               clear HO_191004
               clear BK183
               clear BK190
               clear HK
               clear HB
               clear HI0
               have HO_191004:=n0_
               have BK183:=n1_
               have BK190:=n2_
               have HK:=n3_
               have HB:=n4_
               have HI0:=n5_
               clear n0_ n1_ n2_ n3_ n4_ n5_
               (try clear hb)
               (try clear hb2)
               (try clear hk)
               (try clear hi)
               refine hK.out _ _ (bc6 BK190.out) (fun hHeld=>?_)
               clear hK K
               refine norm_ (a':=?_) ?_ ?_
               rotate_left
               ·show Act.put _ (some 67) _=_
                simp only [Act.put,sA_,s0_,s1_,i64_w,i32_w]
                rfl
               refine pure_ (i:=7) (N:=some 68) (v:=?_) (a':=?_) #[true,true,true,true,true,true,true,true,false,true,false,false,false,false,false,false] rfl rfl (any_of HT_.out (by kernel_rfl)) (fun _ _ _ h=>h) (Or.inl ⟨by rfl,?_⟩) ?_ ?_
               rotate_left
               ·intro w'
                go_simp
                with_reducible rfl
               rotate_left
               ·simp only [Act.put,sA_,s0_,s1_,i64_w,i32_w]
                rfl
               refine pure_ (i:=8) (N:=some 69) (v:=?_) (a':=?_) #[true,true,true,true,true,true,true,true,true,true,false,false,false,false,false,false] rfl rfl (any_of HT_.out (by kernel_rfl)) (fun _ _ _ h=>h) (Or.inl ⟨by rfl,?_⟩) ?_ ?_
               rotate_left
               ·intro w'
                go_simp
                with_reducible rfl
               rotate_left
               ·simp only [Act.put,sA_,s0_,s1_,i64_w,i32_w]
                rfl
               refine one_ (i:=10) (N:=some 71) #[true,true,true,true,true,true,true,true,true,true,true,false,false,false,false,false] rfl rfl (one_of HT_.out (by kernel_rfl)) (by decide) (fun K hK=>?_)
               refine goes_ Try.func68 (by kernel_rfl) rfl #[.pointer (some ⟨g,0,none⟩),.int .i64 9] (by rfl) rfl rfl (by (try simp only [List.map_toArray,List.map_cons,List.map_nil]);first|done|rfl|(simp only [List.length_drop,List.length_take];rfl)) ?_
               with_reducible refine (spec_l1Rd_pick.calls k3 g s0_0 t211 9 t212 t213 w0 _ ?side1 ?side2 A58.out).mono ?_
               (case side1=>repeat (first|(with_reducible first|exact HI0.out|apply IsS65.alloc|apply IsS65.drewN|apply IsS65.drew|apply IsS65.set_1|refine IsS65.far ?_ NB0_183.out _|refine IsS65.far ?_ NB0_190.out _)|exact HI0.out))
               (case side2=>repeat (first|(with_reducible first|exact HB.out|apply wA_|apply wN_|apply wD_|refine below_set ?_ (IsS65.ge HI0.out)|refine below_set ?_ GE183.out|refine below_set ?_ GE190.out)|exact HB.out))
               rintro e w63 ⟨rfl,hi,hb,hk⟩
               refine ⟨_,rfl,?_⟩
               have n0_:=aM_ (Kd.R_mono (Kd.R_keep (IsS65.apart (show IsS65 w0 _ g s0_0 t211 from by repeat (first|(with_reducible first|exact HI0.out|apply IsS65.alloc|apply IsS65.drewN|apply IsS65.drew|apply IsS65.set_1|refine IsS65.far ?_ NB0_183.out _|refine IsS65.far ?_ NB0_190.out _)|exact HI0.out)) (by (with_reducible repeat (first|apply rA_|apply rN_|apply rD_));exact HO_191004.out) (by decide)) hk (fun _ h=>h.2)) (fun _ h=>h.1))
               have n1_:=aM_ (KeepBut.blk hk (g':=gb183) (o:=.cells #[.int .i64 0,.int .i64 0,.int .i64 0,.int .i64 0,.slice none 0 0,.slice none 0 0] 27 (0,0)) (by (with_reducible repeat (first|apply kN_|apply kD_|apply kA_));exact BK183.out) NB183_0.out (by simp))
               have n2_:=aM_ (KeepBut.blk hk (g':=gb190) (o:=.cells #[.int .i64 (wrap64 (1+t184)),.int .i64 (rd y197 t200),.int .i64 x191002_5,.int .i64 x191003_5,u191004,.slice none 0 0] 27 (0,0)) (by (with_reducible repeat (first|apply kN_|apply kD_|apply kA_));exact BK190.out) NB190_0.out (by simp))
               have n3_:=aM_ (KeepBut.trans (by repeat (first|(with_reducible first|exact HK.out|apply pS_|apply pN_|apply pD_|apply pA_|refine keep_far ?_ GW183.out _|refine keep_far ?_ GW190.out _)|exact HK.out)) hk (.inl rfl))
               have n4_:=aM_ (hb)
               have n5_:=aM_ (hi)
               clear HO_191004
               clear BK183
               clear BK190
               clear HK
               clear HB
               clear HI0
               have HO_191004:=n0_
               have BK183:=n1_
               have BK190:=n2_
               have HK:=n3_
               have HB:=n4_
               have HI0:=n5_
               clear n0_ n1_ n2_ n3_ n4_ n5_
               (try clear hb)
               (try clear hb2)
               (try clear hk)
               (try clear hi)
               refine hK.out _ _ (bc6 BK190.out) (fun hHeld=>?_)
               clear hK K
               refine norm_ (a':=?_) ?_ ?_
               rotate_left
               ·show Act.put _ (some 71) _=_
                simp only [Act.put,sA_,s0_,s1_,i64_w,i32_w]
                rfl
               refine pure_ (i:=11) (N:=some 72) (v:=?_) (a':=?_) #[true,true,true,true,true,true,true,true,true,true,true,true,false,false,false,false] rfl rfl (any_of HT_.out (by kernel_rfl)) (fun _ _ _ h=>h) (Or.inl ⟨by rfl,?_⟩) ?_ ?_
               rotate_left
               ·intro w'
                go_simp
                with_reducible rfl
               rotate_left
               ·simp only [Act.put,sA_,s0_,s1_,i64_w,i32_w]
                rfl
               refine one_ (i:=12) (N:=some 73) #[true,true,true,true,true,true,true,true,true,true,true,true,true,false,false,false] rfl rfl (one_of HT_.out (by kernel_rfl)) (by decide) (fun K hK=>?_)
               refine value_ (w1:=?_) (v:=?_) (by rfl) rfl ?_ ?_
               rotate_left 2
               ·go_simp
                constructor
                ·rfl
                ·rfl
               refine hK.out _ _ ⟨(blk_cell (kA_ BK190.out _) 0).trans rfl,(blk_cell (kA_ BK190.out _) 1).trans rfl,(blk_cell (kA_ BK190.out _) 2).trans rfl,(blk_cell (kA_ BK190.out _) 3).trans rfl,(blk_cell (kA_ BK190.out _) 4).trans rfl,(blk_cell (kA_ BK190.out _) 5).trans rfl⟩ (fun hHeld=>?_)
               clear hK K
               refine norm_ (a':=?_) ?_ ?_
               rotate_left
               ·show Act.put _ (some 73) _=_
                simp only [Act.put,sA_,s0_,s1_,i64_w,i32_w]
                rfl
               refine one_ (i:=13) (N:=some 74) #[true,true,true,true,true,true,true,true,true,true,true,true,true,true,false,false] rfl rfl (one_of HT_.out (by kernel_rfl)) (by decide) (fun K hK=>?_)
               refine Kd.R_append_step (Kd.int .i64) w.heap.size (by rfl) (.tmp 62) (.tmp 73) 22 3 (.int .i64 0) 8 rfl Try.underlying22 info3 rfl (by decide) (by omega) u191004 x191004_3 (wrap64 ((wrap64 ((wrap64 (t208 * 65536))+(wrap64 (t210 * 256))))+t212)) [.int .i64 (wrap64 ((wrap64 ((wrap64 (t208 * 65536))+(wrap64 (t210 * 256))))+t212))] (fun _=>True) (fun _=>False) rfl rfl ?aP (fun _ hk=>hk.elim) ?aF ?aO (Below.refl _ _) ?aS ?aL ?_
               (case aP=>exact rfl)
               (case aF=>exact (fun _ _=>trivial))
               (case aO=>exact (by (with_reducible repeat (first|apply rA_|apply rN_|apply rD_));exact HO_191004.out))
               (case aS=>exact (keep_size (w:=w) (g:=g) (row:=none) (by repeat (first|(with_reducible first|exact HK.out|apply pS_|apply pN_|apply pD_|apply pA_|refine keep_far ?_ GW183.out _|refine keep_far ?_ GW190.out _)|exact HK.out))))
               (case aL=>have:=LMc59.out;omega)
               intro v215 w64 ho hb hg hat
               rw [← Ny214.out] at ho
               have n0_:=aM_ (blk_grown (g:=gb183) (o:=.cells #[.int .i64 0,.int .i64 0,.int .i64 0,.int .i64 0,.slice none 0 0,.slice none 0 0] 27 (0,0)) (by (with_reducible repeat (first|apply kN_|apply kD_|apply kA_));exact BK183.out) hg (Kd.R_ne HO_191004.out BK183.out (by decide)))
               have n1_:=aM_ (blk_grown (g:=gb190) (o:=.cells #[.int .i64 (wrap64 (1+t184)),.int .i64 (rd y197 t200),.int .i64 x191002_5,.int .i64 x191003_5,u191004,.slice none 0 0] 27 (0,0)) (by (with_reducible repeat (first|apply kN_|apply kD_|apply kA_));exact BK190.out) hg (Kd.R_ne HO_191004.out BK190.out (by decide)))
               have n2_:=aM_ (IsS65.grown (by repeat (first|(with_reducible first|exact HI0.out|apply IsS65.alloc|apply IsS65.drewN|apply IsS65.drew|apply IsS65.set_1|refine IsS65.far ?_ NB0_183.out _|refine IsS65.far ?_ NB0_190.out _)|exact HI0.out)) hg (IsS65.own_ne HI0.out HO_191004.out (by decide)))
               have n3_:=aM_ (below_weaken (by repeat (first|(with_reducible first|exact HB.out|apply wA_|apply wN_|apply wD_|refine below_set ?_ (IsS65.ge HI0.out)|refine below_set ?_ GE183.out|refine below_set ?_ GE190.out)|exact HB.out)) HL.out hb)
               have n4_:=aM_ (KeepBut.trans (by repeat (first|(with_reducible first|exact HK.out|apply pS_|apply pN_|apply pD_|apply pA_|refine keep_far ?_ GW183.out _|refine keep_far ?_ GW190.out _)|exact HK.out)) (KeepBut.of_grown hg g) (Kd.R_base2 HO_191004.out))
               have n5_:=aM_ (ho)
               clear BK183
               clear BK190
               clear HI0
               clear HB
               clear HK
               clear HO_191004
               have BK183:=n0_
               have BK190:=n1_
               have HI0:=n2_
               have HB:=n3_
               have HK:=n4_
               have HO216:=n5_
               clear n0_ n1_ n2_ n3_ n4_ n5_
               clear ho hb hg hat
               obtain ⟨Ao65,co65,eo65⟩:=Kd.R_slice HO216.out
               (first|subst eo65|(injection eo65 with f1_ f2_ f3_;have f4_:=f1_.symm;have f5_:=f3_.symm;clear f1_ f2_ f3_;subst f4_;subst f5_))
               refine hK.out _ _ (bc6 BK190.out) (fun hHeld=>?_)
               clear hK K
               refine norm_ (a':=?_) ?_ ?_
               rotate_left
               ·show Act.put _ (some 74) _=_
                simp only [Act.put,sA_,s0_,s1_,i64_w,i32_w]
                rfl
               refine pure_ (i:=14) (N:=some 75) (v:=?_) (a':=?_) #[true,true,true,true,true,true,true,true,true,true,true,true,true,true,true,false] rfl rfl (any_of HT_.out (by kernel_rfl)) (fun _ _ _ h=>h) (Or.inl ⟨by rfl,?_⟩) ?_ ?_
               rotate_left
               ·intro w'
                go_simp
                with_reducible rfl
               rotate_left
               ·simp only [Act.put,sA_,s0_,s1_,i64_w,i32_w]
                rfl
               refine last_ (i:=15) (N:=none) #[true,true,true,true,true,true,true,true,true,true,true,true,true,true,true,true] rfl rfl (one_of HT_.out (by kernel_rfl)) (by decide) (fun K hK=>?_)
               have hs66:w64.cell? ⟨gb190,4,none⟩=some (u191004):=(blk_cell BK190.out 4).trans rfl
               have hfs66:=blk_frozen BK190.out 4
               have hns66_0:=NB183_190.out
               have hms66_0:=NB190_183.out
               refine skip_ (w1:=?_) (by rfl) rfl ?_ ?_
               rotate_left
               ·go_simp
                rfl
               refine hK.out _ _ ?_
               clear hK K
               refine done_ (done_of HT_.out (by kernel_rfl)) ?_
               try go_wp2
               go_roundg k3
               case measure=>have:=HJ5.out;have:=HJ46.out;have:=HK3.out;omega
               case rel=>exact ⟨(wrap64 (x5_3+1)),(t213),(y214),(.slice Ao65 y214.length co65),(by first|rfl|(simp;done)|(simp [*];done)),H',⟨by have:=HJ5.out;have:=HJ46.out;have:=HK3.out;omega⟩,⟨by (with_reducible repeat (first|apply rA_|apply rN_|apply rD_));exact Kd.R_mono (Kd.R_far (Kd.R_types HO216.out BK190.out (by decide)) (fun _ hk=>hk.2) _) (fun _ hk=>trivial)⟩,⟨by (with_reducible repeat (first|apply kN_|apply kD_|apply kA_));refine blk_far ?_ NB183_190.out _;(with_reducible repeat (first|apply kN_|apply kD_|apply kA_));exact BK183.out⟩,⟨by (with_reducible repeat (first|apply kN_|apply kD_|apply kA_));refine blk_put (cs:=#[.int .i64 (wrap64 (1+t184)),.int .i64 (rd y197 t200),.int .i64 x191002_5,.int .i64 x191003_5,u191004,.slice none 0 0]) ?_ 4 _ rfl;(with_reducible repeat (first|apply kN_|apply kD_|apply kA_));exact BK190.out⟩,⟨by repeat (first|(with_reducible first|exact HI0.out|apply IsS65.alloc|apply IsS65.drewN|apply IsS65.drew|apply IsS65.set_1|refine IsS65.far ?_ NB0_183.out _|refine IsS65.far ?_ NB0_190.out _)|exact HI0.out)⟩,⟨by repeat (first|(with_reducible first|exact HK.out|apply pS_|apply pN_|apply pD_|apply pA_|refine keep_far ?_ GW183.out _|refine keep_far ?_ GW190.out _)|exact HK.out)⟩,⟨by repeat (first|(with_reducible first|exact HB.out|apply wA_|apply wN_|apply wD_|refine below_set ?_ (IsS65.ge HI0.out)|refine below_set ?_ GE183.out|refine below_set ?_ GE190.out)|exact HB.out)⟩⟩
              ·rw [if_neg c59] at H
               exact absurd H (by simp)
             ·rw [if_neg c55] at H
              have c55b0:decide (x5_3 < x4_46)=false:=decide_eq_false c55
              clear c55
              have H':=aM_ H
              clear H
              go_wp2
              go_meet
              case rel=>exact ⟨_,(x1001_3),((rd y197 t200)),(x191004_3),(u191004),H',⟨by have:=HJ5.out;have:=HJ46.out;have:=HK3.out;first|omega|exact Nat.le_refl _⟩,⟨by (with_reducible repeat (first|apply rA_|apply rN_|apply rD_));exact HO_191004.out⟩,⟨by (with_reducible repeat (first|apply kN_|apply kD_|apply kA_));exact BK183.out⟩,⟨by (with_reducible repeat (first|apply kN_|apply kD_|apply kA_));exact BK190.out⟩,⟨by repeat (first|(with_reducible first|exact HI0.out|apply IsS65.alloc|apply IsS65.drewN|apply IsS65.drew|apply IsS65.set_1|refine IsS65.far ?_ NB0_183.out _|refine IsS65.far ?_ NB0_190.out _)|exact HI0.out)⟩,⟨by repeat (first|(with_reducible first|exact HK.out|apply pS_|apply pN_|apply pD_|apply pA_|refine keep_far ?_ GW183.out _|refine keep_far ?_ GW190.out _)|exact HK.out)⟩,⟨by repeat (first|(with_reducible first|exact HB.out|apply wA_|apply wN_|apply wD_|refine below_set ?_ (IsS65.ge HI0.out)|refine below_set ?_ GE183.out|refine below_set ?_ GE190.out)|exact HB.out)⟩⟩
        ·rw [if_neg c44] at H
         have c44b0:((wrap64 (1+t184)) == 4)=false:=beq_eq_false_iff_ne.mpr c44
         have c44b1:((wrap64 (1+t184)) != 4)=true:=bne_iff_ne.mpr c44
         have H':=aM_ H
         clear H
         go_wp2
         go_meet
         case rel=>exact ⟨_,(t201),(rd y197 t200),(([]:List Int)),(.slice none 0 0),H',⟨by have:=HJ5.out;first|omega|exact Nat.le_refl _⟩,⟨by first|exact Kd.R_nil _ _ _ _ _|exact Kd.N_nil _ _ _ _ _|exact Kd.V_nil _ _ _ _ _|exact Kd.Q_nil _ _ _ _ _|exact Kd.S_nil _ _ _ _ _⟩,⟨by (with_reducible repeat (first|apply kN_|apply kD_|apply kA_));refine blk_far ?_ NB183_190.out _;(with_reducible repeat (first|apply kN_|apply kD_|apply kA_));exact BK183.out⟩,⟨by (with_reducible repeat (first|apply kN_|apply kD_|apply kA_));refine blk_put (cs:=#[.int .i64 (wrap64 (1+t184)),.int .i64 0,.int .i64 x191002_5,.int .i64 x191003_5,.slice none 0 0,.slice none 0 0]) ?_ 1 _ rfl;(with_reducible repeat (first|apply kN_|apply kD_|apply kA_));exact BK190.out⟩,⟨by repeat (first|(with_reducible first|exact HI0.out|apply IsS65.alloc|apply IsS65.drewN|apply IsS65.drew|apply IsS65.set_1|refine IsS65.far ?_ NB0_183.out _|refine IsS65.far ?_ NB0_190.out _)|exact HI0.out)⟩,⟨by repeat (first|(with_reducible first|exact HK.out|apply pS_|apply pN_|apply pD_|apply pA_|refine keep_far ?_ GW183.out _|refine keep_far ?_ GW190.out _)|exact HK.out)⟩,⟨by repeat (first|(with_reducible first|exact HB.out|apply wA_|apply wN_|apply wD_|refine below_set ?_ (IsS65.ge HI0.out)|refine below_set ?_ GE183.out|refine below_set ?_ GE190.out)|exact HB.out)⟩⟩
     case rest =>
      clear HC28
      try clear c1
      try clear c2
      try clear p2
      try clear q2
      try clear hx2
      try clear c3
      try clear c4
      try clear c5
      try clear c6
      try clear p6
      try clear c7
      try clear c12
      try clear c13
      try clear c16
      try clear c16b0
      try clear c16b1
      try clear c20
      try clear p20
      try clear q20
      try clear hx20
      try clear c21
      try clear c26
      try clear c26b0
      try clear c27
      try clear c27b0
      try clear c33
      try clear c34
      try clear c36
      try clear c36b0
      try clear c36b1
      try clear c37
      try clear c38
      try clear c40
      try clear c40b0
      try clear c40b1
      try clear c41
      try clear c42
      try clear c44
      try clear c44b0
      try clear c44b1
      try clear c46
      try clear c48
      try clear c49
      try clear c52
      try clear c52b0
      try clear c52b1
      try clear c55
      try clear c55b0
      try clear c59
      try clear p64
      try clear hcz14_0 hcz14_1 hcz14_2 hcz14_3 hcz14_4 hcz14_5
      try clear hcz22_0 hcz22_1 hcz22_2 hcz22_3 hcz22_4 hcz22_5
      try clear hcz24_0 hcz24_1 hcz24_2 hcz24_3 hcz24_4 hcz24_5
      try clear hcz35_0 hcz35_1 hcz35_2 hcz35_3 hcz35_4 hcz35_5
      try clear hcz39_0 hcz39_1 hcz39_2 hcz39_3 hcz39_4 hcz39_5
      try clear hcz43_0 hcz43_1 hcz43_2 hcz43_3 hcz43_4 hcz43_5
      try clear hcz50_0 hcz50_1 hcz50_2 hcz50_3 hcz50_4 hcz50_5
      try clear hfz14_0 hfz14_1 hfz14_2 hfz14_3 hfz14_4 hfz14_5
      try clear hfz22_0 hfz22_1 hfz22_2 hfz22_3 hfz22_4 hfz22_5
      try clear hfz24_0 hfz24_1 hfz24_2 hfz24_3 hfz24_4 hfz24_5
      try clear hfz35_0 hfz35_1 hfz35_2 hfz35_3 hfz35_4 hfz35_5
      try clear hfz39_0 hfz39_1 hfz39_2 hfz39_3 hfz39_4 hfz39_5
      try clear hfz43_0 hfz43_1 hfz43_2 hfz43_3 hfz43_4 hfz43_5
      try clear hfz50_0 hfz50_1 hfz50_2 hfz50_3 hfz50_4 hfz50_5
      try clear hx202_0
      try clear p2
      try clear p20
      try clear p202
      try clear p6
      try clear q2
      try clear q20
      try clear q202
      obtain ⟨kq,x1001_27,x191001_27,x191004_27,u191004,HA,HJ27,HO_191004,BK183,BK190,HI0,HK,HB⟩:=hcut
      cases kq with
      | zero=>exact absurd HA.out (by simp [spec_l14Image.j3])
      | succ kj27 =>
       have H:=HA.out
       clear HA
       simp only [spec_l14Image.j3] at H
       replace H:=Option.bind_eq_some_iff.mp H
       obtain ⟨t217,A670,H⟩:=H
       replace H:(if (wrap64 (1+t184))=4 then (spec_l14Image.j4 kj27 (x191004_27.length:Int) s0_0 x1001_27 (wrap64 (1+t184)) x191001_27 x191002_5 x191003_5 x191004_27) else (spec_l14Image.j4 kj27 t217 s0_0 x1001_27 (wrap64 (1+t184)) x191001_27 x191002_5 x191003_5 x191004_27))=some (r1,r2,r3,r4,r5,r6,r7):=H
       have A67:=aM_ A670
       clear A670
       have HC68:=aM_ H
       clear H
       have hnb69:=NB190_183.out
       have hnc69:=NB183_190.out
       have hnb70:=NB190_0.out
       have hnc70:=NB0_190.out
       obtain ⟨hcz71_0,hcz71_1,hcz71_2,hcz71_3,hcz71_4,hcz71_5⟩:=bc6 BK190.out
       obtain ⟨hfz71_0,hfz71_1,hfz71_2,hfz71_3,hfz71_4,hfz71_5⟩:=bf6 BK190.out
       go_upto_if 81 with (first|((with_reducible refine gate_callee (f:=46) rfl ?_);refine goesL_ (some 78) rfl rfl Try.func46 (by kernel_rfl) rfl #[.int .i64 x191001_27] rfl (by (try simp only [List.map_toArray,List.map_cons,List.map_nil]);first|done|rfl|(simp only [List.length_drop,List.length_take];rfl)) ?_;(with_reducible refine (spec_l1Pow.calls kj27 x191001_27 t217 _ A67.out).mono ?_);rintro e w' ⟨rfl,⟨nd,rfl⟩⟩;refine ⟨_,rfl,?_⟩))
       (try simp only [Act.put,sA_,s0_,s1_])
       go_cut [6] (fun v6 wc=>∃ (kq:Nat) (x6_67:Int),v6=.int .i64 x6_67∧Aside0 (spec_l14Image.j4 kq x6_67 s0_0 x1001_27 (wrap64 (1+t184)) x191001_27 x191002_5 x191003_5 x191004_27=some (r1,r2,r3,r4,r5,r6,r7))∧Aside0 (kq≤kj27)∧Aside0 (Kd.R (Kd.int .i64) 3 wc w.heap.size (fun _=>True) u191004 x191004_27)∧Aside0 (wc.heap[gb183]?=some (.cells #[.int .i64 0,.int .i64 0,.int .i64 0,.int .i64 0,(.slice none 0 0),(.slice none 0 0)] 27 (0,0)))∧Aside0 (wc.heap[gb190]?=some (.cells #[.int .i64 (wrap64 (1+t184)),.int .i64 x191001_27,.int .i64 x191002_5,.int .i64 x191003_5,u191004,(.slice none 0 0)] 27 (0,0)))∧Aside0 (IsS65 w0 wc g s0_0 x1001_27)∧Aside0 (KeepBut w wc g none)∧Aside0 (Below w0.heap.size w0 wc))
       case first =>
        have H:=HC68.out
        clear HC68
        by_cases c72:(wrap64 (1+t184))=4
        ·rw [if_pos c72] at H
         have c72b0:((wrap64 (1+t184)) == 4)=true:=beq_iff_eq.mpr c72
         have c72b1:((wrap64 (1+t184)) != 4)=false:=bne_eq_false_iff_eq.mpr c72
         clear c72
         (first|rw [c72b0]|(simp only [i64_w,i32_w];rw [c72b0])|skip)
         have H':=aM_ H
         clear H
         have hnb73:=NB190_183.out
         have hnc73:=NB183_190.out
         have hnb74:=NB190_0.out
         have hnc74:=NB0_190.out
         obtain ⟨hcz75_0,hcz75_1,hcz75_2,hcz75_3,hcz75_4,hcz75_5⟩:=bc6 BK190.out
         obtain ⟨hfz75_0,hfz75_1,hfz75_2,hfz75_3,hfz75_4,hfz75_5⟩:=bf6 BK190.out
         obtain ⟨Ao76,co76,eo76⟩:=Kd.R_slice HO_191004.out
         subst eo76
         go_wp2
         go_meet
         case rel=>exact ⟨_,((x191004_27.length:Int)),(by first|rfl|(simp;done)|(simp [*];done)),H',⟨by have:=HJ5.out;have:=HJ27.out;first|omega|exact Nat.le_refl _⟩,⟨by (with_reducible repeat (first|apply rA_|apply rN_|apply rD_));exact HO_191004.out⟩,⟨by (with_reducible repeat (first|apply kN_|apply kD_|apply kA_));exact BK183.out⟩,⟨by (with_reducible repeat (first|apply kN_|apply kD_|apply kA_));exact BK190.out⟩,⟨by repeat (first|(with_reducible first|exact HI0.out|apply IsS65.alloc|apply IsS65.drewN|apply IsS65.drew|apply IsS65.set_1|refine IsS65.far ?_ NB0_183.out _|refine IsS65.far ?_ NB0_190.out _)|exact HI0.out)⟩,⟨by repeat (first|(with_reducible first|exact HK.out|apply pS_|apply pN_|apply pD_|apply pA_|refine keep_far ?_ GW183.out _|refine keep_far ?_ GW190.out _)|exact HK.out)⟩,⟨by repeat (first|(with_reducible first|exact HB.out|apply wA_|apply wN_|apply wD_|refine below_set ?_ (IsS65.ge HI0.out)|refine below_set ?_ GE183.out|refine below_set ?_ GE190.out)|exact HB.out)⟩⟩
        ·rw [if_neg c72] at H
         have c72b0:((wrap64 (1+t184)) == 4)=false:=beq_eq_false_iff_ne.mpr c72
         have c72b1:((wrap64 (1+t184)) != 4)=true:=bne_iff_ne.mpr c72
         (first|rw [c72b0]|(simp only [i64_w,i32_w];rw [c72b0])|skip)
         have H':=aM_ H
         clear H
         go_wp2
         go_meet
         case rel=>exact ⟨_,(t217),(by first|rfl|(simp;done)|(simp [*];done)),H',⟨by have:=HJ5.out;have:=HJ27.out;first|omega|exact Nat.le_refl _⟩,⟨by (with_reducible repeat (first|apply rA_|apply rN_|apply rD_));exact HO_191004.out⟩,⟨by (with_reducible repeat (first|apply kN_|apply kD_|apply kA_));exact BK183.out⟩,⟨by (with_reducible repeat (first|apply kN_|apply kD_|apply kA_));exact BK190.out⟩,⟨by repeat (first|(with_reducible first|exact HI0.out|apply IsS65.alloc|apply IsS65.drewN|apply IsS65.drew|apply IsS65.set_1|refine IsS65.far ?_ NB0_183.out _|refine IsS65.far ?_ NB0_190.out _)|exact HI0.out)⟩,⟨by repeat (first|(with_reducible first|exact HK.out|apply pS_|apply pN_|apply pD_|apply pA_|refine keep_far ?_ GW183.out _|refine keep_far ?_ GW190.out _)|exact HK.out)⟩,⟨by repeat (first|(with_reducible first|exact HB.out|apply wA_|apply wN_|apply wD_|refine below_set ?_ (IsS65.ge HI0.out)|refine below_set ?_ GE183.out|refine below_set ?_ GE190.out)|exact HB.out)⟩⟩
       case rest =>
        clear HC68
        try clear c1
        try clear c2
        try clear p2
        try clear q2
        try clear hx2
        try clear c3
        try clear c4
        try clear c5
        try clear c6
        try clear p6
        try clear c7
        try clear c12
        try clear c13
        try clear c16
        try clear c16b0
        try clear c16b1
        try clear c20
        try clear p20
        try clear q20
        try clear hx20
        try clear c21
        try clear c26
        try clear c26b0
        try clear c27
        try clear c27b0
        try clear c33
        try clear c34
        try clear c36
        try clear c36b0
        try clear c36b1
        try clear c37
        try clear c38
        try clear c40
        try clear c40b0
        try clear c40b1
        try clear c41
        try clear c42
        try clear c44
        try clear c44b0
        try clear c44b1
        try clear c46
        try clear c48
        try clear c49
        try clear c52
        try clear c52b0
        try clear c52b1
        try clear c55
        try clear c55b0
        try clear c59
        try clear p64
        try clear c68
        try clear c69
        try clear c70
        try clear c72
        try clear c72b0
        try clear c72b1
        try clear c73
        try clear c74
        try clear hcz14_0 hcz14_1 hcz14_2 hcz14_3 hcz14_4 hcz14_5
        try clear hcz22_0 hcz22_1 hcz22_2 hcz22_3 hcz22_4 hcz22_5
        try clear hcz24_0 hcz24_1 hcz24_2 hcz24_3 hcz24_4 hcz24_5
        try clear hcz35_0 hcz35_1 hcz35_2 hcz35_3 hcz35_4 hcz35_5
        try clear hcz39_0 hcz39_1 hcz39_2 hcz39_3 hcz39_4 hcz39_5
        try clear hcz43_0 hcz43_1 hcz43_2 hcz43_3 hcz43_4 hcz43_5
        try clear hcz50_0 hcz50_1 hcz50_2 hcz50_3 hcz50_4 hcz50_5
        try clear hcz71_0 hcz71_1 hcz71_2 hcz71_3 hcz71_4 hcz71_5
        try clear hcz75_0 hcz75_1 hcz75_2 hcz75_3 hcz75_4 hcz75_5
        try clear hfz14_0 hfz14_1 hfz14_2 hfz14_3 hfz14_4 hfz14_5
        try clear hfz22_0 hfz22_1 hfz22_2 hfz22_3 hfz22_4 hfz22_5
        try clear hfz24_0 hfz24_1 hfz24_2 hfz24_3 hfz24_4 hfz24_5
        try clear hfz35_0 hfz35_1 hfz35_2 hfz35_3 hfz35_4 hfz35_5
        try clear hfz39_0 hfz39_1 hfz39_2 hfz39_3 hfz39_4 hfz39_5
        try clear hfz43_0 hfz43_1 hfz43_2 hfz43_3 hfz43_4 hfz43_5
        try clear hfz50_0 hfz50_1 hfz50_2 hfz50_3 hfz50_4 hfz50_5
        try clear hfz71_0 hfz71_1 hfz71_2 hfz71_3 hfz71_4 hfz71_5
        try clear hfz75_0 hfz75_1 hfz75_2 hfz75_3 hfz75_4 hfz75_5
        try clear hx202_0
        try clear p2
        try clear p20
        try clear p202
        try clear p6
        try clear p64
        try clear q2
        try clear q20
        try clear q202
        obtain ⟨kq,x6_67,rfl,HA,HJ67,HO_191004,BK183,BK190,HI0,HK,HB⟩:=hcut
        cases kq with
        | zero=>exact absurd HA.out (by simp [spec_l14Image.j4])
        | succ kj67 =>
         have H:=HA.out
         clear HA
         simp only [spec_l14Image.j4] at H
         have H':=aM_ H
         clear H
         go_wp2
         go_loopg [7,8] kj67 (fun kq v7 v8 w'=>∃ (x7_4:Int) (x8_4:Int) (x1001_4:Int) (x191005_4:List Int) (u191005:Value),v7=.int .i64 x7_4∧v8=.int .i64 x8_4∧Aside0 (spec_l14Image.l1 kq x6_67 x7_4 x8_4 s0_0 x1001_4 (wrap64 (1+t184)) x191001_27 x191002_5 x191003_5 x191004_27 x191005_4=some (r1,r2,r3,r4,r5,r6,r7))∧Aside0 (kq≤kj67)∧Aside0 (Kd.R (Kd.int .i64) 3 w' w.heap.size (fun k_=>some k_≠(u191005:Value).ownBlock) u191004 x191004_27)∧Aside0 (Kd.R (Kd.int .i64) 3 w' w.heap.size (fun k_=>some k_≠(u191004:Value).ownBlock) u191005 x191005_4)∧Aside0 (w'.heap[gb183]?=some (.cells #[.int .i64 0,.int .i64 0,.int .i64 0,.int .i64 0,(.slice none 0 0),(.slice none 0 0)] 27 (0,0)))∧Aside0 (w'.heap[gb190]?=some (.cells #[.int .i64 (wrap64 (1+t184)),.int .i64 x191001_27,.int .i64 x191002_5,.int .i64 x191003_5,u191004,u191005] 27 (0,0)))∧Aside0 (IsS65 w0 w' g s0_0 x1001_4)∧Aside0 (KeepBut w w' g none)∧Aside0 (Below w0.heap.size w0 w'))
         case atStart=>exact ⟨(0),(0),(x1001_27),(([]:List Int)),(.slice none 0 0),(by first|rfl|(simp;done)|(simp [*];done)),(by first|rfl|(simp;done)|(simp [*];done)),H',⟨Nat.le_refl _⟩,⟨by (with_reducible repeat (first|apply rA_|apply rN_|apply rD_));exact Kd.R_mono HO_191004.out (fun _ hk=>(by simp [Value.ownBlock]))⟩,⟨by first|exact Kd.R_nil _ _ _ _ _|exact Kd.N_nil _ _ _ _ _|exact Kd.V_nil _ _ _ _ _|exact Kd.Q_nil _ _ _ _ _|exact Kd.S_nil _ _ _ _ _⟩,⟨by (with_reducible repeat (first|apply kN_|apply kD_|apply kA_));exact BK183.out⟩,⟨by (with_reducible repeat (first|apply kN_|apply kD_|apply kA_));exact BK190.out⟩,⟨by repeat (first|(with_reducible first|exact HI0.out|apply IsS65.alloc|apply IsS65.drewN|apply IsS65.drew|apply IsS65.set_1|refine IsS65.far ?_ NB0_183.out _|refine IsS65.far ?_ NB0_190.out _)|exact HI0.out)⟩,⟨by repeat (first|(with_reducible first|exact HK.out|apply pS_|apply pN_|apply pD_|apply pA_|refine keep_far ?_ GW183.out _|refine keep_far ?_ GW190.out _)|exact HK.out)⟩,⟨by repeat (first|(with_reducible first|exact HB.out|apply wA_|apply wN_|apply wD_|refine below_set ?_ (IsS65.ge HI0.out)|refine below_set ?_ GE183.out|refine below_set ?_ GE190.out)|exact HB.out)⟩⟩
         case round =>
          clear H'
          try clear c1
          try clear c2
          try clear p2
          try clear q2
          try clear hx2
          try clear c3
          try clear c4
          try clear c5
          try clear c6
          try clear p6
          try clear c7
          try clear c12
          try clear c13
          try clear c16
          try clear c16b0
          try clear c16b1
          try clear c20
          try clear p20
          try clear q20
          try clear hx20
          try clear c21
          try clear c26
          try clear c26b0
          try clear c27
          try clear c27b0
          try clear c33
          try clear c34
          try clear c36
          try clear c36b0
          try clear c36b1
          try clear c37
          try clear c38
          try clear c40
          try clear c40b0
          try clear c40b1
          try clear c41
          try clear c42
          try clear c44
          try clear c44b0
          try clear c44b1
          try clear c46
          try clear c48
          try clear c49
          try clear c52
          try clear c52b0
          try clear c52b1
          try clear c55
          try clear c55b0
          try clear c59
          try clear p64
          try clear c68
          try clear c69
          try clear c70
          try clear c72
          try clear c72b0
          try clear c72b1
          try clear c73
          try clear c74
          try clear hcz14_0 hcz14_1 hcz14_2 hcz14_3 hcz14_4 hcz14_5
          try clear hcz22_0 hcz22_1 hcz22_2 hcz22_3 hcz22_4 hcz22_5
          try clear hcz24_0 hcz24_1 hcz24_2 hcz24_3 hcz24_4 hcz24_5
          try clear hcz35_0 hcz35_1 hcz35_2 hcz35_3 hcz35_4 hcz35_5
          try clear hcz39_0 hcz39_1 hcz39_2 hcz39_3 hcz39_4 hcz39_5
          try clear hcz43_0 hcz43_1 hcz43_2 hcz43_3 hcz43_4 hcz43_5
          try clear hcz50_0 hcz50_1 hcz50_2 hcz50_3 hcz50_4 hcz50_5
          try clear hcz71_0 hcz71_1 hcz71_2 hcz71_3 hcz71_4 hcz71_5
          try clear hcz75_0 hcz75_1 hcz75_2 hcz75_3 hcz75_4 hcz75_5
          try clear hfz14_0 hfz14_1 hfz14_2 hfz14_3 hfz14_4 hfz14_5
          try clear hfz22_0 hfz22_1 hfz22_2 hfz22_3 hfz22_4 hfz22_5
          try clear hfz24_0 hfz24_1 hfz24_2 hfz24_3 hfz24_4 hfz24_5
          try clear hfz35_0 hfz35_1 hfz35_2 hfz35_3 hfz35_4 hfz35_5
          try clear hfz39_0 hfz39_1 hfz39_2 hfz39_3 hfz39_4 hfz39_5
          try clear hfz43_0 hfz43_1 hfz43_2 hfz43_3 hfz43_4 hfz43_5
          try clear hfz50_0 hfz50_1 hfz50_2 hfz50_3 hfz50_4 hfz50_5
          try clear hfz71_0 hfz71_1 hfz71_2 hfz71_3 hfz71_4 hfz71_5
          try clear hfz75_0 hfz75_1 hfz75_2 hfz75_3 hfz75_4 hfz75_5
          try clear hx202_0
          try clear p2
          try clear p20
          try clear p202
          try clear p6
          try clear p64
          try clear q2
          try clear q20
          try clear q202
          obtain ⟨x7_4,x8_4,x1001_4,x191005_4,u191005,rfl,rfl,HA,HK4,HO_191004,HO_191005,BK183,BK190,HI0,HK,HB⟩:=hrel
          cases gk with
          | zero=>exact absurd HA.out (by simp [spec_l14Image.l1])
          | succ k4 =>
           have H:=HA.out
           clear HA
           simp only [spec_l14Image.l1] at H
           by_cases c77:x8_4 < (wrap64 (x191002_5 * x191003_5))
           ·rw [if_pos c77] at H
            have c77b0:decide (x8_4 < (wrap64 (x191002_5 * x191003_5)))=true:=decide_eq_true c77
            clear c77
            replace H:=Option.bind_eq_some_iff.mp H
            obtain ⟨⟨t218,t219⟩,A780,H⟩:=H
            replace H:(if t218 > 0 then ((spec_l1Rd_pick.f k4 s0_0 t219 256).bind fun bt220=>((spec_l1Rd_pick.f k4 s0_0 bt220.2 3).bind fun bt222=>((spec_l1Rd_pick.f k4 s0_0 bt222.2 256).bind fun bt224=>(if x6_67=0 then (none) else (spec_l14Image.j6 k4 x6_67 (Int.tmod (wrap64 ((wrap64 ((wrap64 (bt220.1 * 16777216))+(wrap64 (bt222.1 * 65536))))+bt224.1)) x6_67) x8_4 s0_0 bt224.2 (wrap64 (1+t184)) x191001_27 x191002_5 x191003_5 x191004_27 x191005_4))))) else (spec_l14Image.j6 k4 x6_67 x7_4 x8_4 s0_0 t219 (wrap64 (1+t184)) x191001_27 x191002_5 x191003_5 x191004_27 x191005_4))=some (r1,r2,r3,r4,r5,r6,r7):=H
            have A78:=aM_ A780
            clear A780
            have HC79:=aM_ H
            clear H
            have hnb80:=NB190_183.out
            have hnc80:=NB183_190.out
            have hnb81:=NB190_0.out
            have hnc81:=NB0_190.out
            obtain ⟨hcz82_0,hcz82_1,hcz82_2,hcz82_3,hcz82_4,hcz82_5⟩:=bc6 BK190.out
            obtain ⟨hfz82_0,hfz82_1,hfz82_2,hfz82_3,hfz82_4,hfz82_5⟩:=bf6 BK190.out
            go_upto_if 96 with (first|((with_reducible refine gate_callee (f:=68) rfl ?_);refine goesL_ (some 95) rfl rfl Try.func68 (by kernel_rfl) rfl #[.pointer (some ⟨g,0,none⟩),.int .i64 3] rfl (by (try simp only [List.map_toArray,List.map_cons,List.map_nil]);first|done|rfl|(simp only [List.length_drop,List.length_take];rfl)) ?_;(with_reducible refine (spec_l1Rd_pick.calls k4 g s0_0 x1001_4 3 t218 t219 w0 _ ?side1 ?side2 A78.out).mono ?_);(case side1=>repeat (first|(with_reducible first|exact HI0.out|apply IsS65.alloc|apply IsS65.drewN|apply IsS65.drew|apply IsS65.set_1|refine IsS65.far ?_ NB0_183.out _|refine IsS65.far ?_ NB0_190.out _)|exact HI0.out));(case side2=>repeat (first|(with_reducible first|exact HB.out|apply wA_|apply wN_|apply wD_|refine below_set ?_ (IsS65.ge HI0.out)|refine below_set ?_ GE183.out|refine below_set ?_ GE190.out)|exact HB.out));rintro e w83 ⟨rfl,hi,hb,hk⟩;refine ⟨_,rfl,?_⟩;have n0_:=aM_ (Kd.R_mono (Kd.R_keep (IsS65.apart (show IsS65 w0 _ g s0_0 x1001_4 from by repeat (first|(with_reducible first|exact HI0.out|apply IsS65.alloc|apply IsS65.drewN|apply IsS65.drew|apply IsS65.set_1|refine IsS65.far ?_ NB0_183.out _|refine IsS65.far ?_ NB0_190.out _)|exact HI0.out)) (by (with_reducible repeat (first|apply rA_|apply rN_|apply rD_));exact HO_191004.out) (by decide)) hk (fun _ h=>h.2)) (fun _ h=>h.1));have n1_:=aM_ (Kd.R_mono (Kd.R_keep (IsS65.apart (show IsS65 w0 _ g s0_0 x1001_4 from by repeat (first|(with_reducible first|exact HI0.out|apply IsS65.alloc|apply IsS65.drewN|apply IsS65.drew|apply IsS65.set_1|refine IsS65.far ?_ NB0_183.out _|refine IsS65.far ?_ NB0_190.out _)|exact HI0.out)) (by (with_reducible repeat (first|apply rA_|apply rN_|apply rD_));exact HO_191005.out) (by decide)) hk (fun _ h=>h.2)) (fun _ h=>h.1));have n2_:=aM_ (KeepBut.blk hk (g':=gb183) (o:=.cells #[.int .i64 0,.int .i64 0,.int .i64 0,.int .i64 0,.slice none 0 0,.slice none 0 0] 27 (0,0)) (by (with_reducible repeat (first|apply kN_|apply kD_|apply kA_));exact BK183.out) NB183_0.out (by simp));have n3_:=aM_ (KeepBut.blk hk (g':=gb190) (o:=.cells #[.int .i64 (wrap64 (1+t184)),.int .i64 x191001_27,.int .i64 x191002_5,.int .i64 x191003_5,u191004,u191005] 27 (0,0)) (by (with_reducible repeat (first|apply kN_|apply kD_|apply kA_));exact BK190.out) NB190_0.out (by simp));have n4_:=aM_ (KeepBut.trans (by repeat (first|(with_reducible first|exact HK.out|apply pS_|apply pN_|apply pD_|apply pA_|refine keep_far ?_ GW183.out _|refine keep_far ?_ GW190.out _)|exact HK.out)) hk (.inl rfl));have n5_:=aM_ (hb);have n6_:=aM_ (hi);clear HO_191004;clear HO_191005;clear BK183;clear BK190;clear HK;clear HB;clear HI0;have HO_191004:=n0_;have HO_191005:=n1_;have BK183:=n2_;have BK190:=n3_;have HK:=n4_;have HB:=n5_;have HI0:=n6_;clear n0_ n1_ n2_ n3_ n4_ n5_ n6_;(try clear hb);(try clear hb2);(try clear hk);(try clear hi)))
            (try simp only [Act.put,sA_,s0_,s1_])
            go_cut [7] (fun v7 wc=>∃ (kq:Nat) (x7_78:Int) (x1001_78:Int),v7=.int .i64 x7_78∧Aside0 (spec_l14Image.j6 kq x6_67 x7_78 x8_4 s0_0 x1001_78 (wrap64 (1+t184)) x191001_27 x191002_5 x191003_5 x191004_27 x191005_4=some (r1,r2,r3,r4,r5,r6,r7))∧Aside0 (kq≤k4)∧Aside0 (Kd.R (Kd.int .i64) 3 wc w.heap.size (fun k_=>some k_≠(u191005:Value).ownBlock) u191004 x191004_27)∧Aside0 (Kd.R (Kd.int .i64) 3 wc w.heap.size (fun k_=>some k_≠(u191004:Value).ownBlock) u191005 x191005_4)∧Aside0 (wc.heap[gb183]?=some (.cells #[.int .i64 0,.int .i64 0,.int .i64 0,.int .i64 0,(.slice none 0 0),(.slice none 0 0)] 27 (0,0)))∧Aside0 (wc.heap[gb190]?=some (.cells #[.int .i64 (wrap64 (1+t184)),.int .i64 x191001_27,.int .i64 x191002_5,.int .i64 x191003_5,u191004,u191005] 27 (0,0)))∧Aside0 (IsS65 w0 wc g s0_0 x1001_78)∧Aside0 (KeepBut w wc g none)∧Aside0 (Below w0.heap.size w0 wc))
            case first =>
             have H:=HC79.out
             clear HC79
             by_cases c84:t218 > 0
             ·rw [if_pos c84] at H
              have c84b0:decide (0 < t218)=true:=decide_eq_true c84
              clear c84
              (first|rw [c84b0]|(simp only [i64_w,i32_w];rw [c84b0])|skip)
              replace H:=Option.bind_eq_some_iff.mp H
              obtain ⟨⟨t220,t221⟩,A850,H⟩:=H
              replace H:((spec_l1Rd_pick.f k4 s0_0 t221 3).bind fun bt222=>((spec_l1Rd_pick.f k4 s0_0 bt222.2 256).bind fun bt224=>(if x6_67=0 then (none) else (spec_l14Image.j6 k4 x6_67 (Int.tmod (wrap64 ((wrap64 ((wrap64 (t220 * 16777216))+(wrap64 (bt222.1 * 65536))))+bt224.1)) x6_67) x8_4 s0_0 bt224.2 (wrap64 (1+t184)) x191001_27 x191002_5 x191003_5 x191004_27 x191005_4))))=some (r1,r2,r3,r4,r5,r6,r7):=H
              have A85:=aM_ A850
              clear A850
              replace H:=Option.bind_eq_some_iff.mp H
              obtain ⟨⟨t222,t223⟩,A860,H⟩:=H
              replace H:((spec_l1Rd_pick.f k4 s0_0 t223 256).bind fun bt224=>(if x6_67=0 then (none) else (spec_l14Image.j6 k4 x6_67 (Int.tmod (wrap64 ((wrap64 ((wrap64 (t220 * 16777216))+(wrap64 (t222 * 65536))))+bt224.1)) x6_67) x8_4 s0_0 bt224.2 (wrap64 (1+t184)) x191001_27 x191002_5 x191003_5 x191004_27 x191005_4)))=some (r1,r2,r3,r4,r5,r6,r7):=H
              have A86:=aM_ A860
              clear A860
              replace H:=Option.bind_eq_some_iff.mp H
              obtain ⟨⟨t224,t225⟩,A870,H⟩:=H
              replace H:(if x6_67=0 then (none) else (spec_l14Image.j6 k4 x6_67 (Int.tmod (wrap64 ((wrap64 ((wrap64 (t220 * 16777216))+(wrap64 (t222 * 65536))))+t224)) x6_67) x8_4 s0_0 t225 (wrap64 (1+t184)) x191001_27 x191002_5 x191003_5 x191004_27 x191005_4))=some (r1,r2,r3,r4,r5,r6,r7):=H
              have A87:=aM_ A870
              clear A870
              by_cases c88:x6_67=0
              ·rw [if_pos c88] at H
               exact absurd H (by simp)
              ·rw [if_neg c88] at H
               have c88b0:(x6_67 == 0)=false:=beq_eq_false_iff_ne.mpr c88
               have c88b1:(x6_67 != 0)=true:=bne_iff_ne.mpr c88
               have H':=aM_ H
               clear H
               go_wp2_with (first|((with_reducible refine gate_callee (f:=68) rfl ?_);refine goesL_ (some 98) rfl rfl Try.func68 (by kernel_rfl) rfl #[.pointer (some ⟨g,0,none⟩),.int .i64 256] rfl (by (try simp only [List.map_toArray,List.map_cons,List.map_nil]);first|done|rfl|(simp only [List.length_drop,List.length_take];rfl)) ?_;(with_reducible refine (spec_l1Rd_pick.calls k4 g s0_0 t219 256 t220 t221 w0 _ ?side1 ?side2 A85.out).mono ?_);(case side1=>repeat (first|(with_reducible first|exact HI0.out|apply IsS65.alloc|apply IsS65.drewN|apply IsS65.drew|apply IsS65.set_1|refine IsS65.far ?_ NB0_183.out _|refine IsS65.far ?_ NB0_190.out _)|exact HI0.out));(case side2=>repeat (first|(with_reducible first|exact HB.out|apply wA_|apply wN_|apply wD_|refine below_set ?_ (IsS65.ge HI0.out)|refine below_set ?_ GE183.out|refine below_set ?_ GE190.out)|exact HB.out));rintro e w89 ⟨rfl,hi,hb,hk⟩;refine ⟨_,rfl,?_⟩;have n0_:=aM_ (Kd.R_mono (Kd.R_keep (IsS65.apart (show IsS65 w0 _ g s0_0 t219 from by repeat (first|(with_reducible first|exact HI0.out|apply IsS65.alloc|apply IsS65.drewN|apply IsS65.drew|apply IsS65.set_1|refine IsS65.far ?_ NB0_183.out _|refine IsS65.far ?_ NB0_190.out _)|exact HI0.out)) (by (with_reducible repeat (first|apply rA_|apply rN_|apply rD_));exact HO_191004.out) (by decide)) hk (fun _ h=>h.2)) (fun _ h=>h.1));have n1_:=aM_ (Kd.R_mono (Kd.R_keep (IsS65.apart (show IsS65 w0 _ g s0_0 t219 from by repeat (first|(with_reducible first|exact HI0.out|apply IsS65.alloc|apply IsS65.drewN|apply IsS65.drew|apply IsS65.set_1|refine IsS65.far ?_ NB0_183.out _|refine IsS65.far ?_ NB0_190.out _)|exact HI0.out)) (by (with_reducible repeat (first|apply rA_|apply rN_|apply rD_));exact HO_191005.out) (by decide)) hk (fun _ h=>h.2)) (fun _ h=>h.1));have n2_:=aM_ (KeepBut.blk hk (g':=gb183) (o:=.cells #[.int .i64 0,.int .i64 0,.int .i64 0,.int .i64 0,.slice none 0 0,.slice none 0 0] 27 (0,0)) (by (with_reducible repeat (first|apply kN_|apply kD_|apply kA_));exact BK183.out) NB183_0.out (by simp));have n3_:=aM_ (KeepBut.blk hk (g':=gb190) (o:=.cells #[.int .i64 (wrap64 (1+t184)),.int .i64 x191001_27,.int .i64 x191002_5,.int .i64 x191003_5,u191004,u191005] 27 (0,0)) (by (with_reducible repeat (first|apply kN_|apply kD_|apply kA_));exact BK190.out) NB190_0.out (by simp));have n4_:=aM_ (KeepBut.trans (by repeat (first|(with_reducible first|exact HK.out|apply pS_|apply pN_|apply pD_|apply pA_|refine keep_far ?_ GW183.out _|refine keep_far ?_ GW190.out _)|exact HK.out)) hk (.inl rfl));have n5_:=aM_ (hb);have n6_:=aM_ (hi);clear HO_191004;clear HO_191005;clear BK183;clear BK190;clear HK;clear HB;clear HI0;have HO_191004:=n0_;have HO_191005:=n1_;have BK183:=n2_;have BK190:=n3_;have HK:=n4_;have HB:=n5_;have HI0:=n6_;clear n0_ n1_ n2_ n3_ n4_ n5_ n6_;(try clear hb);(try clear hb2);(try clear hk);(try clear hi))|((with_reducible refine gate_callee (f:=68) rfl ?_);refine goesL_ (some 101) rfl rfl Try.func68 (by kernel_rfl) rfl #[.pointer (some ⟨g,0,none⟩),.int .i64 3] rfl (by (try simp only [List.map_toArray,List.map_cons,List.map_nil]);first|done|rfl|(simp only [List.length_drop,List.length_take];rfl)) ?_;(with_reducible refine (spec_l1Rd_pick.calls k4 g s0_0 t221 3 t222 t223 w0 _ ?side1 ?side2 A86.out).mono ?_);(case side1=>repeat (first|(with_reducible first|exact HI0.out|apply IsS65.alloc|apply IsS65.drewN|apply IsS65.drew|apply IsS65.set_1|refine IsS65.far ?_ NB0_183.out _|refine IsS65.far ?_ NB0_190.out _)|exact HI0.out));(case side2=>repeat (first|(with_reducible first|exact HB.out|apply wA_|apply wN_|apply wD_|refine below_set ?_ (IsS65.ge HI0.out)|refine below_set ?_ GE183.out|refine below_set ?_ GE190.out)|exact HB.out));rintro e w90 ⟨rfl,hi,hb,hk⟩;refine ⟨_,rfl,?_⟩;have n0_:=aM_ (Kd.R_mono (Kd.R_keep (IsS65.apart (show IsS65 w0 _ g s0_0 t221 from by repeat (first|(with_reducible first|exact HI0.out|apply IsS65.alloc|apply IsS65.drewN|apply IsS65.drew|apply IsS65.set_1|refine IsS65.far ?_ NB0_183.out _|refine IsS65.far ?_ NB0_190.out _)|exact HI0.out)) (by (with_reducible repeat (first|apply rA_|apply rN_|apply rD_));exact HO_191004.out) (by decide)) hk (fun _ h=>h.2)) (fun _ h=>h.1));have n1_:=aM_ (Kd.R_mono (Kd.R_keep (IsS65.apart (show IsS65 w0 _ g s0_0 t221 from by repeat (first|(with_reducible first|exact HI0.out|apply IsS65.alloc|apply IsS65.drewN|apply IsS65.drew|apply IsS65.set_1|refine IsS65.far ?_ NB0_183.out _|refine IsS65.far ?_ NB0_190.out _)|exact HI0.out)) (by (with_reducible repeat (first|apply rA_|apply rN_|apply rD_));exact HO_191005.out) (by decide)) hk (fun _ h=>h.2)) (fun _ h=>h.1));have n2_:=aM_ (KeepBut.blk hk (g':=gb183) (o:=.cells #[.int .i64 0,.int .i64 0,.int .i64 0,.int .i64 0,.slice none 0 0,.slice none 0 0] 27 (0,0)) (by (with_reducible repeat (first|apply kN_|apply kD_|apply kA_));exact BK183.out) NB183_0.out (by simp));have n3_:=aM_ (KeepBut.blk hk (g':=gb190) (o:=.cells #[.int .i64 (wrap64 (1+t184)),.int .i64 x191001_27,.int .i64 x191002_5,.int .i64 x191003_5,u191004,u191005] 27 (0,0)) (by (with_reducible repeat (first|apply kN_|apply kD_|apply kA_));exact BK190.out) NB190_0.out (by simp));have n4_:=aM_ (KeepBut.trans (by repeat (first|(with_reducible first|exact HK.out|apply pS_|apply pN_|apply pD_|apply pA_|refine keep_far ?_ GW183.out _|refine keep_far ?_ GW190.out _)|exact HK.out)) hk (.inl rfl));have n5_:=aM_ (hb);have n6_:=aM_ (hi);clear HO_191004;clear HO_191005;clear BK183;clear BK190;clear HK;clear HB;clear HI0;have HO_191004:=n0_;have HO_191005:=n1_;have BK183:=n2_;have BK190:=n3_;have HK:=n4_;have HB:=n5_;have HI0:=n6_;clear n0_ n1_ n2_ n3_ n4_ n5_ n6_;(try clear hb);(try clear hb2);(try clear hk);(try clear hi))|((with_reducible refine gate_callee (f:=68) rfl ?_);refine goesL_ (some 105) rfl rfl Try.func68 (by kernel_rfl) rfl #[.pointer (some ⟨g,0,none⟩),.int .i64 256] rfl (by (try simp only [List.map_toArray,List.map_cons,List.map_nil]);first|done|rfl|(simp only [List.length_drop,List.length_take];rfl)) ?_;(with_reducible refine (spec_l1Rd_pick.calls k4 g s0_0 t223 256 t224 t225 w0 _ ?side1 ?side2 A87.out).mono ?_);(case side1=>repeat (first|(with_reducible first|exact HI0.out|apply IsS65.alloc|apply IsS65.drewN|apply IsS65.drew|apply IsS65.set_1|refine IsS65.far ?_ NB0_183.out _|refine IsS65.far ?_ NB0_190.out _)|exact HI0.out));(case side2=>repeat (first|(with_reducible first|exact HB.out|apply wA_|apply wN_|apply wD_|refine below_set ?_ (IsS65.ge HI0.out)|refine below_set ?_ GE183.out|refine below_set ?_ GE190.out)|exact HB.out));rintro e w91 ⟨rfl,hi,hb,hk⟩;refine ⟨_,rfl,?_⟩;have n0_:=aM_ (Kd.R_mono (Kd.R_keep (IsS65.apart (show IsS65 w0 _ g s0_0 t223 from by repeat (first|(with_reducible first|exact HI0.out|apply IsS65.alloc|apply IsS65.drewN|apply IsS65.drew|apply IsS65.set_1|refine IsS65.far ?_ NB0_183.out _|refine IsS65.far ?_ NB0_190.out _)|exact HI0.out)) (by (with_reducible repeat (first|apply rA_|apply rN_|apply rD_));exact HO_191004.out) (by decide)) hk (fun _ h=>h.2)) (fun _ h=>h.1));have n1_:=aM_ (Kd.R_mono (Kd.R_keep (IsS65.apart (show IsS65 w0 _ g s0_0 t223 from by repeat (first|(with_reducible first|exact HI0.out|apply IsS65.alloc|apply IsS65.drewN|apply IsS65.drew|apply IsS65.set_1|refine IsS65.far ?_ NB0_183.out _|refine IsS65.far ?_ NB0_190.out _)|exact HI0.out)) (by (with_reducible repeat (first|apply rA_|apply rN_|apply rD_));exact HO_191005.out) (by decide)) hk (fun _ h=>h.2)) (fun _ h=>h.1));have n2_:=aM_ (KeepBut.blk hk (g':=gb183) (o:=.cells #[.int .i64 0,.int .i64 0,.int .i64 0,.int .i64 0,.slice none 0 0,.slice none 0 0] 27 (0,0)) (by (with_reducible repeat (first|apply kN_|apply kD_|apply kA_));exact BK183.out) NB183_0.out (by simp));have n3_:=aM_ (KeepBut.blk hk (g':=gb190) (o:=.cells #[.int .i64 (wrap64 (1+t184)),.int .i64 x191001_27,.int .i64 x191002_5,.int .i64 x191003_5,u191004,u191005] 27 (0,0)) (by (with_reducible repeat (first|apply kN_|apply kD_|apply kA_));exact BK190.out) NB190_0.out (by simp));have n4_:=aM_ (KeepBut.trans (by repeat (first|(with_reducible first|exact HK.out|apply pS_|apply pN_|apply pD_|apply pA_|refine keep_far ?_ GW183.out _|refine keep_far ?_ GW190.out _)|exact HK.out)) hk (.inl rfl));have n5_:=aM_ (hb);have n6_:=aM_ (hi);clear HO_191004;clear HO_191005;clear BK183;clear BK190;clear HK;clear HB;clear HI0;have HO_191004:=n0_;have HO_191005:=n1_;have BK183:=n2_;have BK190:=n3_;have HK:=n4_;have HB:=n5_;have HI0:=n6_;clear n0_ n1_ n2_ n3_ n4_ n5_ n6_;(try clear hb);(try clear hb2);(try clear hk);(try clear hi)))
               go_meet
               case rel=>exact ⟨_,(Int.tmod (wrap64 ((wrap64 ((wrap64 (t220 * 16777216))+(wrap64 (t222 * 65536))))+t224)) x6_67),(t225),(by first|rfl|(simp;done)|(simp [*];done)),H',⟨by have:=HJ5.out;have:=HJ27.out;have:=HJ67.out;have:=HK4.out;first|omega|exact Nat.le_refl _⟩,⟨by (with_reducible repeat (first|apply rA_|apply rN_|apply rD_));exact HO_191004.out⟩,⟨by (with_reducible repeat (first|apply rA_|apply rN_|apply rD_));exact HO_191005.out⟩,⟨by (with_reducible repeat (first|apply kN_|apply kD_|apply kA_));exact BK183.out⟩,⟨by (with_reducible repeat (first|apply kN_|apply kD_|apply kA_));exact BK190.out⟩,⟨by repeat (first|(with_reducible first|exact HI0.out|apply IsS65.alloc|apply IsS65.drewN|apply IsS65.drew|apply IsS65.set_1|refine IsS65.far ?_ NB0_183.out _|refine IsS65.far ?_ NB0_190.out _)|exact HI0.out)⟩,⟨by repeat (first|(with_reducible first|exact HK.out|apply pS_|apply pN_|apply pD_|apply pA_|refine keep_far ?_ GW183.out _|refine keep_far ?_ GW190.out _)|exact HK.out)⟩,⟨by repeat (first|(with_reducible first|exact HB.out|apply wA_|apply wN_|apply wD_|refine below_set ?_ (IsS65.ge HI0.out)|refine below_set ?_ GE183.out|refine below_set ?_ GE190.out)|exact HB.out)⟩⟩
             ·rw [if_neg c84] at H
              have c84b0:decide (0 < t218)=false:=decide_eq_false c84
              clear c84
              (first|rw [c84b0]|(simp only [i64_w,i32_w];rw [c84b0])|skip)
              have H':=aM_ H
              clear H
              go_wp2
              go_meet
              case rel=>exact ⟨_,(x7_4),(t219),(by first|rfl|(simp;done)|(simp [*];done)),H',⟨by have:=HJ5.out;have:=HJ27.out;have:=HJ67.out;have:=HK4.out;first|omega|exact Nat.le_refl _⟩,⟨by (with_reducible repeat (first|apply rA_|apply rN_|apply rD_));exact HO_191004.out⟩,⟨by (with_reducible repeat (first|apply rA_|apply rN_|apply rD_));exact HO_191005.out⟩,⟨by (with_reducible repeat (first|apply kN_|apply kD_|apply kA_));exact BK183.out⟩,⟨by (with_reducible repeat (first|apply kN_|apply kD_|apply kA_));exact BK190.out⟩,⟨by repeat (first|(with_reducible first|exact HI0.out|apply IsS65.alloc|apply IsS65.drewN|apply IsS65.drew|apply IsS65.set_1|refine IsS65.far ?_ NB0_183.out _|refine IsS65.far ?_ NB0_190.out _)|exact HI0.out)⟩,⟨by repeat (first|(with_reducible first|exact HK.out|apply pS_|apply pN_|apply pD_|apply pA_|refine keep_far ?_ GW183.out _|refine keep_far ?_ GW190.out _)|exact HK.out)⟩,⟨by repeat (first|(with_reducible first|exact HB.out|apply wA_|apply wN_|apply wD_|refine below_set ?_ (IsS65.ge HI0.out)|refine below_set ?_ GE183.out|refine below_set ?_ GE190.out)|exact HB.out)⟩⟩
            case rest =>
             clear HC79
             try clear c1
             try clear c2
             try clear p2
             try clear q2
             try clear hx2
             try clear c3
             try clear c4
             try clear c5
             try clear c6
             try clear p6
             try clear c7
             try clear c8
             try clear c12
             try clear c13
             try clear c16
             try clear c16b0
             try clear c16b1
             try clear c20
             try clear p20
             try clear q20
             try clear hx20
             try clear c21
             try clear c26
             try clear c26b0
             try clear c27
             try clear c27b0
             try clear c33
             try clear c34
             try clear c36
             try clear c36b0
             try clear c36b1
             try clear c37
             try clear c38
             try clear c40
             try clear c40b0
             try clear c40b1
             try clear c41
             try clear c42
             try clear c44
             try clear c44b0
             try clear c44b1
             try clear c46
             try clear c48
             try clear c49
             try clear c52
             try clear c52b0
             try clear c52b1
             try clear c55
             try clear c55b0
             try clear c59
             try clear p64
             try clear c68
             try clear c69
             try clear c70
             try clear c72
             try clear c72b0
             try clear c72b1
             try clear c73
             try clear c74
             try clear c77
             try clear c77b0
             try clear c80
             try clear c81
             try clear c84
             try clear c84b0
             try clear c88
             try clear c88b0
             try clear c88b1
             try clear hcz14_0 hcz14_1 hcz14_2 hcz14_3 hcz14_4 hcz14_5
             try clear hcz22_0 hcz22_1 hcz22_2 hcz22_3 hcz22_4 hcz22_5
             try clear hcz24_0 hcz24_1 hcz24_2 hcz24_3 hcz24_4 hcz24_5
             try clear hcz35_0 hcz35_1 hcz35_2 hcz35_3 hcz35_4 hcz35_5
             try clear hcz39_0 hcz39_1 hcz39_2 hcz39_3 hcz39_4 hcz39_5
             try clear hcz43_0 hcz43_1 hcz43_2 hcz43_3 hcz43_4 hcz43_5
             try clear hcz50_0 hcz50_1 hcz50_2 hcz50_3 hcz50_4 hcz50_5
             try clear hcz71_0 hcz71_1 hcz71_2 hcz71_3 hcz71_4 hcz71_5
             try clear hcz75_0 hcz75_1 hcz75_2 hcz75_3 hcz75_4 hcz75_5
             try clear hcz82_0 hcz82_1 hcz82_2 hcz82_3 hcz82_4 hcz82_5
             try clear hfz14_0 hfz14_1 hfz14_2 hfz14_3 hfz14_4 hfz14_5
             try clear hfz22_0 hfz22_1 hfz22_2 hfz22_3 hfz22_4 hfz22_5
             try clear hfz24_0 hfz24_1 hfz24_2 hfz24_3 hfz24_4 hfz24_5
             try clear hfz35_0 hfz35_1 hfz35_2 hfz35_3 hfz35_4 hfz35_5
             try clear hfz39_0 hfz39_1 hfz39_2 hfz39_3 hfz39_4 hfz39_5
             try clear hfz43_0 hfz43_1 hfz43_2 hfz43_3 hfz43_4 hfz43_5
             try clear hfz50_0 hfz50_1 hfz50_2 hfz50_3 hfz50_4 hfz50_5
             try clear hfz71_0 hfz71_1 hfz71_2 hfz71_3 hfz71_4 hfz71_5
             try clear hfz75_0 hfz75_1 hfz75_2 hfz75_3 hfz75_4 hfz75_5
             try clear hfz82_0 hfz82_1 hfz82_2 hfz82_3 hfz82_4 hfz82_5
             try clear hx202_0
             try clear p2
             try clear p20
             try clear p202
             try clear p6
             try clear p64
             try clear q2
             try clear q20
             try clear q202
             obtain ⟨kq,x7_78,x1001_78,rfl,HA,HJ78,HO_191004,HO_191005,BK183,BK190,HI0,HK,HB⟩:=hcut
             cases kq with
             | zero=>exact absurd HA.out (by simp [spec_l14Image.j6])
             | succ kj78 =>
              have H:=HA.out
              clear HA
              simp only [spec_l14Image.j6] at H
              by_cases c92:(wrap64 (1+t184))=3
              ·rw [if_pos c92] at H
               have c92b0:((wrap64 (1+t184)) == 3)=true:=beq_iff_eq.mpr c92
               have c92b1:((wrap64 (1+t184)) != 3)=false:=bne_eq_false_iff_eq.mpr c92
               clear c92
               replace H:=Option.bind_eq_some_iff.mp H
               obtain ⟨⟨t226,t227⟩,A930,H⟩:=H
               replace H:(if t226=0 then (if x191005_4.length < 17592186044416 then (spec_l14Image.l1 kj78 x6_67 (wrap64 ((wrap64 ((wrap64 (Int.tdiv x7_78 256)) * 256))+255)) (wrap64 (x8_4+1)) s0_0 t227 (wrap64 (1+t184)) x191001_27 x191002_5 x191003_5 x191004_27 (x191005_4 ++ [wrap64 ((wrap64 ((wrap64 (Int.tdiv x7_78 256)) * 256))+255)])) else (none)) else (if x191005_4.length < 17592186044416 then (spec_l14Image.l1 kj78 x6_67 x7_78 (wrap64 (x8_4+1)) s0_0 t227 (wrap64 (1+t184)) x191001_27 x191002_5 x191003_5 x191004_27 (x191005_4 ++ [x7_78])) else (none)))=some (r1,r2,r3,r4,r5,r6,r7):=H
               have A93:=aM_ A930
               clear A930
               by_cases c94:t226=0
               ·rw [if_pos c94] at H
                have c94b0:(t226 == 0)=true:=beq_iff_eq.mpr c94
                have c94b1:(t226 != 0)=false:=bne_eq_false_iff_eq.mpr c94
                clear c94
                by_cases c95:x191005_4.length < 17592186044416
                ·rw [if_pos c95] at H
                 have LMc95:=aM_ c95
                 clear c95
                 obtain ⟨y228,hy228⟩:∃ y_:List Int,y_=(x191005_4 ++ [wrap64 ((wrap64 ((wrap64 (Int.tdiv x7_78 256)) * 256))+255)]):=⟨_,rfl⟩
                 replace H:(spec_l14Image.l1 kj78 x6_67 (wrap64 ((wrap64 ((wrap64 (Int.tdiv x7_78 256)) * 256))+255)) (wrap64 (x8_4+1)) s0_0 t227 (wrap64 (1+t184)) x191001_27 x191002_5 x191003_5 x191004_27 y228)=some (r1,r2,r3,r4,r5,r6,r7):=by first|(rw [hy228];with_reducible exact H)|(have H2_:=(Option.bind_some _ _).symm.trans H;rw [hy228];with_reducible exact H2_)|(have H2_:=(Option.bind_some _ _).symm.trans H;with_reducible exact H2_)|with_reducible exact H|(rw [hy228];exact H)|exact H
                 have Ny228:=aM_ hy228
                 clear hy228
                 have H':=aM_ H
                 clear H
                 have hnb96:=NB190_183.out
                 have hnc96:=NB183_190.out
                 have hnb97:=NB190_0.out
                 have hnc97:=NB0_190.out
                 obtain ⟨hcz98_0,hcz98_1,hcz98_2,hcz98_3,hcz98_4,hcz98_5⟩:=bc6 BK190.out
                 obtain ⟨hfz98_0,hfz98_1,hfz98_2,hfz98_3,hfz98_4,hfz98_5⟩:=bf6 BK190.out
                 go_wp2_with (first|(go_at_call 68;(with_reducible refine (spec_l1Rd_pick.calls kj78 g s0_0 x1001_78 2 t226 t227 w0 _ ?side1 ?side2 A93.out).mono ?_);(case side1=>repeat (first|(with_reducible first|exact HI0.out|apply IsS65.alloc|apply IsS65.drewN|apply IsS65.drew|apply IsS65.set_1|refine IsS65.far ?_ NB0_183.out _|refine IsS65.far ?_ NB0_190.out _)|exact HI0.out));(case side2=>repeat (first|(with_reducible first|exact HB.out|apply wA_|apply wN_|apply wD_|refine below_set ?_ (IsS65.ge HI0.out)|refine below_set ?_ GE183.out|refine below_set ?_ GE190.out)|exact HB.out));rintro e w99 ⟨rfl,hi,hb,hk⟩;have n0_:=aM_ (Kd.R_mono (Kd.R_keep (IsS65.apart (show IsS65 w0 _ g s0_0 x1001_78 from by repeat (first|(with_reducible first|exact HI0.out|apply IsS65.alloc|apply IsS65.drewN|apply IsS65.drew|apply IsS65.set_1|refine IsS65.far ?_ NB0_183.out _|refine IsS65.far ?_ NB0_190.out _)|exact HI0.out)) (by (with_reducible repeat (first|apply rA_|apply rN_|apply rD_));exact HO_191004.out) (by decide)) hk (fun _ h=>h.2)) (fun _ h=>h.1));have n1_:=aM_ (Kd.R_mono (Kd.R_keep (IsS65.apart (show IsS65 w0 _ g s0_0 x1001_78 from by repeat (first|(with_reducible first|exact HI0.out|apply IsS65.alloc|apply IsS65.drewN|apply IsS65.drew|apply IsS65.set_1|refine IsS65.far ?_ NB0_183.out _|refine IsS65.far ?_ NB0_190.out _)|exact HI0.out)) (by (with_reducible repeat (first|apply rA_|apply rN_|apply rD_));exact HO_191005.out) (by decide)) hk (fun _ h=>h.2)) (fun _ h=>h.1));have n2_:=aM_ (KeepBut.blk hk (g':=gb183) (o:=.cells #[.int .i64 0,.int .i64 0,.int .i64 0,.int .i64 0,.slice none 0 0,.slice none 0 0] 27 (0,0)) (by (with_reducible repeat (first|apply kN_|apply kD_|apply kA_));exact BK183.out) NB183_0.out (by simp));have n3_:=aM_ (KeepBut.blk hk (g':=gb190) (o:=.cells #[.int .i64 (wrap64 (1+t184)),.int .i64 x191001_27,.int .i64 x191002_5,.int .i64 x191003_5,u191004,u191005] 27 (0,0)) (by (with_reducible repeat (first|apply kN_|apply kD_|apply kA_));exact BK190.out) NB190_0.out (by simp));have n4_:=aM_ (KeepBut.trans (by repeat (first|(with_reducible first|exact HK.out|apply pS_|apply pN_|apply pD_|apply pA_|refine keep_far ?_ GW183.out _|refine keep_far ?_ GW190.out _)|exact HK.out)) hk (.inl rfl));have n5_:=aM_ (hb);have n6_:=aM_ (hi);clear HO_191004;clear HO_191005;clear BK183;clear BK190;clear HK;clear HB;clear HI0;have HO_191004:=n0_;have HO_191005:=n1_;have BK183:=n2_;have BK190:=n3_;have HK:=n4_;have HB:=n5_;have HI0:=n6_;clear n0_ n1_ n2_ n3_ n4_ n5_ n6_;(try clear hb);(try clear hb2);(try clear hk);(try clear hi);obtain ⟨hcz100_0,hcz100_1,hcz100_2,hcz100_3,hcz100_4,hcz100_5⟩:=bc6 BK190.out;obtain ⟨hfz100_0,hfz100_1,hfz100_2,hfz100_3,hfz100_4,hfz100_5⟩:=bf6 BK190.out)|((with_reducible refine gate_builtin (b:=.append) (xs:=#[.tmp 122,.tmp 124]) rfl ?_);at_builtin;refine Kd.R_append (Kd.int .i64) w.heap.size rfl (.tmp 122) (.tmp 124) 22 3 (.int .i64 0) 8 rfl Try.underlying22 info3 rfl (by decide) (by omega) u191005 x191005_4 (wrap64 ((wrap64 ((wrap64 (Int.tdiv x7_78 256)) * 256))+255)) [.int .i64 (wrap64 ((wrap64 ((wrap64 (Int.tdiv x7_78 256)) * 256))+255))] (fun k_=>some k_≠(u191004:Value).ownBlock) (fun _=>False) rfl rfl ?aP (fun _ hk=>hk.elim) ?aF ?aO (Below.refl _ _) ?aS ?aL ?_;(case aP=>exact rfl);(case aF=>exact (fun k_ hk=>Kd.fresh' (Kd.R_lt (by (with_reducible repeat (first|apply rA_|apply rN_|apply rD_));exact HO_191004.out)) k_ hk));(case aO=>exact (by (with_reducible repeat (first|apply rA_|apply rN_|apply rD_));exact HO_191005.out));(case aS=>exact (keep_size (w:=w) (g:=g) (row:=none) (by repeat (first|(with_reducible first|exact HK.out|apply pS_|apply pN_|apply pD_|apply pA_|refine keep_far ?_ GW183.out _|refine keep_far ?_ GW190.out _)|exact HK.out))));(case aL=>have:=LMc95.out;omega);intro v229 w101 ho hb hg hat;rw [← Ny228.out] at ho;have n0_:=aM_ (Kd.R_after (ok:=(fun _=>True)) (by (with_reducible repeat (first|apply rA_|apply rN_|apply rD_));exact Kd.R_mono HO_191004.out (fun _ hk=>⟨trivial,hk⟩)) hg hat);have n1_:=aM_ (blk_grown (g:=gb183) (o:=.cells #[.int .i64 0,.int .i64 0,.int .i64 0,.int .i64 0,.slice none 0 0,.slice none 0 0] 27 (0,0)) (by (with_reducible repeat (first|apply kN_|apply kD_|apply kA_));exact BK183.out) hg (Kd.R_ne HO_191005.out BK183.out (by decide)));have n2_:=aM_ (blk_grown (g:=gb190) (o:=.cells #[.int .i64 (wrap64 (1+t184)),.int .i64 x191001_27,.int .i64 x191002_5,.int .i64 x191003_5,u191004,u191005] 27 (0,0)) (by (with_reducible repeat (first|apply kN_|apply kD_|apply kA_));exact BK190.out) hg (Kd.R_ne HO_191005.out BK190.out (by decide)));have n3_:=aM_ (IsS65.grown (by repeat (first|(with_reducible first|exact HI0.out|apply IsS65.alloc|apply IsS65.drewN|apply IsS65.drew|apply IsS65.set_1|refine IsS65.far ?_ NB0_183.out _|refine IsS65.far ?_ NB0_190.out _)|exact HI0.out)) hg (IsS65.own_ne HI0.out HO_191005.out (by decide)));have n4_:=aM_ (below_weaken (by repeat (first|(with_reducible first|exact HB.out|apply wA_|apply wN_|apply wD_|refine below_set ?_ (IsS65.ge HI0.out)|refine below_set ?_ GE183.out|refine below_set ?_ GE190.out)|exact HB.out)) HL.out hb);have n5_:=aM_ (KeepBut.trans (by repeat (first|(with_reducible first|exact HK.out|apply pS_|apply pN_|apply pD_|apply pA_|refine keep_far ?_ GW183.out _|refine keep_far ?_ GW190.out _)|exact HK.out)) (KeepBut.of_grown hg g) (Kd.R_base2 HO_191005.out));have n6_:=aM_ (ho);clear HO_191004;clear BK183;clear BK190;clear HI0;clear HB;clear HK;clear HO_191005;have HO_191004:=n0_;have BK183:=n1_;have BK190:=n2_;have HI0:=n3_;have HB:=n4_;have HK:=n5_;have HO230:=n6_;clear n0_ n1_ n2_ n3_ n4_ n5_ n6_;clear ho hb hg hat;obtain ⟨Ao102,co102,eo102⟩:=Kd.R_slice HO230.out;subst eo102;obtain ⟨hcz103_0,hcz103_1,hcz103_2,hcz103_3,hcz103_4,hcz103_5⟩:=bc6 BK190.out;obtain ⟨hfz103_0,hfz103_1,hfz103_2,hfz103_3,hfz103_4,hfz103_5⟩:=bf6 BK190.out))
                 go_roundg kj78
                 case measure=>have:=HJ5.out;have:=HJ27.out;have:=HJ67.out;have:=HK4.out;have:=HJ78.out;omega
                 case rel=>exact ⟨(wrap64 ((wrap64 ((wrap64 (Int.tdiv x7_78 256)) * 256))+255)),(wrap64 (x8_4+1)),(t227),(y228),(.slice Ao102 y228.length co102),(by first|rfl|(simp;done)|(simp [*];done)),(by first|rfl|(simp;done)|(simp [*];done)),H',⟨by have:=HJ5.out;have:=HJ27.out;have:=HJ67.out;have:=HK4.out;have:=HJ78.out;omega⟩,⟨by (with_reducible repeat (first|apply rA_|apply rN_|apply rD_));exact Kd.R_mono (Kd.R_far (Kd.R_types HO_191004.out BK190.out (by decide)) (fun _ hk=>hk.2) _) (fun _ hk=>hk.1.2)⟩,⟨by (with_reducible repeat (first|apply rA_|apply rN_|apply rD_));exact Kd.R_mono (Kd.R_far (Kd.R_types HO230.out BK190.out (by decide)) (fun _ hk=>hk.2) _) (fun _ hk=>hk.1)⟩,⟨by (with_reducible repeat (first|apply kN_|apply kD_|apply kA_));refine blk_far ?_ NB183_190.out _;(with_reducible repeat (first|apply kN_|apply kD_|apply kA_));exact BK183.out⟩,⟨by (with_reducible repeat (first|apply kN_|apply kD_|apply kA_));refine blk_put (cs:=#[.int .i64 (wrap64 (1+t184)),.int .i64 x191001_27,.int .i64 x191002_5,.int .i64 x191003_5,u191004,u191005]) ?_ 5 _ rfl;(with_reducible repeat (first|apply kN_|apply kD_|apply kA_));exact BK190.out⟩,⟨by repeat (first|(with_reducible first|exact HI0.out|apply IsS65.alloc|apply IsS65.drewN|apply IsS65.drew|apply IsS65.set_1|refine IsS65.far ?_ NB0_183.out _|refine IsS65.far ?_ NB0_190.out _)|exact HI0.out)⟩,⟨by repeat (first|(with_reducible first|exact HK.out|apply pS_|apply pN_|apply pD_|apply pA_|refine keep_far ?_ GW183.out _|refine keep_far ?_ GW190.out _)|exact HK.out)⟩,⟨by repeat (first|(with_reducible first|exact HB.out|apply wA_|apply wN_|apply wD_|refine below_set ?_ (IsS65.ge HI0.out)|refine below_set ?_ GE183.out|refine below_set ?_ GE190.out)|exact HB.out)⟩⟩
                ·rw [if_neg c95] at H
                 exact absurd H (by simp)
               ·rw [if_neg c94] at H
                have c94b0:(t226 == 0)=false:=beq_eq_false_iff_ne.mpr c94
                have c94b1:(t226 != 0)=true:=bne_iff_ne.mpr c94
                by_cases c104:x191005_4.length < 17592186044416
                ·rw [if_pos c104] at H
                 have LMc104:=aM_ c104
                 clear c104
                 obtain ⟨y231,hy231⟩:∃ y_:List Int,y_=(x191005_4 ++ [x7_78]):=⟨_,rfl⟩
                 replace H:(spec_l14Image.l1 kj78 x6_67 x7_78 (wrap64 (x8_4+1)) s0_0 t227 (wrap64 (1+t184)) x191001_27 x191002_5 x191003_5 x191004_27 y231)=some (r1,r2,r3,r4,r5,r6,r7):=by first|(rw [hy231];with_reducible exact H)|(have H2_:=(Option.bind_some _ _).symm.trans H;rw [hy231];with_reducible exact H2_)|(have H2_:=(Option.bind_some _ _).symm.trans H;with_reducible exact H2_)|with_reducible exact H|(rw [hy231];exact H)|exact H
                 have Ny231:=aM_ hy231
                 clear hy231
                 have H':=aM_ H
                 clear H
                 have hnb105:=NB190_183.out
                 have hnc105:=NB183_190.out
                 have hnb106:=NB190_0.out
                 have hnc106:=NB0_190.out
                 obtain ⟨hcz107_0,hcz107_1,hcz107_2,hcz107_3,hcz107_4,hcz107_5⟩:=bc6 BK190.out
                 obtain ⟨hfz107_0,hfz107_1,hfz107_2,hfz107_3,hfz107_4,hfz107_5⟩:=bf6 BK190.out
                 go_wp2_with (first|(go_at_call 68;(with_reducible refine (spec_l1Rd_pick.calls kj78 g s0_0 x1001_78 2 t226 t227 w0 _ ?side1 ?side2 A93.out).mono ?_);(case side1=>repeat (first|(with_reducible first|exact HI0.out|apply IsS65.alloc|apply IsS65.drewN|apply IsS65.drew|apply IsS65.set_1|refine IsS65.far ?_ NB0_183.out _|refine IsS65.far ?_ NB0_190.out _)|exact HI0.out));(case side2=>repeat (first|(with_reducible first|exact HB.out|apply wA_|apply wN_|apply wD_|refine below_set ?_ (IsS65.ge HI0.out)|refine below_set ?_ GE183.out|refine below_set ?_ GE190.out)|exact HB.out));rintro e w108 ⟨rfl,hi,hb,hk⟩;have n0_:=aM_ (Kd.R_mono (Kd.R_keep (IsS65.apart (show IsS65 w0 _ g s0_0 x1001_78 from by repeat (first|(with_reducible first|exact HI0.out|apply IsS65.alloc|apply IsS65.drewN|apply IsS65.drew|apply IsS65.set_1|refine IsS65.far ?_ NB0_183.out _|refine IsS65.far ?_ NB0_190.out _)|exact HI0.out)) (by (with_reducible repeat (first|apply rA_|apply rN_|apply rD_));exact HO_191004.out) (by decide)) hk (fun _ h=>h.2)) (fun _ h=>h.1));have n1_:=aM_ (Kd.R_mono (Kd.R_keep (IsS65.apart (show IsS65 w0 _ g s0_0 x1001_78 from by repeat (first|(with_reducible first|exact HI0.out|apply IsS65.alloc|apply IsS65.drewN|apply IsS65.drew|apply IsS65.set_1|refine IsS65.far ?_ NB0_183.out _|refine IsS65.far ?_ NB0_190.out _)|exact HI0.out)) (by (with_reducible repeat (first|apply rA_|apply rN_|apply rD_));exact HO_191005.out) (by decide)) hk (fun _ h=>h.2)) (fun _ h=>h.1));have n2_:=aM_ (KeepBut.blk hk (g':=gb183) (o:=.cells #[.int .i64 0,.int .i64 0,.int .i64 0,.int .i64 0,.slice none 0 0,.slice none 0 0] 27 (0,0)) (by (with_reducible repeat (first|apply kN_|apply kD_|apply kA_));exact BK183.out) NB183_0.out (by simp));have n3_:=aM_ (KeepBut.blk hk (g':=gb190) (o:=.cells #[.int .i64 (wrap64 (1+t184)),.int .i64 x191001_27,.int .i64 x191002_5,.int .i64 x191003_5,u191004,u191005] 27 (0,0)) (by (with_reducible repeat (first|apply kN_|apply kD_|apply kA_));exact BK190.out) NB190_0.out (by simp));have n4_:=aM_ (KeepBut.trans (by repeat (first|(with_reducible first|exact HK.out|apply pS_|apply pN_|apply pD_|apply pA_|refine keep_far ?_ GW183.out _|refine keep_far ?_ GW190.out _)|exact HK.out)) hk (.inl rfl));have n5_:=aM_ (hb);have n6_:=aM_ (hi);clear HO_191004;clear HO_191005;clear BK183;clear BK190;clear HK;clear HB;clear HI0;have HO_191004:=n0_;have HO_191005:=n1_;have BK183:=n2_;have BK190:=n3_;have HK:=n4_;have HB:=n5_;have HI0:=n6_;clear n0_ n1_ n2_ n3_ n4_ n5_ n6_;(try clear hb);(try clear hb2);(try clear hk);(try clear hi);obtain ⟨hcz109_0,hcz109_1,hcz109_2,hcz109_3,hcz109_4,hcz109_5⟩:=bc6 BK190.out;obtain ⟨hfz109_0,hfz109_1,hfz109_2,hfz109_3,hfz109_4,hfz109_5⟩:=bf6 BK190.out)|((with_reducible refine gate_builtin (b:=.append) (xs:=#[.tmp 122,.tmp 124]) rfl ?_);at_builtin;refine Kd.R_append (Kd.int .i64) w.heap.size rfl (.tmp 122) (.tmp 124) 22 3 (.int .i64 0) 8 rfl Try.underlying22 info3 rfl (by decide) (by omega) u191005 x191005_4 x7_78 [.int .i64 x7_78] (fun k_=>some k_≠(u191004:Value).ownBlock) (fun _=>False) rfl rfl ?aP (fun _ hk=>hk.elim) ?aF ?aO (Below.refl _ _) ?aS ?aL ?_;(case aP=>exact rfl);(case aF=>exact (fun k_ hk=>Kd.fresh' (Kd.R_lt (by (with_reducible repeat (first|apply rA_|apply rN_|apply rD_));exact HO_191004.out)) k_ hk));(case aO=>exact (by (with_reducible repeat (first|apply rA_|apply rN_|apply rD_));exact HO_191005.out));(case aS=>exact (keep_size (w:=w) (g:=g) (row:=none) (by repeat (first|(with_reducible first|exact HK.out|apply pS_|apply pN_|apply pD_|apply pA_|refine keep_far ?_ GW183.out _|refine keep_far ?_ GW190.out _)|exact HK.out))));(case aL=>have:=LMc104.out;omega);intro v232 w110 ho hb hg hat;rw [← Ny231.out] at ho;have n0_:=aM_ (Kd.R_after (ok:=(fun _=>True)) (by (with_reducible repeat (first|apply rA_|apply rN_|apply rD_));exact Kd.R_mono HO_191004.out (fun _ hk=>⟨trivial,hk⟩)) hg hat);have n1_:=aM_ (blk_grown (g:=gb183) (o:=.cells #[.int .i64 0,.int .i64 0,.int .i64 0,.int .i64 0,.slice none 0 0,.slice none 0 0] 27 (0,0)) (by (with_reducible repeat (first|apply kN_|apply kD_|apply kA_));exact BK183.out) hg (Kd.R_ne HO_191005.out BK183.out (by decide)));have n2_:=aM_ (blk_grown (g:=gb190) (o:=.cells #[.int .i64 (wrap64 (1+t184)),.int .i64 x191001_27,.int .i64 x191002_5,.int .i64 x191003_5,u191004,u191005] 27 (0,0)) (by (with_reducible repeat (first|apply kN_|apply kD_|apply kA_));exact BK190.out) hg (Kd.R_ne HO_191005.out BK190.out (by decide)));have n3_:=aM_ (IsS65.grown (by repeat (first|(with_reducible first|exact HI0.out|apply IsS65.alloc|apply IsS65.drewN|apply IsS65.drew|apply IsS65.set_1|refine IsS65.far ?_ NB0_183.out _|refine IsS65.far ?_ NB0_190.out _)|exact HI0.out)) hg (IsS65.own_ne HI0.out HO_191005.out (by decide)));have n4_:=aM_ (below_weaken (by repeat (first|(with_reducible first|exact HB.out|apply wA_|apply wN_|apply wD_|refine below_set ?_ (IsS65.ge HI0.out)|refine below_set ?_ GE183.out|refine below_set ?_ GE190.out)|exact HB.out)) HL.out hb);have n5_:=aM_ (KeepBut.trans (by repeat (first|(with_reducible first|exact HK.out|apply pS_|apply pN_|apply pD_|apply pA_|refine keep_far ?_ GW183.out _|refine keep_far ?_ GW190.out _)|exact HK.out)) (KeepBut.of_grown hg g) (Kd.R_base2 HO_191005.out));have n6_:=aM_ (ho);clear HO_191004;clear BK183;clear BK190;clear HI0;clear HB;clear HK;clear HO_191005;have HO_191004:=n0_;have BK183:=n1_;have BK190:=n2_;have HI0:=n3_;have HB:=n4_;have HK:=n5_;have HO233:=n6_;clear n0_ n1_ n2_ n3_ n4_ n5_ n6_;clear ho hb hg hat;obtain ⟨Ao111,co111,eo111⟩:=Kd.R_slice HO233.out;subst eo111;obtain ⟨hcz112_0,hcz112_1,hcz112_2,hcz112_3,hcz112_4,hcz112_5⟩:=bc6 BK190.out;obtain ⟨hfz112_0,hfz112_1,hfz112_2,hfz112_3,hfz112_4,hfz112_5⟩:=bf6 BK190.out))
                 go_roundg kj78
                 case measure=>have:=HJ5.out;have:=HJ27.out;have:=HJ67.out;have:=HK4.out;have:=HJ78.out;omega
                 case rel=>exact ⟨(x7_78),(wrap64 (x8_4+1)),(t227),(y231),(.slice Ao111 y231.length co111),(by first|rfl|(simp;done)|(simp [*];done)),(by first|rfl|(simp;done)|(simp [*];done)),H',⟨by have:=HJ5.out;have:=HJ27.out;have:=HJ67.out;have:=HK4.out;have:=HJ78.out;omega⟩,⟨by (with_reducible repeat (first|apply rA_|apply rN_|apply rD_));exact Kd.R_mono (Kd.R_far (Kd.R_types HO_191004.out BK190.out (by decide)) (fun _ hk=>hk.2) _) (fun _ hk=>hk.1.2)⟩,⟨by (with_reducible repeat (first|apply rA_|apply rN_|apply rD_));exact Kd.R_mono (Kd.R_far (Kd.R_types HO233.out BK190.out (by decide)) (fun _ hk=>hk.2) _) (fun _ hk=>hk.1)⟩,⟨by (with_reducible repeat (first|apply kN_|apply kD_|apply kA_));refine blk_far ?_ NB183_190.out _;(with_reducible repeat (first|apply kN_|apply kD_|apply kA_));exact BK183.out⟩,⟨by (with_reducible repeat (first|apply kN_|apply kD_|apply kA_));refine blk_put (cs:=#[.int .i64 (wrap64 (1+t184)),.int .i64 x191001_27,.int .i64 x191002_5,.int .i64 x191003_5,u191004,u191005]) ?_ 5 _ rfl;(with_reducible repeat (first|apply kN_|apply kD_|apply kA_));exact BK190.out⟩,⟨by repeat (first|(with_reducible first|exact HI0.out|apply IsS65.alloc|apply IsS65.drewN|apply IsS65.drew|apply IsS65.set_1|refine IsS65.far ?_ NB0_183.out _|refine IsS65.far ?_ NB0_190.out _)|exact HI0.out)⟩,⟨by repeat (first|(with_reducible first|exact HK.out|apply pS_|apply pN_|apply pD_|apply pA_|refine keep_far ?_ GW183.out _|refine keep_far ?_ GW190.out _)|exact HK.out)⟩,⟨by repeat (first|(with_reducible first|exact HB.out|apply wA_|apply wN_|apply wD_|refine below_set ?_ (IsS65.ge HI0.out)|refine below_set ?_ GE183.out|refine below_set ?_ GE190.out)|exact HB.out)⟩⟩
                ·rw [if_neg c104] at H
                 exact absurd H (by simp)
              ·rw [if_neg c92] at H
               have c92b0:((wrap64 (1+t184)) == 3)=false:=beq_eq_false_iff_ne.mpr c92
               have c92b1:((wrap64 (1+t184)) != 3)=true:=bne_iff_ne.mpr c92
               by_cases c113:x191005_4.length < 17592186044416
               ·rw [if_pos c113] at H
                have LMc113:=aM_ c113
                clear c113
                obtain ⟨y234,hy234⟩:∃ y_:List Int,y_=(x191005_4 ++ [x7_78]):=⟨_,rfl⟩
                replace H:(spec_l14Image.l1 kj78 x6_67 x7_78 (wrap64 (x8_4+1)) s0_0 x1001_78 (wrap64 (1+t184)) x191001_27 x191002_5 x191003_5 x191004_27 y234)=some (r1,r2,r3,r4,r5,r6,r7):=by first|(rw [hy234];with_reducible exact H)|(have H2_:=(Option.bind_some _ _).symm.trans H;rw [hy234];with_reducible exact H2_)|(have H2_:=(Option.bind_some _ _).symm.trans H;with_reducible exact H2_)|with_reducible exact H|(rw [hy234];exact H)|exact H
                have Ny234:=aM_ hy234
                clear hy234
                have H':=aM_ H
                clear H
                have hnb114:=NB190_183.out
                have hnc114:=NB183_190.out
                have hnb115:=NB190_0.out
                have hnc115:=NB0_190.out
                obtain ⟨hcz116_0,hcz116_1,hcz116_2,hcz116_3,hcz116_4,hcz116_5⟩:=bc6 BK190.out
                obtain ⟨hfz116_0,hfz116_1,hfz116_2,hfz116_3,hfz116_4,hfz116_5⟩:=bf6 BK190.out
                go_wp2_with (first|((with_reducible refine gate_builtin (b:=.append) (xs:=#[.tmp 122,.tmp 124]) rfl ?_);at_builtin;refine Kd.R_append (Kd.int .i64) w.heap.size rfl (.tmp 122) (.tmp 124) 22 3 (.int .i64 0) 8 rfl Try.underlying22 info3 rfl (by decide) (by omega) u191005 x191005_4 x7_78 [.int .i64 x7_78] (fun k_=>some k_≠(u191004:Value).ownBlock) (fun _=>False) rfl rfl ?aP (fun _ hk=>hk.elim) ?aF ?aO (Below.refl _ _) ?aS ?aL ?_;(case aP=>exact rfl);(case aF=>exact (fun k_ hk=>Kd.fresh' (Kd.R_lt (by (with_reducible repeat (first|apply rA_|apply rN_|apply rD_));exact HO_191004.out)) k_ hk));(case aO=>exact (by (with_reducible repeat (first|apply rA_|apply rN_|apply rD_));exact HO_191005.out));(case aS=>exact (keep_size (w:=w) (g:=g) (row:=none) (by repeat (first|(with_reducible first|exact HK.out|apply pS_|apply pN_|apply pD_|apply pA_|refine keep_far ?_ GW183.out _|refine keep_far ?_ GW190.out _)|exact HK.out))));(case aL=>have:=LMc113.out;omega);intro v235 w117 ho hb hg hat;rw [← Ny234.out] at ho;have n0_:=aM_ (Kd.R_after (ok:=(fun _=>True)) (by (with_reducible repeat (first|apply rA_|apply rN_|apply rD_));exact Kd.R_mono HO_191004.out (fun _ hk=>⟨trivial,hk⟩)) hg hat);have n1_:=aM_ (blk_grown (g:=gb183) (o:=.cells #[.int .i64 0,.int .i64 0,.int .i64 0,.int .i64 0,.slice none 0 0,.slice none 0 0] 27 (0,0)) (by (with_reducible repeat (first|apply kN_|apply kD_|apply kA_));exact BK183.out) hg (Kd.R_ne HO_191005.out BK183.out (by decide)));have n2_:=aM_ (blk_grown (g:=gb190) (o:=.cells #[.int .i64 (wrap64 (1+t184)),.int .i64 x191001_27,.int .i64 x191002_5,.int .i64 x191003_5,u191004,u191005] 27 (0,0)) (by (with_reducible repeat (first|apply kN_|apply kD_|apply kA_));exact BK190.out) hg (Kd.R_ne HO_191005.out BK190.out (by decide)));have n3_:=aM_ (IsS65.grown (by repeat (first|(with_reducible first|exact HI0.out|apply IsS65.alloc|apply IsS65.drewN|apply IsS65.drew|apply IsS65.set_1|refine IsS65.far ?_ NB0_183.out _|refine IsS65.far ?_ NB0_190.out _)|exact HI0.out)) hg (IsS65.own_ne HI0.out HO_191005.out (by decide)));have n4_:=aM_ (below_weaken (by repeat (first|(with_reducible first|exact HB.out|apply wA_|apply wN_|apply wD_|refine below_set ?_ (IsS65.ge HI0.out)|refine below_set ?_ GE183.out|refine below_set ?_ GE190.out)|exact HB.out)) HL.out hb);have n5_:=aM_ (KeepBut.trans (by repeat (first|(with_reducible first|exact HK.out|apply pS_|apply pN_|apply pD_|apply pA_|refine keep_far ?_ GW183.out _|refine keep_far ?_ GW190.out _)|exact HK.out)) (KeepBut.of_grown hg g) (Kd.R_base2 HO_191005.out));have n6_:=aM_ (ho);clear HO_191004;clear BK183;clear BK190;clear HI0;clear HB;clear HK;clear HO_191005;have HO_191004:=n0_;have BK183:=n1_;have BK190:=n2_;have HI0:=n3_;have HB:=n4_;have HK:=n5_;have HO236:=n6_;clear n0_ n1_ n2_ n3_ n4_ n5_ n6_;clear ho hb hg hat;obtain ⟨Ao118,co118,eo118⟩:=Kd.R_slice HO236.out;subst eo118;obtain ⟨hcz119_0,hcz119_1,hcz119_2,hcz119_3,hcz119_4,hcz119_5⟩:=bc6 BK190.out;obtain ⟨hfz119_0,hfz119_1,hfz119_2,hfz119_3,hfz119_4,hfz119_5⟩:=bf6 BK190.out))
                go_roundg kj78
                case measure=>have:=HJ5.out;have:=HJ27.out;have:=HJ67.out;have:=HK4.out;have:=HJ78.out;omega
                case rel=>exact ⟨(x7_78),(wrap64 (x8_4+1)),(x1001_78),(y234),(.slice Ao118 y234.length co118),(by first|rfl|(simp;done)|(simp [*];done)),(by first|rfl|(simp;done)|(simp [*];done)),H',⟨by have:=HJ5.out;have:=HJ27.out;have:=HJ67.out;have:=HK4.out;have:=HJ78.out;omega⟩,⟨by (with_reducible repeat (first|apply rA_|apply rN_|apply rD_));exact Kd.R_mono (Kd.R_far (Kd.R_types HO_191004.out BK190.out (by decide)) (fun _ hk=>hk.2) _) (fun _ hk=>hk.1.2)⟩,⟨by (with_reducible repeat (first|apply rA_|apply rN_|apply rD_));exact Kd.R_mono (Kd.R_far (Kd.R_types HO236.out BK190.out (by decide)) (fun _ hk=>hk.2) _) (fun _ hk=>hk.1)⟩,⟨by (with_reducible repeat (first|apply kN_|apply kD_|apply kA_));refine blk_far ?_ NB183_190.out _;(with_reducible repeat (first|apply kN_|apply kD_|apply kA_));exact BK183.out⟩,⟨by (with_reducible repeat (first|apply kN_|apply kD_|apply kA_));refine blk_put (cs:=#[.int .i64 (wrap64 (1+t184)),.int .i64 x191001_27,.int .i64 x191002_5,.int .i64 x191003_5,u191004,u191005]) ?_ 5 _ rfl;(with_reducible repeat (first|apply kN_|apply kD_|apply kA_));exact BK190.out⟩,⟨by repeat (first|(with_reducible first|exact HI0.out|apply IsS65.alloc|apply IsS65.drewN|apply IsS65.drew|apply IsS65.set_1|refine IsS65.far ?_ NB0_183.out _|refine IsS65.far ?_ NB0_190.out _)|exact HI0.out)⟩,⟨by repeat (first|(with_reducible first|exact HK.out|apply pS_|apply pN_|apply pD_|apply pA_|refine keep_far ?_ GW183.out _|refine keep_far ?_ GW190.out _)|exact HK.out)⟩,⟨by repeat (first|(with_reducible first|exact HB.out|apply wA_|apply wN_|apply wD_|refine below_set ?_ (IsS65.ge HI0.out)|refine below_set ?_ GE183.out|refine below_set ?_ GE190.out)|exact HB.out)⟩⟩
               ·rw [if_neg c113] at H
                exact absurd H (by simp)
           ·rw [if_neg c77] at H
            have c77b0:decide (x8_4 < (wrap64 (x191002_5 * x191003_5)))=false:=decide_eq_false c77
            clear c77
            simp only [Option.some.injEq,Prod.mk.injEq] at H
            obtain ⟨rfl,rfl,rfl,rfl,rfl,rfl,rfl⟩:=H
            have hnb120:=NB190_183.out
            have hnc120:=NB183_190.out
            have hnb121:=NB190_0.out
            have hnc121:=NB0_190.out
            obtain ⟨hcz122_0,hcz122_1,hcz122_2,hcz122_3,hcz122_4,hcz122_5⟩:=bc6 BK190.out
            obtain ⟨hfz122_0,hfz122_1,hfz122_2,hfz122_3,hfz122_4,hfz122_5⟩:=bf6 BK190.out
            have hnb123:=NB183_0.out
            have hnc123:=NB0_183.out
            obtain ⟨hcz124_0,hcz124_1,hcz124_2,hcz124_3,hcz124_4,hcz124_5⟩:=bc6 BK183.out
            obtain ⟨hfz124_0,hfz124_1,hfz124_2,hfz124_3,hfz124_4,hfz124_5⟩:=bf6 BK183.out
            obtain ⟨Ao125,co125,eo125⟩:=Kd.R_slice HO_191004.out
            subst eo125
            obtain ⟨Ao126,co126,eo126⟩:=Kd.R_slice HO_191005.out
            subst eo126
            go_wp2
            refine bodyPost_ret (results_cell_row rfl _ _ gb183 27 #[.int .i64 (wrap64 (1+t184)),.int .i64 x191001_27,.int .i64 x191002_5,.int .i64 x191003_5,.slice Ao125 x191004_27.length co125,.slice Ao126 x191005_4.length co126] (0,0) _ rfl (by (with_reducible repeat (first|apply kN_|apply kD_|apply kA_));refine blk_put (cs:=#[.int .i64 (wrap64 (1+t184)),.int .i64 x191001_27,.int .i64 x191002_5,.int .i64 x191003_5,.slice Ao125 x191004_27.length co125,.slice none 0 0]) ?_ 5 _ rfl;(with_reducible repeat (first|apply kN_|apply kD_|apply kA_));refine blk_put (cs:=#[.int .i64 (wrap64 (1+t184)),.int .i64 x191001_27,.int .i64 x191002_5,.int .i64 x191003_5,.slice none 0 0,.slice none 0 0]) ?_ 4 _ rfl;(with_reducible repeat (first|apply kN_|apply kD_|apply kA_));refine blk_put (cs:=#[.int .i64 (wrap64 (1+t184)),.int .i64 x191001_27,.int .i64 x191002_5,.int .i64 0,.slice none 0 0,.slice none 0 0]) ?_ 3 _ rfl;(with_reducible repeat (first|apply kN_|apply kD_|apply kA_));refine blk_put (cs:=#[.int .i64 (wrap64 (1+t184)),.int .i64 x191001_27,.int .i64 0,.int .i64 0,.slice none 0 0,.slice none 0 0]) ?_ 2 _ rfl;(with_reducible repeat (first|apply kN_|apply kD_|apply kA_));refine blk_put (cs:=#[.int .i64 (wrap64 (1+t184)),.int .i64 0,.int .i64 0,.int .i64 0,.slice none 0 0,.slice none 0 0]) ?_ 1 _ rfl;(with_reducible repeat (first|apply kN_|apply kD_|apply kA_));refine blk_put (cs:=#[.int .i64 0,.int .i64 0,.int .i64 0,.int .i64 0,.slice none 0 0,.slice none 0 0]) ?_ 0 _ rfl;(with_reducible repeat (first|apply kN_|apply kD_|apply kA_));exact BK183.out) Try.underlying27 rfl (by kernel_rfl)) rfl ?_
            exact ⟨_,_,by first|rfl|(simp [errW_none,errW_some] <;> rfl)|(simp [*,errW_none,errW_some] <;> rfl),by (with_reducible repeat (first|apply rA_|apply rN_|apply rD_));exact Kd.R_mono (Kd.R_far (Kd.R_far (Kd.R_far (Kd.R_far (Kd.R_far (Kd.R_far (Kd.R_types HO_191004.out BK183.out (by decide)) (fun _ hk=>hk.2) (.int .i64 (wrap64 (1+t184)))) (fun _ hk=>hk.2) _) (fun _ hk=>hk.2) _) (fun _ hk=>hk.2) _) (fun _ hk=>hk.2) _) (fun _ hk=>hk.2) _) (fun _ hk=>hk.1),by (with_reducible repeat (first|apply rA_|apply rN_|apply rD_));exact Kd.R_mono (Kd.R_far (Kd.R_far (Kd.R_far (Kd.R_far (Kd.R_far (Kd.R_far (Kd.R_types HO_191005.out BK183.out (by decide)) (fun _ hk=>hk.2) (.int .i64 (wrap64 (1+t184)))) (fun _ hk=>hk.2) _) (fun _ hk=>hk.2) _) (fun _ hk=>hk.2) _) (fun _ hk=>hk.2) _) (fun _ hk=>hk.2) _) (fun _ hk=>hk.1),by repeat (first|(with_reducible first|exact HI0.out|apply IsS65.alloc|apply IsS65.drewN|apply IsS65.drew|apply IsS65.set_1|refine IsS65.far ?_ NB0_183.out _|refine IsS65.far ?_ NB0_190.out _)|exact HI0.out),by repeat (first|(with_reducible first|exact HB.out|apply wA_|apply wN_|apply wD_|refine below_set ?_ (IsS65.ge HI0.out)|refine below_set ?_ GE183.out|refine below_set ?_ GE190.out)|exact HB.out),by repeat (first|(with_reducible first|exact HK.out|apply pS_|apply pN_|apply pD_|apply pA_|refine keep_far ?_ GW183.out _|refine keep_far ?_ GW190.out _)|exact HK.out)⟩
    ·rw [if_neg c27] at H
     exact absurd H (by simp)
   ·rw [if_neg c26] at H
    exact absurd H (by simp)

end Go.Proofs.Ytkjfefiphdloiaa.PFnImageTurn
