/- What the functions that the law comes to compute, as plain functions, and that the machine's calls come to just that: written by a program for this claim, and turned where Lean did not take it. No condition. -/
import Derived.Test.YtkjfefiphdloiaaHFnImageCutx0
import Derived.Test.YtkjfefiphdloiaaHFnImageCutx2
import Derived.Test.YtkjfefiphdloiaaHFnImageCutx4
import Derived.Test.YtkjfefiphdloiaaHFnImageCutx5
import Derived.Test.YtkjfefiphdloiaaHFnImageCutx6
import Derived.Test.YtkjfefiphdloiaaHFnImageCutx8
import Derived.Test.YtkjfefiphdloiaaHFnImageCutx12
namespace Go.Proofs.Ytkjfefiphdloiaa.PFnImageCut
open Go.RowKit Go.Proofs.YtkjfefiphdloiaaW.PrintWords Go.Proofs.YtkjfefiphdloiaaW.PrintLast Go.Proofs.YtkjfefiphdloiaaW.PrintMore
attribute [local go_sem] max2_int min2_int max_two min_two max_three min_three max_four min_four   -- for this text's walks alone
set_option linter.unusedVariables false
set_option linter.unusedSimpArgs false

/-! ### laws_FnImageCut: function 14 -/
mutual
def laws_FnImageCut.j0:Nat → Int → Int → Int → Int → Bool → Bool → Int → Int → Int → Int → List Int → List Int → Int → Int → Int → Int → List Int → List Int → Option (Bool)
 | 0,_,_,_,_,_,_,_,_,_,_,_,_,_,_,_,_,_,_=>none
 | k+1,x4,x5,x6,x7,x9,x63,x402000,x402001,x402002,x402003,x402004,x402005,x414000,x414001,x414002,x414003,x414004,x414005=>if x63=true then (some false) else (if x9=true then (laws_FnImageCut.l0 k x4 x5 x6 x7 0 x402000 x402001 x402002 x402003 x402004 x402005 x414000 x414001 x414002 x414003 x414004 x414005) else (some (x414000 == 0)))
def laws_FnImageCut.l0:Nat → Int → Int → Int → Int → Int → Int → Int → Int → Int → List Int → List Int → Int → Int → Int → Int → List Int → List Int → Option (Bool)
 | 0,_,_,_,_,_,_,_,_,_,_,_,_,_,_,_,_,_=>none
 | k+1,x4,x5,x6,x7,x12,x402000,x402001,x402002,x402003,x402004,x402005,x414000,x414001,x414002,x414003,x414004,x414005=>if x12 < (wrap64 (x6 * x7)) then (if x6=0 then (none) else ((impl_ImageAt.f k x414000 x414001 x414002 x414003 x414004 x414005 (Int.tmod x12 x6) (wrap64 (Int.tdiv x12 x6))).bind fun bt429=>((impl_ImageAt.f k x402000 x402001 x402002 x402003 x402004 x402005 (wrap64 (x4+(Int.tmod x12 x6))) (wrap64 (x5+(wrap64 (Int.tdiv x12 x6))))).bind fun bt431=>(if bt429.2=true then (if bt431.2=true then (laws_FnImageCut.j2 k x4 x5 x6 x7 x12 (bt429.1 != bt431.1) x402000 x402001 x402002 x402003 x402004 x402005 x414000 x414001 x414002 x414003 x414004 x414005) else (laws_FnImageCut.j2 k x4 x5 x6 x7 x12 true x402000 x402001 x402002 x402003 x402004 x402005 x414000 x414001 x414002 x414003 x414004 x414005)) else (laws_FnImageCut.j2 k x4 x5 x6 x7 x12 true x402000 x402001 x402002 x402003 x402004 x402005 x414000 x414001 x414002 x414003 x414004 x414005))))) else ((impl_ImageCut.f k x402000 x402001 x402002 x402003 x402004 x402005 0 0 x402002 x402003).bind fun bt433=>((impl_ImageOk.f k x414000 x414001 x414002 x414003 x414004 x414005).bind fun t445=>(if t445=true then (if bt433.2.2.2.2.2.2=true then ((laws_wiImage.f k bt433.1 bt433.2.1 bt433.2.2.1 bt433.2.2.2.1 bt433.2.2.2.2.1 bt433.2.2.2.2.2.1 x402000 x402001 x402002 x402003 x402004 x402005).bind fun t446=>(some t446)) else (some false)) else (some false))))
def laws_FnImageCut.j2:Nat → Int → Int → Int → Int → Int → Bool → Int → Int → Int → Int → List Int → List Int → Int → Int → Int → Int → List Int → List Int → Option (Bool)
 | 0,_,_,_,_,_,_,_,_,_,_,_,_,_,_,_,_,_,_=>none
 | k+1,x4,x5,x6,x7,x12,x112,x402000,x402001,x402002,x402003,x402004,x402005,x414000,x414001,x414002,x414003,x414004,x414005=>if x112=true then (some false) else (laws_FnImageCut.l0 k x4 x5 x6 x7 (wrap64 (x12+1)) x402000 x402001 x402002 x402003 x402004 x402005 x414000 x414001 x414002 x414003 x414004 x414005)
end
def laws_FnImageCut.f (k:Nat) (l0:List Int):Option (Bool):=if (l0.length:Int) > 1048576 then (some true) else ((spec_DrawImageCut.f k l0).bind fun bt387=>((impl_ImageCut.f k bt387.1 bt387.2.1 bt387.2.2.1 bt387.2.2.2.1 bt387.2.2.2.2.1 bt387.2.2.2.2.2.1 bt387.2.2.2.2.2.2.1 bt387.2.2.2.2.2.2.2.1 bt387.2.2.2.2.2.2.2.2.1 bt387.2.2.2.2.2.2.2.2.2).bind fun bt402=>((spec_ImageCut.f k bt387.1 bt387.2.1 bt387.2.2.1 bt387.2.2.2.1 bt387.2.2.2.2.1 bt387.2.2.2.2.2.1 bt387.2.2.2.2.2.2.1 bt387.2.2.2.2.2.2.2.1 bt387.2.2.2.2.2.2.2.2.1 bt387.2.2.2.2.2.2.2.2.2).bind fun bt414=>((laws_wiImage.f k bt402.1 bt402.2.1 bt402.2.2.1 bt402.2.2.2.1 bt402.2.2.2.2.1 bt402.2.2.2.2.2.1 bt414.1 bt414.2.1 bt414.2.2.1 bt414.2.2.2.1 bt414.2.2.2.2.1 bt414.2.2.2.2.2.1).bind fun t426=>(if t426=true then (if (bt402.2.2.2.2.2.2 != bt414.2.2.2.2.2.2)=true then (laws_FnImageCut.j0 k bt387.2.2.2.2.2.2.1 bt387.2.2.2.2.2.2.2.1 bt387.2.2.2.2.2.2.2.2.1 bt387.2.2.2.2.2.2.2.2.2 bt402.2.2.2.2.2.2 true bt387.1 bt387.2.1 bt387.2.2.1 bt387.2.2.2.1 bt387.2.2.2.2.1 bt387.2.2.2.2.2.1 bt402.1 bt402.2.1 bt402.2.2.1 bt402.2.2.2.1 bt402.2.2.2.2.1 bt402.2.2.2.2.2.1) else ((impl_ImageOk.f k bt387.1 bt387.2.1 bt387.2.2.1 bt387.2.2.2.1 bt387.2.2.2.2.1 bt387.2.2.2.2.2.1).bind fun t427=>((spec_ImageOk.f k bt387.1 bt387.2.1 bt387.2.2.1 bt387.2.2.2.1 bt387.2.2.2.2.1 bt387.2.2.2.2.2.1).bind fun t428=>(laws_FnImageCut.j0 k bt387.2.2.2.2.2.2.1 bt387.2.2.2.2.2.2.2.1 bt387.2.2.2.2.2.2.2.2.1 bt387.2.2.2.2.2.2.2.2.2 bt402.2.2.2.2.2.2 (t427 != t428) bt387.1 bt387.2.1 bt387.2.2.1 bt387.2.2.2.1 bt387.2.2.2.2.1 bt387.2.2.2.2.2.1 bt402.1 bt402.2.1 bt402.2.2.1 bt402.2.2.2.1 bt402.2.2.2.2.1 bt402.2.2.2.2.2.1)))) else (laws_FnImageCut.j0 k bt387.2.2.2.2.2.2.1 bt387.2.2.2.2.2.2.2.1 bt387.2.2.2.2.2.2.2.2.1 bt387.2.2.2.2.2.2.2.2.2 bt402.2.2.2.2.2.2 true bt387.1 bt387.2.1 bt387.2.2.1 bt387.2.2.2.1 bt387.2.2.2.2.1 bt387.2.2.2.2.2.1 bt402.1 bt402.2.1 bt402.2.2.1 bt402.2.2.2.1 bt402.2.2.2.2.1 bt402.2.2.2.2.2.1))))))
theorem laws_FnImageCut.mono_l:∀ k,(∀ y0 y1 y2 y3 y4 y5 y6 y7 y8 y9 y10 y11 y12 y13 y14 y15 y16 y17,LeO (laws_FnImageCut.j0 k y0 y1 y2 y3 y4 y5 y6 y7 y8 y9 y10 y11 y12 y13 y14 y15 y16 y17) (laws_FnImageCut.j0 (k+1) y0 y1 y2 y3 y4 y5 y6 y7 y8 y9 y10 y11 y12 y13 y14 y15 y16 y17))∧(∀ y0 y1 y2 y3 y4 y5 y6 y7 y8 y9 y10 y11 y12 y13 y14 y15 y16,LeO (laws_FnImageCut.l0 k y0 y1 y2 y3 y4 y5 y6 y7 y8 y9 y10 y11 y12 y13 y14 y15 y16) (laws_FnImageCut.l0 (k+1) y0 y1 y2 y3 y4 y5 y6 y7 y8 y9 y10 y11 y12 y13 y14 y15 y16))∧(∀ y0 y1 y2 y3 y4 y5 y6 y7 y8 y9 y10 y11 y12 y13 y14 y15 y16 y17,LeO (laws_FnImageCut.j2 k y0 y1 y2 y3 y4 y5 y6 y7 y8 y9 y10 y11 y12 y13 y14 y15 y16 y17) (laws_FnImageCut.j2 (k+1) y0 y1 y2 y3 y4 y5 y6 y7 y8 y9 y10 y11 y12 y13 y14 y15 y16 y17))
 | 0=>⟨fun _ _ _ _ _ _ _ _ _ _ _ _ _ _ _ _ _ _ r h=>by simp [laws_FnImageCut.j0] at h,fun _ _ _ _ _ _ _ _ _ _ _ _ _ _ _ _ _ r h=>by simp [laws_FnImageCut.l0] at h,fun _ _ _ _ _ _ _ _ _ _ _ _ _ _ _ _ _ _ r h=>by simp [laws_FnImageCut.j2] at h⟩
 | k+1=>by
  obtain ⟨ih0,ih1,ih2⟩:=laws_FnImageCut.mono_l k
  refine ⟨?_,?_,?_⟩
  ·intro y0 y1 y2 y3 y4 y5 y6 y7 y8 y9 y10 y11 y12 y13 y14 y15 y16 y17
   unfold laws_FnImageCut.j0
   repeat' first
   | (with_reducible exact ih0 _ _ _ _ _ _ _ _ _ _ _ _ _ _ _ _ _ _)
   | (with_reducible exact ih1 _ _ _ _ _ _ _ _ _ _ _ _ _ _ _ _ _)
   | (with_reducible exact ih2 _ _ _ _ _ _ _ _ _ _ _ _ _ _ _ _ _ _)
   | (with_reducible exact impl_ImageAt.mono _ _ _ _ _ _ _ _ _)
   | (with_reducible exact impl_ImageCut.mono _ _ _ _ _ _ _ _ _ _ _)
   | (with_reducible exact impl_ImageOk.mono _ _ _ _ _ _ _)
   | (with_reducible exact laws_wiImage.mono _ _ _ _ _ _ _ _ _ _ _ _ _)
   | (with_reducible exact spec_DrawImageCut.mono _ _)
   | (with_reducible exact spec_ImageCut.mono _ _ _ _ _ _ _ _ _ _ _)
   | (with_reducible exact spec_ImageOk.mono _ _ _ _ _ _ _)
   | (with_reducible exact LeO.refl _)
   | (with_reducible exact LeO.none _)
   | (with_reducible refine LeO.ite ?_ ?_)
   | (with_reducible refine LeO.bind ?_ (fun _=>?_))
  ·intro y0 y1 y2 y3 y4 y5 y6 y7 y8 y9 y10 y11 y12 y13 y14 y15 y16
   unfold laws_FnImageCut.l0
   repeat' first
   | (with_reducible exact ih0 _ _ _ _ _ _ _ _ _ _ _ _ _ _ _ _ _ _)
   | (with_reducible exact ih1 _ _ _ _ _ _ _ _ _ _ _ _ _ _ _ _ _)
   | (with_reducible exact ih2 _ _ _ _ _ _ _ _ _ _ _ _ _ _ _ _ _ _)
   | (with_reducible exact impl_ImageAt.mono _ _ _ _ _ _ _ _ _)
   | (with_reducible exact impl_ImageCut.mono _ _ _ _ _ _ _ _ _ _ _)
   | (with_reducible exact impl_ImageOk.mono _ _ _ _ _ _ _)
   | (with_reducible exact laws_wiImage.mono _ _ _ _ _ _ _ _ _ _ _ _ _)
   | (with_reducible exact spec_DrawImageCut.mono _ _)
   | (with_reducible exact spec_ImageCut.mono _ _ _ _ _ _ _ _ _ _ _)
   | (with_reducible exact spec_ImageOk.mono _ _ _ _ _ _ _)
   | (with_reducible exact LeO.refl _)
   | (with_reducible exact LeO.none _)
   | (with_reducible refine LeO.ite ?_ ?_)
   | (with_reducible refine LeO.bind ?_ (fun _=>?_))
  ·intro y0 y1 y2 y3 y4 y5 y6 y7 y8 y9 y10 y11 y12 y13 y14 y15 y16 y17
   unfold laws_FnImageCut.j2
   repeat' first
   | (with_reducible exact ih0 _ _ _ _ _ _ _ _ _ _ _ _ _ _ _ _ _ _)
   | (with_reducible exact ih1 _ _ _ _ _ _ _ _ _ _ _ _ _ _ _ _ _)
   | (with_reducible exact ih2 _ _ _ _ _ _ _ _ _ _ _ _ _ _ _ _ _ _)
   | (with_reducible exact impl_ImageAt.mono _ _ _ _ _ _ _ _ _)
   | (with_reducible exact impl_ImageCut.mono _ _ _ _ _ _ _ _ _ _ _)
   | (with_reducible exact impl_ImageOk.mono _ _ _ _ _ _ _)
   | (with_reducible exact laws_wiImage.mono _ _ _ _ _ _ _ _ _ _ _ _ _)
   | (with_reducible exact spec_DrawImageCut.mono _ _)
   | (with_reducible exact spec_ImageCut.mono _ _ _ _ _ _ _ _ _ _ _)
   | (with_reducible exact spec_ImageOk.mono _ _ _ _ _ _ _)
   | (with_reducible exact LeO.refl _)
   | (with_reducible exact LeO.none _)
   | (with_reducible refine LeO.ite ?_ ?_)
   | (with_reducible refine LeO.bind ?_ (fun _=>?_))
theorem laws_FnImageCut.mono:∀ a0 k,LeO (laws_FnImageCut.f k a0) (laws_FnImageCut.f (k+1) a0):=by
 intro a0 k
 obtain ⟨ih0,ih1,ih2⟩:=laws_FnImageCut.mono_l k
 unfold laws_FnImageCut.f
 repeat' first
   | (with_reducible exact ih0 _ _ _ _ _ _ _ _ _ _ _ _ _ _ _ _ _ _)
   | (with_reducible exact ih1 _ _ _ _ _ _ _ _ _ _ _ _ _ _ _ _ _)
   | (with_reducible exact ih2 _ _ _ _ _ _ _ _ _ _ _ _ _ _ _ _ _ _)
   | (with_reducible exact impl_ImageAt.mono _ _ _ _ _ _ _ _ _)
   | (with_reducible exact impl_ImageCut.mono _ _ _ _ _ _ _ _ _ _ _)
   | (with_reducible exact impl_ImageOk.mono _ _ _ _ _ _ _)
   | (with_reducible exact laws_wiImage.mono _ _ _ _ _ _ _ _ _ _ _ _ _)
   | (with_reducible exact spec_DrawImageCut.mono _ _)
   | (with_reducible exact spec_ImageCut.mono _ _ _ _ _ _ _ _ _ _ _)
   | (with_reducible exact spec_ImageOk.mono _ _ _ _ _ _ _)
   | (with_reducible exact LeO.refl _)
   | (with_reducible exact LeO.none _)
   | (with_reducible refine LeO.ite ?_ ?_)
   | (with_reducible refine LeO.bind ?_ (fun _=>?_))
def laws_FnImageCut.T6:Bool × List (List Nat × List Nat):=(true,[([],[]),([],[]),([0,1],[0,1]),([2],[2]),([3,2],[3]),([4],[4]),([4],[4]),([5,6,4],[4,5,6]),([4,7],[4,7]),([8,4],[8]),([9],[9]),([10,9,9],[9,10]),([9],[9]),([12,11,9],[9,12]),([11,13,9],[9,11,13]),([9,14],[9,14])])
def laws_FnImageCut.B6:List Nat:=[0,0,3,7,15,31,31,127,255,511,1023,2047,1023,8191,16383,32767]
theorem laws_FnImageCut.tab6:rtab .any (opsOf Try.f14 6)=laws_FnImageCut.T6:=by kernel_rfl
theorem laws_FnImageCut.bits6:waitsOk laws_FnImageCut.T6.2 laws_FnImageCut.B6=true:=by kernel_rfl
def laws_FnImageCut.T13:Bool × List (List Nat × List Nat):=(true,[([],[]),([],[]),([],[]),([1,2],[1,2]),([],[]),([],[]),([4,5],[4,5]),([0,3,6],[0,3,6]),([7],[7]),([8],[8]),([8],[8]),([9,7,0,1,2,3,4,5,6,7,8,9],[9]),([10,11,0,1,2,3,4,5,6,7,8,9,10,11],[10])])
def laws_FnImageCut.B13:List Nat:=[0,0,0,6,0,0,48,127,255,511,511,1023,4095]
theorem laws_FnImageCut.tab13:rtab .any (opsOf Try.f14 13)=laws_FnImageCut.T13:=by kernel_rfl
theorem laws_FnImageCut.bits13:waitsOk laws_FnImageCut.T13.2 laws_FnImageCut.B13=true:=by kernel_rfl
def laws_FnImageCut.T14:Bool × List (List Nat × List Nat):=(true,[([],[]),([],[]),([],[]),([],[]),([2,3],[2,3]),([1,4],[1,4]),([],[]),([],[]),([],[]),([7,8],[7,8]),([6,9],[6,9]),([0,5,10],[0,5,10]),([11],[11]),([12],[12]),([12],[12]),([13,11,0,1,2,3,4,5,6,7,8,9,10,11,12,13],[13]),([14,15,0,1,2,3,4,5,6,7,8,9,10,11,12,13,14,15],[14])])
def laws_FnImageCut.B14:List Nat:=[0,0,0,0,12,30,0,0,0,384,960,2047,4095,8191,8191,16383,65535]
theorem laws_FnImageCut.tab14:rtab .any (opsOf Try.f14 14)=laws_FnImageCut.T14:=by kernel_rfl
theorem laws_FnImageCut.bits14:waitsOk laws_FnImageCut.T14.2 laws_FnImageCut.B14=true:=by kernel_rfl
set_option maxHeartbeats 8000000 in
set_option maxRecDepth 100000 in
theorem laws_FnImageCut.calls (k:Nat) (A0:Option Addr) (c0:Nat) (l0:List Int) (w:World) (hr0:Kd.C (Kd.int .u8) w A0 l0.length l0) (hc0:l0.length≤c0) (h:laws_FnImageCut.f k l0=some true) :
  Calls Try.prog 14 #[.slice A0 l0.length c0] w fun e w'=>e=.returned (.bool true)∧Below w.heap.size w w':=by
 have hu27:=Try.underlying27
 have HR0:=aM_ hr0
 have HC0:=aM_ hc0
 clear hr0 hc0
 have HB:=aM_ (Below.refl w.heap.size w)
 have H:(if (l0.length:Int) > 1048576 then (some true) else ((spec_DrawImageCut.f k l0).bind fun bt387=>((impl_ImageCut.f k bt387.1 bt387.2.1 bt387.2.2.1 bt387.2.2.2.1 bt387.2.2.2.2.1 bt387.2.2.2.2.2.1 bt387.2.2.2.2.2.2.1 bt387.2.2.2.2.2.2.2.1 bt387.2.2.2.2.2.2.2.2.1 bt387.2.2.2.2.2.2.2.2.2).bind fun bt402=>((spec_ImageCut.f k bt387.1 bt387.2.1 bt387.2.2.1 bt387.2.2.2.1 bt387.2.2.2.2.1 bt387.2.2.2.2.2.1 bt387.2.2.2.2.2.2.1 bt387.2.2.2.2.2.2.2.1 bt387.2.2.2.2.2.2.2.2.1 bt387.2.2.2.2.2.2.2.2.2).bind fun bt414=>((laws_wiImage.f k bt402.1 bt402.2.1 bt402.2.2.1 bt402.2.2.2.1 bt402.2.2.2.2.1 bt402.2.2.2.2.2.1 bt414.1 bt414.2.1 bt414.2.2.1 bt414.2.2.2.1 bt414.2.2.2.2.1 bt414.2.2.2.2.2.1).bind fun t426=>(if t426=true then (if (bt402.2.2.2.2.2.2 != bt414.2.2.2.2.2.2)=true then (laws_FnImageCut.j0 k bt387.2.2.2.2.2.2.1 bt387.2.2.2.2.2.2.2.1 bt387.2.2.2.2.2.2.2.2.1 bt387.2.2.2.2.2.2.2.2.2 bt402.2.2.2.2.2.2 true bt387.1 bt387.2.1 bt387.2.2.1 bt387.2.2.2.1 bt387.2.2.2.2.1 bt387.2.2.2.2.2.1 bt402.1 bt402.2.1 bt402.2.2.1 bt402.2.2.2.1 bt402.2.2.2.2.1 bt402.2.2.2.2.2.1) else ((impl_ImageOk.f k bt387.1 bt387.2.1 bt387.2.2.1 bt387.2.2.2.1 bt387.2.2.2.2.1 bt387.2.2.2.2.2.1).bind fun t427=>((spec_ImageOk.f k bt387.1 bt387.2.1 bt387.2.2.1 bt387.2.2.2.1 bt387.2.2.2.2.1 bt387.2.2.2.2.2.1).bind fun t428=>(laws_FnImageCut.j0 k bt387.2.2.2.2.2.2.1 bt387.2.2.2.2.2.2.2.1 bt387.2.2.2.2.2.2.2.2.1 bt387.2.2.2.2.2.2.2.2.2 bt402.2.2.2.2.2.2 (t427 != t428) bt387.1 bt387.2.1 bt387.2.2.1 bt387.2.2.2.1 bt387.2.2.2.2.1 bt387.2.2.2.2.2.1 bt402.1 bt402.2.1 bt402.2.2.1 bt402.2.2.2.1 bt402.2.2.2.2.1 bt402.2.2.2.2.2.1)))) else (laws_FnImageCut.j0 k bt387.2.2.2.2.2.2.1 bt387.2.2.2.2.2.2.2.1 bt387.2.2.2.2.2.2.2.2.1 bt387.2.2.2.2.2.2.2.2.2 bt402.2.2.2.2.2.2 true bt387.1 bt387.2.1 bt387.2.2.1 bt387.2.2.2.1 bt387.2.2.2.2.1 bt387.2.2.2.2.2.1 bt402.1 bt402.2.1 bt402.2.2.1 bt402.2.2.2.1 bt402.2.2.2.2.1 bt402.2.2.2.2.2.1)))))))=some true:=h
 clear h
 by_cases c2:(l0.length:Int) > 1048576
 ·rw [if_pos c2] at H
  have c2b0:decide (1048576 < (l0.length:Int))=true:=decide_eq_true c2
  have c2b1:decide (1048576 < l0.length)=true:=decide_eq_true (by omega)
  clear c2
  clear H
  go_enter Try.func14,Try.ntmps14
  go_wp2
  go_ret
  exact ⟨by first|rfl|(simp [errW_none,errW_some] <;> rfl)|(simp [*,errW_none,errW_some] <;> rfl),by repeat (first|(with_reducible first|exact HB.out|apply wA_|apply wN_|apply wD_)|exact HB.out)⟩
 ·rw [if_neg c2] at H
  have c2b0:decide (1048576 < (l0.length:Int))=false:=decide_eq_false c2
  have c2b1:decide (1048576 < l0.length)=false:=decide_eq_false (by omega)
  clear c2
  replace H:=Option.bind_eq_some_iff.mp H
  obtain ⟨⟨t387,t388,t389,t390,t391,t394,t397,t398,t399,t400⟩,A30,H⟩:=H
  replace H:((impl_ImageCut.f k t387 t388 t389 t390 t391 t394 t397 t398 t399 t400).bind fun bt402=>((spec_ImageCut.f k t387 t388 t389 t390 t391 t394 t397 t398 t399 t400).bind fun bt414=>((laws_wiImage.f k bt402.1 bt402.2.1 bt402.2.2.1 bt402.2.2.2.1 bt402.2.2.2.2.1 bt402.2.2.2.2.2.1 bt414.1 bt414.2.1 bt414.2.2.1 bt414.2.2.2.1 bt414.2.2.2.2.1 bt414.2.2.2.2.2.1).bind fun t426=>(if t426=true then (if (bt402.2.2.2.2.2.2 != bt414.2.2.2.2.2.2)=true then (laws_FnImageCut.j0 k t397 t398 t399 t400 bt402.2.2.2.2.2.2 true t387 t388 t389 t390 t391 t394 bt402.1 bt402.2.1 bt402.2.2.1 bt402.2.2.2.1 bt402.2.2.2.2.1 bt402.2.2.2.2.2.1) else ((impl_ImageOk.f k t387 t388 t389 t390 t391 t394).bind fun t427=>((spec_ImageOk.f k t387 t388 t389 t390 t391 t394).bind fun t428=>(laws_FnImageCut.j0 k t397 t398 t399 t400 bt402.2.2.2.2.2.2 (t427 != t428) t387 t388 t389 t390 t391 t394 bt402.1 bt402.2.1 bt402.2.2.1 bt402.2.2.2.1 bt402.2.2.2.2.1 bt402.2.2.2.2.2.1)))) else (laws_FnImageCut.j0 k t397 t398 t399 t400 bt402.2.2.2.2.2.2 true t387 t388 t389 t390 t391 t394 bt402.1 bt402.2.1 bt402.2.2.1 bt402.2.2.2.1 bt402.2.2.2.2.1 bt402.2.2.2.2.2.1)))))=some true:=H
  have A3:=aM_ A30
  clear A30
  replace H:=Option.bind_eq_some_iff.mp H
  obtain ⟨⟨t402,t403,t404,t405,t406,t409,t412⟩,A40,H⟩:=H
  replace H:((spec_ImageCut.f k t387 t388 t389 t390 t391 t394 t397 t398 t399 t400).bind fun bt414=>((laws_wiImage.f k t402 t403 t404 t405 t406 t409 bt414.1 bt414.2.1 bt414.2.2.1 bt414.2.2.2.1 bt414.2.2.2.2.1 bt414.2.2.2.2.2.1).bind fun t426=>(if t426=true then (if (t412 != bt414.2.2.2.2.2.2)=true then (laws_FnImageCut.j0 k t397 t398 t399 t400 t412 true t387 t388 t389 t390 t391 t394 t402 t403 t404 t405 t406 t409) else ((impl_ImageOk.f k t387 t388 t389 t390 t391 t394).bind fun t427=>((spec_ImageOk.f k t387 t388 t389 t390 t391 t394).bind fun t428=>(laws_FnImageCut.j0 k t397 t398 t399 t400 t412 (t427 != t428) t387 t388 t389 t390 t391 t394 t402 t403 t404 t405 t406 t409)))) else (laws_FnImageCut.j0 k t397 t398 t399 t400 t412 true t387 t388 t389 t390 t391 t394 t402 t403 t404 t405 t406 t409))))=some true:=H
  have A4:=aM_ A40
  clear A40
  replace H:=Option.bind_eq_some_iff.mp H
  obtain ⟨⟨t414,t415,t416,t417,t418,t421,t424⟩,A50,H⟩:=H
  replace H:((laws_wiImage.f k t402 t403 t404 t405 t406 t409 t414 t415 t416 t417 t418 t421).bind fun t426=>(if t426=true then (if (t412 != t424)=true then (laws_FnImageCut.j0 k t397 t398 t399 t400 t412 true t387 t388 t389 t390 t391 t394 t402 t403 t404 t405 t406 t409) else ((impl_ImageOk.f k t387 t388 t389 t390 t391 t394).bind fun t427=>((spec_ImageOk.f k t387 t388 t389 t390 t391 t394).bind fun t428=>(laws_FnImageCut.j0 k t397 t398 t399 t400 t412 (t427 != t428) t387 t388 t389 t390 t391 t394 t402 t403 t404 t405 t406 t409)))) else (laws_FnImageCut.j0 k t397 t398 t399 t400 t412 true t387 t388 t389 t390 t391 t394 t402 t403 t404 t405 t406 t409)))=some true:=H
  have A5:=aM_ A50
  clear A50
  have HC6:=aM_ H
  clear H
  go_enter Try.func14,Try.ntmps14
  go_upto_region 6 with (first|((with_reducible refine gate_callee (f:=41) rfl ?_);refine goesL_ (some 24) rfl rfl Try.func41 (by kernel_rfl) rfl #[.slice A0 l0.length c0] rfl (by (try simp only [List.map_toArray,List.map_cons,List.map_nil]);first|done|rfl|(simp only [List.length_drop,List.length_take];rfl)) ?_;(with_reducible refine (spec_DrawImageCut.calls k _ _ l0 t387 t388 t389 t390 t391 t394 t397 t398 t399 t400 _ ?side1 ?side2 A3.out).mono ?_);(case side1=>repeat (first|exact HR0.out|(with_reducible refine Kd.C_alloc ?_ _)|(with_reducible refine Kd.C_drewN ?_ _)|(with_reducible refine Kd.C_drew ?_)));(case side2=>exact HC0.out);rintro e w7 ⟨v392,v395,rfl,ho0,ho1,hb⟩;refine ⟨_,rfl,?_⟩;have n0_:=aM_ (Kd.R_lower ho0 (below_size (by repeat (first|(with_reducible first|exact HB.out|apply wA_|apply wN_|apply wD_)|exact HB.out))));have n1_:=aM_ (Kd.Q_lower ho1 (below_size (by repeat (first|(with_reducible first|exact HB.out|apply wA_|apply wN_|apply wD_)|exact HB.out))));have n2_:=aM_ (below_step (by repeat (first|(with_reducible first|exact HB.out|apply wA_|apply wN_|apply wD_)|exact HB.out)) hb);clear HB;have HO393:=n0_;have HO396:=n1_;have HB:=n2_;clear n0_ n1_ n2_;(try clear hb);(try clear hb2);(try clear hk);(try clear hi);(try clear ho0);(try clear ho1))|((with_reducible refine gate_dst (N:=3) rfl ?_);refine box_event ?hg (N:=3) ?hd (cs:=#[.int .i64 0,.int .i64 0,.int .i64 0,.int .i64 0,.slice none 0 0,.slice none 0 0]) (t:=27) ?hr ?_;(case hd=>rfl);(case hg=>rfl);(case hr=>first|(go_simp;done)|(go_simp;rfl));intro gb401 hg w8 hbox hb;have n0_:=aM_ (Kd.R_below (by (with_reducible repeat (first|apply rA_|apply rN_|apply rD_));exact HO393.out) hb);have n1_:=aM_ (Kd.Q_below (by (with_reducible repeat (first|apply Kd.Q_alloc|apply Kd.Q_drewN|apply Kd.Q_drew));exact HO396.out) hb);have n2_:=aM_ (below_step (by repeat (first|(with_reducible first|exact HB.out|apply wA_|apply wN_|apply wD_)|exact HB.out)) hb);have n3_:=aM_ (hbox);have n4_:=aM_ ((by rw [hg];exact (below_size (by repeat (first|(with_reducible first|exact HB.out|apply wA_|apply wN_|apply wD_)|exact HB.out))):w.heap.size≤gb401));have n5_:=aM_ ((by rw [hg];exact (below_size (by repeat (first|(with_reducible first|exact HB.out|apply wA_|apply wN_|apply wD_)|exact HB.out))):w.heap.size≤gb401));clear HO393;clear HO396;clear HB;have HO393:=n0_;have HO396:=n1_;have HB:=n2_;have BK401:=n3_;have GW401:=n4_;have GE401:=n5_;clear n0_ n1_ n2_ n3_ n4_ n5_;clear hb hbox hg;obtain ⟨hcz9_0,hcz9_1,hcz9_2,hcz9_3,hcz9_4,hcz9_5⟩:=bc6 BK401.out;obtain ⟨hfz9_0,hfz9_1,hfz9_2,hfz9_3,hfz9_4,hfz9_5⟩:=bf6 BK401.out;obtain ⟨Ao10,co10,eo10⟩:=Kd.R_slice HO393.out;subst eo10;obtain ⟨Ao11,co11,eo11,_⟩:=Kd.Q_slice HO396.out;subst eo11)|((with_reducible refine gate_callee (f:=33) rfl ?_);refine goesL_ (some 36) rfl rfl Try.func33 (by kernel_rfl) rfl #[.agg #[.int .i64 t387,.int .i64 t388,.int .i64 t389,.int .i64 t390,.slice Ao10 t391.length co10,.slice Ao11 t394.length co11],.int .i64 t397,.int .i64 t398,.int .i64 t399,.int .i64 t400] rfl (by (try simp only [List.map_toArray,List.map_cons,List.map_nil]);first|done|rfl|(simp only [List.length_drop,List.length_take];rfl)) ?_;(with_reducible refine (impl_ImageCut.calls k t387 t388 t389 t390 _ _ t391 _ _ t394 t397 t398 t399 t400 t402 t403 t404 t405 t406 t409 t412 _ ?side1 ?side2 ?side3 ?side4 A4.out).mono ?_);(case side1=>refine (Kd.R_reads' (e:=3) (base:=w.heap.size) (ok:=fun k_=>some k_≠(.slice Ao11 t394.length co11:Value).ownBlock) (n:=t391.length) (c:=co10) ?_).2.2;exact (by (with_reducible repeat (first|apply rA_|apply rN_|apply rD_));exact (Kd.R_mono (Kd.R_far (Kd.R_far (Kd.R_far (Kd.R_far (Kd.R_far (Kd.R_far (Kd.R_types HO393.out BK401.out (by decide)) (fun _ hk=>hk.2) _) (fun _ hk=>hk.2) _) (fun _ hk=>hk.2) _) (fun _ hk=>hk.2) _) (fun _ hk=>hk.2) _) (fun _ hk=>hk.2) _) (fun _ h_=>h_.1))));(case side2=>exact (Kd.R_reads' HO393.out).2.1);(case side3=>refine (Kd.Q_reads' (e:=3) (base:=w.heap.size) (ok:=fun k_=>some k_≠(.slice Ao10 t391.length co10:Value).ownBlock) (n:=t394.length) (c:=co11) ?_).2.2;exact (by (with_reducible repeat (first|apply Kd.Q_alloc|apply Kd.Q_drewN|apply Kd.Q_drew));exact (Kd.Q_mono (Kd.Q_far (Kd.Q_far (Kd.Q_far (Kd.Q_far (Kd.Q_far (Kd.Q_far (Kd.Q_types HO396.out BK401.out (by decide)) (fun _ hk=>hk.2) _) (fun _ hk=>hk.2) _) (fun _ hk=>hk.2) _) (fun _ hk=>hk.2) _) (fun _ hk=>hk.2) _) (fun _ hk=>hk.2) _) (fun _ h_=>h_.1))));(case side4=>exact (Kd.Q_reads' HO396.out).2.1);rintro e w12 ⟨v407,v410,rfl,ho0,ho1,hb⟩;refine ⟨_,rfl,?_⟩;have n0_:=aM_ (Kd.R_mono (Kd.R_told (Kd.R_told (Kd.R_old (by (with_reducible repeat (first|apply rA_|apply rN_|apply rD_));exact (Kd.R_mono (Kd.R_far (Kd.R_far (Kd.R_far (Kd.R_far (Kd.R_far (Kd.R_far (Kd.R_types HO393.out BK401.out (by decide)) (fun _ hk=>hk.2) _) (fun _ hk=>hk.2) _) (fun _ hk=>hk.2) _) (fun _ hk=>hk.2) _) (fun _ hk=>hk.2) _) (fun _ hk=>hk.2) _) (fun _ h_=>h_.1))) hb) (Kd.R_base ho0)) (Kd.R_base ho1)) (fun _ h_=>h_.1));have n1_:=aM_ (Kd.Q_mono (Kd.Q_told (Kd.Q_told (Kd.Q_old (by (with_reducible repeat (first|apply Kd.Q_alloc|apply Kd.Q_drewN|apply Kd.Q_drew));exact (Kd.Q_mono (Kd.Q_far (Kd.Q_far (Kd.Q_far (Kd.Q_far (Kd.Q_far (Kd.Q_far (Kd.Q_types HO396.out BK401.out (by decide)) (fun _ hk=>hk.2) _) (fun _ hk=>hk.2) _) (fun _ hk=>hk.2) _) (fun _ hk=>hk.2) _) (fun _ hk=>hk.2) _) (fun _ hk=>hk.2) _) (fun _ h_=>h_.1))) hb) (Kd.R_base ho0)) (Kd.R_base ho1)) (fun _ h_=>h_.1));have n2_:=aM_ (Kd.R_lower (Kd.R_new' (Kd.R_new' ho0 (Kd.R_lt (by (with_reducible repeat (first|apply rA_|apply rN_|apply rD_));exact (Kd.R_mono (Kd.R_far (Kd.R_far (Kd.R_far (Kd.R_far (Kd.R_far (Kd.R_far (Kd.R_types HO393.out BK401.out (by decide)) (fun _ hk=>hk.2) _) (fun _ hk=>hk.2) _) (fun _ hk=>hk.2) _) (fun _ hk=>hk.2) _) (fun _ hk=>hk.2) _) (fun _ hk=>hk.2) _) (fun _ h_=>h_.1))))) (Kd.Q_lt (by (with_reducible repeat (first|apply Kd.Q_alloc|apply Kd.Q_drewN|apply Kd.Q_drew));exact (Kd.Q_mono (Kd.Q_far (Kd.Q_far (Kd.Q_far (Kd.Q_far (Kd.Q_far (Kd.Q_far (Kd.Q_types HO396.out BK401.out (by decide)) (fun _ hk=>hk.2) _) (fun _ hk=>hk.2) _) (fun _ hk=>hk.2) _) (fun _ hk=>hk.2) _) (fun _ hk=>hk.2) _) (fun _ hk=>hk.2) _) (fun _ h_=>h_.1))))) (below_size (by repeat (first|(with_reducible first|exact HB.out|apply wA_|apply wN_|apply wD_|refine below_set ?_ GE401.out)|exact HB.out))));have n3_:=aM_ (Kd.R_lower (Kd.R_new' (Kd.R_new' ho1 (Kd.R_lt (by (with_reducible repeat (first|apply rA_|apply rN_|apply rD_));exact (Kd.R_mono (Kd.R_far (Kd.R_far (Kd.R_far (Kd.R_far (Kd.R_far (Kd.R_far (Kd.R_types HO393.out BK401.out (by decide)) (fun _ hk=>hk.2) _) (fun _ hk=>hk.2) _) (fun _ hk=>hk.2) _) (fun _ hk=>hk.2) _) (fun _ hk=>hk.2) _) (fun _ hk=>hk.2) _) (fun _ h_=>h_.1))))) (Kd.Q_lt (by (with_reducible repeat (first|apply Kd.Q_alloc|apply Kd.Q_drewN|apply Kd.Q_drew));exact (Kd.Q_mono (Kd.Q_far (Kd.Q_far (Kd.Q_far (Kd.Q_far (Kd.Q_far (Kd.Q_far (Kd.Q_types HO396.out BK401.out (by decide)) (fun _ hk=>hk.2) _) (fun _ hk=>hk.2) _) (fun _ hk=>hk.2) _) (fun _ hk=>hk.2) _) (fun _ hk=>hk.2) _) (fun _ hk=>hk.2) _) (fun _ h_=>h_.1))))) (below_size (by repeat (first|(with_reducible first|exact HB.out|apply wA_|apply wN_|apply wD_|refine below_set ?_ GE401.out)|exact HB.out))));have n4_:=aM_ (blk_below (g:=gb401) (o:=.cells #[.int .i64 t387,.int .i64 t388,.int .i64 t389,.int .i64 t390,.slice Ao10 t391.length co10,.slice Ao11 t394.length co11] 27 (0,0)) (by (with_reducible repeat (first|apply kN_|apply kD_|apply kA_));refine blk_put (cs:=#[.int .i64 t387,.int .i64 t388,.int .i64 t389,.int .i64 t390,.slice Ao10 t391.length co10,.slice none 0 0]) ?_ 5 _ rfl;(with_reducible repeat (first|apply kN_|apply kD_|apply kA_));refine blk_put (cs:=#[.int .i64 t387,.int .i64 t388,.int .i64 t389,.int .i64 t390,.slice none 0 0,.slice none 0 0]) ?_ 4 _ rfl;(with_reducible repeat (first|apply kN_|apply kD_|apply kA_));refine blk_put (cs:=#[.int .i64 t387,.int .i64 t388,.int .i64 t389,.int .i64 0,.slice none 0 0,.slice none 0 0]) ?_ 3 _ rfl;(with_reducible repeat (first|apply kN_|apply kD_|apply kA_));refine blk_put (cs:=#[.int .i64 t387,.int .i64 t388,.int .i64 0,.int .i64 0,.slice none 0 0,.slice none 0 0]) ?_ 2 _ rfl;(with_reducible repeat (first|apply kN_|apply kD_|apply kA_));refine blk_put (cs:=#[.int .i64 t387,.int .i64 0,.int .i64 0,.int .i64 0,.slice none 0 0,.slice none 0 0]) ?_ 1 _ rfl;(with_reducible repeat (first|apply kN_|apply kD_|apply kA_));refine blk_put (cs:=#[.int .i64 0,.int .i64 0,.int .i64 0,.int .i64 0,.slice none 0 0,.slice none 0 0]) ?_ 0 _ rfl;(with_reducible repeat (first|apply kN_|apply kD_|apply kA_));exact BK401.out) hb);have n5_:=aM_ (below_step (by repeat (first|(with_reducible first|exact HB.out|apply wA_|apply wN_|apply wD_|refine below_set ?_ GE401.out)|exact HB.out)) hb);clear HO393;clear HO396;clear BK401;clear HB;have HO393:=n0_;have HO396:=n1_;have HO408:=n2_;have HO411:=n3_;have BK401:=n4_;have HB:=n5_;clear n0_ n1_ n2_ n3_ n4_ n5_;(try clear hb);(try clear hb2);(try clear hk);(try clear hi);(try clear ho0);(try clear ho1))|((with_reducible refine gate_dst (N:=8) rfl ?_);refine box_event ?hg (N:=8) ?hd (cs:=#[.int .i64 0,.int .i64 0,.int .i64 0,.int .i64 0,.slice none 0 0,.slice none 0 0]) (t:=27) ?hr ?_;(case hd=>rfl);(case hg=>rfl);(case hr=>first|(go_simp;done)|(go_simp;rfl));intro gb413 hg w13 hbox hb;have n0_:=aM_ (Kd.R_below (by (with_reducible repeat (first|apply rA_|apply rN_|apply rD_));exact HO393.out) hb);have n1_:=aM_ (Kd.Q_below (by (with_reducible repeat (first|apply Kd.Q_alloc|apply Kd.Q_drewN|apply Kd.Q_drew));exact HO396.out) hb);have n2_:=aM_ (Kd.R_below (by (with_reducible repeat (first|apply rA_|apply rN_|apply rD_));exact HO408.out) hb);have n3_:=aM_ (Kd.R_below (by (with_reducible repeat (first|apply rA_|apply rN_|apply rD_));exact HO411.out) hb);have n4_:=aM_ (blk_below (g:=gb401) (by (with_reducible repeat (first|apply kN_|apply kD_|apply kA_));exact BK401.out) hb);have n5_:=aM_ (below_step (by repeat (first|(with_reducible first|exact HB.out|apply wA_|apply wN_|apply wD_|refine below_set ?_ GE401.out)|exact HB.out)) hb);have n6_:=aM_ (hbox);have n7_:=aM_ ((by rw [hg];exact (below_size (by repeat (first|(with_reducible first|exact HB.out|apply wA_|apply wN_|apply wD_|refine below_set ?_ GE401.out)|exact HB.out))):w.heap.size≤gb413));have n8_:=aM_ ((by rw [hg];exact (below_size (by repeat (first|(with_reducible first|exact HB.out|apply wA_|apply wN_|apply wD_|refine below_set ?_ GE401.out)|exact HB.out))):w.heap.size≤gb413));have n9_:=aM_ ((by rw [hg];exact Nat.ne_of_lt (blk_lt (g:=gb401) (by (with_reducible repeat (first|apply kN_|apply kD_|apply kA_));exact BK401.out)):gb401≠gb413));have n10_:=aM_ n9_.out.symm;clear HO393;clear HO396;clear HO408;clear HO411;clear BK401;clear HB;have HO393:=n0_;have HO396:=n1_;have HO408:=n2_;have HO411:=n3_;have BK401:=n4_;have HB:=n5_;have BK413:=n6_;have GW413:=n7_;have GE413:=n8_;have NB401_413:=n9_;have NB413_401:=n10_;clear n0_ n1_ n2_ n3_ n4_ n5_ n6_ n7_ n8_ n9_ n10_;clear hb hbox hg;have hnb14:=NB413_401.out;have hnc14:=NB401_413.out;obtain ⟨hcz15_0,hcz15_1,hcz15_2,hcz15_3,hcz15_4,hcz15_5⟩:=bc6 BK413.out;obtain ⟨hfz15_0,hfz15_1,hfz15_2,hfz15_3,hfz15_4,hfz15_5⟩:=bf6 BK413.out;obtain ⟨Ao16,co16,eo16⟩:=Kd.R_slice HO408.out;subst eo16;obtain ⟨Ao17,co17,eo17⟩:=Kd.R_slice HO411.out;subst eo17;obtain ⟨hcz18_0,hcz18_1,hcz18_2,hcz18_3,hcz18_4,hcz18_5⟩:=bc6 BK401.out;obtain ⟨hfz18_0,hfz18_1,hfz18_2,hfz18_3,hfz18_4,hfz18_5⟩:=bf6 BK401.out)|((with_reducible refine gate_callee (f:=32) rfl ?_);refine goesL_ (some 45) rfl rfl Try.func32 (by kernel_rfl) rfl #[.agg #[.int .i64 t387,.int .i64 t388,.int .i64 t389,.int .i64 t390,.slice Ao10 t391.length co10,.slice Ao11 t394.length co11],.int .i64 t397,.int .i64 t398,.int .i64 t399,.int .i64 t400] rfl (by (try simp only [List.map_toArray,List.map_cons,List.map_nil]);first|done|rfl|(simp only [List.length_drop,List.length_take];rfl)) ?_;(with_reducible refine (spec_ImageCut.calls k t387 t388 t389 t390 _ _ t391 _ _ t394 t397 t398 t399 t400 t414 t415 t416 t417 t418 t421 t424 _ ?side1 ?side2 ?side3 ?side4 A5.out).mono ?_);(case side1=>refine (Kd.R_reads' (e:=3) (base:=w.heap.size) (ok:=fun k_=>((some k_≠(.slice Ao11 t394.length co11:Value).ownBlock∧some k_≠(.slice Ao16 t406.length co16:Value).ownBlock)∧some k_≠(.slice Ao17 t409.length co17:Value).ownBlock)) (n:=t391.length) (c:=co10) ?_).2.2;exact (by (with_reducible repeat (first|apply rA_|apply rN_|apply rD_));exact (Kd.R_mono (Kd.R_far (Kd.R_far (Kd.R_far (Kd.R_far (Kd.R_far (Kd.R_far (Kd.R_types HO393.out BK413.out (by decide)) (fun _ hk=>hk.2) _) (fun _ hk=>hk.2) _) (fun _ hk=>hk.2) _) (fun _ hk=>hk.2) _) (fun _ hk=>hk.2) _) (fun _ hk=>hk.2) _) (fun _ h_=>h_.1))));(case side2=>exact (Kd.R_reads' HO393.out).2.1);(case side3=>refine (Kd.Q_reads' (e:=3) (base:=w.heap.size) (ok:=fun k_=>((some k_≠(.slice Ao10 t391.length co10:Value).ownBlock∧some k_≠(.slice Ao16 t406.length co16:Value).ownBlock)∧some k_≠(.slice Ao17 t409.length co17:Value).ownBlock)) (n:=t394.length) (c:=co11) ?_).2.2;exact (by (with_reducible repeat (first|apply Kd.Q_alloc|apply Kd.Q_drewN|apply Kd.Q_drew));exact (Kd.Q_mono (Kd.Q_far (Kd.Q_far (Kd.Q_far (Kd.Q_far (Kd.Q_far (Kd.Q_far (Kd.Q_types HO396.out BK413.out (by decide)) (fun _ hk=>hk.2) _) (fun _ hk=>hk.2) _) (fun _ hk=>hk.2) _) (fun _ hk=>hk.2) _) (fun _ hk=>hk.2) _) (fun _ hk=>hk.2) _) (fun _ h_=>h_.1))));(case side4=>exact (Kd.Q_reads' HO396.out).2.1);rintro e w19 ⟨v419,v422,rfl,ho0,ho1,hb⟩;refine ⟨_,rfl,?_⟩;have n0_:=aM_ (Kd.R_mono (Kd.R_told (Kd.R_told (Kd.R_old (by (with_reducible repeat (first|apply rA_|apply rN_|apply rD_));exact (Kd.R_mono (Kd.R_far (Kd.R_far (Kd.R_far (Kd.R_far (Kd.R_far (Kd.R_far (Kd.R_types HO393.out BK413.out (by decide)) (fun _ hk=>hk.2) _) (fun _ hk=>hk.2) _) (fun _ hk=>hk.2) _) (fun _ hk=>hk.2) _) (fun _ hk=>hk.2) _) (fun _ hk=>hk.2) _) (fun _ h_=>h_.1))) hb) (Kd.R_base ho0)) (Kd.R_base ho1)) (fun _ h_=>h_.1));have n1_:=aM_ (Kd.Q_mono (Kd.Q_told (Kd.Q_told (Kd.Q_old (by (with_reducible repeat (first|apply Kd.Q_alloc|apply Kd.Q_drewN|apply Kd.Q_drew));exact (Kd.Q_mono (Kd.Q_far (Kd.Q_far (Kd.Q_far (Kd.Q_far (Kd.Q_far (Kd.Q_far (Kd.Q_types HO396.out BK413.out (by decide)) (fun _ hk=>hk.2) _) (fun _ hk=>hk.2) _) (fun _ hk=>hk.2) _) (fun _ hk=>hk.2) _) (fun _ hk=>hk.2) _) (fun _ hk=>hk.2) _) (fun _ h_=>h_.1))) hb) (Kd.R_base ho0)) (Kd.R_base ho1)) (fun _ h_=>h_.1));have n2_:=aM_ (Kd.R_mono (Kd.R_told (Kd.R_told (Kd.R_old (by (with_reducible repeat (first|apply rA_|apply rN_|apply rD_));exact (Kd.R_mono (Kd.R_far (Kd.R_far (Kd.R_far (Kd.R_far (Kd.R_far (Kd.R_far (Kd.R_types HO408.out BK413.out (by decide)) (fun _ hk=>hk.2) _) (fun _ hk=>hk.2) _) (fun _ hk=>hk.2) _) (fun _ hk=>hk.2) _) (fun _ hk=>hk.2) _) (fun _ hk=>hk.2) _) (fun _ h_=>h_.1))) hb) (Kd.R_base ho0)) (Kd.R_base ho1)) (fun _ h_=>h_.1));have n3_:=aM_ (Kd.R_mono (Kd.R_told (Kd.R_told (Kd.R_old (by (with_reducible repeat (first|apply rA_|apply rN_|apply rD_));exact (Kd.R_mono (Kd.R_far (Kd.R_far (Kd.R_far (Kd.R_far (Kd.R_far (Kd.R_far (Kd.R_types HO411.out BK413.out (by decide)) (fun _ hk=>hk.2) _) (fun _ hk=>hk.2) _) (fun _ hk=>hk.2) _) (fun _ hk=>hk.2) _) (fun _ hk=>hk.2) _) (fun _ hk=>hk.2) _) (fun _ h_=>h_.1))) hb) (Kd.R_base ho0)) (Kd.R_base ho1)) (fun _ h_=>h_.1));have n4_:=aM_ (Kd.R_lower (Kd.R_new' (Kd.R_new' (Kd.R_new' (Kd.R_new' ho0 (Kd.R_lt (by (with_reducible repeat (first|apply rA_|apply rN_|apply rD_));exact (Kd.R_mono (Kd.R_far (Kd.R_far (Kd.R_far (Kd.R_far (Kd.R_far (Kd.R_far (Kd.R_types HO393.out BK413.out (by decide)) (fun _ hk=>hk.2) _) (fun _ hk=>hk.2) _) (fun _ hk=>hk.2) _) (fun _ hk=>hk.2) _) (fun _ hk=>hk.2) _) (fun _ hk=>hk.2) _) (fun _ h_=>h_.1))))) (Kd.Q_lt (by (with_reducible repeat (first|apply Kd.Q_alloc|apply Kd.Q_drewN|apply Kd.Q_drew));exact (Kd.Q_mono (Kd.Q_far (Kd.Q_far (Kd.Q_far (Kd.Q_far (Kd.Q_far (Kd.Q_far (Kd.Q_types HO396.out BK413.out (by decide)) (fun _ hk=>hk.2) _) (fun _ hk=>hk.2) _) (fun _ hk=>hk.2) _) (fun _ hk=>hk.2) _) (fun _ hk=>hk.2) _) (fun _ hk=>hk.2) _) (fun _ h_=>h_.1))))) (Kd.R_lt (by (with_reducible repeat (first|apply rA_|apply rN_|apply rD_));exact (Kd.R_mono (Kd.R_far (Kd.R_far (Kd.R_far (Kd.R_far (Kd.R_far (Kd.R_far (Kd.R_types HO408.out BK413.out (by decide)) (fun _ hk=>hk.2) _) (fun _ hk=>hk.2) _) (fun _ hk=>hk.2) _) (fun _ hk=>hk.2) _) (fun _ hk=>hk.2) _) (fun _ hk=>hk.2) _) (fun _ h_=>h_.1))))) (Kd.R_lt (by (with_reducible repeat (first|apply rA_|apply rN_|apply rD_));exact (Kd.R_mono (Kd.R_far (Kd.R_far (Kd.R_far (Kd.R_far (Kd.R_far (Kd.R_far (Kd.R_types HO411.out BK413.out (by decide)) (fun _ hk=>hk.2) _) (fun _ hk=>hk.2) _) (fun _ hk=>hk.2) _) (fun _ hk=>hk.2) _) (fun _ hk=>hk.2) _) (fun _ hk=>hk.2) _) (fun _ h_=>h_.1))))) (below_size (by repeat (first|(with_reducible first|exact HB.out|apply wA_|apply wN_|apply wD_|refine below_set ?_ GE401.out|refine below_set ?_ GE413.out)|exact HB.out))));have n5_:=aM_ (Kd.R_lower (Kd.R_new' (Kd.R_new' (Kd.R_new' (Kd.R_new' ho1 (Kd.R_lt (by (with_reducible repeat (first|apply rA_|apply rN_|apply rD_));exact (Kd.R_mono (Kd.R_far (Kd.R_far (Kd.R_far (Kd.R_far (Kd.R_far (Kd.R_far (Kd.R_types HO393.out BK413.out (by decide)) (fun _ hk=>hk.2) _) (fun _ hk=>hk.2) _) (fun _ hk=>hk.2) _) (fun _ hk=>hk.2) _) (fun _ hk=>hk.2) _) (fun _ hk=>hk.2) _) (fun _ h_=>h_.1))))) (Kd.Q_lt (by (with_reducible repeat (first|apply Kd.Q_alloc|apply Kd.Q_drewN|apply Kd.Q_drew));exact (Kd.Q_mono (Kd.Q_far (Kd.Q_far (Kd.Q_far (Kd.Q_far (Kd.Q_far (Kd.Q_far (Kd.Q_types HO396.out BK413.out (by decide)) (fun _ hk=>hk.2) _) (fun _ hk=>hk.2) _) (fun _ hk=>hk.2) _) (fun _ hk=>hk.2) _) (fun _ hk=>hk.2) _) (fun _ hk=>hk.2) _) (fun _ h_=>h_.1))))) (Kd.R_lt (by (with_reducible repeat (first|apply rA_|apply rN_|apply rD_));exact (Kd.R_mono (Kd.R_far (Kd.R_far (Kd.R_far (Kd.R_far (Kd.R_far (Kd.R_far (Kd.R_types HO408.out BK413.out (by decide)) (fun _ hk=>hk.2) _) (fun _ hk=>hk.2) _) (fun _ hk=>hk.2) _) (fun _ hk=>hk.2) _) (fun _ hk=>hk.2) _) (fun _ hk=>hk.2) _) (fun _ h_=>h_.1))))) (Kd.R_lt (by (with_reducible repeat (first|apply rA_|apply rN_|apply rD_));exact (Kd.R_mono (Kd.R_far (Kd.R_far (Kd.R_far (Kd.R_far (Kd.R_far (Kd.R_far (Kd.R_types HO411.out BK413.out (by decide)) (fun _ hk=>hk.2) _) (fun _ hk=>hk.2) _) (fun _ hk=>hk.2) _) (fun _ hk=>hk.2) _) (fun _ hk=>hk.2) _) (fun _ hk=>hk.2) _) (fun _ h_=>h_.1))))) (below_size (by repeat (first|(with_reducible first|exact HB.out|apply wA_|apply wN_|apply wD_|refine below_set ?_ GE401.out|refine below_set ?_ GE413.out)|exact HB.out))));have n6_:=aM_ (blk_below (g:=gb401) (o:=.cells #[.int .i64 t387,.int .i64 t388,.int .i64 t389,.int .i64 t390,.slice Ao10 t391.length co10,.slice Ao11 t394.length co11] 27 (0,0)) (by (with_reducible repeat (first|apply kN_|apply kD_|apply kA_));refine blk_far ?_ NB401_413.out _;(with_reducible repeat (first|apply kN_|apply kD_|apply kA_));refine blk_far ?_ NB401_413.out _;(with_reducible repeat (first|apply kN_|apply kD_|apply kA_));refine blk_far ?_ NB401_413.out _;(with_reducible repeat (first|apply kN_|apply kD_|apply kA_));refine blk_far ?_ NB401_413.out _;(with_reducible repeat (first|apply kN_|apply kD_|apply kA_));refine blk_far ?_ NB401_413.out _;(with_reducible repeat (first|apply kN_|apply kD_|apply kA_));refine blk_far ?_ NB401_413.out _;(with_reducible repeat (first|apply kN_|apply kD_|apply kA_));exact BK401.out) hb);have n7_:=aM_ (blk_below (g:=gb413) (o:=.cells #[.int .i64 t402,.int .i64 t403,.int .i64 t404,.int .i64 t405,.slice Ao16 t406.length co16,.slice Ao17 t409.length co17] 27 (0,0)) (by (with_reducible repeat (first|apply kN_|apply kD_|apply kA_));refine blk_put (cs:=#[.int .i64 t402,.int .i64 t403,.int .i64 t404,.int .i64 t405,.slice Ao16 t406.length co16,.slice none 0 0]) ?_ 5 _ rfl;(with_reducible repeat (first|apply kN_|apply kD_|apply kA_));refine blk_put (cs:=#[.int .i64 t402,.int .i64 t403,.int .i64 t404,.int .i64 t405,.slice none 0 0,.slice none 0 0]) ?_ 4 _ rfl;(with_reducible repeat (first|apply kN_|apply kD_|apply kA_));refine blk_put (cs:=#[.int .i64 t402,.int .i64 t403,.int .i64 t404,.int .i64 0,.slice none 0 0,.slice none 0 0]) ?_ 3 _ rfl;(with_reducible repeat (first|apply kN_|apply kD_|apply kA_));refine blk_put (cs:=#[.int .i64 t402,.int .i64 t403,.int .i64 0,.int .i64 0,.slice none 0 0,.slice none 0 0]) ?_ 2 _ rfl;(with_reducible repeat (first|apply kN_|apply kD_|apply kA_));refine blk_put (cs:=#[.int .i64 t402,.int .i64 0,.int .i64 0,.int .i64 0,.slice none 0 0,.slice none 0 0]) ?_ 1 _ rfl;(with_reducible repeat (first|apply kN_|apply kD_|apply kA_));refine blk_put (cs:=#[.int .i64 0,.int .i64 0,.int .i64 0,.int .i64 0,.slice none 0 0,.slice none 0 0]) ?_ 0 _ rfl;(with_reducible repeat (first|apply kN_|apply kD_|apply kA_));exact BK413.out) hb);have n8_:=aM_ (below_step (by repeat (first|(with_reducible first|exact HB.out|apply wA_|apply wN_|apply wD_|refine below_set ?_ GE401.out|refine below_set ?_ GE413.out)|exact HB.out)) hb);clear HO393;clear HO396;clear HO408;clear HO411;clear BK401;clear BK413;clear HB;have HO393:=n0_;have HO396:=n1_;have HO408:=n2_;have HO411:=n3_;have HO420:=n4_;have HO423:=n5_;have BK401:=n6_;have BK413:=n7_;have HB:=n8_;clear n0_ n1_ n2_ n3_ n4_ n5_ n6_ n7_ n8_;(try clear hb);(try clear hb2);(try clear hk);(try clear hi);(try clear ho0);(try clear ho1))|((with_reducible refine gate_dst (N:=10) rfl ?_);refine box_event ?hg (N:=10) ?hd (cs:=#[.int .i64 0,.int .i64 0,.int .i64 0,.int .i64 0,.slice none 0 0,.slice none 0 0]) (t:=27) ?hr ?_;(case hd=>rfl);(case hg=>rfl);(case hr=>first|(go_simp;done)|(go_simp;rfl));intro gb425 hg w20 hbox hb;have n0_:=aM_ (Kd.R_below (by (with_reducible repeat (first|apply rA_|apply rN_|apply rD_));exact HO393.out) hb);have n1_:=aM_ (Kd.Q_below (by (with_reducible repeat (first|apply Kd.Q_alloc|apply Kd.Q_drewN|apply Kd.Q_drew));exact HO396.out) hb);have n2_:=aM_ (Kd.R_below (by (with_reducible repeat (first|apply rA_|apply rN_|apply rD_));exact HO408.out) hb);have n3_:=aM_ (Kd.R_below (by (with_reducible repeat (first|apply rA_|apply rN_|apply rD_));exact HO411.out) hb);have n4_:=aM_ (Kd.R_below (by (with_reducible repeat (first|apply rA_|apply rN_|apply rD_));exact HO420.out) hb);have n5_:=aM_ (Kd.R_below (by (with_reducible repeat (first|apply rA_|apply rN_|apply rD_));exact HO423.out) hb);have n6_:=aM_ (blk_below (g:=gb401) (by (with_reducible repeat (first|apply kN_|apply kD_|apply kA_));exact BK401.out) hb);have n7_:=aM_ (blk_below (g:=gb413) (by (with_reducible repeat (first|apply kN_|apply kD_|apply kA_));exact BK413.out) hb);have n8_:=aM_ (below_step (by repeat (first|(with_reducible first|exact HB.out|apply wA_|apply wN_|apply wD_|refine below_set ?_ GE401.out|refine below_set ?_ GE413.out)|exact HB.out)) hb);have n9_:=aM_ (hbox);have n10_:=aM_ ((by rw [hg];exact (below_size (by repeat (first|(with_reducible first|exact HB.out|apply wA_|apply wN_|apply wD_|refine below_set ?_ GE401.out|refine below_set ?_ GE413.out)|exact HB.out))):w.heap.size≤gb425));have n11_:=aM_ ((by rw [hg];exact (below_size (by repeat (first|(with_reducible first|exact HB.out|apply wA_|apply wN_|apply wD_|refine below_set ?_ GE401.out|refine below_set ?_ GE413.out)|exact HB.out))):w.heap.size≤gb425));have n12_:=aM_ ((by rw [hg];exact Nat.ne_of_lt (blk_lt (g:=gb401) (by (with_reducible repeat (first|apply kN_|apply kD_|apply kA_));exact BK401.out)):gb401≠gb425));have n13_:=aM_ n12_.out.symm;have n14_:=aM_ ((by rw [hg];exact Nat.ne_of_lt (blk_lt (g:=gb413) (by (with_reducible repeat (first|apply kN_|apply kD_|apply kA_));exact BK413.out)):gb413≠gb425));have n15_:=aM_ n14_.out.symm;clear HO393;clear HO396;clear HO408;clear HO411;clear HO420;clear HO423;clear BK401;clear BK413;clear HB;have HO393:=n0_;have HO396:=n1_;have HO408:=n2_;have HO411:=n3_;have HO420:=n4_;have HO423:=n5_;have BK401:=n6_;have BK413:=n7_;have HB:=n8_;have BK425:=n9_;have GW425:=n10_;have GE425:=n11_;have NB401_425:=n12_;have NB425_401:=n13_;have NB413_425:=n14_;have NB425_413:=n15_;clear n0_ n1_ n2_ n3_ n4_ n5_ n6_ n7_ n8_ n9_ n10_ n11_ n12_ n13_ n14_ n15_;clear hb hbox hg;have hnb21:=NB425_401.out;have hnc21:=NB401_425.out;have hnb22:=NB425_413.out;have hnc22:=NB413_425.out;obtain ⟨hcz23_0,hcz23_1,hcz23_2,hcz23_3,hcz23_4,hcz23_5⟩:=bc6 BK425.out;obtain ⟨hfz23_0,hfz23_1,hfz23_2,hfz23_3,hfz23_4,hfz23_5⟩:=bf6 BK425.out;obtain ⟨Ao24,co24,eo24⟩:=Kd.R_slice HO420.out;subst eo24;obtain ⟨Ao25,co25,eo25⟩:=Kd.R_slice HO423.out;subst eo25))
  (try simp only [Act.put,sA_,s0_,s1_])
  go_cut [63] (fun v63 wc=>∃ (kq:Nat) (x63_5:Bool),v63=.bool x63_5∧Aside0 (laws_FnImageCut.j0 kq t397 t398 t399 t400 t412 x63_5 t387 t388 t389 t390 t391 t394 t402 t403 t404 t405 t406 t409=some true)∧Aside0 (kq≤k)∧Aside0 (Kd.R (Kd.int .i64) 3 wc w.heap.size (fun k_=>some k_≠((.slice Ao11 t394.length co11):Value).ownBlock∧some k_≠((.slice Ao16 t406.length co16):Value).ownBlock∧some k_≠((.slice Ao17 t409.length co17):Value).ownBlock∧some k_≠((.slice Ao24 t418.length co24):Value).ownBlock∧some k_≠((.slice Ao25 t421.length co25):Value).ownBlock) (.slice Ao10 t391.length co10) t391)∧Aside0 (Kd.Q (Kd.int .i64) 3 wc w.heap.size (fun k_=>some k_≠((.slice Ao10 t391.length co10):Value).ownBlock∧some k_≠((.slice Ao16 t406.length co16):Value).ownBlock∧some k_≠((.slice Ao17 t409.length co17):Value).ownBlock∧some k_≠((.slice Ao24 t418.length co24):Value).ownBlock∧some k_≠((.slice Ao25 t421.length co25):Value).ownBlock) (.slice Ao11 t394.length co11) t394)∧Aside0 (Kd.R (Kd.int .i64) 3 wc w.heap.size (fun k_=>some k_≠((.slice Ao10 t391.length co10):Value).ownBlock∧some k_≠((.slice Ao11 t394.length co11):Value).ownBlock∧some k_≠((.slice Ao17 t409.length co17):Value).ownBlock∧some k_≠((.slice Ao24 t418.length co24):Value).ownBlock∧some k_≠((.slice Ao25 t421.length co25):Value).ownBlock) (.slice Ao16 t406.length co16) t406)∧Aside0 (Kd.Q (Kd.int .i64) 3 wc w.heap.size (fun k_=>some k_≠((.slice Ao10 t391.length co10):Value).ownBlock∧some k_≠((.slice Ao11 t394.length co11):Value).ownBlock∧some k_≠((.slice Ao16 t406.length co16):Value).ownBlock∧some k_≠((.slice Ao24 t418.length co24):Value).ownBlock∧some k_≠((.slice Ao25 t421.length co25):Value).ownBlock) (.slice Ao17 t409.length co17) t409)∧Aside0 (Kd.R (Kd.int .i64) 3 wc w.heap.size (fun k_=>some k_≠((.slice Ao10 t391.length co10):Value).ownBlock∧some k_≠((.slice Ao11 t394.length co11):Value).ownBlock∧some k_≠((.slice Ao16 t406.length co16):Value).ownBlock∧some k_≠((.slice Ao17 t409.length co17):Value).ownBlock∧some k_≠((.slice Ao25 t421.length co25):Value).ownBlock) (.slice Ao24 t418.length co24) t418)∧Aside0 (Kd.Q (Kd.int .i64) 3 wc w.heap.size (fun k_=>some k_≠((.slice Ao10 t391.length co10):Value).ownBlock∧some k_≠((.slice Ao11 t394.length co11):Value).ownBlock∧some k_≠((.slice Ao16 t406.length co16):Value).ownBlock∧some k_≠((.slice Ao17 t409.length co17):Value).ownBlock∧some k_≠((.slice Ao24 t418.length co24):Value).ownBlock) (.slice Ao25 t421.length co25) t421)∧Aside0 (wc.heap[gb401]?=some (.cells #[.int .i64 t387,.int .i64 t388,.int .i64 t389,.int .i64 t390,(.slice Ao10 t391.length co10),(.slice Ao11 t394.length co11)] 27 (0,0)))∧Aside0 (wc.heap[gb413]?=some (.cells #[.int .i64 t402,.int .i64 t403,.int .i64 t404,.int .i64 t405,(.slice Ao16 t406.length co16),(.slice Ao17 t409.length co17)] 27 (0,0)))∧Aside0 (wc.heap[gb425]?=some (.cells #[.int .i64 t414,.int .i64 t415,.int .i64 t416,.int .i64 t417,(.slice Ao24 t418.length co24),(.slice Ao25 t421.length co25)] 27 (0,0)))∧Aside0 (Below w.heap.size w wc))
  case first =>
   have H:=HC6.out
   clear HC6
   replace H:=Option.bind_eq_some_iff.mp H
   obtain ⟨t426,A260,H⟩:=H
   replace H:(if t426=true then (if (t412 != t424)=true then (laws_FnImageCut.j0 k t397 t398 t399 t400 t412 true t387 t388 t389 t390 t391 t394 t402 t403 t404 t405 t406 t409) else ((impl_ImageOk.f k t387 t388 t389 t390 t391 t394).bind fun t427=>((spec_ImageOk.f k t387 t388 t389 t390 t391 t394).bind fun t428=>(laws_FnImageCut.j0 k t397 t398 t399 t400 t412 (t427 != t428) t387 t388 t389 t390 t391 t394 t402 t403 t404 t405 t406 t409)))) else (laws_FnImageCut.j0 k t397 t398 t399 t400 t412 true t387 t388 t389 t390 t391 t394 t402 t403 t404 t405 t406 t409))=some true:=H
   have A26:=aM_ A260
   clear A260
   by_cases c27:t426=true
   ·subst c27
    have H1:(if (t412 != t424)=true then (laws_FnImageCut.j0 k t397 t398 t399 t400 t412 true t387 t388 t389 t390 t391 t394 t402 t403 t404 t405 t406 t409) else ((impl_ImageOk.f k t387 t388 t389 t390 t391 t394).bind fun t427=>((spec_ImageOk.f k t387 t388 t389 t390 t391 t394).bind fun t428=>(laws_FnImageCut.j0 k t397 t398 t399 t400 t412 (t427 != t428) t387 t388 t389 t390 t391 t394 t402 t403 t404 t405 t406 t409))))=some true:=by first|(rw [if_pos rfl] at H;exact H)|rfl
    clear H
    have H:=H1
    clear H1
    by_cases c28:(t412 != t424)=true
    ·rw [if_pos c28] at H
     have c28b0:(t412 != t424)=true:=c28
     (try (have c28b1:decide (t412=t424)=false:=by simpa using c28))
     (try (have c28b2:(t412 == t424)=false:=by simpa using c28))
     (try (have c28b3:¬ (t412=t424):=by simpa using c28))
     clear c28
     (first|rw [c28b0]|(simp only [i64_w,i32_w];rw [c28b0])|skip)
     exact absurd H (by cases k <;> simp [laws_FnImageCut.j0])
    ·rw [if_neg c28] at H
     have c28b0:(t412 != t424)=false:=by simpa using c28
     (try (have c28b1:decide (t412=t424)=true:=by simpa using c28))
     (try (have c28b2:(t412 == t424)=true:=by simpa using c28))
     clear c28
     (first|rw [c28b0]|(simp only [i64_w,i32_w];rw [c28b0])|skip)
     replace H:=Option.bind_eq_some_iff.mp H
     obtain ⟨t427,A290,H⟩:=H
     replace H:((spec_ImageOk.f k t387 t388 t389 t390 t391 t394).bind fun t428=>(laws_FnImageCut.j0 k t397 t398 t399 t400 t412 (t427 != t428) t387 t388 t389 t390 t391 t394 t402 t403 t404 t405 t406 t409))=some true:=H
     have A29:=aM_ A290
     clear A290
     replace H:=Option.bind_eq_some_iff.mp H
     obtain ⟨t428,A300,H⟩:=H
     replace H:(laws_FnImageCut.j0 k t397 t398 t399 t400 t412 (t427 != t428) t387 t388 t389 t390 t391 t394 t402 t403 t404 t405 t406 t409)=some true:=H
     have A30:=aM_ A300
     clear A300
     have H':=aM_ H
     clear H
     try go_wp2
     have n0_:Aside0 (Kd.R (Kd.int .i64) 3 ((((((w20.setCell ⟨gb425,0,none⟩ (.int .i64 t414)).setCell ⟨gb425,1,none⟩ (.int .i64 t415)).setCell ⟨gb425,2,none⟩ (.int .i64 t416)).setCell ⟨gb425,3,none⟩ (.int .i64 t417)).setCell ⟨gb425,4,none⟩ (.slice Ao24 t418.length co24)).setCell ⟨gb425,5,none⟩ (.slice Ao25 t421.length co25)) w.heap.size (fun k_=>some k_≠(.slice Ao11 t394.length co11:Value).ownBlock∧some k_≠(.slice Ao16 t406.length co16:Value).ownBlock∧some k_≠(.slice Ao17 t409.length co17:Value).ownBlock∧some k_≠(.slice Ao24 t418.length co24:Value).ownBlock∧some k_≠(.slice Ao25 t421.length co25:Value).ownBlock) (.slice Ao10 t391.length co10) t391):=⟨by (with_reducible repeat (first|apply rA_|apply rN_|apply rD_));exact Kd.R_mono (Kd.R_far (Kd.R_far (Kd.R_far (Kd.R_far (Kd.R_far (Kd.R_far (Kd.R_types HO393.out BK425.out (by decide)) (fun _ hk=>hk.2) _) (fun _ hk=>hk.2) _) (fun _ hk=>hk.2) _) (fun _ hk=>hk.2) _) (fun _ hk=>hk.2) _) (fun _ hk=>hk.2) _) (fun _ hk=>⟨hk.1.1.1.1.1,⟨hk.1.1.1.1.2,⟨hk.1.1.1.2,⟨hk.1.1.2,hk.1.2⟩⟩⟩⟩)⟩
     have n1_:Aside0 (Kd.Q (Kd.int .i64) 3 ((((((w20.setCell ⟨gb425,0,none⟩ (.int .i64 t414)).setCell ⟨gb425,1,none⟩ (.int .i64 t415)).setCell ⟨gb425,2,none⟩ (.int .i64 t416)).setCell ⟨gb425,3,none⟩ (.int .i64 t417)).setCell ⟨gb425,4,none⟩ (.slice Ao24 t418.length co24)).setCell ⟨gb425,5,none⟩ (.slice Ao25 t421.length co25)) w.heap.size (fun k_=>some k_≠(.slice Ao10 t391.length co10:Value).ownBlock∧some k_≠(.slice Ao16 t406.length co16:Value).ownBlock∧some k_≠(.slice Ao17 t409.length co17:Value).ownBlock∧some k_≠(.slice Ao24 t418.length co24:Value).ownBlock∧some k_≠(.slice Ao25 t421.length co25:Value).ownBlock) (.slice Ao11 t394.length co11) t394):=⟨by (with_reducible repeat (first|apply Kd.Q_alloc|apply Kd.Q_drewN|apply Kd.Q_drew));exact Kd.Q_mono (Kd.Q_far (Kd.Q_far (Kd.Q_far (Kd.Q_far (Kd.Q_far (Kd.Q_far (Kd.Q_types HO396.out BK425.out (by decide)) (fun _ hk=>hk.2) _) (fun _ hk=>hk.2) _) (fun _ hk=>hk.2) _) (fun _ hk=>hk.2) _) (fun _ hk=>hk.2) _) (fun _ hk=>hk.2) _) (fun _ hk=>⟨hk.1.1.1.1.1,⟨hk.1.1.1.1.2,⟨hk.1.1.1.2,⟨hk.1.1.2,hk.1.2⟩⟩⟩⟩)⟩
     have n2_:Aside0 (Kd.R (Kd.int .i64) 3 ((((((w20.setCell ⟨gb425,0,none⟩ (.int .i64 t414)).setCell ⟨gb425,1,none⟩ (.int .i64 t415)).setCell ⟨gb425,2,none⟩ (.int .i64 t416)).setCell ⟨gb425,3,none⟩ (.int .i64 t417)).setCell ⟨gb425,4,none⟩ (.slice Ao24 t418.length co24)).setCell ⟨gb425,5,none⟩ (.slice Ao25 t421.length co25)) w.heap.size (fun k_=>some k_≠(.slice Ao10 t391.length co10:Value).ownBlock∧some k_≠(.slice Ao11 t394.length co11:Value).ownBlock∧some k_≠(.slice Ao17 t409.length co17:Value).ownBlock∧some k_≠(.slice Ao24 t418.length co24:Value).ownBlock∧some k_≠(.slice Ao25 t421.length co25:Value).ownBlock) (.slice Ao16 t406.length co16) t406):=⟨by (with_reducible repeat (first|apply rA_|apply rN_|apply rD_));exact Kd.R_mono (Kd.R_far (Kd.R_far (Kd.R_far (Kd.R_far (Kd.R_far (Kd.R_far (Kd.R_types HO408.out BK425.out (by decide)) (fun _ hk=>hk.2) _) (fun _ hk=>hk.2) _) (fun _ hk=>hk.2) _) (fun _ hk=>hk.2) _) (fun _ hk=>hk.2) _) (fun _ hk=>hk.2) _) (fun _ hk=>⟨hk.1.1.1.1.2,⟨hk.1.1.1.2,⟨hk.1.1.1.1.1,⟨hk.1.1.2,hk.1.2⟩⟩⟩⟩)⟩
     have n3_:Aside0 (Kd.R (Kd.int .i64) 3 ((((((w20.setCell ⟨gb425,0,none⟩ (.int .i64 t414)).setCell ⟨gb425,1,none⟩ (.int .i64 t415)).setCell ⟨gb425,2,none⟩ (.int .i64 t416)).setCell ⟨gb425,3,none⟩ (.int .i64 t417)).setCell ⟨gb425,4,none⟩ (.slice Ao24 t418.length co24)).setCell ⟨gb425,5,none⟩ (.slice Ao25 t421.length co25)) w.heap.size (fun k_=>some k_≠(.slice Ao10 t391.length co10:Value).ownBlock∧some k_≠(.slice Ao11 t394.length co11:Value).ownBlock∧some k_≠(.slice Ao16 t406.length co16:Value).ownBlock∧some k_≠(.slice Ao24 t418.length co24:Value).ownBlock∧some k_≠(.slice Ao25 t421.length co25:Value).ownBlock) (.slice Ao17 t409.length co17) t409):=⟨by (with_reducible repeat (first|apply rA_|apply rN_|apply rD_));exact Kd.R_mono (Kd.R_far (Kd.R_far (Kd.R_far (Kd.R_far (Kd.R_far (Kd.R_far (Kd.R_types HO411.out BK425.out (by decide)) (fun _ hk=>hk.2) _) (fun _ hk=>hk.2) _) (fun _ hk=>hk.2) _) (fun _ hk=>hk.2) _) (fun _ hk=>hk.2) _) (fun _ hk=>hk.2) _) (fun _ hk=>⟨hk.1.1.1.1.2,⟨hk.1.1.1.2,⟨hk.1.1.1.1.1,⟨hk.1.1.2,hk.1.2⟩⟩⟩⟩)⟩
     have n4_:Aside0 (Kd.R (Kd.int .i64) 3 ((((((w20.setCell ⟨gb425,0,none⟩ (.int .i64 t414)).setCell ⟨gb425,1,none⟩ (.int .i64 t415)).setCell ⟨gb425,2,none⟩ (.int .i64 t416)).setCell ⟨gb425,3,none⟩ (.int .i64 t417)).setCell ⟨gb425,4,none⟩ (.slice Ao24 t418.length co24)).setCell ⟨gb425,5,none⟩ (.slice Ao25 t421.length co25)) w.heap.size (fun k_=>some k_≠(.slice Ao10 t391.length co10:Value).ownBlock∧some k_≠(.slice Ao11 t394.length co11:Value).ownBlock∧some k_≠(.slice Ao16 t406.length co16:Value).ownBlock∧some k_≠(.slice Ao17 t409.length co17:Value).ownBlock∧some k_≠(.slice Ao25 t421.length co25:Value).ownBlock) (.slice Ao24 t418.length co24) t418):=⟨by (with_reducible repeat (first|apply rA_|apply rN_|apply rD_));exact Kd.R_mono (Kd.R_far (Kd.R_far (Kd.R_far (Kd.R_far (Kd.R_far (Kd.R_far (Kd.R_types HO420.out BK425.out (by decide)) (fun _ hk=>hk.2) _) (fun _ hk=>hk.2) _) (fun _ hk=>hk.2) _) (fun _ hk=>hk.2) _) (fun _ hk=>hk.2) _) (fun _ hk=>hk.2) _) (fun _ hk=>⟨hk.1.1.1.1.2,⟨hk.1.1.1.2,⟨hk.1.1.2,⟨hk.1.2,hk.1.1.1.1.1⟩⟩⟩⟩)⟩
     have n5_:Aside0 (Kd.R (Kd.int .i64) 3 ((((((w20.setCell ⟨gb425,0,none⟩ (.int .i64 t414)).setCell ⟨gb425,1,none⟩ (.int .i64 t415)).setCell ⟨gb425,2,none⟩ (.int .i64 t416)).setCell ⟨gb425,3,none⟩ (.int .i64 t417)).setCell ⟨gb425,4,none⟩ (.slice Ao24 t418.length co24)).setCell ⟨gb425,5,none⟩ (.slice Ao25 t421.length co25)) w.heap.size (fun k_=>some k_≠(.slice Ao10 t391.length co10:Value).ownBlock∧some k_≠(.slice Ao11 t394.length co11:Value).ownBlock∧some k_≠(.slice Ao16 t406.length co16:Value).ownBlock∧some k_≠(.slice Ao17 t409.length co17:Value).ownBlock∧some k_≠(.slice Ao24 t418.length co24:Value).ownBlock) (.slice Ao25 t421.length co25) t421):=⟨by (with_reducible repeat (first|apply rA_|apply rN_|apply rD_));exact Kd.R_mono (Kd.R_far (Kd.R_far (Kd.R_far (Kd.R_far (Kd.R_far (Kd.R_far (Kd.R_types HO423.out BK425.out (by decide)) (fun _ hk=>hk.2) _) (fun _ hk=>hk.2) _) (fun _ hk=>hk.2) _) (fun _ hk=>hk.2) _) (fun _ hk=>hk.2) _) (fun _ hk=>hk.2) _) (fun _ hk=>⟨hk.1.1.1.1.2,⟨hk.1.1.1.2,⟨hk.1.1.2,⟨hk.1.2,hk.1.1.1.1.1⟩⟩⟩⟩)⟩
     have n6_:Aside0 (((((((w20.setCell ⟨gb425,0,none⟩ (.int .i64 t414)).setCell ⟨gb425,1,none⟩ (.int .i64 t415)).setCell ⟨gb425,2,none⟩ (.int .i64 t416)).setCell ⟨gb425,3,none⟩ (.int .i64 t417)).setCell ⟨gb425,4,none⟩ (.slice Ao24 t418.length co24)).setCell ⟨gb425,5,none⟩ (.slice Ao25 t421.length co25)).heap[gb401]?=some (.cells #[.int .i64 t387,.int .i64 t388,.int .i64 t389,.int .i64 t390,.slice Ao10 t391.length co10,.slice Ao11 t394.length co11] 27 (0,0))):=⟨by (with_reducible repeat (first|apply kN_|apply kD_|apply kA_));refine blk_far ?_ NB401_425.out _;(with_reducible repeat (first|apply kN_|apply kD_|apply kA_));refine blk_far ?_ NB401_425.out _;(with_reducible repeat (first|apply kN_|apply kD_|apply kA_));refine blk_far ?_ NB401_425.out _;(with_reducible repeat (first|apply kN_|apply kD_|apply kA_));refine blk_far ?_ NB401_425.out _;(with_reducible repeat (first|apply kN_|apply kD_|apply kA_));refine blk_far ?_ NB401_425.out _;(with_reducible repeat (first|apply kN_|apply kD_|apply kA_));refine blk_far ?_ NB401_425.out _;(with_reducible repeat (first|apply kN_|apply kD_|apply kA_));exact BK401.out⟩
     have n7_:Aside0 (((((((w20.setCell ⟨gb425,0,none⟩ (.int .i64 t414)).setCell ⟨gb425,1,none⟩ (.int .i64 t415)).setCell ⟨gb425,2,none⟩ (.int .i64 t416)).setCell ⟨gb425,3,none⟩ (.int .i64 t417)).setCell ⟨gb425,4,none⟩ (.slice Ao24 t418.length co24)).setCell ⟨gb425,5,none⟩ (.slice Ao25 t421.length co25)).heap[gb413]?=some (.cells #[.int .i64 t402,.int .i64 t403,.int .i64 t404,.int .i64 t405,.slice Ao16 t406.length co16,.slice Ao17 t409.length co17] 27 (0,0))):=⟨by (with_reducible repeat (first|apply kN_|apply kD_|apply kA_));refine blk_far ?_ NB413_425.out _;(with_reducible repeat (first|apply kN_|apply kD_|apply kA_));refine blk_far ?_ NB413_425.out _;(with_reducible repeat (first|apply kN_|apply kD_|apply kA_));refine blk_far ?_ NB413_425.out _;(with_reducible repeat (first|apply kN_|apply kD_|apply kA_));refine blk_far ?_ NB413_425.out _;(with_reducible repeat (first|apply kN_|apply kD_|apply kA_));refine blk_far ?_ NB413_425.out _;(with_reducible repeat (first|apply kN_|apply kD_|apply kA_));refine blk_far ?_ NB413_425.out _;(with_reducible repeat (first|apply kN_|apply kD_|apply kA_));exact BK413.out⟩
     have n8_:Aside0 (((((((w20.setCell ⟨gb425,0,none⟩ (.int .i64 t414)).setCell ⟨gb425,1,none⟩ (.int .i64 t415)).setCell ⟨gb425,2,none⟩ (.int .i64 t416)).setCell ⟨gb425,3,none⟩ (.int .i64 t417)).setCell ⟨gb425,4,none⟩ (.slice Ao24 t418.length co24)).setCell ⟨gb425,5,none⟩ (.slice Ao25 t421.length co25)).heap[gb425]?=some (.cells #[.int .i64 t414,.int .i64 t415,.int .i64 t416,.int .i64 t417,.slice Ao24 t418.length co24,.slice Ao25 t421.length co25] 27 (0,0))):=⟨by (with_reducible repeat (first|apply kN_|apply kD_|apply kA_));refine blk_put (cs:=#[.int .i64 t414,.int .i64 t415,.int .i64 t416,.int .i64 t417,.slice Ao24 t418.length co24,.slice none 0 0]) ?_ 5 _ rfl;(with_reducible repeat (first|apply kN_|apply kD_|apply kA_));refine blk_put (cs:=#[.int .i64 t414,.int .i64 t415,.int .i64 t416,.int .i64 t417,.slice none 0 0,.slice none 0 0]) ?_ 4 _ rfl;(with_reducible repeat (first|apply kN_|apply kD_|apply kA_));refine blk_put (cs:=#[.int .i64 t414,.int .i64 t415,.int .i64 t416,.int .i64 0,.slice none 0 0,.slice none 0 0]) ?_ 3 _ rfl;(with_reducible repeat (first|apply kN_|apply kD_|apply kA_));refine blk_put (cs:=#[.int .i64 t414,.int .i64 t415,.int .i64 0,.int .i64 0,.slice none 0 0,.slice none 0 0]) ?_ 2 _ rfl;(with_reducible repeat (first|apply kN_|apply kD_|apply kA_));refine blk_put (cs:=#[.int .i64 t414,.int .i64 0,.int .i64 0,.int .i64 0,.slice none 0 0,.slice none 0 0]) ?_ 1 _ rfl;(with_reducible repeat (first|apply kN_|apply kD_|apply kA_));refine blk_put (cs:=#[.int .i64 0,.int .i64 0,.int .i64 0,.int .i64 0,.slice none 0 0,.slice none 0 0]) ?_ 0 _ rfl;(with_reducible repeat (first|apply kN_|apply kD_|apply kA_));exact BK425.out⟩
     have n9_:Aside0 (Below w.heap.size w ((((((w20.setCell ⟨gb425,0,none⟩ (.int .i64 t414)).setCell ⟨gb425,1,none⟩ (.int .i64 t415)).setCell ⟨gb425,2,none⟩ (.int .i64 t416)).setCell ⟨gb425,3,none⟩ (.int .i64 t417)).setCell ⟨gb425,4,none⟩ (.slice Ao24 t418.length co24)).setCell ⟨gb425,5,none⟩ (.slice Ao25 t421.length co25))):=⟨by repeat (first|(with_reducible first|exact HB.out|apply wA_|apply wN_|apply wD_|refine below_set ?_ GE401.out|refine below_set ?_ GE413.out|refine below_set ?_ GE425.out)|exact HB.out)⟩
     (try clear HO393)
     (try clear HO396)
     (try clear HO408)
     (try clear HO411)
     (try clear HO420)
     (try clear HO423)
     (try clear BK401)
     (try clear BK413)
     (try clear BK425)
     (try clear HB)
     generalize ((((((w20.setCell ⟨gb425,0,none⟩ (.int .i64 t414)).setCell ⟨gb425,1,none⟩ (.int .i64 t415)).setCell ⟨gb425,2,none⟩ (.int .i64 t416)).setCell ⟨gb425,3,none⟩ (.int .i64 t417)).setCell ⟨gb425,4,none⟩ (.slice Ao24 t418.length co24)).setCell ⟨gb425,5,none⟩ (.slice Ao25 t421.length co25))=w31 at n0_ n1_ n2_ n3_ n4_ n5_ n6_ n7_ n8_ n9_ ⊢
     have HO393:=n0_
     have HO396:=n1_
     have HO408:=n2_
     have HO411:=n3_
     have HO420:=n4_
     have HO423:=n5_
     have BK401:=n6_
     have BK413:=n7_
     have BK425:=n8_
     have HB:=n9_
     clear n0_ n1_ n2_ n3_ n4_ n5_ n6_ n7_ n8_ n9_
     have n0_:=aM_ (rD_ HO393.out)
     have n1_:=aM_ (Kd.Q_drew HO396.out)
     have n2_:=aM_ (rD_ HO408.out)
     have n3_:=aM_ (rD_ HO411.out)
     have n4_:=aM_ (rD_ HO420.out)
     have n5_:=aM_ (rD_ HO423.out)
     have n6_:=aM_ (kD_ BK401.out)
     have n7_:=aM_ (kD_ BK413.out)
     have n8_:=aM_ (kD_ BK425.out)
     have n9_:=aM_ (wD_ HB.out)
     clear HO393
     clear HO396
     clear HO408
     clear HO411
     clear HO420
     clear HO423
     clear BK401
     clear BK413
     clear BK425
     clear HB
     have HO393:=n0_
     have HO396:=n1_
     have HO408:=n2_
     have HO411:=n3_
     have HO420:=n4_
     have HO423:=n5_
     have BK401:=n6_
     have BK413:=n7_
     have BK425:=n8_
     have HB:=n9_
     clear n0_ n1_ n2_ n3_ n4_ n5_ n6_ n7_ n8_ n9_
     refine start_ (n:=16) (S:=fun w'=>w'.cell? ⟨gb413,0,none⟩=some (.int .i64 t402)∧w'.cell? ⟨gb413,1,none⟩=some (.int .i64 t403)∧w'.cell? ⟨gb413,2,none⟩=some (.int .i64 t404)∧w'.cell? ⟨gb413,3,none⟩=some (.int .i64 t405)∧w'.cell? ⟨gb413,4,none⟩=some (.slice Ao16 t406.length co16)∧w'.cell? ⟨gb413,5,none⟩=some (.slice Ao17 t409.length co17)∧w'.cell? ⟨gb425,0,none⟩=some (.int .i64 t414)∧w'.cell? ⟨gb425,1,none⟩=some (.int .i64 t415)∧w'.cell? ⟨gb425,2,none⟩=some (.int .i64 t416)∧w'.cell? ⟨gb425,3,none⟩=some (.int .i64 t417)∧w'.cell? ⟨gb425,4,none⟩=some (.slice Ao24 t418.length co24)∧w'.cell? ⟨gb425,5,none⟩=some (.slice Ao25 t421.length co25)∧w'.cell? ⟨gb401,0,none⟩=some (.int .i64 t387)∧w'.cell? ⟨gb401,1,none⟩=some (.int .i64 t388)∧w'.cell? ⟨gb401,2,none⟩=some (.int .i64 t389)∧w'.cell? ⟨gb401,3,none⟩=some (.int .i64 t390)∧w'.cell? ⟨gb401,4,none⟩=some (.slice Ao10 t391.length co10)∧w'.cell? ⟨gb401,5,none⟩=some (.slice Ao11 t394.length co11)) (ds:=[]) #[false,false,false,false,false,false,false,false,false,false,false,false,false,false,false,false] (by kernel_rfl) rfl rfl ⟨(blk_cell BK413.out 0).trans rfl,(blk_cell BK413.out 1).trans rfl,(blk_cell BK413.out 2).trans rfl,(blk_cell BK413.out 3).trans rfl,(blk_cell BK413.out 4).trans rfl,(blk_cell BK413.out 5).trans rfl,(blk_cell BK425.out 0).trans rfl,(blk_cell BK425.out 1).trans rfl,(blk_cell BK425.out 2).trans rfl,(blk_cell BK425.out 3).trans rfl,(blk_cell BK425.out 4).trans rfl,(blk_cell BK425.out 5).trans rfl,(blk_cell BK401.out 0).trans rfl,(blk_cell BK401.out 1).trans rfl,(blk_cell BK401.out 2).trans rfl,(blk_cell BK401.out 3).trans rfl,(blk_cell BK401.out 4).trans rfl,(blk_cell BK401.out 5).trans rfl⟩ (fun hHeld=>?_);refine with_tabW laws_FnImageCut.tab6 laws_FnImageCut.bits6 (fun HT_ HW_=>?_)
     generalize w31.drew=w32 at HO393 HO396 HO408 HO411 HO420 HO423 BK401 BK413 BK425 HB hHeld ⊢
     refine take_ (i:=0) (N:=some 48) (v:=?_) (a':=?_) #[true,false,false,false,false,false,false,false,false,false,false,false,false,false,false,false] rfl rfl (take_ofW HT_.out HW_.out (by kernel_rfl)) (fun _ _ _ h=>h) (Or.inl ⟨by rfl,?_⟩) hHeld ?_ ?_
     rotate_left
     ·rintro w' ⟨s0,s1,s2,s3,s4,s5,s6,s7,s8,s9,s10,s11,s12,s13,s14,s15,s16,s17⟩
      go_simp
      with_reducible rfl
     rotate_left
     ·simp only [Act.put,sA_,s0_,s1_,i64_w,i32_w]
      rfl
     refine take_ (i:=1) (N:=some 49) (v:=?_) (a':=?_) #[true,true,false,false,false,false,false,false,false,false,false,false,false,false,false,false] rfl rfl (take_ofW HT_.out HW_.out (by kernel_rfl)) (fun _ _ _ h=>h) (Or.inl ⟨by rfl,?_⟩) hHeld ?_ ?_
     rotate_left
     ·rintro w' ⟨s0,s1,s2,s3,s4,s5,s6,s7,s8,s9,s10,s11,s12,s13,s14,s15,s16,s17⟩
      go_simp
      with_reducible rfl
     rotate_left
     ·simp only [Act.put,sA_,s0_,s1_,i64_w,i32_w]
      rfl
     refine one_ (i:=2) (N:=some 50) #[true,true,true,false,false,false,false,false,false,false,false,false,false,false,false,false] rfl rfl (one_of HT_.out (by kernel_rfl)) (by decide) (fun K hK=>?_)
     refine goes_ Try.func39 (by kernel_rfl) rfl #[.agg #[.int .i64 t402,.int .i64 t403,.int .i64 t404,.int .i64 t405,.slice Ao16 t406.length co16,.slice Ao17 t409.length co17],.agg #[.int .i64 t414,.int .i64 t415,.int .i64 t416,.int .i64 t417,.slice Ao24 t418.length co24,.slice Ao25 t421.length co25]] (by rfl) rfl rfl (by (try simp only [List.map_toArray,List.map_cons,List.map_nil]);first|done|rfl|(simp only [List.length_drop,List.length_take];rfl)) ?_
     with_reducible refine (laws_wiImage.calls k t402 t403 t404 t405 _ _ t406 _ _ t409 t414 t415 t416 t417 _ _ t418 _ _ t421 true _ ?side1 ?side2 ?side3 ?side4 ?side5 ?side6 ?side7 ?side8 A26.out).mono ?_
     (case side1=>repeat (first|exact (Kd.R_reads' HO408.out).2.2|(with_reducible refine Kd.C_alloc ?_ _)|(with_reducible refine Kd.C_drewN ?_ _)|(with_reducible refine Kd.C_drew ?_)))
     (case side2=>exact (Kd.R_reads' HO408.out).2.1)
     (case side3=>repeat (first|exact (Kd.R_reads' HO411.out).2.2|(with_reducible refine Kd.C_alloc ?_ _)|(with_reducible refine Kd.C_drewN ?_ _)|(with_reducible refine Kd.C_drew ?_)))
     (case side4=>exact (Kd.R_reads' HO411.out).2.1)
     (case side5=>repeat (first|exact (Kd.R_reads' HO420.out).2.2|(with_reducible refine Kd.C_alloc ?_ _)|(with_reducible refine Kd.C_drewN ?_ _)|(with_reducible refine Kd.C_drew ?_)))
     (case side6=>exact (Kd.R_reads' HO420.out).2.1)
     (case side7=>repeat (first|exact (Kd.R_reads' HO423.out).2.2|(with_reducible refine Kd.C_alloc ?_ _)|(with_reducible refine Kd.C_drewN ?_ _)|(with_reducible refine Kd.C_drew ?_)))
     (case side8=>exact (Kd.R_reads' HO423.out).2.1)
     rintro e w33 ⟨rfl,hb⟩
     refine ⟨_,rfl,?_⟩
     have n0_:=aM_ (Kd.R_below (by (with_reducible repeat (first|apply rA_|apply rN_|apply rD_));exact HO393.out) hb)
     have n1_:=aM_ (Kd.Q_below (by (with_reducible repeat (first|apply Kd.Q_alloc|apply Kd.Q_drewN|apply Kd.Q_drew));exact HO396.out) hb)
     have n2_:=aM_ (Kd.R_below (by (with_reducible repeat (first|apply rA_|apply rN_|apply rD_));exact HO408.out) hb)
     have n3_:=aM_ (Kd.R_below (by (with_reducible repeat (first|apply rA_|apply rN_|apply rD_));exact HO411.out) hb)
     have n4_:=aM_ (Kd.R_below (by (with_reducible repeat (first|apply rA_|apply rN_|apply rD_));exact HO420.out) hb)
     have n5_:=aM_ (Kd.R_below (by (with_reducible repeat (first|apply rA_|apply rN_|apply rD_));exact HO423.out) hb)
     have n6_:=aM_ (blk_below (g:=gb401) (by (with_reducible repeat (first|apply kN_|apply kD_|apply kA_));exact BK401.out) hb)
     have n7_:=aM_ (blk_below (g:=gb413) (by (with_reducible repeat (first|apply kN_|apply kD_|apply kA_));exact BK413.out) hb)
     have n8_:=aM_ (blk_below (g:=gb425) (by (with_reducible repeat (first|apply kN_|apply kD_|apply kA_));exact BK425.out) hb)
     have n9_:=aM_ (below_step (by repeat (first|(with_reducible first|exact HB.out|apply wA_|apply wN_|apply wD_|refine below_set ?_ GE401.out|refine below_set ?_ GE413.out|refine below_set ?_ GE425.out)|exact HB.out)) hb)
     clear HO393
     clear HO396
     clear HO408
     clear HO411
     clear HO420
     clear HO423
     clear BK401
     clear BK413
     clear BK425
     clear HB
     have HO393:=n0_
     have HO396:=n1_
     have HO408:=n2_
     have HO411:=n3_
     have HO420:=n4_
     have HO423:=n5_
     have BK401:=n6_
     have BK413:=n7_
     have BK425:=n8_
     have HB:=n9_
     clear n0_ n1_ n2_ n3_ n4_ n5_ n6_ n7_ n8_ n9_
     (try clear hb)
     (try clear hb2)
     (try clear hk)
     (try clear hi)
     refine hK.out _ _ ⟨(blk_cell BK413.out 0).trans rfl,(blk_cell BK413.out 1).trans rfl,(blk_cell BK413.out 2).trans rfl,(blk_cell BK413.out 3).trans rfl,(blk_cell BK413.out 4).trans rfl,(blk_cell BK413.out 5).trans rfl,(blk_cell BK425.out 0).trans rfl,(blk_cell BK425.out 1).trans rfl,(blk_cell BK425.out 2).trans rfl,(blk_cell BK425.out 3).trans rfl,(blk_cell BK425.out 4).trans rfl,(blk_cell BK425.out 5).trans rfl,(blk_cell BK401.out 0).trans rfl,(blk_cell BK401.out 1).trans rfl,(blk_cell BK401.out 2).trans rfl,(blk_cell BK401.out 3).trans rfl,(blk_cell BK401.out 4).trans rfl,(blk_cell BK401.out 5).trans rfl⟩ (fun hHeld=>?_)
     clear hK K
     refine norm_ (a':=?_) ?_ ?_
     rotate_left
     ·show Act.put _ (some 50) _=_
      simp only [Act.put,sA_,s0_,s1_,i64_w,i32_w]
      rfl
     refine pure_ (i:=3) (N:=some 51) (v:=?_) (a':=?_) #[true,true,true,true,false,false,false,false,false,false,false,false,false,false,false,false] rfl rfl (any_of HT_.out (by kernel_rfl)) (fun _ _ _ h=>h) (Or.inl ⟨by rfl,?_⟩) ?_ ?_
     rotate_left
     ·intro w'
      go_simp
      with_reducible rfl
     rotate_left
     ·simp only [Act.put,sA_,s0_,s1_,i64_w,i32_w]
      rfl
     refine pure_ (i:=4) (N:=some 52) (v:=?_) (a':=?_) #[true,true,true,true,true,false,false,false,false,false,false,false,false,false,false,false] rfl rfl (any_of HT_.out (by kernel_rfl)) (fun _ _ _ h=>h) (Or.inl ⟨by rfl,?_⟩) ?_ ?_
     rotate_left
     ·intro w'
      go_simp
      with_reducible rfl
     rotate_left
     ·simp only [Act.put,sA_,s0_,s1_,i64_w,i32_w]
      rfl
     refine pure_ (i:=5) (N:=some 53) (v:=?_) (a':=?_) #[true,true,true,true,true,true,false,false,false,false,false,false,false,false,false,false] rfl rfl (any_of HT_.out (by kernel_rfl)) (fun _ _ _ h=>h) (Or.inl ⟨by rfl,?_⟩) ?_ ?_
     rotate_left
     ·intro w'
      go_simp
      with_reducible rfl
     rotate_left
     ·simp only [Act.put,sA_,s0_,s1_,i64_w,i32_w]
      rfl
     refine pure_ (i:=6) (N:=some 54) (v:=?_) (a':=?_) #[true,true,true,true,true,true,true,false,false,false,false,false,false,false,false,false] rfl rfl (any_of HT_.out (by kernel_rfl)) (fun _ _ _ h=>h) (Or.inl ⟨by rfl,?_⟩) ?_ ?_
     rotate_left
     ·intro w'
      go_simp
      with_reducible rfl
     rotate_left
     ·simp only [Act.put,sA_,s0_,s1_,i64_w,i32_w]
      rfl
     refine pure_ (i:=7) (N:=some 55) (v:=?_) (a':=?_) #[true,true,true,true,true,true,true,true,false,false,false,false,false,false,false,false] rfl rfl (any_of HT_.out (by kernel_rfl)) (fun _ _ _ h=>h) (Or.inl ⟨by rfl,?_⟩) ?_ ?_
     rotate_left
     ·intro w'
      go_simp
      with_reducible rfl
     rotate_left
     ·simp only [Act.put,sA_,s0_,s1_,i64_w,i32_w]
      rfl
     refine pure_ (i:=8) (N:=some 56) (v:=?_) (a':=?_) #[true,true,true,true,true,true,true,true,true,false,false,false,false,false,false,false] rfl rfl (any_of HT_.out (by kernel_rfl)) (fun _ _ _ h=>h) (Or.inl ⟨by rfl,?_⟩) ?_ ?_
     rotate_left
     ·intro w'
      go_simp
      with_reducible rfl
     rotate_left
     ·simp only [Act.put,sA_,s0_,s1_,i64_w,i32_w]
      rfl
     refine pure_ (i:=9) (N:=some 57) (v:=?_) (a':=?_) #[true,true,true,true,true,true,true,true,true,true,false,false,false,false,false,false] rfl rfl (any_of HT_.out (by kernel_rfl)) (fun _ _ _ h=>h) (Or.inl ⟨by rfl,?_⟩) ?_ ?_
     rotate_left
     ·intro w'
      go_simp
      with_reducible rfl
     rotate_left
     ·simp only [Act.put,sA_,s0_,s1_,i64_w,i32_w]
      rfl
     refine take_ (i:=10) (N:=some 58) (v:=?_) (a':=?_) #[true,true,true,true,true,true,true,true,true,true,true,false,false,false,false,false] rfl rfl (take_ofW HT_.out HW_.out (by kernel_rfl)) (fun _ _ _ h=>h) (Or.inl ⟨by rfl,?_⟩) hHeld ?_ ?_
     rotate_left
     ·rintro w' ⟨s0,s1,s2,s3,s4,s5,s6,s7,s8,s9,s10,s11,s12,s13,s14,s15,s16,s17⟩
      go_simp
      with_reducible rfl
     rotate_left
     ·simp only [Act.put,sA_,s0_,s1_,i64_w,i32_w]
      rfl
     refine take_ (i:=12) (N:=some 60) (v:=?_) (a':=?_) #[true,true,true,true,true,true,true,true,true,true,true,false,true,false,false,false] rfl rfl (take_ofW HT_.out HW_.out (by kernel_rfl)) (fun _ _ _ h=>h) (Or.inl ⟨by rfl,?_⟩) hHeld ?_ ?_
     rotate_left
     ·rintro w' ⟨s0,s1,s2,s3,s4,s5,s6,s7,s8,s9,s10,s11,s12,s13,s14,s15,s16,s17⟩
      go_simp
      with_reducible rfl
     rotate_left
     ·simp only [Act.put,sA_,s0_,s1_,i64_w,i32_w]
      rfl
     refine one_ (i:=11) (N:=some 59) #[true,true,true,true,true,true,true,true,true,true,true,true,true,false,false,false] rfl rfl (one_of HT_.out (by kernel_rfl)) (by decide) (fun K hK=>?_)
     refine goes_ Try.func18 (by kernel_rfl) rfl #[.agg #[.int .i64 t387,.int .i64 t388,.int .i64 t389,.int .i64 t390,.slice Ao10 t391.length co10,.slice Ao11 t394.length co11]] (by rfl) rfl rfl (by (try simp only [List.map_toArray,List.map_cons,List.map_nil]);first|done|rfl|(simp only [List.length_drop,List.length_take];rfl)) ?_
     with_reducible refine (impl_ImageOk.calls k t387 t388 t389 t390 _ _ t391 _ _ t394 t427 _ ?side1 ?side2 ?side3 ?side4 A29.out).mono ?_
     (case side1=>repeat (first|exact (Kd.R_reads' HO393.out).2.2|(with_reducible refine Kd.C_alloc ?_ _)|(with_reducible refine Kd.C_drewN ?_ _)|(with_reducible refine Kd.C_drew ?_)))
     (case side2=>exact (Kd.R_reads' HO393.out).2.1)
     (case side3=>repeat (first|exact (Kd.Q_reads' HO396.out).2.2|(with_reducible refine Kd.C_alloc ?_ _)|(with_reducible refine Kd.C_drewN ?_ _)|(with_reducible refine Kd.C_drew ?_)))
     (case side4=>exact (Kd.Q_reads' HO396.out).2.1)
     rintro e w34 ⟨rfl,hb⟩
     refine ⟨_,rfl,?_⟩
     have n0_:=aM_ (Kd.R_below (by (with_reducible repeat (first|apply rA_|apply rN_|apply rD_));exact HO393.out) hb)
     have n1_:=aM_ (Kd.Q_below (by (with_reducible repeat (first|apply Kd.Q_alloc|apply Kd.Q_drewN|apply Kd.Q_drew));exact HO396.out) hb)
     have n2_:=aM_ (Kd.R_below (by (with_reducible repeat (first|apply rA_|apply rN_|apply rD_));exact HO408.out) hb)
     have n3_:=aM_ (Kd.R_below (by (with_reducible repeat (first|apply rA_|apply rN_|apply rD_));exact HO411.out) hb)
     have n4_:=aM_ (Kd.R_below (by (with_reducible repeat (first|apply rA_|apply rN_|apply rD_));exact HO420.out) hb)
     have n5_:=aM_ (Kd.R_below (by (with_reducible repeat (first|apply rA_|apply rN_|apply rD_));exact HO423.out) hb)
     have n6_:=aM_ (blk_below (g:=gb401) (by (with_reducible repeat (first|apply kN_|apply kD_|apply kA_));exact BK401.out) hb)
     have n7_:=aM_ (blk_below (g:=gb413) (by (with_reducible repeat (first|apply kN_|apply kD_|apply kA_));exact BK413.out) hb)
     have n8_:=aM_ (blk_below (g:=gb425) (by (with_reducible repeat (first|apply kN_|apply kD_|apply kA_));exact BK425.out) hb)
     have n9_:=aM_ (below_step (by repeat (first|(with_reducible first|exact HB.out|apply wA_|apply wN_|apply wD_|refine below_set ?_ GE401.out|refine below_set ?_ GE413.out|refine below_set ?_ GE425.out)|exact HB.out)) hb)
     clear HO393
     clear HO396
     clear HO408
     clear HO411
     clear HO420
     clear HO423
     clear BK401
     clear BK413
     clear BK425
     clear HB
     have HO393:=n0_
     have HO396:=n1_
     have HO408:=n2_
     have HO411:=n3_
     have HO420:=n4_
     have HO423:=n5_
     have BK401:=n6_
     have BK413:=n7_
     have BK425:=n8_
     have HB:=n9_
     clear n0_ n1_ n2_ n3_ n4_ n5_ n6_ n7_ n8_ n9_
     (try clear hb)
     (try clear hb2)
     (try clear hk)
     (try clear hi)
     refine hK.out _ _ ⟨(blk_cell BK413.out 0).trans rfl,(blk_cell BK413.out 1).trans rfl,(blk_cell BK413.out 2).trans rfl,(blk_cell BK413.out 3).trans rfl,(blk_cell BK413.out 4).trans rfl,(blk_cell BK413.out 5).trans rfl,(blk_cell BK425.out 0).trans rfl,(blk_cell BK425.out 1).trans rfl,(blk_cell BK425.out 2).trans rfl,(blk_cell BK425.out 3).trans rfl,(blk_cell BK425.out 4).trans rfl,(blk_cell BK425.out 5).trans rfl,(blk_cell BK401.out 0).trans rfl,(blk_cell BK401.out 1).trans rfl,(blk_cell BK401.out 2).trans rfl,(blk_cell BK401.out 3).trans rfl,(blk_cell BK401.out 4).trans rfl,(blk_cell BK401.out 5).trans rfl⟩ (fun hHeld=>?_)
     clear hK K
     refine norm_ (a':=?_) ?_ ?_
     rotate_left
     ·show Act.put _ (some 59) _=_
      simp only [Act.put,sA_,s0_,s1_,i64_w,i32_w]
      rfl
     refine one_ (i:=13) (N:=some 61) #[true,true,true,true,true,true,true,true,true,true,true,true,true,true,false,false] rfl rfl (one_of HT_.out (by kernel_rfl)) (by decide) (fun K hK=>?_)
     refine goes_ Try.func16 (by kernel_rfl) rfl #[.agg #[.int .i64 t387,.int .i64 t388,.int .i64 t389,.int .i64 t390,.slice Ao10 t391.length co10,.slice Ao11 t394.length co11]] (by rfl) rfl rfl (by (try simp only [List.map_toArray,List.map_cons,List.map_nil]);first|done|rfl|(simp only [List.length_drop,List.length_take];rfl)) ?_
     with_reducible refine (spec_ImageOk.calls k t387 t388 t389 t390 _ _ t391 _ _ t394 t428 _ ?side1 ?side2 ?side3 ?side4 A30.out).mono ?_
     (case side1=>repeat (first|exact (Kd.R_reads' HO393.out).2.2|(with_reducible refine Kd.C_alloc ?_ _)|(with_reducible refine Kd.C_drewN ?_ _)|(with_reducible refine Kd.C_drew ?_)))
     (case side2=>exact (Kd.R_reads' HO393.out).2.1)
     (case side3=>repeat (first|exact (Kd.Q_reads' HO396.out).2.2|(with_reducible refine Kd.C_alloc ?_ _)|(with_reducible refine Kd.C_drewN ?_ _)|(with_reducible refine Kd.C_drew ?_)))
     (case side4=>exact (Kd.Q_reads' HO396.out).2.1)
     rintro e w35 ⟨rfl,hb⟩
     refine ⟨_,rfl,?_⟩
     have n0_:=aM_ (Kd.R_below (by (with_reducible repeat (first|apply rA_|apply rN_|apply rD_));exact HO393.out) hb)
     have n1_:=aM_ (Kd.Q_below (by (with_reducible repeat (first|apply Kd.Q_alloc|apply Kd.Q_drewN|apply Kd.Q_drew));exact HO396.out) hb)
     have n2_:=aM_ (Kd.R_below (by (with_reducible repeat (first|apply rA_|apply rN_|apply rD_));exact HO408.out) hb)
     have n3_:=aM_ (Kd.R_below (by (with_reducible repeat (first|apply rA_|apply rN_|apply rD_));exact HO411.out) hb)
     have n4_:=aM_ (Kd.R_below (by (with_reducible repeat (first|apply rA_|apply rN_|apply rD_));exact HO420.out) hb)
     have n5_:=aM_ (Kd.R_below (by (with_reducible repeat (first|apply rA_|apply rN_|apply rD_));exact HO423.out) hb)
     have n6_:=aM_ (blk_below (g:=gb401) (by (with_reducible repeat (first|apply kN_|apply kD_|apply kA_));exact BK401.out) hb)
     have n7_:=aM_ (blk_below (g:=gb413) (by (with_reducible repeat (first|apply kN_|apply kD_|apply kA_));exact BK413.out) hb)
     have n8_:=aM_ (blk_below (g:=gb425) (by (with_reducible repeat (first|apply kN_|apply kD_|apply kA_));exact BK425.out) hb)
     have n9_:=aM_ (below_step (by repeat (first|(with_reducible first|exact HB.out|apply wA_|apply wN_|apply wD_|refine below_set ?_ GE401.out|refine below_set ?_ GE413.out|refine below_set ?_ GE425.out)|exact HB.out)) hb)
     clear HO393
     clear HO396
     clear HO408
     clear HO411
     clear HO420
     clear HO423
     clear BK401
     clear BK413
     clear BK425
     clear HB
     have HO393:=n0_
     have HO396:=n1_
     have HO408:=n2_
     have HO411:=n3_
     have HO420:=n4_
     have HO423:=n5_
     have BK401:=n6_
     have BK413:=n7_
     have BK425:=n8_
     have HB:=n9_
     clear n0_ n1_ n2_ n3_ n4_ n5_ n6_ n7_ n8_ n9_
     (try clear hb)
     (try clear hb2)
     (try clear hk)
     (try clear hi)
     refine hK.out _ _ ⟨(blk_cell BK413.out 0).trans rfl,(blk_cell BK413.out 1).trans rfl,(blk_cell BK413.out 2).trans rfl,(blk_cell BK413.out 3).trans rfl,(blk_cell BK413.out 4).trans rfl,(blk_cell BK413.out 5).trans rfl,(blk_cell BK425.out 0).trans rfl,(blk_cell BK425.out 1).trans rfl,(blk_cell BK425.out 2).trans rfl,(blk_cell BK425.out 3).trans rfl,(blk_cell BK425.out 4).trans rfl,(blk_cell BK425.out 5).trans rfl,(blk_cell BK401.out 0).trans rfl,(blk_cell BK401.out 1).trans rfl,(blk_cell BK401.out 2).trans rfl,(blk_cell BK401.out 3).trans rfl,(blk_cell BK401.out 4).trans rfl,(blk_cell BK401.out 5).trans rfl⟩ (fun hHeld=>?_)
     clear hK K
     refine norm_ (a':=?_) ?_ ?_
     rotate_left
     ·show Act.put _ (some 61) _=_
      simp only [Act.put,sA_,s0_,s1_,i64_w,i32_w]
      rfl
     refine pure_ (i:=14) (N:=some 62) (v:=?_) (a':=?_) #[true,true,true,true,true,true,true,true,true,true,true,true,true,true,true,false] rfl rfl (any_of HT_.out (by kernel_rfl)) (fun _ _ _ h=>h) (Or.inl ⟨by rfl,?_⟩) ?_ ?_
     rotate_left
     ·intro w'
      go_simp
      with_reducible rfl
     rotate_left
     ·simp only [Act.put,sA_,s0_,s1_,i64_w,i32_w]
      rfl
     refine pure_ (i:=15) (N:=some 63) (v:=?_) (a':=?_) #[true,true,true,true,true,true,true,true,true,true,true,true,true,true,true,true] rfl rfl (any_of HT_.out (by kernel_rfl)) (fun _ _ _ h=>h) (Or.inl ⟨by rfl,?_⟩) ?_ ?_
     rotate_left
     ·intro w'
      go_simp
      with_reducible rfl
     rotate_left
     ·simp only [Act.put,sA_,s0_,s1_,i64_w,i32_w]
      rfl
     refine done_ (done_of HT_.out (by kernel_rfl)) ?_
     try go_wp2
     go_meet
     case rel=>exact ⟨_,((t427 != t428)),(by first|rfl|(simp;done)|(simp [*];done)),H',⟨by first|omega|exact Nat.le_refl _⟩,⟨by (with_reducible repeat (first|apply rA_|apply rN_|apply rD_));exact HO393.out⟩,⟨by (with_reducible repeat (first|apply Kd.Q_alloc|apply Kd.Q_drewN|apply Kd.Q_drew));exact HO396.out⟩,⟨by (with_reducible repeat (first|apply rA_|apply rN_|apply rD_));exact HO408.out⟩,⟨Kd.Q_of_R (by (with_reducible repeat (first|apply rA_|apply rN_|apply rD_));exact HO411.out)⟩,⟨by (with_reducible repeat (first|apply rA_|apply rN_|apply rD_));exact HO420.out⟩,⟨Kd.Q_of_R (by (with_reducible repeat (first|apply rA_|apply rN_|apply rD_));exact HO423.out)⟩,⟨by (with_reducible repeat (first|apply kN_|apply kD_|apply kA_));exact BK401.out⟩,⟨by (with_reducible repeat (first|apply kN_|apply kD_|apply kA_));exact BK413.out⟩,⟨by (with_reducible repeat (first|apply kN_|apply kD_|apply kA_));exact BK425.out⟩,⟨by repeat (first|(with_reducible first|exact HB.out|apply wA_|apply wN_|apply wD_|refine below_set ?_ GE401.out|refine below_set ?_ GE413.out|refine below_set ?_ GE425.out)|exact HB.out)⟩⟩
   ·replace c27:=Bool.eq_false_iff.mpr c27
    subst c27
    have H1:(laws_FnImageCut.j0 k t397 t398 t399 t400 t412 true t387 t388 t389 t390 t391 t394 t402 t403 t404 t405 t406 t409)=some true:=by first|(rw [if_neg (show ¬ (false=true) by decide)] at H;exact H)|rfl
    clear H
    have H:=H1
    clear H1
    exact absurd H (by cases k <;> simp [laws_FnImageCut.j0])
  case rest =>
   clear HC6
   try clear c1
   try clear c2
   try clear c2b0
   try clear c2b1
   try clear p2
   try clear c3
   try clear c4
   try clear c14
   try clear c16
   try clear c18
   try clear c21
   try clear c22
   try clear c27
   try clear c28
   try clear c28b0
   try clear c28b1
   try clear c28b2
   try clear c32
   try clear c33
   try clear hcz15_0 hcz15_1 hcz15_2 hcz15_3 hcz15_4 hcz15_5
   try clear hcz18_0 hcz18_1 hcz18_2 hcz18_3 hcz18_4 hcz18_5
   try clear hcz23_0 hcz23_1 hcz23_2 hcz23_3 hcz23_4 hcz23_5
   try clear hcz9_0 hcz9_1 hcz9_2 hcz9_3 hcz9_4 hcz9_5
   try clear hfz15_0 hfz15_1 hfz15_2 hfz15_3 hfz15_4 hfz15_5
   try clear hfz18_0 hfz18_1 hfz18_2 hfz18_3 hfz18_4 hfz18_5
   try clear hfz23_0 hfz23_1 hfz23_2 hfz23_3 hfz23_4 hfz23_5
   try clear hfz9_0 hfz9_1 hfz9_2 hfz9_3 hfz9_4 hfz9_5
   obtain ⟨kq,x63_5,rfl,HA,HJ5,HO_402004,HO_402005,HO_414004,HO_414005,HO_426004,HO_426005,BK401,BK413,BK425,HB⟩:=hcut
   cases kq with
   | zero=>exact absurd HA.out (by simp [laws_FnImageCut.j0])
   | succ kj5 =>
    have H:=HA.out
    clear HA
    simp only [laws_FnImageCut.j0] at H
    by_cases c36:x63_5=true
    ·subst c36
     have H1:(some false)=some true:=by first|(rw [if_pos rfl] at H;exact H)|rfl
     clear H
     have H:=H1
     clear H1
     exact absurd H (by simp)
    ·replace c36:=Bool.eq_false_iff.mpr c36
     subst c36
     have H1:(if t412=true then (laws_FnImageCut.l0 kj5 t397 t398 t399 t400 0 t387 t388 t389 t390 t391 t394 t402 t403 t404 t405 t406 t409) else (some (t402 == 0)))=some true:=by first|(rw [if_neg (show ¬ (false=true) by decide)] at H;exact H)|rfl
     clear H
     have H:=H1
     clear H1
     by_cases c37:t412=true
     ·subst c37
      have H1:(laws_FnImageCut.l0 kj5 t397 t398 t399 t400 0 t387 t388 t389 t390 t391 t394 t402 t403 t404 t405 t406 t409)=some true:=by first|(rw [if_pos rfl] at H;exact H)|rfl
      clear H
      have H:=H1
      clear H1
      have H':=aM_ H
      clear H
      go_wp2
      go_loopg [12] kj5 (fun kq v12 w'=>∃ (x12_2:Int),v12=.int .i64 x12_2∧Aside0 (laws_FnImageCut.l0 kq t397 t398 t399 t400 x12_2 t387 t388 t389 t390 t391 t394 t402 t403 t404 t405 t406 t409=some true)∧Aside0 (kq≤kj5)∧Aside0 (Kd.R (Kd.int .i64) 3 w' w.heap.size (fun k_=>some k_≠((.slice Ao11 t394.length co11):Value).ownBlock∧some k_≠((.slice Ao16 t406.length co16):Value).ownBlock∧some k_≠((.slice Ao17 t409.length co17):Value).ownBlock∧some k_≠((.slice Ao24 t418.length co24):Value).ownBlock∧some k_≠((.slice Ao25 t421.length co25):Value).ownBlock) (.slice Ao10 t391.length co10) t391)∧Aside0 (Kd.Q (Kd.int .i64) 3 w' w.heap.size (fun k_=>some k_≠((.slice Ao10 t391.length co10):Value).ownBlock∧some k_≠((.slice Ao16 t406.length co16):Value).ownBlock∧some k_≠((.slice Ao17 t409.length co17):Value).ownBlock∧some k_≠((.slice Ao24 t418.length co24):Value).ownBlock∧some k_≠((.slice Ao25 t421.length co25):Value).ownBlock) (.slice Ao11 t394.length co11) t394)∧Aside0 (Kd.R (Kd.int .i64) 3 w' w.heap.size (fun k_=>some k_≠((.slice Ao10 t391.length co10):Value).ownBlock∧some k_≠((.slice Ao11 t394.length co11):Value).ownBlock∧some k_≠((.slice Ao17 t409.length co17):Value).ownBlock∧some k_≠((.slice Ao24 t418.length co24):Value).ownBlock∧some k_≠((.slice Ao25 t421.length co25):Value).ownBlock) (.slice Ao16 t406.length co16) t406)∧Aside0 (Kd.Q (Kd.int .i64) 3 w' w.heap.size (fun k_=>some k_≠((.slice Ao10 t391.length co10):Value).ownBlock∧some k_≠((.slice Ao11 t394.length co11):Value).ownBlock∧some k_≠((.slice Ao16 t406.length co16):Value).ownBlock∧some k_≠((.slice Ao24 t418.length co24):Value).ownBlock∧some k_≠((.slice Ao25 t421.length co25):Value).ownBlock) (.slice Ao17 t409.length co17) t409)∧Aside0 (Kd.R (Kd.int .i64) 3 w' w.heap.size (fun k_=>some k_≠((.slice Ao10 t391.length co10):Value).ownBlock∧some k_≠((.slice Ao11 t394.length co11):Value).ownBlock∧some k_≠((.slice Ao16 t406.length co16):Value).ownBlock∧some k_≠((.slice Ao17 t409.length co17):Value).ownBlock∧some k_≠((.slice Ao25 t421.length co25):Value).ownBlock) (.slice Ao24 t418.length co24) t418)∧Aside0 (Kd.Q (Kd.int .i64) 3 w' w.heap.size (fun k_=>some k_≠((.slice Ao10 t391.length co10):Value).ownBlock∧some k_≠((.slice Ao11 t394.length co11):Value).ownBlock∧some k_≠((.slice Ao16 t406.length co16):Value).ownBlock∧some k_≠((.slice Ao17 t409.length co17):Value).ownBlock∧some k_≠((.slice Ao24 t418.length co24):Value).ownBlock) (.slice Ao25 t421.length co25) t421)∧Aside0 (w'.heap[gb401]?=some (.cells #[.int .i64 t387,.int .i64 t388,.int .i64 t389,.int .i64 t390,(.slice Ao10 t391.length co10),(.slice Ao11 t394.length co11)] 27 (0,0)))∧Aside0 (w'.heap[gb413]?=some (.cells #[.int .i64 t402,.int .i64 t403,.int .i64 t404,.int .i64 t405,(.slice Ao16 t406.length co16),(.slice Ao17 t409.length co17)] 27 (0,0)))∧Aside0 (w'.heap[gb425]?=some (.cells #[.int .i64 t414,.int .i64 t415,.int .i64 t416,.int .i64 t417,(.slice Ao24 t418.length co24),(.slice Ao25 t421.length co25)] 27 (0,0)))∧Aside0 (Below w.heap.size w w'))
      case atStart=>exact ⟨(0),(by first|rfl|(simp;done)|(simp [*];done)),H',⟨Nat.le_refl _⟩,⟨by (with_reducible repeat (first|apply rA_|apply rN_|apply rD_));exact HO_402004.out⟩,⟨by (with_reducible repeat (first|apply Kd.Q_alloc|apply Kd.Q_drewN|apply Kd.Q_drew));exact HO_402005.out⟩,⟨by (with_reducible repeat (first|apply rA_|apply rN_|apply rD_));exact HO_414004.out⟩,⟨by (with_reducible repeat (first|apply Kd.Q_alloc|apply Kd.Q_drewN|apply Kd.Q_drew));exact HO_414005.out⟩,⟨by (with_reducible repeat (first|apply rA_|apply rN_|apply rD_));exact HO_426004.out⟩,⟨by (with_reducible repeat (first|apply Kd.Q_alloc|apply Kd.Q_drewN|apply Kd.Q_drew));exact HO_426005.out⟩,⟨by (with_reducible repeat (first|apply kN_|apply kD_|apply kA_));exact BK401.out⟩,⟨by (with_reducible repeat (first|apply kN_|apply kD_|apply kA_));exact BK413.out⟩,⟨by (with_reducible repeat (first|apply kN_|apply kD_|apply kA_));exact BK425.out⟩,⟨by repeat (first|(with_reducible first|exact HB.out|apply wA_|apply wN_|apply wD_|refine below_set ?_ GE401.out|refine below_set ?_ GE413.out|refine below_set ?_ GE425.out)|exact HB.out)⟩⟩
      case round =>
       clear H'
       try clear c1
       try clear c2
       try clear c2b0
       try clear c2b1
       try clear p2
       try clear c3
       try clear c4
       try clear c14
       try clear c16
       try clear c18
       try clear c21
       try clear c22
       try clear c27
       try clear c28
       try clear c28b0
       try clear c28b1
       try clear c28b2
       try clear c32
       try clear c33
       try clear c36
       try clear c37
       try clear hcz15_0 hcz15_1 hcz15_2 hcz15_3 hcz15_4 hcz15_5
       try clear hcz18_0 hcz18_1 hcz18_2 hcz18_3 hcz18_4 hcz18_5
       try clear hcz23_0 hcz23_1 hcz23_2 hcz23_3 hcz23_4 hcz23_5
       try clear hcz9_0 hcz9_1 hcz9_2 hcz9_3 hcz9_4 hcz9_5
       try clear hfz15_0 hfz15_1 hfz15_2 hfz15_3 hfz15_4 hfz15_5
       try clear hfz18_0 hfz18_1 hfz18_2 hfz18_3 hfz18_4 hfz18_5
       try clear hfz23_0 hfz23_1 hfz23_2 hfz23_3 hfz23_4 hfz23_5
       try clear hfz9_0 hfz9_1 hfz9_2 hfz9_3 hfz9_4 hfz9_5
       try clear p2
       obtain ⟨x12_2,rfl,HA,HK2,HO_402004,HO_402005,HO_414004,HO_414005,HO_426004,HO_426005,BK401,BK413,BK425,HB⟩:=hrel
       cases gk with
       | zero=>exact absurd HA.out (by simp [laws_FnImageCut.l0])
       | succ k2 =>
        have H:=HA.out
        clear HA
        simp only [laws_FnImageCut.l0] at H
        by_cases c38:x12_2 < (wrap64 (t399 * t400))
        ·rw [if_pos c38] at H
         have c38b0:decide (x12_2 < (wrap64 (t399 * t400)))=true:=decide_eq_true c38
         clear c38
         by_cases c39:t399=0
         ·rw [if_pos c39] at H
          exact absurd H (by simp)
         ·rw [if_neg c39] at H
          have c39b0:(t399 == 0)=false:=beq_eq_false_iff_ne.mpr c39
          have c39b1:(t399 != 0)=true:=bne_iff_ne.mpr c39
          replace H:=Option.bind_eq_some_iff.mp H
          obtain ⟨⟨t429,t430⟩,A400,H⟩:=H
          replace H:((impl_ImageAt.f k2 t387 t388 t389 t390 t391 t394 (wrap64 (t397+(Int.tmod x12_2 t399))) (wrap64 (t398+(wrap64 (Int.tdiv x12_2 t399))))).bind fun bt431=>(if t430=true then (if bt431.2=true then (laws_FnImageCut.j2 k2 t397 t398 t399 t400 x12_2 (t429 != bt431.1) t387 t388 t389 t390 t391 t394 t402 t403 t404 t405 t406 t409) else (laws_FnImageCut.j2 k2 t397 t398 t399 t400 x12_2 true t387 t388 t389 t390 t391 t394 t402 t403 t404 t405 t406 t409)) else (laws_FnImageCut.j2 k2 t397 t398 t399 t400 x12_2 true t387 t388 t389 t390 t391 t394 t402 t403 t404 t405 t406 t409)))=some true:=H
          have A40:=aM_ A400
          clear A400
          replace H:=Option.bind_eq_some_iff.mp H
          obtain ⟨⟨t431,t432⟩,A410,H⟩:=H
          replace H:(if t430=true then (if t432=true then (laws_FnImageCut.j2 k2 t397 t398 t399 t400 x12_2 (t429 != t431) t387 t388 t389 t390 t391 t394 t402 t403 t404 t405 t406 t409) else (laws_FnImageCut.j2 k2 t397 t398 t399 t400 x12_2 true t387 t388 t389 t390 t391 t394 t402 t403 t404 t405 t406 t409)) else (laws_FnImageCut.j2 k2 t397 t398 t399 t400 x12_2 true t387 t388 t389 t390 t391 t394 t402 t403 t404 t405 t406 t409))=some true:=H
          have A41:=aM_ A410
          clear A410
          have HC42:=aM_ H
          clear H
          try go_wp2
          have n0_:=aM_ (rD_ HO_402004.out)
          have n1_:=aM_ (Kd.Q_drew HO_402005.out)
          have n2_:=aM_ (rD_ HO_414004.out)
          have n3_:=aM_ (Kd.Q_drew HO_414005.out)
          have n4_:=aM_ (rD_ HO_426004.out)
          have n5_:=aM_ (Kd.Q_drew HO_426005.out)
          have n6_:=aM_ (kD_ BK401.out)
          have n7_:=aM_ (kD_ BK413.out)
          have n8_:=aM_ (kD_ BK425.out)
          have n9_:=aM_ (wD_ HB.out)
          clear HO_402004
          clear HO_402005
          clear HO_414004
          clear HO_414005
          clear HO_426004
          clear HO_426005
          clear BK401
          clear BK413
          clear BK425
          clear HB
          have HO_402004:=n0_
          have HO_402005:=n1_
          have HO_414004:=n2_
          have HO_414005:=n3_
          have HO_426004:=n4_
          have HO_426005:=n5_
          have BK401:=n6_
          have BK413:=n7_
          have BK425:=n8_
          have HB:=n9_
          clear n0_ n1_ n2_ n3_ n4_ n5_ n6_ n7_ n8_ n9_
          refine start_ (n:=13) (S:=fun w'=>w'.cell? ⟨gb413,0,none⟩=some (.int .i64 t402)∧w'.cell? ⟨gb413,1,none⟩=some (.int .i64 t403)∧w'.cell? ⟨gb413,2,none⟩=some (.int .i64 t404)∧w'.cell? ⟨gb413,3,none⟩=some (.int .i64 t405)∧w'.cell? ⟨gb413,4,none⟩=some (.slice Ao16 t406.length co16)∧w'.cell? ⟨gb413,5,none⟩=some (.slice Ao17 t409.length co17)) (ds:=[]) #[false,false,false,false,false,false,false,false,false,false,false,false,false] (by kernel_rfl) rfl rfl (bc6 BK413.out) (fun hHeld=>?_);refine with_tabW laws_FnImageCut.tab13 laws_FnImageCut.bits13 (fun HT_ HW_=>?_)
          generalize wr.drew=w43 at HO_402004 HO_402005 HO_414004 HO_414005 HO_426004 HO_426005 BK401 BK413 BK425 HB hHeld ⊢
          refine pure_ (i:=1) (N:=some 78) (v:=?_) (a':=?_) #[false,true,false,false,false,false,false,false,false,false,false,false,false] rfl rfl (any_of HT_.out (by kernel_rfl)) (fun _ _ _ h=>h) (Or.inl ⟨by rfl,?_⟩) ?_ ?_
          rotate_left
          ·intro w'
           go_simp
           with_reducible rfl
          rotate_left
          ·simp only [Act.put,sA_,s0_,s1_,i64_w,i32_w]
           rfl
          refine pure_ (i:=2) (N:=some 79) (v:=?_) (a':=?_) #[false,true,true,false,false,false,false,false,false,false,false,false,false] rfl rfl (any_of HT_.out (by kernel_rfl)) (fun _ _ _ h=>h) (Or.inl ⟨by rfl,?_⟩) ?_ ?_
          rotate_left
          ·intro w'
           go_simp
           with_reducible rfl
          rotate_left
          ·simp only [Act.put,sA_,s0_,s1_,i64_w,i32_w]
           rfl
          refine pure_ (i:=3) (N:=some 80) (v:=?_) (a':=?_) #[false,true,true,true,false,false,false,false,false,false,false,false,false] rfl rfl (any_of HT_.out (by kernel_rfl)) (fun _ _ _ h=>h) (Or.inl ⟨by rfl,?_⟩) ?_ ?_
          rotate_left
          ·intro w'
           go_simp
           with_reducible rfl
          rotate_left
          ·simp only [Act.put,sA_,s0_,s1_,i64_w,i32_w]
           rfl
          refine pure_ (i:=4) (N:=some 81) (v:=?_) (a':=?_) #[false,true,true,true,true,false,false,false,false,false,false,false,false] rfl rfl (any_of HT_.out (by kernel_rfl)) (fun _ _ _ h=>h) (Or.inl ⟨by rfl,?_⟩) ?_ ?_
          rotate_left
          ·intro w'
           go_simp
           with_reducible rfl
          rotate_left
          ·simp only [Act.put,sA_,s0_,s1_,i64_w,i32_w]
           rfl
          refine pure_ (i:=5) (N:=some 82) (v:=?_) (a':=?_) #[false,true,true,true,true,true,false,false,false,false,false,false,false] rfl rfl (any_of HT_.out (by kernel_rfl)) (fun _ _ _ h=>h) (Or.inl ⟨by rfl,?_⟩) ?_ ?_
          rotate_left
          ·intro w'
           go_simp
           with_reducible rfl
          rotate_left
          ·simp only [Act.put,sA_,s0_,s1_,i64_w,i32_w]
           rfl
          refine pure_ (i:=6) (N:=some 83) (v:=?_) (a':=?_) #[false,true,true,true,true,true,true,false,false,false,false,false,false] rfl rfl (any_of HT_.out (by kernel_rfl)) (fun _ _ _ h=>h) (Or.inl ⟨by rfl,?_⟩) ?_ ?_
          rotate_left
          ·intro w'
           go_simp
           with_reducible rfl
          rotate_left
          ·simp only [Act.put,sA_,s0_,s1_,i64_w,i32_w]
           rfl
          refine take_ (i:=0) (N:=some 77) (v:=?_) (a':=?_) #[true,true,true,true,true,true,true,false,false,false,false,false,false] rfl rfl (take_ofW HT_.out HW_.out (by kernel_rfl)) (fun _ _ _ h=>h) (Or.inl ⟨by rfl,?_⟩) hHeld ?_ ?_
          rotate_left
          ·rintro w' ⟨s0,s1,s2,s3,s4,s5⟩
           go_simp
           with_reducible rfl
          rotate_left
          ·simp only [Act.put,sA_,s0_,s1_,i64_w,i32_w]
           rfl
          refine one_ (i:=7) (N:=some 84) #[true,true,true,true,true,true,true,true,false,false,false,false,false] rfl rfl (one_of HT_.out (by kernel_rfl)) (by decide) (fun K hK=>?_)
          refine goes_ Try.func21 (by kernel_rfl) rfl #[.agg #[.int .i64 t402,.int .i64 t403,.int .i64 t404,.int .i64 t405,.slice Ao16 t406.length co16,.slice Ao17 t409.length co17],.int .i64 (Int.tmod x12_2 t399),.int .i64 (wrap64 (Int.tdiv x12_2 t399))] (by rfl) rfl rfl (by (try simp only [List.map_toArray,List.map_cons,List.map_nil]);first|done|rfl|(simp only [List.length_drop,List.length_take];rfl)) ?_
          with_reducible refine (impl_ImageAt.calls k2 t402 t403 t404 t405 _ _ t406 _ _ t409 (Int.tmod x12_2 t399) (wrap64 (Int.tdiv x12_2 t399)) t429 t430 _ ?side1 ?side2 ?side3 ?side4 A40.out).mono ?_
          (case side1=>repeat (first|exact (Kd.R_reads' HO_414004.out).2.2|(with_reducible refine Kd.C_alloc ?_ _)|(with_reducible refine Kd.C_drewN ?_ _)|(with_reducible refine Kd.C_drew ?_)))
          (case side2=>exact (Kd.R_reads' HO_414004.out).2.1)
          (case side3=>repeat (first|exact (Kd.Q_reads' HO_414005.out).2.2|(with_reducible refine Kd.C_alloc ?_ _)|(with_reducible refine Kd.C_drewN ?_ _)|(with_reducible refine Kd.C_drew ?_)))
          (case side4=>exact (Kd.Q_reads' HO_414005.out).2.1)
          rintro e w44 ⟨rfl,hb⟩
          refine ⟨_,rfl,?_⟩
          have n0_:=aM_ (Kd.R_below (by (with_reducible repeat (first|apply rA_|apply rN_|apply rD_));exact HO_402004.out) hb)
          have n1_:=aM_ (Kd.Q_below (by (with_reducible repeat (first|apply Kd.Q_alloc|apply Kd.Q_drewN|apply Kd.Q_drew));exact HO_402005.out) hb)
          have n2_:=aM_ (Kd.R_below (by (with_reducible repeat (first|apply rA_|apply rN_|apply rD_));exact HO_414004.out) hb)
          have n3_:=aM_ (Kd.Q_below (by (with_reducible repeat (first|apply Kd.Q_alloc|apply Kd.Q_drewN|apply Kd.Q_drew));exact HO_414005.out) hb)
          have n4_:=aM_ (Kd.R_below (by (with_reducible repeat (first|apply rA_|apply rN_|apply rD_));exact HO_426004.out) hb)
          have n5_:=aM_ (Kd.Q_below (by (with_reducible repeat (first|apply Kd.Q_alloc|apply Kd.Q_drewN|apply Kd.Q_drew));exact HO_426005.out) hb)
          have n6_:=aM_ (blk_below (g:=gb401) (by (with_reducible repeat (first|apply kN_|apply kD_|apply kA_));exact BK401.out) hb)
          have n7_:=aM_ (blk_below (g:=gb413) (by (with_reducible repeat (first|apply kN_|apply kD_|apply kA_));exact BK413.out) hb)
          have n8_:=aM_ (blk_below (g:=gb425) (by (with_reducible repeat (first|apply kN_|apply kD_|apply kA_));exact BK425.out) hb)
          have n9_:=aM_ (below_step (by repeat (first|(with_reducible first|exact HB.out|apply wA_|apply wN_|apply wD_|refine below_set ?_ GE401.out|refine below_set ?_ GE413.out|refine below_set ?_ GE425.out)|exact HB.out)) hb)
          clear HO_402004
          clear HO_402005
          clear HO_414004
          clear HO_414005
          clear HO_426004
          clear HO_426005
          clear BK401
          clear BK413
          clear BK425
          clear HB
          have HO_402004:=n0_
          have HO_402005:=n1_
          have HO_414004:=n2_
          have HO_414005:=n3_
          have HO_426004:=n4_
          have HO_426005:=n5_
          have BK401:=n6_
          have BK413:=n7_
          have BK425:=n8_
          have HB:=n9_
          clear n0_ n1_ n2_ n3_ n4_ n5_ n6_ n7_ n8_ n9_
          (try clear hb)
          (try clear hb2)
          (try clear hk)
          (try clear hi)
          refine hK.out _ _ (bc6 BK413.out) (fun hHeld=>?_)
          clear hK K
          refine norm_ (a':=?_) ?_ ?_
          rotate_left
          ·show Act.put _ (some 84) _=_
           simp only [Act.put,sA_,s0_,s1_,i64_w,i32_w]
           rfl
          refine pure_ (i:=8) (N:=some 76) (v:=?_) (a':=?_) #[true,true,true,true,true,true,true,true,true,false,false,false,false] rfl rfl (any_of HT_.out (by kernel_rfl)) (fun _ _ _ h=>h) (Or.inl ⟨by rfl,?_⟩) ?_ ?_
          rotate_left
          ·intro w'
           go_simp
           with_reducible rfl
          rotate_left
          ·simp only [Act.put,sA_,s0_,s1_,i64_w,i32_w]
           rfl
          refine pure_ (i:=9) (N:=some 85) (v:=?_) (a':=?_) #[true,true,true,true,true,true,true,true,true,true,false,false,false] rfl rfl (any_of HT_.out (by kernel_rfl)) (fun _ _ _ h=>h) (Or.inl ⟨by rfl,?_⟩) ?_ ?_
          rotate_left
          ·intro w'
           go_simp
           with_reducible rfl
          rotate_left
          ·simp only [Act.put,sA_,s0_,s1_,i64_w,i32_w]
           rfl
          refine pure_ (i:=10) (N:=some 86) (v:=?_) (a':=?_) #[true,true,true,true,true,true,true,true,true,true,true,false,false] rfl rfl (any_of HT_.out (by kernel_rfl)) (fun _ _ _ h=>h) (Or.inl ⟨by rfl,?_⟩) ?_ ?_
          rotate_left
          ·intro w'
           go_simp
           with_reducible rfl
          rotate_left
          ·simp only [Act.put,sA_,s0_,s1_,i64_w,i32_w]
           rfl
          refine pure_ (i:=11) (N:=some 13) (v:=?_) (a':=?_) #[true,true,true,true,true,true,true,true,true,true,true,true,false] rfl rfl (any_of HT_.out (by kernel_rfl)) (fun _ _ _ h=>h) (Or.inl ⟨by rfl,?_⟩) ?_ ?_
          rotate_left
          ·intro w'
           go_simp
           with_reducible rfl
          rotate_left
          ·simp only [Act.put,sA_,s0_,s1_,i64_w,i32_w]
           rfl
          refine pure_ (i:=12) (N:=some 14) (v:=?_) (a':=?_) #[true,true,true,true,true,true,true,true,true,true,true,true,true] rfl rfl (any_of HT_.out (by kernel_rfl)) (fun _ _ _ h=>h) (Or.inl ⟨by rfl,?_⟩) ?_ ?_
          rotate_left
          ·intro w'
           go_simp
           with_reducible rfl
          rotate_left
          ·simp only [Act.put,sA_,s0_,s1_,i64_w,i32_w]
           rfl
          refine done_ (done_of HT_.out (by kernel_rfl)) ?_
          try go_wp2
          have n0_:=aM_ (rD_ HO_402004.out)
          have n1_:=aM_ (Kd.Q_drew HO_402005.out)
          have n2_:=aM_ (rD_ HO_414004.out)
          have n3_:=aM_ (Kd.Q_drew HO_414005.out)
          have n4_:=aM_ (rD_ HO_426004.out)
          have n5_:=aM_ (Kd.Q_drew HO_426005.out)
          have n6_:=aM_ (kD_ BK401.out)
          have n7_:=aM_ (kD_ BK413.out)
          have n8_:=aM_ (kD_ BK425.out)
          have n9_:=aM_ (wD_ HB.out)
          clear HO_402004
          clear HO_402005
          clear HO_414004
          clear HO_414005
          clear HO_426004
          clear HO_426005
          clear BK401
          clear BK413
          clear BK425
          clear HB
          have HO_402004:=n0_
          have HO_402005:=n1_
          have HO_414004:=n2_
          have HO_414005:=n3_
          have HO_426004:=n4_
          have HO_426005:=n5_
          have BK401:=n6_
          have BK413:=n7_
          have BK425:=n8_
          have HB:=n9_
          clear n0_ n1_ n2_ n3_ n4_ n5_ n6_ n7_ n8_ n9_
          refine start_ (n:=17) (S:=fun w'=>w'.cell? ⟨gb401,0,none⟩=some (.int .i64 t387)∧w'.cell? ⟨gb401,1,none⟩=some (.int .i64 t388)∧w'.cell? ⟨gb401,2,none⟩=some (.int .i64 t389)∧w'.cell? ⟨gb401,3,none⟩=some (.int .i64 t390)∧w'.cell? ⟨gb401,4,none⟩=some (.slice Ao10 t391.length co10)∧w'.cell? ⟨gb401,5,none⟩=some (.slice Ao11 t394.length co11)) (ds:=[]) #[false,false,false,false,false,false,false,false,false,false,false,false,false,false,false,false,false] (by kernel_rfl) rfl rfl (bc6 BK401.out) (fun hHeld=>?_);refine with_tabW laws_FnImageCut.tab14 laws_FnImageCut.bits14 (fun HT_ HW_=>?_)
          generalize w44.drew=w45 at HO_402004 HO_402005 HO_414004 HO_414005 HO_426004 HO_426005 BK401 BK413 BK425 HB hHeld ⊢
          refine pure_ (i:=1) (N:=some 89) (v:=?_) (a':=?_) #[false,true,false,false,false,false,false,false,false,false,false,false,false,false,false,false,false] rfl rfl (any_of HT_.out (by kernel_rfl)) (fun _ _ _ h=>h) (Or.inl ⟨by rfl,?_⟩) ?_ ?_
          rotate_left
          ·intro w'
           go_simp
           with_reducible rfl
          rotate_left
          ·simp only [Act.put,sA_,s0_,s1_,i64_w,i32_w]
           rfl
          refine pure_ (i:=2) (N:=some 90) (v:=?_) (a':=?_) #[false,true,true,false,false,false,false,false,false,false,false,false,false,false,false,false,false] rfl rfl (any_of HT_.out (by kernel_rfl)) (fun _ _ _ h=>h) (Or.inl ⟨by rfl,?_⟩) ?_ ?_
          rotate_left
          ·intro w'
           go_simp
           with_reducible rfl
          rotate_left
          ·simp only [Act.put,sA_,s0_,s1_,i64_w,i32_w]
           rfl
          refine pure_ (i:=3) (N:=some 91) (v:=?_) (a':=?_) #[false,true,true,true,false,false,false,false,false,false,false,false,false,false,false,false,false] rfl rfl (any_of HT_.out (by kernel_rfl)) (fun _ _ _ h=>h) (Or.inl ⟨by rfl,?_⟩) ?_ ?_
          rotate_left
          ·intro w'
           go_simp
           with_reducible rfl
          rotate_left
          ·simp only [Act.put,sA_,s0_,s1_,i64_w,i32_w]
           rfl
          refine pure_ (i:=4) (N:=some 92) (v:=?_) (a':=?_) #[false,true,true,true,true,false,false,false,false,false,false,false,false,false,false,false,false] rfl rfl (any_of HT_.out (by kernel_rfl)) (fun _ _ _ h=>h) (Or.inl ⟨by rfl,?_⟩) ?_ ?_
          rotate_left
          ·intro w'
           go_simp
           with_reducible rfl
          rotate_left
          ·simp only [Act.put,sA_,s0_,s1_,i64_w,i32_w]
           rfl
          refine pure_ (i:=5) (N:=some 93) (v:=?_) (a':=?_) #[false,true,true,true,true,true,false,false,false,false,false,false,false,false,false,false,false] rfl rfl (any_of HT_.out (by kernel_rfl)) (fun _ _ _ h=>h) (Or.inl ⟨by rfl,?_⟩) ?_ ?_
          rotate_left
          ·intro w'
           go_simp
           with_reducible rfl
          rotate_left
          ·simp only [Act.put,sA_,s0_,s1_,i64_w,i32_w]
           rfl
          refine pure_ (i:=6) (N:=some 94) (v:=?_) (a':=?_) #[false,true,true,true,true,true,true,false,false,false,false,false,false,false,false,false,false] rfl rfl (any_of HT_.out (by kernel_rfl)) (fun _ _ _ h=>h) (Or.inl ⟨by rfl,?_⟩) ?_ ?_
          rotate_left
          ·intro w'
           go_simp
           with_reducible rfl
          rotate_left
          ·simp only [Act.put,sA_,s0_,s1_,i64_w,i32_w]
           rfl
          refine pure_ (i:=7) (N:=some 95) (v:=?_) (a':=?_) #[false,true,true,true,true,true,true,true,false,false,false,false,false,false,false,false,false] rfl rfl (any_of HT_.out (by kernel_rfl)) (fun _ _ _ h=>h) (Or.inl ⟨by rfl,?_⟩) ?_ ?_
          rotate_left
          ·intro w'
           go_simp
           with_reducible rfl
          rotate_left
          ·simp only [Act.put,sA_,s0_,s1_,i64_w,i32_w]
           rfl
          refine pure_ (i:=8) (N:=some 96) (v:=?_) (a':=?_) #[false,true,true,true,true,true,true,true,true,false,false,false,false,false,false,false,false] rfl rfl (any_of HT_.out (by kernel_rfl)) (fun _ _ _ h=>h) (Or.inl ⟨by rfl,?_⟩) ?_ ?_
          rotate_left
          ·intro w'
           go_simp
           with_reducible rfl
          rotate_left
          ·simp only [Act.put,sA_,s0_,s1_,i64_w,i32_w]
           rfl
          refine pure_ (i:=9) (N:=some 97) (v:=?_) (a':=?_) #[false,true,true,true,true,true,true,true,true,true,false,false,false,false,false,false,false] rfl rfl (any_of HT_.out (by kernel_rfl)) (fun _ _ _ h=>h) (Or.inl ⟨by rfl,?_⟩) ?_ ?_
          rotate_left
          ·intro w'
           go_simp
           with_reducible rfl
          rotate_left
          ·simp only [Act.put,sA_,s0_,s1_,i64_w,i32_w]
           rfl
          refine pure_ (i:=10) (N:=some 98) (v:=?_) (a':=?_) #[false,true,true,true,true,true,true,true,true,true,true,false,false,false,false,false,false] rfl rfl (any_of HT_.out (by kernel_rfl)) (fun _ _ _ h=>h) (Or.inl ⟨by rfl,?_⟩) ?_ ?_
          rotate_left
          ·intro w'
           go_simp
           with_reducible rfl
          rotate_left
          ·simp only [Act.put,sA_,s0_,s1_,i64_w,i32_w]
           rfl
          refine take_ (i:=0) (N:=some 88) (v:=?_) (a':=?_) #[true,true,true,true,true,true,true,true,true,true,true,false,false,false,false,false,false] rfl rfl (take_ofW HT_.out HW_.out (by kernel_rfl)) (fun _ _ _ h=>h) (Or.inl ⟨by rfl,?_⟩) hHeld ?_ ?_
          rotate_left
          ·rintro w' ⟨s0,s1,s2,s3,s4,s5⟩
           go_simp
           with_reducible rfl
          rotate_left
          ·simp only [Act.put,sA_,s0_,s1_,i64_w,i32_w]
           rfl
          refine one_ (i:=11) (N:=some 99) #[true,true,true,true,true,true,true,true,true,true,true,true,false,false,false,false,false] rfl rfl (one_of HT_.out (by kernel_rfl)) (by decide) (fun K hK=>?_)
          refine goes_ Try.func21 (by kernel_rfl) rfl #[.agg #[.int .i64 t387,.int .i64 t388,.int .i64 t389,.int .i64 t390,.slice Ao10 t391.length co10,.slice Ao11 t394.length co11],.int .i64 (wrap64 (t397+(Int.tmod x12_2 t399))),.int .i64 (wrap64 (t398+(wrap64 (Int.tdiv x12_2 t399))))] (by rfl) rfl rfl (by (try simp only [List.map_toArray,List.map_cons,List.map_nil]);first|done|rfl|(simp only [List.length_drop,List.length_take];rfl)) ?_
          with_reducible refine (impl_ImageAt.calls k2 t387 t388 t389 t390 _ _ t391 _ _ t394 (wrap64 (t397+(Int.tmod x12_2 t399))) (wrap64 (t398+(wrap64 (Int.tdiv x12_2 t399)))) t431 t432 _ ?side1 ?side2 ?side3 ?side4 A41.out).mono ?_
          (case side1=>repeat (first|exact (Kd.R_reads' HO_402004.out).2.2|(with_reducible refine Kd.C_alloc ?_ _)|(with_reducible refine Kd.C_drewN ?_ _)|(with_reducible refine Kd.C_drew ?_)))
          (case side2=>exact (Kd.R_reads' HO_402004.out).2.1)
          (case side3=>repeat (first|exact (Kd.Q_reads' HO_402005.out).2.2|(with_reducible refine Kd.C_alloc ?_ _)|(with_reducible refine Kd.C_drewN ?_ _)|(with_reducible refine Kd.C_drew ?_)))
          (case side4=>exact (Kd.Q_reads' HO_402005.out).2.1)
          rintro e w46 ⟨rfl,hb⟩
          refine ⟨_,rfl,?_⟩
          have n0_:=aM_ (Kd.R_below (by (with_reducible repeat (first|apply rA_|apply rN_|apply rD_));exact HO_402004.out) hb)
          have n1_:=aM_ (Kd.Q_below (by (with_reducible repeat (first|apply Kd.Q_alloc|apply Kd.Q_drewN|apply Kd.Q_drew));exact HO_402005.out) hb)
          have n2_:=aM_ (Kd.R_below (by (with_reducible repeat (first|apply rA_|apply rN_|apply rD_));exact HO_414004.out) hb)
          have n3_:=aM_ (Kd.Q_below (by (with_reducible repeat (first|apply Kd.Q_alloc|apply Kd.Q_drewN|apply Kd.Q_drew));exact HO_414005.out) hb)
          have n4_:=aM_ (Kd.R_below (by (with_reducible repeat (first|apply rA_|apply rN_|apply rD_));exact HO_426004.out) hb)
          have n5_:=aM_ (Kd.Q_below (by (with_reducible repeat (first|apply Kd.Q_alloc|apply Kd.Q_drewN|apply Kd.Q_drew));exact HO_426005.out) hb)
          have n6_:=aM_ (blk_below (g:=gb401) (by (with_reducible repeat (first|apply kN_|apply kD_|apply kA_));exact BK401.out) hb)
          have n7_:=aM_ (blk_below (g:=gb413) (by (with_reducible repeat (first|apply kN_|apply kD_|apply kA_));exact BK413.out) hb)
          have n8_:=aM_ (blk_below (g:=gb425) (by (with_reducible repeat (first|apply kN_|apply kD_|apply kA_));exact BK425.out) hb)
          have n9_:=aM_ (below_step (by repeat (first|(with_reducible first|exact HB.out|apply wA_|apply wN_|apply wD_|refine below_set ?_ GE401.out|refine below_set ?_ GE413.out|refine below_set ?_ GE425.out)|exact HB.out)) hb)
          clear HO_402004
          clear HO_402005
          clear HO_414004
          clear HO_414005
          clear HO_426004
          clear HO_426005
          clear BK401
          clear BK413
          clear BK425
          clear HB
          have HO_402004:=n0_
          have HO_402005:=n1_
          have HO_414004:=n2_
          have HO_414005:=n3_
          have HO_426004:=n4_
          have HO_426005:=n5_
          have BK401:=n6_
          have BK413:=n7_
          have BK425:=n8_
          have HB:=n9_
          clear n0_ n1_ n2_ n3_ n4_ n5_ n6_ n7_ n8_ n9_
          (try clear hb)
          (try clear hb2)
          (try clear hk)
          (try clear hi)
          refine hK.out _ _ (bc6 BK401.out) (fun hHeld=>?_)
          clear hK K
          refine norm_ (a':=?_) ?_ ?_
          rotate_left
          ·show Act.put _ (some 99) _=_
           simp only [Act.put,sA_,s0_,s1_,i64_w,i32_w]
           rfl
          refine pure_ (i:=12) (N:=some 87) (v:=?_) (a':=?_) #[true,true,true,true,true,true,true,true,true,true,true,true,true,false,false,false,false] rfl rfl (any_of HT_.out (by kernel_rfl)) (fun _ _ _ h=>h) (Or.inl ⟨by rfl,?_⟩) ?_ ?_
          rotate_left
          ·intro w'
           go_simp
           with_reducible rfl
          rotate_left
          ·simp only [Act.put,sA_,s0_,s1_,i64_w,i32_w]
           rfl
          refine pure_ (i:=13) (N:=some 100) (v:=?_) (a':=?_) #[true,true,true,true,true,true,true,true,true,true,true,true,true,true,false,false,false] rfl rfl (any_of HT_.out (by kernel_rfl)) (fun _ _ _ h=>h) (Or.inl ⟨by rfl,?_⟩) ?_ ?_
          rotate_left
          ·intro w'
           go_simp
           with_reducible rfl
          rotate_left
          ·simp only [Act.put,sA_,s0_,s1_,i64_w,i32_w]
           rfl
          refine pure_ (i:=14) (N:=some 101) (v:=?_) (a':=?_) #[true,true,true,true,true,true,true,true,true,true,true,true,true,true,true,false,false] rfl rfl (any_of HT_.out (by kernel_rfl)) (fun _ _ _ h=>h) (Or.inl ⟨by rfl,?_⟩) ?_ ?_
          rotate_left
          ·intro w'
           go_simp
           with_reducible rfl
          rotate_left
          ·simp only [Act.put,sA_,s0_,s1_,i64_w,i32_w]
           rfl
          refine pure_ (i:=15) (N:=some 15) (v:=?_) (a':=?_) #[true,true,true,true,true,true,true,true,true,true,true,true,true,true,true,true,false] rfl rfl (any_of HT_.out (by kernel_rfl)) (fun _ _ _ h=>h) (Or.inl ⟨by rfl,?_⟩) ?_ ?_
          rotate_left
          ·intro w'
           go_simp
           with_reducible rfl
          rotate_left
          ·simp only [Act.put,sA_,s0_,s1_,i64_w,i32_w]
           rfl
          refine pure_ (i:=16) (N:=some 16) (v:=?_) (a':=?_) #[true,true,true,true,true,true,true,true,true,true,true,true,true,true,true,true,true] rfl rfl (any_of HT_.out (by kernel_rfl)) (fun _ _ _ h=>h) (Or.inl ⟨by rfl,?_⟩) ?_ ?_
          rotate_left
          ·intro w'
           go_simp
           with_reducible rfl
          rotate_left
          ·simp only [Act.put,sA_,s0_,s1_,i64_w,i32_w]
           rfl
          refine done_ (done_of HT_.out (by kernel_rfl)) ?_
          go_upto_region 15 with (fail)
          go_cut [112] (fun v112 wc=>∃ (kq:Nat) (x112_41:Bool),v112=.bool x112_41∧Aside0 (laws_FnImageCut.j2 kq t397 t398 t399 t400 x12_2 x112_41 t387 t388 t389 t390 t391 t394 t402 t403 t404 t405 t406 t409=some true)∧Aside0 (kq≤k2)∧Aside0 (Kd.R (Kd.int .i64) 3 wc w.heap.size (fun k_=>some k_≠((.slice Ao11 t394.length co11):Value).ownBlock∧some k_≠((.slice Ao16 t406.length co16):Value).ownBlock∧some k_≠((.slice Ao17 t409.length co17):Value).ownBlock∧some k_≠((.slice Ao24 t418.length co24):Value).ownBlock∧some k_≠((.slice Ao25 t421.length co25):Value).ownBlock) (.slice Ao10 t391.length co10) t391)∧Aside0 (Kd.Q (Kd.int .i64) 3 wc w.heap.size (fun k_=>some k_≠((.slice Ao10 t391.length co10):Value).ownBlock∧some k_≠((.slice Ao16 t406.length co16):Value).ownBlock∧some k_≠((.slice Ao17 t409.length co17):Value).ownBlock∧some k_≠((.slice Ao24 t418.length co24):Value).ownBlock∧some k_≠((.slice Ao25 t421.length co25):Value).ownBlock) (.slice Ao11 t394.length co11) t394)∧Aside0 (Kd.R (Kd.int .i64) 3 wc w.heap.size (fun k_=>some k_≠((.slice Ao10 t391.length co10):Value).ownBlock∧some k_≠((.slice Ao11 t394.length co11):Value).ownBlock∧some k_≠((.slice Ao17 t409.length co17):Value).ownBlock∧some k_≠((.slice Ao24 t418.length co24):Value).ownBlock∧some k_≠((.slice Ao25 t421.length co25):Value).ownBlock) (.slice Ao16 t406.length co16) t406)∧Aside0 (Kd.Q (Kd.int .i64) 3 wc w.heap.size (fun k_=>some k_≠((.slice Ao10 t391.length co10):Value).ownBlock∧some k_≠((.slice Ao11 t394.length co11):Value).ownBlock∧some k_≠((.slice Ao16 t406.length co16):Value).ownBlock∧some k_≠((.slice Ao24 t418.length co24):Value).ownBlock∧some k_≠((.slice Ao25 t421.length co25):Value).ownBlock) (.slice Ao17 t409.length co17) t409)∧Aside0 (Kd.R (Kd.int .i64) 3 wc w.heap.size (fun k_=>some k_≠((.slice Ao10 t391.length co10):Value).ownBlock∧some k_≠((.slice Ao11 t394.length co11):Value).ownBlock∧some k_≠((.slice Ao16 t406.length co16):Value).ownBlock∧some k_≠((.slice Ao17 t409.length co17):Value).ownBlock∧some k_≠((.slice Ao25 t421.length co25):Value).ownBlock) (.slice Ao24 t418.length co24) t418)∧Aside0 (Kd.Q (Kd.int .i64) 3 wc w.heap.size (fun k_=>some k_≠((.slice Ao10 t391.length co10):Value).ownBlock∧some k_≠((.slice Ao11 t394.length co11):Value).ownBlock∧some k_≠((.slice Ao16 t406.length co16):Value).ownBlock∧some k_≠((.slice Ao17 t409.length co17):Value).ownBlock∧some k_≠((.slice Ao24 t418.length co24):Value).ownBlock) (.slice Ao25 t421.length co25) t421)∧Aside0 (wc.heap[gb401]?=some (.cells #[.int .i64 t387,.int .i64 t388,.int .i64 t389,.int .i64 t390,(.slice Ao10 t391.length co10),(.slice Ao11 t394.length co11)] 27 (0,0)))∧Aside0 (wc.heap[gb413]?=some (.cells #[.int .i64 t402,.int .i64 t403,.int .i64 t404,.int .i64 t405,(.slice Ao16 t406.length co16),(.slice Ao17 t409.length co17)] 27 (0,0)))∧Aside0 (wc.heap[gb425]?=some (.cells #[.int .i64 t414,.int .i64 t415,.int .i64 t416,.int .i64 t417,(.slice Ao24 t418.length co24),(.slice Ao25 t421.length co25)] 27 (0,0)))∧Aside0 (Below w.heap.size w wc))
          case first =>
           have H:=HC42.out
           clear HC42
           by_cases c47:t430=true
           ·subst c47
            have H1:(if t432=true then (laws_FnImageCut.j2 k2 t397 t398 t399 t400 x12_2 (t429 != t431) t387 t388 t389 t390 t391 t394 t402 t403 t404 t405 t406 t409) else (laws_FnImageCut.j2 k2 t397 t398 t399 t400 x12_2 true t387 t388 t389 t390 t391 t394 t402 t403 t404 t405 t406 t409))=some true:=by first|(rw [if_pos rfl] at H;exact H)|rfl
            clear H
            have H:=H1
            clear H1
            by_cases c48:t432=true
            ·subst c48
             have H1:(laws_FnImageCut.j2 k2 t397 t398 t399 t400 x12_2 (t429 != t431) t387 t388 t389 t390 t391 t394 t402 t403 t404 t405 t406 t409)=some true:=by first|(rw [if_pos rfl] at H;exact H)|rfl
             clear H
             have H:=H1
             clear H1
             have H':=aM_ H
             clear H
             go_wp2
             go_meet
             case rel=>exact ⟨_,((t429 != t431)),(by first|rfl|(simp;done)|(simp [*];done)),H',⟨by have:=HJ5.out;have:=HK2.out;first|omega|exact Nat.le_refl _⟩,⟨by (with_reducible repeat (first|apply rA_|apply rN_|apply rD_));exact HO_402004.out⟩,⟨by (with_reducible repeat (first|apply Kd.Q_alloc|apply Kd.Q_drewN|apply Kd.Q_drew));exact HO_402005.out⟩,⟨by (with_reducible repeat (first|apply rA_|apply rN_|apply rD_));exact HO_414004.out⟩,⟨by (with_reducible repeat (first|apply Kd.Q_alloc|apply Kd.Q_drewN|apply Kd.Q_drew));exact HO_414005.out⟩,⟨by (with_reducible repeat (first|apply rA_|apply rN_|apply rD_));exact HO_426004.out⟩,⟨by (with_reducible repeat (first|apply Kd.Q_alloc|apply Kd.Q_drewN|apply Kd.Q_drew));exact HO_426005.out⟩,⟨by (with_reducible repeat (first|apply kN_|apply kD_|apply kA_));exact BK401.out⟩,⟨by (with_reducible repeat (first|apply kN_|apply kD_|apply kA_));exact BK413.out⟩,⟨by (with_reducible repeat (first|apply kN_|apply kD_|apply kA_));exact BK425.out⟩,⟨by repeat (first|(with_reducible first|exact HB.out|apply wA_|apply wN_|apply wD_|refine below_set ?_ GE401.out|refine below_set ?_ GE413.out|refine below_set ?_ GE425.out)|exact HB.out)⟩⟩
            ·replace c48:=Bool.eq_false_iff.mpr c48
             subst c48
             have H1:(laws_FnImageCut.j2 k2 t397 t398 t399 t400 x12_2 true t387 t388 t389 t390 t391 t394 t402 t403 t404 t405 t406 t409)=some true:=by first|(rw [if_neg (show ¬ (false=true) by decide)] at H;exact H)|rfl
             clear H
             have H:=H1
             clear H1
             exact absurd H (by cases k2 <;> simp [laws_FnImageCut.j2])
           ·replace c47:=Bool.eq_false_iff.mpr c47
            subst c47
            have H1:(laws_FnImageCut.j2 k2 t397 t398 t399 t400 x12_2 true t387 t388 t389 t390 t391 t394 t402 t403 t404 t405 t406 t409)=some true:=by first|(rw [if_neg (show ¬ (false=true) by decide)] at H;exact H)|rfl
            clear H
            have H:=H1
            clear H1
            exact absurd H (by cases k2 <;> simp [laws_FnImageCut.j2])
          case rest =>
           clear HC42
           try clear c1
           try clear c2
           try clear c2b0
           try clear c2b1
           try clear p2
           try clear c3
           try clear c4
           try clear p6
           try clear c14
           try clear c16
           try clear c18
           try clear c21
           try clear c22
           try clear c27
           try clear c28
           try clear c28b0
           try clear c28b1
           try clear c28b2
           try clear c32
           try clear c33
           try clear c36
           try clear c37
           try clear c38
           try clear c38b0
           try clear c39
           try clear c39b0
           try clear c39b1
           try clear c47
           try clear c48
           try clear hcz15_0 hcz15_1 hcz15_2 hcz15_3 hcz15_4 hcz15_5
           try clear hcz18_0 hcz18_1 hcz18_2 hcz18_3 hcz18_4 hcz18_5
           try clear hcz23_0 hcz23_1 hcz23_2 hcz23_3 hcz23_4 hcz23_5
           try clear hcz9_0 hcz9_1 hcz9_2 hcz9_3 hcz9_4 hcz9_5
           try clear hfz15_0 hfz15_1 hfz15_2 hfz15_3 hfz15_4 hfz15_5
           try clear hfz18_0 hfz18_1 hfz18_2 hfz18_3 hfz18_4 hfz18_5
           try clear hfz23_0 hfz23_1 hfz23_2 hfz23_3 hfz23_4 hfz23_5
           try clear hfz9_0 hfz9_1 hfz9_2 hfz9_3 hfz9_4 hfz9_5
           try clear p2
           obtain ⟨kq,x112_41,rfl,HA,HJ41,HO_402004,HO_402005,HO_414004,HO_414005,HO_426004,HO_426005,BK401,BK413,BK425,HB⟩:=hcut
           cases kq with
           | zero=>exact absurd HA.out (by simp [laws_FnImageCut.j2])
           | succ kj41 =>
            have H:=HA.out
            clear HA
            simp only [laws_FnImageCut.j2] at H
            by_cases c49:x112_41=true
            ·subst c49
             have H1:(some false)=some true:=by first|(rw [if_pos rfl] at H;exact H)|rfl
             clear H
             have H:=H1
             clear H1
             exact absurd H (by simp)
            ·replace c49:=Bool.eq_false_iff.mpr c49
             subst c49
             have H1:(laws_FnImageCut.l0 kj41 t397 t398 t399 t400 (wrap64 (x12_2+1)) t387 t388 t389 t390 t391 t394 t402 t403 t404 t405 t406 t409)=some true:=by first|(rw [if_neg (show ¬ (false=true) by decide)] at H;exact H)|rfl
             clear H
             have H:=H1
             clear H1
             have H':=aM_ H
             clear H
             go_wp2
             go_roundg kj41
             case measure=>have:=HJ5.out;have:=HK2.out;have:=HJ41.out;omega
             case rel=>exact ⟨(wrap64 (x12_2+1)),(by first|rfl|(simp;done)|(simp [*];done)),H',⟨by have:=HJ5.out;have:=HK2.out;have:=HJ41.out;omega⟩,⟨by (with_reducible repeat (first|apply rA_|apply rN_|apply rD_));exact HO_402004.out⟩,⟨by (with_reducible repeat (first|apply Kd.Q_alloc|apply Kd.Q_drewN|apply Kd.Q_drew));exact HO_402005.out⟩,⟨by (with_reducible repeat (first|apply rA_|apply rN_|apply rD_));exact HO_414004.out⟩,⟨by (with_reducible repeat (first|apply Kd.Q_alloc|apply Kd.Q_drewN|apply Kd.Q_drew));exact HO_414005.out⟩,⟨by (with_reducible repeat (first|apply rA_|apply rN_|apply rD_));exact HO_426004.out⟩,⟨by (with_reducible repeat (first|apply Kd.Q_alloc|apply Kd.Q_drewN|apply Kd.Q_drew));exact HO_426005.out⟩,⟨by (with_reducible repeat (first|apply kN_|apply kD_|apply kA_));exact BK401.out⟩,⟨by (with_reducible repeat (first|apply kN_|apply kD_|apply kA_));exact BK413.out⟩,⟨by (with_reducible repeat (first|apply kN_|apply kD_|apply kA_));exact BK425.out⟩,⟨by repeat (first|(with_reducible first|exact HB.out|apply wA_|apply wN_|apply wD_|refine below_set ?_ GE401.out|refine below_set ?_ GE413.out|refine below_set ?_ GE425.out)|exact HB.out)⟩⟩
        ·rw [if_neg c38] at H
         have c38b0:decide (x12_2 < (wrap64 (t399 * t400)))=false:=decide_eq_false c38
         clear c38
         replace H:=Option.bind_eq_some_iff.mp H
         obtain ⟨⟨t433,t434,t435,t436,t437,t440,t443⟩,A500,H⟩:=H
         replace H:((impl_ImageOk.f k2 t402 t403 t404 t405 t406 t409).bind fun t445=>(if t445=true then (if t443=true then ((laws_wiImage.f k2 t433 t434 t435 t436 t437 t440 t387 t388 t389 t390 t391 t394).bind fun t446=>(some t446)) else (some false)) else (some false)))=some true:=H
         have A50:=aM_ A500
         clear A500
         replace H:=Option.bind_eq_some_iff.mp H
         obtain ⟨t445,A510,H⟩:=H
         replace H:(if t445=true then (if t443=true then ((laws_wiImage.f k2 t433 t434 t435 t436 t437 t440 t387 t388 t389 t390 t391 t394).bind fun t446=>(some t446)) else (some false)) else (some false))=some true:=H
         have A51:=aM_ A510
         clear A510
         by_cases c52:t445=true
         ·subst c52
          have H1:(if t443=true then ((laws_wiImage.f k2 t433 t434 t435 t436 t437 t440 t387 t388 t389 t390 t391 t394).bind fun t446=>(some t446)) else (some false))=some true:=by first|(rw [if_pos rfl] at H;exact H)|rfl
          clear H
          have H:=H1
          clear H1
          by_cases c53:t443=true
          ·subst c53
           have H1:((laws_wiImage.f k2 t433 t434 t435 t436 t437 t440 t387 t388 t389 t390 t391 t394).bind fun t446=>(some t446))=some true:=by first|(rw [if_pos rfl] at H;exact H)|rfl
           clear H
           have H:=H1
           clear H1
           replace H:=Option.bind_eq_some_iff.mp H
           obtain ⟨t446,A540,H⟩:=H
           replace H:(some t446)=some true:=H
           have A54:=aM_ A540
           clear A540
           have HX_:=Option.some.inj H
           clear H
           have hnb55:=NB401_413.out
           have hnc55:=NB413_401.out
           have hnb56:=NB401_425.out
           have hnc56:=NB425_401.out
           obtain ⟨hcz57_0,hcz57_1,hcz57_2,hcz57_3,hcz57_4,hcz57_5⟩:=bc6 BK401.out
           obtain ⟨hfz57_0,hfz57_1,hfz57_2,hfz57_3,hfz57_4,hfz57_5⟩:=bf6 BK401.out
           go_wp2_with (first|((with_reducible refine gate_callee (f:=33) rfl ?_);refine goesL_ (some 119) rfl rfl Try.func33 (by kernel_rfl) rfl #[.agg #[.int .i64 t387,.int .i64 t388,.int .i64 t389,.int .i64 t390,.slice Ao10 t391.length co10,.slice Ao11 t394.length co11],.int .i64 0,.int .i64 0,.int .i64 t389,.int .i64 t390] rfl (by (try simp only [List.map_toArray,List.map_cons,List.map_nil]);first|done|rfl|(simp only [List.length_drop,List.length_take];rfl)) ?_;(with_reducible refine (impl_ImageCut.calls k2 t387 t388 t389 t390 _ _ t391 _ _ t394 0 0 t389 t390 t433 t434 t435 t436 t437 t440 true _ ?side1 ?side2 ?side3 ?side4 A50.out).mono ?_);(case side1=>repeat (first|exact (Kd.R_reads' HO_402004.out).2.2|(with_reducible refine Kd.C_alloc ?_ _)|(with_reducible refine Kd.C_drewN ?_ _)|(with_reducible refine Kd.C_drew ?_)));(case side2=>exact (Kd.R_reads' HO_402004.out).2.1);(case side3=>repeat (first|exact (Kd.Q_reads' HO_402005.out).2.2|(with_reducible refine Kd.C_alloc ?_ _)|(with_reducible refine Kd.C_drewN ?_ _)|(with_reducible refine Kd.C_drew ?_)));(case side4=>exact (Kd.Q_reads' HO_402005.out).2.1);rintro e w58 ⟨v438,v441,rfl,ho0,ho1,hb⟩;refine ⟨_,rfl,?_⟩;have n0_:=aM_ (Kd.R_mono (Kd.R_told (Kd.R_told (Kd.R_old (by (with_reducible repeat (first|apply rA_|apply rN_|apply rD_));exact HO_402004.out) hb) (Kd.R_base ho0)) (Kd.R_base ho1)) (fun _ h_=>h_.1));have n1_:=aM_ (Kd.Q_mono (Kd.Q_told (Kd.Q_told (Kd.Q_old (by (with_reducible repeat (first|apply Kd.Q_alloc|apply Kd.Q_drewN|apply Kd.Q_drew));exact HO_402005.out) hb) (Kd.R_base ho0)) (Kd.R_base ho1)) (fun _ h_=>h_.1));have n2_:=aM_ (Kd.R_mono (Kd.R_told (Kd.R_told (Kd.R_old (by (with_reducible repeat (first|apply rA_|apply rN_|apply rD_));exact HO_414004.out) hb) (Kd.R_base ho0)) (Kd.R_base ho1)) (fun _ h_=>h_.1));have n3_:=aM_ (Kd.Q_mono (Kd.Q_told (Kd.Q_told (Kd.Q_old (by (with_reducible repeat (first|apply Kd.Q_alloc|apply Kd.Q_drewN|apply Kd.Q_drew));exact HO_414005.out) hb) (Kd.R_base ho0)) (Kd.R_base ho1)) (fun _ h_=>h_.1));have n4_:=aM_ (Kd.R_mono (Kd.R_told (Kd.R_told (Kd.R_old (by (with_reducible repeat (first|apply rA_|apply rN_|apply rD_));exact HO_426004.out) hb) (Kd.R_base ho0)) (Kd.R_base ho1)) (fun _ h_=>h_.1));have n5_:=aM_ (Kd.Q_mono (Kd.Q_told (Kd.Q_told (Kd.Q_old (by (with_reducible repeat (first|apply Kd.Q_alloc|apply Kd.Q_drewN|apply Kd.Q_drew));exact HO_426005.out) hb) (Kd.R_base ho0)) (Kd.R_base ho1)) (fun _ h_=>h_.1));have n6_:=aM_ (Kd.R_lower (Kd.R_new' (Kd.R_new' (Kd.R_new' (Kd.R_new' (Kd.R_new' (Kd.R_new' ho0 (Kd.R_lt (by (with_reducible repeat (first|apply rA_|apply rN_|apply rD_));exact HO_402004.out))) (Kd.Q_lt (by (with_reducible repeat (first|apply Kd.Q_alloc|apply Kd.Q_drewN|apply Kd.Q_drew));exact HO_402005.out))) (Kd.R_lt (by (with_reducible repeat (first|apply rA_|apply rN_|apply rD_));exact HO_414004.out))) (Kd.Q_lt (by (with_reducible repeat (first|apply Kd.Q_alloc|apply Kd.Q_drewN|apply Kd.Q_drew));exact HO_414005.out))) (Kd.R_lt (by (with_reducible repeat (first|apply rA_|apply rN_|apply rD_));exact HO_426004.out))) (Kd.Q_lt (by (with_reducible repeat (first|apply Kd.Q_alloc|apply Kd.Q_drewN|apply Kd.Q_drew));exact HO_426005.out))) (below_size (by repeat (first|(with_reducible first|exact HB.out|apply wA_|apply wN_|apply wD_|refine below_set ?_ GE401.out|refine below_set ?_ GE413.out|refine below_set ?_ GE425.out)|exact HB.out))));have n7_:=aM_ (Kd.R_lower (Kd.R_new' (Kd.R_new' (Kd.R_new' (Kd.R_new' (Kd.R_new' (Kd.R_new' ho1 (Kd.R_lt (by (with_reducible repeat (first|apply rA_|apply rN_|apply rD_));exact HO_402004.out))) (Kd.Q_lt (by (with_reducible repeat (first|apply Kd.Q_alloc|apply Kd.Q_drewN|apply Kd.Q_drew));exact HO_402005.out))) (Kd.R_lt (by (with_reducible repeat (first|apply rA_|apply rN_|apply rD_));exact HO_414004.out))) (Kd.Q_lt (by (with_reducible repeat (first|apply Kd.Q_alloc|apply Kd.Q_drewN|apply Kd.Q_drew));exact HO_414005.out))) (Kd.R_lt (by (with_reducible repeat (first|apply rA_|apply rN_|apply rD_));exact HO_426004.out))) (Kd.Q_lt (by (with_reducible repeat (first|apply Kd.Q_alloc|apply Kd.Q_drewN|apply Kd.Q_drew));exact HO_426005.out))) (below_size (by repeat (first|(with_reducible first|exact HB.out|apply wA_|apply wN_|apply wD_|refine below_set ?_ GE401.out|refine below_set ?_ GE413.out|refine below_set ?_ GE425.out)|exact HB.out))));have n8_:=aM_ (blk_below (g:=gb401) (by (with_reducible repeat (first|apply kN_|apply kD_|apply kA_));exact BK401.out) hb);have n9_:=aM_ (blk_below (g:=gb413) (by (with_reducible repeat (first|apply kN_|apply kD_|apply kA_));exact BK413.out) hb);have n10_:=aM_ (blk_below (g:=gb425) (by (with_reducible repeat (first|apply kN_|apply kD_|apply kA_));exact BK425.out) hb);have n11_:=aM_ (below_step (by repeat (first|(with_reducible first|exact HB.out|apply wA_|apply wN_|apply wD_|refine below_set ?_ GE401.out|refine below_set ?_ GE413.out|refine below_set ?_ GE425.out)|exact HB.out)) hb);clear HO_402004;clear HO_402005;clear HO_414004;clear HO_414005;clear HO_426004;clear HO_426005;clear BK401;clear BK413;clear BK425;clear HB;have HO_402004:=n0_;have HO_402005:=n1_;have HO_414004:=n2_;have HO_414005:=n3_;have HO_426004:=n4_;have HO_426005:=n5_;have HO439:=n6_;have HO442:=n7_;have BK401:=n8_;have BK413:=n9_;have BK425:=n10_;have HB:=n11_;clear n0_ n1_ n2_ n3_ n4_ n5_ n6_ n7_ n8_ n9_ n10_ n11_;(try clear hb);(try clear hb2);(try clear hk);(try clear hi);(try clear ho0);(try clear ho1))|((with_reducible refine gate_dst (N:=17) rfl ?_);refine box_event ?hg (N:=17) ?hd (cs:=#[.int .i64 0,.int .i64 0,.int .i64 0,.int .i64 0,.slice none 0 0,.slice none 0 0]) (t:=27) ?hr ?_;(case hd=>rfl);(case hg=>rfl);(case hr=>first|(go_simp;done)|(go_simp;rfl));intro gb444 hg w59 hbox hb;have n0_:=aM_ (Kd.R_below (by (with_reducible repeat (first|apply rA_|apply rN_|apply rD_));exact HO_402004.out) hb);have n1_:=aM_ (Kd.Q_below (by (with_reducible repeat (first|apply Kd.Q_alloc|apply Kd.Q_drewN|apply Kd.Q_drew));exact HO_402005.out) hb);have n2_:=aM_ (Kd.R_below (by (with_reducible repeat (first|apply rA_|apply rN_|apply rD_));exact HO_414004.out) hb);have n3_:=aM_ (Kd.Q_below (by (with_reducible repeat (first|apply Kd.Q_alloc|apply Kd.Q_drewN|apply Kd.Q_drew));exact HO_414005.out) hb);have n4_:=aM_ (Kd.R_below (by (with_reducible repeat (first|apply rA_|apply rN_|apply rD_));exact HO_426004.out) hb);have n5_:=aM_ (Kd.Q_below (by (with_reducible repeat (first|apply Kd.Q_alloc|apply Kd.Q_drewN|apply Kd.Q_drew));exact HO_426005.out) hb);have n6_:=aM_ (Kd.R_below (by (with_reducible repeat (first|apply rA_|apply rN_|apply rD_));exact HO439.out) hb);have n7_:=aM_ (Kd.R_below (by (with_reducible repeat (first|apply rA_|apply rN_|apply rD_));exact HO442.out) hb);have n8_:=aM_ (blk_below (g:=gb401) (by (with_reducible repeat (first|apply kN_|apply kD_|apply kA_));exact BK401.out) hb);have n9_:=aM_ (blk_below (g:=gb413) (by (with_reducible repeat (first|apply kN_|apply kD_|apply kA_));exact BK413.out) hb);have n10_:=aM_ (blk_below (g:=gb425) (by (with_reducible repeat (first|apply kN_|apply kD_|apply kA_));exact BK425.out) hb);have n11_:=aM_ (below_step (by repeat (first|(with_reducible first|exact HB.out|apply wA_|apply wN_|apply wD_|refine below_set ?_ GE401.out|refine below_set ?_ GE413.out|refine below_set ?_ GE425.out)|exact HB.out)) hb);have n12_:=aM_ (hbox);have n13_:=aM_ ((by rw [hg];exact (below_size (by repeat (first|(with_reducible first|exact HB.out|apply wA_|apply wN_|apply wD_|refine below_set ?_ GE401.out|refine below_set ?_ GE413.out|refine below_set ?_ GE425.out)|exact HB.out))):w.heap.size≤gb444));have n14_:=aM_ ((by rw [hg];exact (below_size (by repeat (first|(with_reducible first|exact HB.out|apply wA_|apply wN_|apply wD_|refine below_set ?_ GE401.out|refine below_set ?_ GE413.out|refine below_set ?_ GE425.out)|exact HB.out))):w.heap.size≤gb444));have n15_:=aM_ ((by rw [hg];exact Nat.ne_of_lt (blk_lt (g:=gb401) (by (with_reducible repeat (first|apply kN_|apply kD_|apply kA_));exact BK401.out)):gb401≠gb444));have n16_:=aM_ n15_.out.symm;have n17_:=aM_ ((by rw [hg];exact Nat.ne_of_lt (blk_lt (g:=gb413) (by (with_reducible repeat (first|apply kN_|apply kD_|apply kA_));exact BK413.out)):gb413≠gb444));have n18_:=aM_ n17_.out.symm;have n19_:=aM_ ((by rw [hg];exact Nat.ne_of_lt (blk_lt (g:=gb425) (by (with_reducible repeat (first|apply kN_|apply kD_|apply kA_));exact BK425.out)):gb425≠gb444));have n20_:=aM_ n19_.out.symm;clear HO_402004;clear HO_402005;clear HO_414004;clear HO_414005;clear HO_426004;clear HO_426005;clear HO439;clear HO442;clear BK401;clear BK413;clear BK425;clear HB;have HO_402004:=n0_;have HO_402005:=n1_;have HO_414004:=n2_;have HO_414005:=n3_;have HO_426004:=n4_;have HO_426005:=n5_;have HO439:=n6_;have HO442:=n7_;have BK401:=n8_;have BK413:=n9_;have BK425:=n10_;have HB:=n11_;have BK444:=n12_;have GW444:=n13_;have GE444:=n14_;have NB401_444:=n15_;have NB444_401:=n16_;have NB413_444:=n17_;have NB444_413:=n18_;have NB425_444:=n19_;have NB444_425:=n20_;clear n0_ n1_ n2_ n3_ n4_ n5_ n6_ n7_ n8_ n9_ n10_ n11_ n12_ n13_ n14_ n15_ n16_ n17_ n18_ n19_ n20_;clear hb hbox hg;have hnb60:=NB444_401.out;have hnc60:=NB401_444.out;have hnb61:=NB444_413.out;have hnc61:=NB413_444.out;have hnb62:=NB444_425.out;have hnc62:=NB425_444.out;obtain ⟨hcz63_0,hcz63_1,hcz63_2,hcz63_3,hcz63_4,hcz63_5⟩:=bc6 BK444.out;obtain ⟨hfz63_0,hfz63_1,hfz63_2,hfz63_3,hfz63_4,hfz63_5⟩:=bf6 BK444.out;obtain ⟨Ao64,co64,eo64⟩:=Kd.R_slice HO439.out;subst eo64;obtain ⟨Ao65,co65,eo65⟩:=Kd.R_slice HO442.out;subst eo65;have hnb66:=NB413_425.out;have hnc66:=NB425_413.out;obtain ⟨hcz67_0,hcz67_1,hcz67_2,hcz67_3,hcz67_4,hcz67_5⟩:=bc6 BK413.out;obtain ⟨hfz67_0,hfz67_1,hfz67_2,hfz67_3,hfz67_4,hfz67_5⟩:=bf6 BK413.out)|((with_reducible refine gate_callee (f:=18) rfl ?_);refine goesL_ (some 123) rfl rfl Try.func18 (by kernel_rfl) rfl #[.agg #[.int .i64 t402,.int .i64 t403,.int .i64 t404,.int .i64 t405,.slice Ao16 t406.length co16,.slice Ao17 t409.length co17]] rfl (by (try simp only [List.map_toArray,List.map_cons,List.map_nil]);first|done|rfl|(simp only [List.length_drop,List.length_take];rfl)) ?_;(with_reducible refine (impl_ImageOk.calls k2 t402 t403 t404 t405 _ _ t406 _ _ t409 true _ ?side1 ?side2 ?side3 ?side4 A51.out).mono ?_);(case side1=>refine (Kd.R_reads' (e:=3) (base:=w.heap.size) (ok:=fun k_=>(((some k_≠(.slice Ao10 t391.length co10:Value).ownBlock∧(some k_≠(.slice Ao11 t394.length co11:Value).ownBlock∧(some k_≠(.slice Ao17 t409.length co17:Value).ownBlock∧(some k_≠(.slice Ao24 t418.length co24:Value).ownBlock∧some k_≠(.slice Ao25 t421.length co25:Value).ownBlock))))∧some k_≠(.slice Ao64 t437.length co64:Value).ownBlock)∧some k_≠(.slice Ao65 t440.length co65:Value).ownBlock)) (n:=t406.length) (c:=co16) ?_).2.2;exact (by (with_reducible repeat (first|apply rA_|apply rN_|apply rD_));exact (Kd.R_mono (Kd.R_far (Kd.R_far (Kd.R_far (Kd.R_far (Kd.R_far (Kd.R_far (Kd.R_types HO_414004.out BK444.out (by decide)) (fun _ hk=>hk.2) _) (fun _ hk=>hk.2) _) (fun _ hk=>hk.2) _) (fun _ hk=>hk.2) _) (fun _ hk=>hk.2) _) (fun _ hk=>hk.2) _) (fun _ h_=>h_.1))));(case side2=>exact (Kd.R_reads' HO_414004.out).2.1);(case side3=>refine (Kd.Q_reads' (e:=3) (base:=w.heap.size) (ok:=fun k_=>(((some k_≠(.slice Ao10 t391.length co10:Value).ownBlock∧(some k_≠(.slice Ao11 t394.length co11:Value).ownBlock∧(some k_≠(.slice Ao16 t406.length co16:Value).ownBlock∧(some k_≠(.slice Ao24 t418.length co24:Value).ownBlock∧some k_≠(.slice Ao25 t421.length co25:Value).ownBlock))))∧some k_≠(.slice Ao64 t437.length co64:Value).ownBlock)∧some k_≠(.slice Ao65 t440.length co65:Value).ownBlock)) (n:=t409.length) (c:=co17) ?_).2.2;exact (by (with_reducible repeat (first|apply Kd.Q_alloc|apply Kd.Q_drewN|apply Kd.Q_drew));exact (Kd.Q_mono (Kd.Q_far (Kd.Q_far (Kd.Q_far (Kd.Q_far (Kd.Q_far (Kd.Q_far (Kd.Q_types HO_414005.out BK444.out (by decide)) (fun _ hk=>hk.2) _) (fun _ hk=>hk.2) _) (fun _ hk=>hk.2) _) (fun _ hk=>hk.2) _) (fun _ hk=>hk.2) _) (fun _ hk=>hk.2) _) (fun _ h_=>h_.1))));(case side4=>exact (Kd.Q_reads' HO_414005.out).2.1);rintro e w68 ⟨rfl,hb⟩;refine ⟨_,rfl,?_⟩;have n0_:=aM_ (Kd.R_below (by (with_reducible repeat (first|apply rA_|apply rN_|apply rD_));exact (Kd.R_mono (Kd.R_far (Kd.R_far (Kd.R_far (Kd.R_far (Kd.R_far (Kd.R_far (Kd.R_types HO_402004.out BK444.out (by decide)) (fun _ hk=>hk.2) _) (fun _ hk=>hk.2) _) (fun _ hk=>hk.2) _) (fun _ hk=>hk.2) _) (fun _ hk=>hk.2) _) (fun _ hk=>hk.2) _) (fun _ h_=>h_.1))) hb);have n1_:=aM_ (Kd.Q_below (by (with_reducible repeat (first|apply Kd.Q_alloc|apply Kd.Q_drewN|apply Kd.Q_drew));exact (Kd.Q_mono (Kd.Q_far (Kd.Q_far (Kd.Q_far (Kd.Q_far (Kd.Q_far (Kd.Q_far (Kd.Q_types HO_402005.out BK444.out (by decide)) (fun _ hk=>hk.2) _) (fun _ hk=>hk.2) _) (fun _ hk=>hk.2) _) (fun _ hk=>hk.2) _) (fun _ hk=>hk.2) _) (fun _ hk=>hk.2) _) (fun _ h_=>h_.1))) hb);have n2_:=aM_ (Kd.R_below (by (with_reducible repeat (first|apply rA_|apply rN_|apply rD_));exact (Kd.R_mono (Kd.R_far (Kd.R_far (Kd.R_far (Kd.R_far (Kd.R_far (Kd.R_far (Kd.R_types HO_414004.out BK444.out (by decide)) (fun _ hk=>hk.2) _) (fun _ hk=>hk.2) _) (fun _ hk=>hk.2) _) (fun _ hk=>hk.2) _) (fun _ hk=>hk.2) _) (fun _ hk=>hk.2) _) (fun _ h_=>h_.1))) hb);have n3_:=aM_ (Kd.Q_below (by (with_reducible repeat (first|apply Kd.Q_alloc|apply Kd.Q_drewN|apply Kd.Q_drew));exact (Kd.Q_mono (Kd.Q_far (Kd.Q_far (Kd.Q_far (Kd.Q_far (Kd.Q_far (Kd.Q_far (Kd.Q_types HO_414005.out BK444.out (by decide)) (fun _ hk=>hk.2) _) (fun _ hk=>hk.2) _) (fun _ hk=>hk.2) _) (fun _ hk=>hk.2) _) (fun _ hk=>hk.2) _) (fun _ hk=>hk.2) _) (fun _ h_=>h_.1))) hb);have n4_:=aM_ (Kd.R_below (by (with_reducible repeat (first|apply rA_|apply rN_|apply rD_));exact (Kd.R_mono (Kd.R_far (Kd.R_far (Kd.R_far (Kd.R_far (Kd.R_far (Kd.R_far (Kd.R_types HO_426004.out BK444.out (by decide)) (fun _ hk=>hk.2) _) (fun _ hk=>hk.2) _) (fun _ hk=>hk.2) _) (fun _ hk=>hk.2) _) (fun _ hk=>hk.2) _) (fun _ hk=>hk.2) _) (fun _ h_=>h_.1))) hb);have n5_:=aM_ (Kd.Q_below (by (with_reducible repeat (first|apply Kd.Q_alloc|apply Kd.Q_drewN|apply Kd.Q_drew));exact (Kd.Q_mono (Kd.Q_far (Kd.Q_far (Kd.Q_far (Kd.Q_far (Kd.Q_far (Kd.Q_far (Kd.Q_types HO_426005.out BK444.out (by decide)) (fun _ hk=>hk.2) _) (fun _ hk=>hk.2) _) (fun _ hk=>hk.2) _) (fun _ hk=>hk.2) _) (fun _ hk=>hk.2) _) (fun _ hk=>hk.2) _) (fun _ h_=>h_.1))) hb);have n6_:=aM_ (Kd.R_below (by (with_reducible repeat (first|apply rA_|apply rN_|apply rD_));exact (Kd.R_mono (Kd.R_far (Kd.R_far (Kd.R_far (Kd.R_far (Kd.R_far (Kd.R_far (Kd.R_types HO439.out BK444.out (by decide)) (fun _ hk=>hk.2) _) (fun _ hk=>hk.2) _) (fun _ hk=>hk.2) _) (fun _ hk=>hk.2) _) (fun _ hk=>hk.2) _) (fun _ hk=>hk.2) _) (fun _ h_=>h_.1))) hb);have n7_:=aM_ (Kd.R_below (by (with_reducible repeat (first|apply rA_|apply rN_|apply rD_));exact (Kd.R_mono (Kd.R_far (Kd.R_far (Kd.R_far (Kd.R_far (Kd.R_far (Kd.R_far (Kd.R_types HO442.out BK444.out (by decide)) (fun _ hk=>hk.2) _) (fun _ hk=>hk.2) _) (fun _ hk=>hk.2) _) (fun _ hk=>hk.2) _) (fun _ hk=>hk.2) _) (fun _ hk=>hk.2) _) (fun _ h_=>h_.1))) hb);have n8_:=aM_ (blk_below (g:=gb401) (o:=.cells #[.int .i64 t387,.int .i64 t388,.int .i64 t389,.int .i64 t390,.slice Ao10 t391.length co10,.slice Ao11 t394.length co11] 27 (0,0)) (by (with_reducible repeat (first|apply kN_|apply kD_|apply kA_));refine blk_far ?_ NB401_444.out _;(with_reducible repeat (first|apply kN_|apply kD_|apply kA_));refine blk_far ?_ NB401_444.out _;(with_reducible repeat (first|apply kN_|apply kD_|apply kA_));refine blk_far ?_ NB401_444.out _;(with_reducible repeat (first|apply kN_|apply kD_|apply kA_));refine blk_far ?_ NB401_444.out _;(with_reducible repeat (first|apply kN_|apply kD_|apply kA_));refine blk_far ?_ NB401_444.out _;(with_reducible repeat (first|apply kN_|apply kD_|apply kA_));refine blk_far ?_ NB401_444.out _;(with_reducible repeat (first|apply kN_|apply kD_|apply kA_));exact BK401.out) hb);have n9_:=aM_ (blk_below (g:=gb413) (o:=.cells #[.int .i64 t402,.int .i64 t403,.int .i64 t404,.int .i64 t405,.slice Ao16 t406.length co16,.slice Ao17 t409.length co17] 27 (0,0)) (by (with_reducible repeat (first|apply kN_|apply kD_|apply kA_));refine blk_far ?_ NB413_444.out _;(with_reducible repeat (first|apply kN_|apply kD_|apply kA_));refine blk_far ?_ NB413_444.out _;(with_reducible repeat (first|apply kN_|apply kD_|apply kA_));refine blk_far ?_ NB413_444.out _;(with_reducible repeat (first|apply kN_|apply kD_|apply kA_));refine blk_far ?_ NB413_444.out _;(with_reducible repeat (first|apply kN_|apply kD_|apply kA_));refine blk_far ?_ NB413_444.out _;(with_reducible repeat (first|apply kN_|apply kD_|apply kA_));refine blk_far ?_ NB413_444.out _;(with_reducible repeat (first|apply kN_|apply kD_|apply kA_));exact BK413.out) hb);have n10_:=aM_ (blk_below (g:=gb425) (o:=.cells #[.int .i64 t414,.int .i64 t415,.int .i64 t416,.int .i64 t417,.slice Ao24 t418.length co24,.slice Ao25 t421.length co25] 27 (0,0)) (by (with_reducible repeat (first|apply kN_|apply kD_|apply kA_));refine blk_far ?_ NB425_444.out _;(with_reducible repeat (first|apply kN_|apply kD_|apply kA_));refine blk_far ?_ NB425_444.out _;(with_reducible repeat (first|apply kN_|apply kD_|apply kA_));refine blk_far ?_ NB425_444.out _;(with_reducible repeat (first|apply kN_|apply kD_|apply kA_));refine blk_far ?_ NB425_444.out _;(with_reducible repeat (first|apply kN_|apply kD_|apply kA_));refine blk_far ?_ NB425_444.out _;(with_reducible repeat (first|apply kN_|apply kD_|apply kA_));refine blk_far ?_ NB425_444.out _;(with_reducible repeat (first|apply kN_|apply kD_|apply kA_));exact BK425.out) hb);have n11_:=aM_ (blk_below (g:=gb444) (o:=.cells #[.int .i64 t433,.int .i64 t434,.int .i64 t435,.int .i64 t436,.slice Ao64 t437.length co64,.slice Ao65 t440.length co65] 27 (0,0)) (by (with_reducible repeat (first|apply kN_|apply kD_|apply kA_));refine blk_put (cs:=#[.int .i64 t433,.int .i64 t434,.int .i64 t435,.int .i64 t436,.slice Ao64 t437.length co64,.slice none 0 0]) ?_ 5 _ rfl;(with_reducible repeat (first|apply kN_|apply kD_|apply kA_));refine blk_put (cs:=#[.int .i64 t433,.int .i64 t434,.int .i64 t435,.int .i64 t436,.slice none 0 0,.slice none 0 0]) ?_ 4 _ rfl;(with_reducible repeat (first|apply kN_|apply kD_|apply kA_));refine blk_put (cs:=#[.int .i64 t433,.int .i64 t434,.int .i64 t435,.int .i64 0,.slice none 0 0,.slice none 0 0]) ?_ 3 _ rfl;(with_reducible repeat (first|apply kN_|apply kD_|apply kA_));refine blk_put (cs:=#[.int .i64 t433,.int .i64 t434,.int .i64 0,.int .i64 0,.slice none 0 0,.slice none 0 0]) ?_ 2 _ rfl;(with_reducible repeat (first|apply kN_|apply kD_|apply kA_));refine blk_put (cs:=#[.int .i64 t433,.int .i64 0,.int .i64 0,.int .i64 0,.slice none 0 0,.slice none 0 0]) ?_ 1 _ rfl;(with_reducible repeat (first|apply kN_|apply kD_|apply kA_));refine blk_put (cs:=#[.int .i64 0,.int .i64 0,.int .i64 0,.int .i64 0,.slice none 0 0,.slice none 0 0]) ?_ 0 _ rfl;(with_reducible repeat (first|apply kN_|apply kD_|apply kA_));exact BK444.out) hb);have n12_:=aM_ (below_step (by repeat (first|(with_reducible first|exact HB.out|apply wA_|apply wN_|apply wD_|refine below_set ?_ GE401.out|refine below_set ?_ GE413.out|refine below_set ?_ GE425.out|refine below_set ?_ GE444.out)|exact HB.out)) hb);clear HO_402004;clear HO_402005;clear HO_414004;clear HO_414005;clear HO_426004;clear HO_426005;clear HO439;clear HO442;clear BK401;clear BK413;clear BK425;clear BK444;clear HB;have HO_402004:=n0_;have HO_402005:=n1_;have HO_414004:=n2_;have HO_414005:=n3_;have HO_426004:=n4_;have HO_426005:=n5_;have HO439:=n6_;have HO442:=n7_;have BK401:=n8_;have BK413:=n9_;have BK425:=n10_;have BK444:=n11_;have HB:=n12_;clear n0_ n1_ n2_ n3_ n4_ n5_ n6_ n7_ n8_ n9_ n10_ n11_ n12_;(try clear hb);(try clear hb2);(try clear hk);(try clear hi);obtain ⟨hcz69_0,hcz69_1,hcz69_2,hcz69_3,hcz69_4,hcz69_5⟩:=bc6 BK444.out;obtain ⟨hfz69_0,hfz69_1,hfz69_2,hfz69_3,hfz69_4,hfz69_5⟩:=bf6 BK444.out;obtain ⟨hcz70_0,hcz70_1,hcz70_2,hcz70_3,hcz70_4,hcz70_5⟩:=bc6 BK401.out;obtain ⟨hfz70_0,hfz70_1,hfz70_2,hfz70_3,hfz70_4,hfz70_5⟩:=bf6 BK401.out)|(go_at_call 39;(with_reducible refine (laws_wiImage.calls k2 t433 t434 t435 t436 _ _ t437 _ _ t440 t387 t388 t389 t390 _ _ t391 _ _ t394 t446 _ ?side1 ?side2 ?side3 ?side4 ?side5 ?side6 ?side7 ?side8 A54.out).mono ?_);(case side1=>repeat (first|exact (Kd.R_reads' HO439.out).2.2|(with_reducible refine Kd.C_alloc ?_ _)|(with_reducible refine Kd.C_drewN ?_ _)|(with_reducible refine Kd.C_drew ?_)));(case side2=>exact (Kd.R_reads' HO439.out).2.1);(case side3=>repeat (first|exact (Kd.R_reads' HO442.out).2.2|(with_reducible refine Kd.C_alloc ?_ _)|(with_reducible refine Kd.C_drewN ?_ _)|(with_reducible refine Kd.C_drew ?_)));(case side4=>exact (Kd.R_reads' HO442.out).2.1);(case side5=>repeat (first|exact (Kd.R_reads' HO_402004.out).2.2|(with_reducible refine Kd.C_alloc ?_ _)|(with_reducible refine Kd.C_drewN ?_ _)|(with_reducible refine Kd.C_drew ?_)));(case side6=>exact (Kd.R_reads' HO_402004.out).2.1);(case side7=>repeat (first|exact (Kd.Q_reads' HO_402005.out).2.2|(with_reducible refine Kd.C_alloc ?_ _)|(with_reducible refine Kd.C_drewN ?_ _)|(with_reducible refine Kd.C_drew ?_)));(case side8=>exact (Kd.Q_reads' HO_402005.out).2.1);rintro e w71 ⟨rfl,hb⟩;have n0_:=aM_ (Kd.R_below (by (with_reducible repeat (first|apply rA_|apply rN_|apply rD_));exact HO_402004.out) hb);have n1_:=aM_ (Kd.Q_below (by (with_reducible repeat (first|apply Kd.Q_alloc|apply Kd.Q_drewN|apply Kd.Q_drew));exact HO_402005.out) hb);have n2_:=aM_ (Kd.R_below (by (with_reducible repeat (first|apply rA_|apply rN_|apply rD_));exact HO_414004.out) hb);have n3_:=aM_ (Kd.Q_below (by (with_reducible repeat (first|apply Kd.Q_alloc|apply Kd.Q_drewN|apply Kd.Q_drew));exact HO_414005.out) hb);have n4_:=aM_ (Kd.R_below (by (with_reducible repeat (first|apply rA_|apply rN_|apply rD_));exact HO_426004.out) hb);have n5_:=aM_ (Kd.Q_below (by (with_reducible repeat (first|apply Kd.Q_alloc|apply Kd.Q_drewN|apply Kd.Q_drew));exact HO_426005.out) hb);have n6_:=aM_ (Kd.R_below (by (with_reducible repeat (first|apply rA_|apply rN_|apply rD_));exact HO439.out) hb);have n7_:=aM_ (Kd.R_below (by (with_reducible repeat (first|apply rA_|apply rN_|apply rD_));exact HO442.out) hb);have n8_:=aM_ (blk_below (g:=gb401) (by (with_reducible repeat (first|apply kN_|apply kD_|apply kA_));exact BK401.out) hb);have n9_:=aM_ (blk_below (g:=gb413) (by (with_reducible repeat (first|apply kN_|apply kD_|apply kA_));exact BK413.out) hb);have n10_:=aM_ (blk_below (g:=gb425) (by (with_reducible repeat (first|apply kN_|apply kD_|apply kA_));exact BK425.out) hb);have n11_:=aM_ (blk_below (g:=gb444) (by (with_reducible repeat (first|apply kN_|apply kD_|apply kA_));exact BK444.out) hb);have n12_:=aM_ (below_step (by repeat (first|(with_reducible first|exact HB.out|apply wA_|apply wN_|apply wD_|refine below_set ?_ GE401.out|refine below_set ?_ GE413.out|refine below_set ?_ GE425.out|refine below_set ?_ GE444.out)|exact HB.out)) hb);clear HO_402004;clear HO_402005;clear HO_414004;clear HO_414005;clear HO_426004;clear HO_426005;clear HO439;clear HO442;clear BK401;clear BK413;clear BK425;clear BK444;clear HB;have HO_402004:=n0_;have HO_402005:=n1_;have HO_414004:=n2_;have HO_414005:=n3_;have HO_426004:=n4_;have HO_426005:=n5_;have HO439:=n6_;have HO442:=n7_;have BK401:=n8_;have BK413:=n9_;have BK425:=n10_;have BK444:=n11_;have HB:=n12_;clear n0_ n1_ n2_ n3_ n4_ n5_ n6_ n7_ n8_ n9_ n10_ n11_ n12_;(try clear hb);(try clear hb2);(try clear hk);(try clear hi)))
           go_ret
           exact ⟨by first|rfl|(simp [errW_none,errW_some] <;> rfl)|(simp [*,errW_none,errW_some] <;> rfl),by repeat (first|(with_reducible first|exact HB.out|apply wA_|apply wN_|apply wD_|refine below_set ?_ GE401.out|refine below_set ?_ GE413.out|refine below_set ?_ GE425.out|refine below_set ?_ GE444.out)|exact HB.out)⟩
          ·replace c53:=Bool.eq_false_iff.mpr c53
           subst c53
           have H1:(some false)=some true:=by first|(rw [if_neg (show ¬ (false=true) by decide)] at H;exact H)|rfl
           clear H
           have H:=H1
           clear H1
           exact absurd H (by simp)
         ·replace c52:=Bool.eq_false_iff.mpr c52
          subst c52
          have H1:(some false)=some true:=by first|(rw [if_neg (show ¬ (false=true) by decide)] at H;exact H)|rfl
          clear H
          have H:=H1
          clear H1
          exact absurd H (by simp)
     ·replace c37:=Bool.eq_false_iff.mpr c37
      subst c37
      have H1:(some (t402 == 0))=some true:=by first|(rw [if_neg (show ¬ (false=true) by decide)] at H;exact H)|rfl
      clear H
      have H:=H1
      clear H1
      have HX_:=Option.some.inj H
      clear H
      have hnb72:=NB413_401.out
      have hnc72:=NB401_413.out
      have hnb73:=NB413_425.out
      have hnc73:=NB425_413.out
      obtain ⟨hcz74_0,hcz74_1,hcz74_2,hcz74_3,hcz74_4,hcz74_5⟩:=bc6 BK413.out
      obtain ⟨hfz74_0,hfz74_1,hfz74_2,hfz74_3,hfz74_4,hfz74_5⟩:=bf6 BK413.out
      go_wp2
      go_ret
      exact ⟨by first|rfl|(simp [errW_none,errW_some] <;> rfl)|(simp [*,errW_none,errW_some] <;> rfl),by repeat (first|(with_reducible first|exact HB.out|apply wA_|apply wN_|apply wD_|refine below_set ?_ GE401.out|refine below_set ?_ GE413.out|refine below_set ?_ GE425.out)|exact HB.out)⟩

/-- THE ONE PURE STATEMENT of laws_FnImageCut: yours. -/
def laws_FnImageCut.Pure:Prop:=∀ (l0:List Int),l0.length≤maxLen → l0.length * 1≤140737488351232 → (∀ x ∈ l0,(Lit.int .u8 x).wf=true) → ∃ k,laws_FnImageCut.f k l0=some true
theorem laws_FnImageCut.walk (P:laws_FnImageCut.Pure) (a0:Option Addr) (len0 cap0:Nat) (z0:List Int) (w:World) (w0:(a0=none∧len0=0∧cap0=0∧z0=[]) ∨ ∃ x,a0=some x∧len0≤cap0∧cap0≤maxLen∧z0.length=cap0∧(∀ i,i < z0.length → w.cell? (x.add i)=some (.int .u8 (z0.getD i 0)))∧∀ n ∈ z0,(Lit.int .u8 n).wf=true) (y0:len0 * 1≤140737488351232) :
  Calls Try.prog 14 #[.slice a0 len0 cap0] w fun e w'=>e=.returned (.bool true)∧Below w.heap.size w w':=by
 obtain ⟨l0,rfl,hr0,hm0,hw0,hc0⟩:=ReadsInt.ofRowC w0
 obtain ⟨k,h⟩:=P l0 hm0 y0 hw0
 refine (laws_FnImageCut.calls k _ _ l0 w (Kd.C_of_reads (d:=(0:Int)) (h1:=fun _=>rfl) hr0) hc0 h).mono ?_
 rintro e w' ⟨rfl,hd⟩
 exact ⟨rfl,hd⟩

end Go.Proofs.Ytkjfefiphdloiaa.PFnImageCut
