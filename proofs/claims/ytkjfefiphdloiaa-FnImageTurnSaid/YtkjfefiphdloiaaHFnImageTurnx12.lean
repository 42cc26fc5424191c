/- What the functions that the law comes to compute, as plain functions, and that the machine's calls come to just that: written by a program for this claim, and turned where Lean did not take it. No condition. -/
import Derived.Test.YtkjfefiphdloiaaHFnImageTurnx0
import Derived.Test.YtkjfefiphdloiaaHFnImageTurnx2
import Derived.Test.YtkjfefiphdloiaaHFnImageTurnx4
import Derived.Test.YtkjfefiphdloiaaHFnImageTurnx5
import Derived.Test.YtkjfefiphdloiaaHFnImageTurnx6
import Derived.Test.YtkjfefiphdloiaaHFnImageTurnx11
namespace Go.Proofs.Ytkjfefiphdloiaa.PFnImageTurn
open Go.RowKit Go.Proofs.YtkjfefiphdloiaaW.PrintWords Go.Proofs.YtkjfefiphdloiaaW.PrintLast Go.Proofs.YtkjfefiphdloiaaW.PrintMore
attribute [local go_sem] max2_int min2_int max_two min_two max_three min_three max_four min_four   -- for this text's walks alone
set_option linter.unusedVariables false
set_option linter.unusedSimpArgs false

/-! ### laws_FnImageTurn: function 12 -/
mutual
def laws_FnImageTurn.j0:Nat → Bool → Int → Int → Int → Int → List Int → List Int → Int → Int → Int → Int → List Int → List Int → Option (Bool)
 | 0,_,_,_,_,_,_,_,_,_,_,_,_,_=>none
 | k+1,x30,x369000,x369001,x369002,x369003,x369004,x369005,x380000,x380001,x380002,x380003,x380004,x380005=>if x30=true then ((spec_ImageTurn.f k x369000 x369001 x369002 x369003 x369004 x369005).bind fun bt394=>((laws_wiImage.f k x380000 x380001 x380002 x380003 x380004 x380005 bt394.1 bt394.2.1 bt394.2.2.1 bt394.2.2.2.1 bt394.2.2.2.2.1 bt394.2.2.2.2.2).bind fun t404=>(if t404=true then ((impl_ImageOk.f k x369000 x369001 x369002 x369003 x369004 x369005).bind fun t405=>((spec_ImageOk.f k x369000 x369001 x369002 x369003 x369004 x369005).bind fun t406=>(some (t405 == t406)))) else (some false)))) else ((impl_ImageTurn.f k x380000 x380001 x380002 x380003 x380004 x380005).bind fun bt407=>(laws_FnImageTurn.l0 k 0 x369000 x369001 x369002 x369003 x369004 x369005 x380000 x380001 x380002 x380003 x380004 x380005 bt407.1 bt407.2.1 bt407.2.2.1 bt407.2.2.2.1 bt407.2.2.2.2.1 bt407.2.2.2.2.2))
def laws_FnImageTurn.l0:Nat → Int → Int → Int → Int → Int → List Int → List Int → Int → Int → Int → Int → List Int → List Int → Int → Int → Int → Int → List Int → List Int → Option (Bool)
 | 0,_,_,_,_,_,_,_,_,_,_,_,_,_,_,_,_,_,_,_=>none
 | k+1,x6,x369000,x369001,x369002,x369003,x369004,x369005,x380000,x380001,x380002,x380003,x380004,x380005,x418000,x418001,x418002,x418003,x418004,x418005=>if x6 < (x369005.length:Int) then (if 0≤(wrap64 ((wrap64 ((x369005.length:Int) - 1)) - x6)) then (if (wrap64 ((wrap64 ((x369005.length:Int) - 1)) - x6)) < (x418005.length:Int) then (if 0≤x6 then (if (rd x418005 (wrap64 ((wrap64 ((x369005.length:Int) - 1)) - x6)))=(rd x369005 x6) then (laws_FnImageTurn.l0 k (wrap64 (x6+1)) x369000 x369001 x369002 x369003 x369004 x369005 x380000 x380001 x380002 x380003 x380004 x380005 x418000 x418001 x418002 x418003 x418004 x418005) else (some false)) else (none)) else (none)) else (none)) else ((impl_ImageOk.f k x380000 x380001 x380002 x380003 x380004 x380005).bind fun t420=>(if t420=true then (if x380002=x369003 then (if x380003=x369002 then ((impl_ImageTurn.f k x418000 x418001 x418002 x418003 x418004 x418005).bind fun bt421=>((impl_ImageTurn.f k bt421.1 bt421.2.1 bt421.2.2.1 bt421.2.2.2.1 bt421.2.2.2.2.1 bt421.2.2.2.2.2).bind fun bt431=>((laws_wiImage.f k bt431.1 bt431.2.1 bt431.2.2.1 bt431.2.2.2.1 bt431.2.2.2.2.1 bt431.2.2.2.2.2 x369000 x369001 x369002 x369003 x369004 x369005).bind fun t441=>(some t441)))) else (some false)) else (some false)) else (some false)))
end
def laws_FnImageTurn.f (k:Nat) (l0:List Int):Option (Bool):=if (l0.length:Int) > 1048576 then (some true) else ((spec_DrawImageTurn.f k l0).bind fun bt358=>((impl_ImageTurn.f k bt358.1 bt358.2.1 bt358.2.2.1 bt358.2.2.2.1 bt358.2.2.2.2.1 bt358.2.2.2.2.2).bind fun bt369=>((spec_ImageTurn.f k bt358.1 bt358.2.1 bt358.2.2.1 bt358.2.2.2.1 bt358.2.2.2.2.1 bt358.2.2.2.2.2).bind fun bt380=>((laws_wiImage.f k bt369.1 bt369.2.1 bt369.2.2.1 bt369.2.2.2.1 bt369.2.2.2.2.1 bt369.2.2.2.2.2 bt380.1 bt380.2.1 bt380.2.2.1 bt380.2.2.2.1 bt380.2.2.2.2.1 bt380.2.2.2.2.2).bind fun t390=>(if t390=true then ((impl_ImageOk.f k bt358.1 bt358.2.1 bt358.2.2.1 bt358.2.2.2.1 bt358.2.2.2.2.1 bt358.2.2.2.2.2).bind fun t391=>((spec_ImageOk.f k bt358.1 bt358.2.1 bt358.2.2.1 bt358.2.2.2.1 bt358.2.2.2.2.1 bt358.2.2.2.2.2).bind fun t392=>(if (t391 != t392)=true then (laws_FnImageTurn.j0 k true bt358.1 bt358.2.1 bt358.2.2.1 bt358.2.2.2.1 bt358.2.2.2.2.1 bt358.2.2.2.2.2 bt369.1 bt369.2.1 bt369.2.2.1 bt369.2.2.2.1 bt369.2.2.2.2.1 bt369.2.2.2.2.2) else ((spec_ImageOk.f k bt358.1 bt358.2.1 bt358.2.2.1 bt358.2.2.2.1 bt358.2.2.2.2.1 bt358.2.2.2.2.2).bind fun t393=>(laws_FnImageTurn.j0 k (!t393) bt358.1 bt358.2.1 bt358.2.2.1 bt358.2.2.2.1 bt358.2.2.2.2.1 bt358.2.2.2.2.2 bt369.1 bt369.2.1 bt369.2.2.1 bt369.2.2.2.1 bt369.2.2.2.2.1 bt369.2.2.2.2.2))))) else (laws_FnImageTurn.j0 k true bt358.1 bt358.2.1 bt358.2.2.1 bt358.2.2.2.1 bt358.2.2.2.2.1 bt358.2.2.2.2.2 bt369.1 bt369.2.1 bt369.2.2.1 bt369.2.2.2.1 bt369.2.2.2.2.1 bt369.2.2.2.2.2))))))
theorem laws_FnImageTurn.mono_l:∀ k,(∀ y0 y1 y2 y3 y4 y5 y6 y7 y8 y9 y10 y11 y12,LeO (laws_FnImageTurn.j0 k y0 y1 y2 y3 y4 y5 y6 y7 y8 y9 y10 y11 y12) (laws_FnImageTurn.j0 (k+1) y0 y1 y2 y3 y4 y5 y6 y7 y8 y9 y10 y11 y12))∧(∀ y0 y1 y2 y3 y4 y5 y6 y7 y8 y9 y10 y11 y12 y13 y14 y15 y16 y17 y18,LeO (laws_FnImageTurn.l0 k y0 y1 y2 y3 y4 y5 y6 y7 y8 y9 y10 y11 y12 y13 y14 y15 y16 y17 y18) (laws_FnImageTurn.l0 (k+1) y0 y1 y2 y3 y4 y5 y6 y7 y8 y9 y10 y11 y12 y13 y14 y15 y16 y17 y18))
 | 0=>⟨fun _ _ _ _ _ _ _ _ _ _ _ _ _ r h=>by simp [laws_FnImageTurn.j0] at h,fun _ _ _ _ _ _ _ _ _ _ _ _ _ _ _ _ _ _ _ r h=>by simp [laws_FnImageTurn.l0] at h⟩
 | k+1=>by
  obtain ⟨ih0,ih1⟩:=laws_FnImageTurn.mono_l k
  refine ⟨?_,?_⟩
  ·intro y0 y1 y2 y3 y4 y5 y6 y7 y8 y9 y10 y11 y12
   unfold laws_FnImageTurn.j0
   repeat' first
   | (with_reducible exact ih0 _ _ _ _ _ _ _ _ _ _ _ _ _)
   | (with_reducible exact ih1 _ _ _ _ _ _ _ _ _ _ _ _ _ _ _ _ _ _ _)
   | (with_reducible exact impl_ImageOk.mono _ _ _ _ _ _ _)
   | (with_reducible exact impl_ImageTurn.mono _ _ _ _ _ _ _)
   | (with_reducible exact laws_wiImage.mono _ _ _ _ _ _ _ _ _ _ _ _ _)
   | (with_reducible exact spec_DrawImageTurn.mono _ _)
   | (with_reducible exact spec_ImageOk.mono _ _ _ _ _ _ _)
   | (with_reducible exact spec_ImageTurn.mono _ _ _ _ _ _ _)
   | (with_reducible exact LeO.refl _)
   | (with_reducible exact LeO.none _)
   | (with_reducible refine LeO.ite ?_ ?_)
   | (with_reducible refine LeO.bind ?_ (fun _=>?_))
  ·intro y0 y1 y2 y3 y4 y5 y6 y7 y8 y9 y10 y11 y12 y13 y14 y15 y16 y17 y18
   unfold laws_FnImageTurn.l0
   repeat' first
   | (with_reducible exact ih0 _ _ _ _ _ _ _ _ _ _ _ _ _)
   | (with_reducible exact ih1 _ _ _ _ _ _ _ _ _ _ _ _ _ _ _ _ _ _ _)
   | (with_reducible exact impl_ImageOk.mono _ _ _ _ _ _ _)
   | (with_reducible exact impl_ImageTurn.mono _ _ _ _ _ _ _)
   | (with_reducible exact laws_wiImage.mono _ _ _ _ _ _ _ _ _ _ _ _ _)
   | (with_reducible exact spec_DrawImageTurn.mono _ _)
   | (with_reducible exact spec_ImageOk.mono _ _ _ _ _ _ _)
   | (with_reducible exact spec_ImageTurn.mono _ _ _ _ _ _ _)
   | (with_reducible exact LeO.refl _)
   | (with_reducible exact LeO.none _)
   | (with_reducible refine LeO.ite ?_ ?_)
   | (with_reducible refine LeO.bind ?_ (fun _=>?_))
theorem laws_FnImageTurn.mono:∀ a0 k,LeO (laws_FnImageTurn.f k a0) (laws_FnImageTurn.f (k+1) a0):=by
 intro a0 k
 obtain ⟨ih0,ih1⟩:=laws_FnImageTurn.mono_l k
 unfold laws_FnImageTurn.f
 repeat' first
   | (with_reducible exact ih0 _ _ _ _ _ _ _ _ _ _ _ _ _)
   | (with_reducible exact ih1 _ _ _ _ _ _ _ _ _ _ _ _ _ _ _ _ _ _ _)
   | (with_reducible exact impl_ImageOk.mono _ _ _ _ _ _ _)
   | (with_reducible exact impl_ImageTurn.mono _ _ _ _ _ _ _)
   | (with_reducible exact laws_wiImage.mono _ _ _ _ _ _ _ _ _ _ _ _ _)
   | (with_reducible exact spec_DrawImageTurn.mono _ _)
   | (with_reducible exact spec_ImageOk.mono _ _ _ _ _ _ _)
   | (with_reducible exact spec_ImageTurn.mono _ _ _ _ _ _ _)
   | (with_reducible exact LeO.refl _)
   | (with_reducible exact LeO.none _)
   | (with_reducible refine LeO.ite ?_ ?_)
   | (with_reducible refine LeO.bind ?_ (fun _=>?_))
def laws_FnImageTurn.T5:Bool × List (List Nat × List Nat):=(true,[([],[]),([],[]),([1],[1]),([0,2,2],[0,2]),([3],[3]),([4,3],[4]),([5],[5]),([6,5,5],[5,6]),([5],[5]),([8,7,5],[5,8]),([7,9,5],[5,7,9]),([5,10],[5,10]),([11,9],[11]),([12],[12]),([13,12,12],[12,13]),([14,12],[12,14]),([12,15],[12,15])])
def laws_FnImageTurn.B5:List Nat:=[0,0,2,7,15,31,63,127,63,511,1023,2047,4095,8191,16383,32767,65535]
theorem laws_FnImageTurn.tab5:rtab .any (opsOf Try.f12 5)=laws_FnImageTurn.T5:=by kernel_rfl
theorem laws_FnImageTurn.bits5:waitsOk laws_FnImageTurn.T5.2 laws_FnImageTurn.B5=true:=by kernel_rfl
def laws_FnImageTurn.T6:Bool × List (List Nat × List Nat):=(true,[([],[]),([],[]),([1],[1]),([0,2,2],[0,2]),([3,3],[3]),([4],[4]),([5,4,4],[4,5]),([4],[4]),([7,6,4],[4,7]),([6,8,4],[4,6,8]),([4,9],[4,9]),([10,8,0,1,2,3,4,5,6,7,8,9,10],[10])])
def laws_FnImageTurn.B6:List Nat:=[0,0,2,7,15,31,63,31,255,511,1023,2047]
theorem laws_FnImageTurn.tab6:rtab .any (opsOf Try.f12 6)=laws_FnImageTurn.T6:=by kernel_rfl
theorem laws_FnImageTurn.bits6:waitsOk laws_FnImageTurn.T6.2 laws_FnImageTurn.B6=true:=by kernel_rfl
def laws_FnImageTurn.T11:Bool × List (List Nat × List Nat):=(true,[([],[]),([0],[0]),([],[]),([2],[2]),([3],[3]),([4],[4]),([],[]),([5,6],[5,6]),([1,7],[1,7]),([8],[8]),([],[]),([10],[10]),([],[]),([11,12],[11,12]),([13],[13]),([9,14],[9,14])])
def laws_FnImageTurn.B11:List Nat:=[0,1,0,4,12,28,0,124,255,511,0,1024,0,7168,15360,32767]
theorem laws_FnImageTurn.tab11:rtab .any (opsOf Try.f12 11)=laws_FnImageTurn.T11:=by kernel_rfl
theorem laws_FnImageTurn.bits11:waitsOk laws_FnImageTurn.T11.2 laws_FnImageTurn.B11=true:=by kernel_rfl
def laws_FnImageTurn.T13:Bool × List (List Nat × List Nat):=(true,[([],[]),([0],[0]),([1,1],[1]),([2],[2]),([3,2],[2,3]),([2],[2]),([5,2],[2,5]),([4,6,2],[2,4,6]),([2,7],[2,7]),([8,2],[8]),([9],[9]),([10,9],[9,10]),([9],[9]),([12,9],[9,12]),([11,13,9],[9,11,13]),([9,14],[9,14]),([15,9],[15]),([16],[16]),([17,16,16],[16,17]),([18,18,16],[16,18]),([16],[16]),([19,20,19,16],[16,19,20]),([16,21],[16,21]),([22,21,0,1,2,3,4,5,6,7,8,9,10,11,12,13,14,15,16,17,18,19,20,21,22],[22])])
def laws_FnImageTurn.B13:List Nat:=[0,1,3,7,15,7,39,127,255,511,1023,2047,1023,5119,16383,32767,65535,131071,262143,524287,131071,2097151,4194303,8388607]
theorem laws_FnImageTurn.tab13:rtab .any (opsOf Try.f12 13)=laws_FnImageTurn.T13:=by kernel_rfl
theorem laws_FnImageTurn.bits13:waitsOk laws_FnImageTurn.T13.2 laws_FnImageTurn.B13=true:=by kernel_rfl
set_option maxHeartbeats 8000000 in
set_option maxRecDepth 100000 in
theorem laws_FnImageTurn.calls (k:Nat) (A0:Option Addr) (c0:Nat) (l0:List Int) (w:World) (hr0:Kd.C (Kd.int .u8) w A0 l0.length l0) (hc0:l0.length≤c0) (h:laws_FnImageTurn.f k l0=some true) :
  Calls Try.prog 12 #[.slice A0 l0.length c0] w fun e w'=>e=.returned (.bool true)∧Below w.heap.size w w':=by
 have hu27:=Try.underlying27
 have HR0:=aM_ hr0
 have HC0:=aM_ hc0
 clear hr0 hc0
 have HB:=aM_ (Below.refl w.heap.size w)
 have H:(if (l0.length:Int) > 1048576 then (some true) else ((spec_DrawImageTurn.f k l0).bind fun bt358=>((impl_ImageTurn.f k bt358.1 bt358.2.1 bt358.2.2.1 bt358.2.2.2.1 bt358.2.2.2.2.1 bt358.2.2.2.2.2).bind fun bt369=>((spec_ImageTurn.f k bt358.1 bt358.2.1 bt358.2.2.1 bt358.2.2.2.1 bt358.2.2.2.2.1 bt358.2.2.2.2.2).bind fun bt380=>((laws_wiImage.f k bt369.1 bt369.2.1 bt369.2.2.1 bt369.2.2.2.1 bt369.2.2.2.2.1 bt369.2.2.2.2.2 bt380.1 bt380.2.1 bt380.2.2.1 bt380.2.2.2.1 bt380.2.2.2.2.1 bt380.2.2.2.2.2).bind fun t390=>(if t390=true then ((impl_ImageOk.f k bt358.1 bt358.2.1 bt358.2.2.1 bt358.2.2.2.1 bt358.2.2.2.2.1 bt358.2.2.2.2.2).bind fun t391=>((spec_ImageOk.f k bt358.1 bt358.2.1 bt358.2.2.1 bt358.2.2.2.1 bt358.2.2.2.2.1 bt358.2.2.2.2.2).bind fun t392=>(if (t391 != t392)=true then (laws_FnImageTurn.j0 k true bt358.1 bt358.2.1 bt358.2.2.1 bt358.2.2.2.1 bt358.2.2.2.2.1 bt358.2.2.2.2.2 bt369.1 bt369.2.1 bt369.2.2.1 bt369.2.2.2.1 bt369.2.2.2.2.1 bt369.2.2.2.2.2) else ((spec_ImageOk.f k bt358.1 bt358.2.1 bt358.2.2.1 bt358.2.2.2.1 bt358.2.2.2.2.1 bt358.2.2.2.2.2).bind fun t393=>(laws_FnImageTurn.j0 k (!t393) bt358.1 bt358.2.1 bt358.2.2.1 bt358.2.2.2.1 bt358.2.2.2.2.1 bt358.2.2.2.2.2 bt369.1 bt369.2.1 bt369.2.2.1 bt369.2.2.2.1 bt369.2.2.2.2.1 bt369.2.2.2.2.2))))) else (laws_FnImageTurn.j0 k true bt358.1 bt358.2.1 bt358.2.2.1 bt358.2.2.2.1 bt358.2.2.2.2.1 bt358.2.2.2.2.2 bt369.1 bt369.2.1 bt369.2.2.1 bt369.2.2.2.1 bt369.2.2.2.2.1 bt369.2.2.2.2.2)))))))=some true:=h
 clear h
 by_cases c2:(l0.length:Int) > 1048576
 ·rw [if_pos c2] at H
  have c2b0:decide (1048576 < (l0.length:Int))=true:=decide_eq_true c2
  have c2b1:decide (1048576 < l0.length)=true:=decide_eq_true (by omega)
  clear c2
  clear H
  go_enter Try.func12,Try.ntmps12
  go_wp2
  go_ret
  exact ⟨by first|rfl|(simp [errW_none,errW_some] <;> rfl)|(simp [*,errW_none,errW_some] <;> rfl),by repeat (first|(with_reducible first|exact HB.out|apply wA_|apply wN_|apply wD_)|exact HB.out)⟩
 ·rw [if_neg c2] at H
  have c2b0:decide (1048576 < (l0.length:Int))=false:=decide_eq_false c2
  have c2b1:decide (1048576 < l0.length)=false:=decide_eq_false (by omega)
  clear c2
  replace H:=Option.bind_eq_some_iff.mp H
  obtain ⟨⟨t358,t359,t360,t361,t362,t365⟩,A30,H⟩:=H
  replace H:((impl_ImageTurn.f k t358 t359 t360 t361 t362 t365).bind fun bt369=>((spec_ImageTurn.f k t358 t359 t360 t361 t362 t365).bind fun bt380=>((laws_wiImage.f k bt369.1 bt369.2.1 bt369.2.2.1 bt369.2.2.2.1 bt369.2.2.2.2.1 bt369.2.2.2.2.2 bt380.1 bt380.2.1 bt380.2.2.1 bt380.2.2.2.1 bt380.2.2.2.2.1 bt380.2.2.2.2.2).bind fun t390=>(if t390=true then ((impl_ImageOk.f k t358 t359 t360 t361 t362 t365).bind fun t391=>((spec_ImageOk.f k t358 t359 t360 t361 t362 t365).bind fun t392=>(if (t391 != t392)=true then (laws_FnImageTurn.j0 k true t358 t359 t360 t361 t362 t365 bt369.1 bt369.2.1 bt369.2.2.1 bt369.2.2.2.1 bt369.2.2.2.2.1 bt369.2.2.2.2.2) else ((spec_ImageOk.f k t358 t359 t360 t361 t362 t365).bind fun t393=>(laws_FnImageTurn.j0 k (!t393) t358 t359 t360 t361 t362 t365 bt369.1 bt369.2.1 bt369.2.2.1 bt369.2.2.2.1 bt369.2.2.2.2.1 bt369.2.2.2.2.2))))) else (laws_FnImageTurn.j0 k true t358 t359 t360 t361 t362 t365 bt369.1 bt369.2.1 bt369.2.2.1 bt369.2.2.2.1 bt369.2.2.2.2.1 bt369.2.2.2.2.2)))))=some true:=H
  have A3:=aM_ A30
  clear A30
  replace H:=Option.bind_eq_some_iff.mp H
  obtain ⟨⟨t369,t370,t371,t372,t373,t376⟩,A40,H⟩:=H
  replace H:((spec_ImageTurn.f k t358 t359 t360 t361 t362 t365).bind fun bt380=>((laws_wiImage.f k t369 t370 t371 t372 t373 t376 bt380.1 bt380.2.1 bt380.2.2.1 bt380.2.2.2.1 bt380.2.2.2.2.1 bt380.2.2.2.2.2).bind fun t390=>(if t390=true then ((impl_ImageOk.f k t358 t359 t360 t361 t362 t365).bind fun t391=>((spec_ImageOk.f k t358 t359 t360 t361 t362 t365).bind fun t392=>(if (t391 != t392)=true then (laws_FnImageTurn.j0 k true t358 t359 t360 t361 t362 t365 t369 t370 t371 t372 t373 t376) else ((spec_ImageOk.f k t358 t359 t360 t361 t362 t365).bind fun t393=>(laws_FnImageTurn.j0 k (!t393) t358 t359 t360 t361 t362 t365 t369 t370 t371 t372 t373 t376))))) else (laws_FnImageTurn.j0 k true t358 t359 t360 t361 t362 t365 t369 t370 t371 t372 t373 t376))))=some true:=H
  have A4:=aM_ A40
  clear A40
  have HC5:=aM_ H
  clear H
  go_enter Try.func12,Try.ntmps12
  go_upto_region 5 with (first|((with_reducible refine gate_callee (f:=38) rfl ?_);refine goesL_ (some 11) rfl rfl Try.func38 (by kernel_rfl) rfl #[.slice A0 l0.length c0] rfl (by (try simp only [List.map_toArray,List.map_cons,List.map_nil]);first|done|rfl|(simp only [List.length_drop,List.length_take];rfl)) ?_;(with_reducible refine (spec_DrawImageTurn.calls k _ _ l0 t358 t359 t360 t361 t362 t365 _ ?side1 ?side2 A3.out).mono ?_);(case side1=>repeat (first|exact HR0.out|(with_reducible refine Kd.C_alloc ?_ _)|(with_reducible refine Kd.C_drewN ?_ _)|(with_reducible refine Kd.C_drew ?_)));(case side2=>exact HC0.out);rintro e w6 ⟨v363,v366,rfl,ho0,ho1,hb⟩;refine ⟨_,rfl,?_⟩;have n0_:=aM_ (Kd.R_lower ho0 (below_size (by repeat (first|(with_reducible first|exact HB.out|apply wA_|apply wN_|apply wD_)|exact HB.out))));have n1_:=aM_ (Kd.Q_lower ho1 (below_size (by repeat (first|(with_reducible first|exact HB.out|apply wA_|apply wN_|apply wD_)|exact HB.out))));have n2_:=aM_ (below_step (by repeat (first|(with_reducible first|exact HB.out|apply wA_|apply wN_|apply wD_)|exact HB.out)) hb);clear HB;have HO364:=n0_;have HO367:=n1_;have HB:=n2_;clear n0_ n1_ n2_;(try clear hb);(try clear hb2);(try clear hk);(try clear hi);(try clear ho0);(try clear ho1))|((with_reducible refine gate_dst (N:=3) rfl ?_);refine box_event ?hg (N:=3) ?hd (cs:=#[.int .i64 0,.int .i64 0,.int .i64 0,.int .i64 0,.slice none 0 0,.slice none 0 0]) (t:=27) ?hr ?_;(case hd=>rfl);(case hg=>rfl);(case hr=>first|(go_simp;done)|(go_simp;rfl));intro gb368 hg w7 hbox hb;have n0_:=aM_ (Kd.R_below (by (with_reducible repeat (first|apply rA_|apply rN_|apply rD_));exact HO364.out) hb);have n1_:=aM_ (Kd.Q_below (by (with_reducible repeat (first|apply Kd.Q_alloc|apply Kd.Q_drewN|apply Kd.Q_drew));exact HO367.out) hb);have n2_:=aM_ (below_step (by repeat (first|(with_reducible first|exact HB.out|apply wA_|apply wN_|apply wD_)|exact HB.out)) hb);have n3_:=aM_ (hbox);have n4_:=aM_ ((by rw [hg];exact (below_size (by repeat (first|(with_reducible first|exact HB.out|apply wA_|apply wN_|apply wD_)|exact HB.out))):w.heap.size≤gb368));have n5_:=aM_ ((by rw [hg];exact (below_size (by repeat (first|(with_reducible first|exact HB.out|apply wA_|apply wN_|apply wD_)|exact HB.out))):w.heap.size≤gb368));clear HO364;clear HO367;clear HB;have HO364:=n0_;have HO367:=n1_;have HB:=n2_;have BK368:=n3_;have GW368:=n4_;have GE368:=n5_;clear n0_ n1_ n2_ n3_ n4_ n5_;clear hb hbox hg;obtain ⟨hcz8_0,hcz8_1,hcz8_2,hcz8_3,hcz8_4,hcz8_5⟩:=bc6 BK368.out;obtain ⟨hfz8_0,hfz8_1,hfz8_2,hfz8_3,hfz8_4,hfz8_5⟩:=bf6 BK368.out;obtain ⟨Ao9,co9,eo9⟩:=Kd.R_slice HO364.out;subst eo9;obtain ⟨Ao10,co10,eo10,_⟩:=Kd.Q_slice HO367.out;subst eo10)|((with_reducible refine gate_callee (f:=31) rfl ?_);refine goesL_ (some 13) rfl rfl Try.func31 (by kernel_rfl) rfl #[.agg #[.int .i64 t358,.int .i64 t359,.int .i64 t360,.int .i64 t361,.slice Ao9 t362.length co9,.slice Ao10 t365.length co10]] rfl (by (try simp only [List.map_toArray,List.map_cons,List.map_nil]);first|done|rfl|(simp only [List.length_drop,List.length_take];rfl)) ?_;(with_reducible refine (impl_ImageTurn.calls k t358 t359 t360 t361 _ _ t362 _ _ t365 t369 t370 t371 t372 t373 t376 _ ?side1 ?side2 ?side3 ?side4 A4.out).mono ?_);(case side1=>refine (Kd.R_reads' (e:=3) (base:=w.heap.size) (ok:=fun k_=>some k_≠(.slice Ao10 t365.length co10:Value).ownBlock) (n:=t362.length) (c:=co9) ?_).2.2;exact (by (with_reducible repeat (first|apply rA_|apply rN_|apply rD_));exact (Kd.R_mono (Kd.R_far (Kd.R_far (Kd.R_far (Kd.R_far (Kd.R_far (Kd.R_far (Kd.R_types HO364.out BK368.out (by decide)) (fun _ hk=>hk.2) _) (fun _ hk=>hk.2) _) (fun _ hk=>hk.2) _) (fun _ hk=>hk.2) _) (fun _ hk=>hk.2) _) (fun _ hk=>hk.2) _) (fun _ h_=>h_.1))));(case side2=>exact (Kd.R_reads' HO364.out).2.1);(case side3=>refine (Kd.Q_reads' (e:=3) (base:=w.heap.size) (ok:=fun k_=>some k_≠(.slice Ao9 t362.length co9:Value).ownBlock) (n:=t365.length) (c:=co10) ?_).2.2;exact (by (with_reducible repeat (first|apply Kd.Q_alloc|apply Kd.Q_drewN|apply Kd.Q_drew));exact (Kd.Q_mono (Kd.Q_far (Kd.Q_far (Kd.Q_far (Kd.Q_far (Kd.Q_far (Kd.Q_far (Kd.Q_types HO367.out BK368.out (by decide)) (fun _ hk=>hk.2) _) (fun _ hk=>hk.2) _) (fun _ hk=>hk.2) _) (fun _ hk=>hk.2) _) (fun _ hk=>hk.2) _) (fun _ hk=>hk.2) _) (fun _ h_=>h_.1))));(case side4=>exact (Kd.Q_reads' HO367.out).2.1);rintro e w11 ⟨v374,v377,rfl,ho0,ho1,hb⟩;refine ⟨_,rfl,?_⟩;have n0_:=aM_ (Kd.R_mono (Kd.R_told (Kd.R_told (Kd.R_old (by (with_reducible repeat (first|apply rA_|apply rN_|apply rD_));exact (Kd.R_mono (Kd.R_far (Kd.R_far (Kd.R_far (Kd.R_far (Kd.R_far (Kd.R_far (Kd.R_types HO364.out BK368.out (by decide)) (fun _ hk=>hk.2) _) (fun _ hk=>hk.2) _) (fun _ hk=>hk.2) _) (fun _ hk=>hk.2) _) (fun _ hk=>hk.2) _) (fun _ hk=>hk.2) _) (fun _ h_=>h_.1))) hb) (Kd.R_base ho0)) (Kd.R_base ho1)) (fun _ h_=>h_.1));have n1_:=aM_ (Kd.Q_mono (Kd.Q_told (Kd.Q_told (Kd.Q_old (by (with_reducible repeat (first|apply Kd.Q_alloc|apply Kd.Q_drewN|apply Kd.Q_drew));exact (Kd.Q_mono (Kd.Q_far (Kd.Q_far (Kd.Q_far (Kd.Q_far (Kd.Q_far (Kd.Q_far (Kd.Q_types HO367.out BK368.out (by decide)) (fun _ hk=>hk.2) _) (fun _ hk=>hk.2) _) (fun _ hk=>hk.2) _) (fun _ hk=>hk.2) _) (fun _ hk=>hk.2) _) (fun _ hk=>hk.2) _) (fun _ h_=>h_.1))) hb) (Kd.R_base ho0)) (Kd.R_base ho1)) (fun _ h_=>h_.1));have n2_:=aM_ (Kd.R_lower (Kd.R_new' (Kd.R_new' ho0 (Kd.R_lt (by (with_reducible repeat (first|apply rA_|apply rN_|apply rD_));exact (Kd.R_mono (Kd.R_far (Kd.R_far (Kd.R_far (Kd.R_far (Kd.R_far (Kd.R_far (Kd.R_types HO364.out BK368.out (by decide)) (fun _ hk=>hk.2) _) (fun _ hk=>hk.2) _) (fun _ hk=>hk.2) _) (fun _ hk=>hk.2) _) (fun _ hk=>hk.2) _) (fun _ hk=>hk.2) _) (fun _ h_=>h_.1))))) (Kd.Q_lt (by (with_reducible repeat (first|apply Kd.Q_alloc|apply Kd.Q_drewN|apply Kd.Q_drew));exact (Kd.Q_mono (Kd.Q_far (Kd.Q_far (Kd.Q_far (Kd.Q_far (Kd.Q_far (Kd.Q_far (Kd.Q_types HO367.out BK368.out (by decide)) (fun _ hk=>hk.2) _) (fun _ hk=>hk.2) _) (fun _ hk=>hk.2) _) (fun _ hk=>hk.2) _) (fun _ hk=>hk.2) _) (fun _ hk=>hk.2) _) (fun _ h_=>h_.1))))) (below_size (by repeat (first|(with_reducible first|exact HB.out|apply wA_|apply wN_|apply wD_|refine below_set ?_ GE368.out)|exact HB.out))));have n3_:=aM_ (Kd.R_lower (Kd.R_new' (Kd.R_new' ho1 (Kd.R_lt (by (with_reducible repeat (first|apply rA_|apply rN_|apply rD_));exact (Kd.R_mono (Kd.R_far (Kd.R_far (Kd.R_far (Kd.R_far (Kd.R_far (Kd.R_far (Kd.R_types HO364.out BK368.out (by decide)) (fun _ hk=>hk.2) _) (fun _ hk=>hk.2) _) (fun _ hk=>hk.2) _) (fun _ hk=>hk.2) _) (fun _ hk=>hk.2) _) (fun _ hk=>hk.2) _) (fun _ h_=>h_.1))))) (Kd.Q_lt (by (with_reducible repeat (first|apply Kd.Q_alloc|apply Kd.Q_drewN|apply Kd.Q_drew));exact (Kd.Q_mono (Kd.Q_far (Kd.Q_far (Kd.Q_far (Kd.Q_far (Kd.Q_far (Kd.Q_far (Kd.Q_types HO367.out BK368.out (by decide)) (fun _ hk=>hk.2) _) (fun _ hk=>hk.2) _) (fun _ hk=>hk.2) _) (fun _ hk=>hk.2) _) (fun _ hk=>hk.2) _) (fun _ hk=>hk.2) _) (fun _ h_=>h_.1))))) (below_size (by repeat (first|(with_reducible first|exact HB.out|apply wA_|apply wN_|apply wD_|refine below_set ?_ GE368.out)|exact HB.out))));have n4_:=aM_ (blk_below (g:=gb368) (o:=.cells #[.int .i64 t358,.int .i64 t359,.int .i64 t360,.int .i64 t361,.slice Ao9 t362.length co9,.slice Ao10 t365.length co10] 27 (0,0)) (by (with_reducible repeat (first|apply kN_|apply kD_|apply kA_));refine blk_put (cs:=#[.int .i64 t358,.int .i64 t359,.int .i64 t360,.int .i64 t361,.slice Ao9 t362.length co9,.slice none 0 0]) ?_ 5 _ rfl;(with_reducible repeat (first|apply kN_|apply kD_|apply kA_));refine blk_put (cs:=#[.int .i64 t358,.int .i64 t359,.int .i64 t360,.int .i64 t361,.slice none 0 0,.slice none 0 0]) ?_ 4 _ rfl;(with_reducible repeat (first|apply kN_|apply kD_|apply kA_));refine blk_put (cs:=#[.int .i64 t358,.int .i64 t359,.int .i64 t360,.int .i64 0,.slice none 0 0,.slice none 0 0]) ?_ 3 _ rfl;(with_reducible repeat (first|apply kN_|apply kD_|apply kA_));refine blk_put (cs:=#[.int .i64 t358,.int .i64 t359,.int .i64 0,.int .i64 0,.slice none 0 0,.slice none 0 0]) ?_ 2 _ rfl;(with_reducible repeat (first|apply kN_|apply kD_|apply kA_));refine blk_put (cs:=#[.int .i64 t358,.int .i64 0,.int .i64 0,.int .i64 0,.slice none 0 0,.slice none 0 0]) ?_ 1 _ rfl;(with_reducible repeat (first|apply kN_|apply kD_|apply kA_));refine blk_put (cs:=#[.int .i64 0,.int .i64 0,.int .i64 0,.int .i64 0,.slice none 0 0,.slice none 0 0]) ?_ 0 _ rfl;(with_reducible repeat (first|apply kN_|apply kD_|apply kA_));exact BK368.out) hb);have n5_:=aM_ (below_step (by repeat (first|(with_reducible first|exact HB.out|apply wA_|apply wN_|apply wD_|refine below_set ?_ GE368.out)|exact HB.out)) hb);clear HO364;clear HO367;clear BK368;clear HB;have HO364:=n0_;have HO367:=n1_;have HO375:=n2_;have HO378:=n3_;have BK368:=n4_;have HB:=n5_;clear n0_ n1_ n2_ n3_ n4_ n5_;(try clear hb);(try clear hb2);(try clear hk);(try clear hi);(try clear ho0);(try clear ho1))|((with_reducible refine gate_dst (N:=4) rfl ?_);refine box_event ?hg (N:=4) ?hd (cs:=#[.int .i64 0,.int .i64 0,.int .i64 0,.int .i64 0,.slice none 0 0,.slice none 0 0]) (t:=27) ?hr ?_;(case hd=>rfl);(case hg=>rfl);(case hr=>first|(go_simp;done)|(go_simp;rfl));intro gb379 hg w12 hbox hb;have n0_:=aM_ (Kd.R_below (by (with_reducible repeat (first|apply rA_|apply rN_|apply rD_));exact HO364.out) hb);have n1_:=aM_ (Kd.Q_below (by (with_reducible repeat (first|apply Kd.Q_alloc|apply Kd.Q_drewN|apply Kd.Q_drew));exact HO367.out) hb);have n2_:=aM_ (Kd.R_below (by (with_reducible repeat (first|apply rA_|apply rN_|apply rD_));exact HO375.out) hb);have n3_:=aM_ (Kd.R_below (by (with_reducible repeat (first|apply rA_|apply rN_|apply rD_));exact HO378.out) hb);have n4_:=aM_ (blk_below (g:=gb368) (by (with_reducible repeat (first|apply kN_|apply kD_|apply kA_));exact BK368.out) hb);have n5_:=aM_ (below_step (by repeat (first|(with_reducible first|exact HB.out|apply wA_|apply wN_|apply wD_|refine below_set ?_ GE368.out)|exact HB.out)) hb);have n6_:=aM_ (hbox);have n7_:=aM_ ((by rw [hg];exact (below_size (by repeat (first|(with_reducible first|exact HB.out|apply wA_|apply wN_|apply wD_|refine below_set ?_ GE368.out)|exact HB.out))):w.heap.size≤gb379));have n8_:=aM_ ((by rw [hg];exact (below_size (by repeat (first|(with_reducible first|exact HB.out|apply wA_|apply wN_|apply wD_|refine below_set ?_ GE368.out)|exact HB.out))):w.heap.size≤gb379));have n9_:=aM_ ((by rw [hg];exact Nat.ne_of_lt (blk_lt (g:=gb368) (by (with_reducible repeat (first|apply kN_|apply kD_|apply kA_));exact BK368.out)):gb368≠gb379));have n10_:=aM_ n9_.out.symm;clear HO364;clear HO367;clear HO375;clear HO378;clear BK368;clear HB;have HO364:=n0_;have HO367:=n1_;have HO375:=n2_;have HO378:=n3_;have BK368:=n4_;have HB:=n5_;have BK379:=n6_;have GW379:=n7_;have GE379:=n8_;have NB368_379:=n9_;have NB379_368:=n10_;clear n0_ n1_ n2_ n3_ n4_ n5_ n6_ n7_ n8_ n9_ n10_;clear hb hbox hg;have hnb13:=NB379_368.out;have hnc13:=NB368_379.out;obtain ⟨hcz14_0,hcz14_1,hcz14_2,hcz14_3,hcz14_4,hcz14_5⟩:=bc6 BK379.out;obtain ⟨hfz14_0,hfz14_1,hfz14_2,hfz14_3,hfz14_4,hfz14_5⟩:=bf6 BK379.out;obtain ⟨Ao15,co15,eo15⟩:=Kd.R_slice HO375.out;subst eo15;obtain ⟨Ao16,co16,eo16⟩:=Kd.R_slice HO378.out;subst eo16))
  (try simp only [Act.put,sA_,s0_,s1_])
  go_cut [30] (fun v30 wc=>∃ (kq:Nat) (x30_4:Bool),v30=.bool x30_4∧Aside0 (laws_FnImageTurn.j0 kq x30_4 t358 t359 t360 t361 t362 t365 t369 t370 t371 t372 t373 t376=some true)∧Aside0 (kq≤k)∧Aside0 (Kd.R (Kd.int .i64) 3 wc w.heap.size (fun k_=>some k_≠((.slice Ao10 t365.length co10):Value).ownBlock∧some k_≠((.slice Ao15 t373.length co15):Value).ownBlock∧some k_≠((.slice Ao16 t376.length co16):Value).ownBlock) (.slice Ao9 t362.length co9) t362)∧Aside0 (Kd.Q (Kd.int .i64) 3 wc w.heap.size (fun k_=>some k_≠((.slice Ao9 t362.length co9):Value).ownBlock∧some k_≠((.slice Ao15 t373.length co15):Value).ownBlock∧some k_≠((.slice Ao16 t376.length co16):Value).ownBlock) (.slice Ao10 t365.length co10) t365)∧Aside0 (Kd.R (Kd.int .i64) 3 wc w.heap.size (fun k_=>some k_≠((.slice Ao9 t362.length co9):Value).ownBlock∧some k_≠((.slice Ao10 t365.length co10):Value).ownBlock∧some k_≠((.slice Ao16 t376.length co16):Value).ownBlock) (.slice Ao15 t373.length co15) t373)∧Aside0 (Kd.Q (Kd.int .i64) 3 wc w.heap.size (fun k_=>some k_≠((.slice Ao9 t362.length co9):Value).ownBlock∧some k_≠((.slice Ao10 t365.length co10):Value).ownBlock∧some k_≠((.slice Ao15 t373.length co15):Value).ownBlock) (.slice Ao16 t376.length co16) t376)∧Aside0 (wc.heap[gb368]?=some (.cells #[.int .i64 t358,.int .i64 t359,.int .i64 t360,.int .i64 t361,(.slice Ao9 t362.length co9),(.slice Ao10 t365.length co10)] 27 (0,0)))∧Aside0 (wc.heap[gb379]?=some (.cells #[.int .i64 t369,.int .i64 t370,.int .i64 t371,.int .i64 t372,(.slice Ao15 t373.length co15),(.slice Ao16 t376.length co16)] 27 (0,0)))∧Aside0 (Below w.heap.size w wc))
  case first =>
   have H:=HC5.out
   clear HC5
   replace H:=Option.bind_eq_some_iff.mp H
   obtain ⟨⟨t380,t381,t382,t383,t384,t387⟩,A170,H⟩:=H
   replace H:((laws_wiImage.f k t369 t370 t371 t372 t373 t376 t380 t381 t382 t383 t384 t387).bind fun t390=>(if t390=true then ((impl_ImageOk.f k t358 t359 t360 t361 t362 t365).bind fun t391=>((spec_ImageOk.f k t358 t359 t360 t361 t362 t365).bind fun t392=>(if (t391 != t392)=true then (laws_FnImageTurn.j0 k true t358 t359 t360 t361 t362 t365 t369 t370 t371 t372 t373 t376) else ((spec_ImageOk.f k t358 t359 t360 t361 t362 t365).bind fun t393=>(laws_FnImageTurn.j0 k (!t393) t358 t359 t360 t361 t362 t365 t369 t370 t371 t372 t373 t376))))) else (laws_FnImageTurn.j0 k true t358 t359 t360 t361 t362 t365 t369 t370 t371 t372 t373 t376)))=some true:=H
   have A17:=aM_ A170
   clear A170
   replace H:=Option.bind_eq_some_iff.mp H
   obtain ⟨t390,A180,H⟩:=H
   replace H:(if t390=true then ((impl_ImageOk.f k t358 t359 t360 t361 t362 t365).bind fun t391=>((spec_ImageOk.f k t358 t359 t360 t361 t362 t365).bind fun t392=>(if (t391 != t392)=true then (laws_FnImageTurn.j0 k true t358 t359 t360 t361 t362 t365 t369 t370 t371 t372 t373 t376) else ((spec_ImageOk.f k t358 t359 t360 t361 t362 t365).bind fun t393=>(laws_FnImageTurn.j0 k (!t393) t358 t359 t360 t361 t362 t365 t369 t370 t371 t372 t373 t376))))) else (laws_FnImageTurn.j0 k true t358 t359 t360 t361 t362 t365 t369 t370 t371 t372 t373 t376))=some true:=H
   have A18:=aM_ A180
   clear A180
   by_cases c19:t390=true
   ·subst c19
    have H1:((impl_ImageOk.f k t358 t359 t360 t361 t362 t365).bind fun t391=>((spec_ImageOk.f k t358 t359 t360 t361 t362 t365).bind fun t392=>(if (t391 != t392)=true then (laws_FnImageTurn.j0 k true t358 t359 t360 t361 t362 t365 t369 t370 t371 t372 t373 t376) else ((spec_ImageOk.f k t358 t359 t360 t361 t362 t365).bind fun t393=>(laws_FnImageTurn.j0 k (!t393) t358 t359 t360 t361 t362 t365 t369 t370 t371 t372 t373 t376)))))=some true:=by first|(rw [if_pos rfl] at H;exact H)|rfl
    clear H
    have H:=H1
    clear H1
    replace H:=Option.bind_eq_some_iff.mp H
    obtain ⟨t391,A200,H⟩:=H
    replace H:((spec_ImageOk.f k t358 t359 t360 t361 t362 t365).bind fun t392=>(if (t391 != t392)=true then (laws_FnImageTurn.j0 k true t358 t359 t360 t361 t362 t365 t369 t370 t371 t372 t373 t376) else ((spec_ImageOk.f k t358 t359 t360 t361 t362 t365).bind fun t393=>(laws_FnImageTurn.j0 k (!t393) t358 t359 t360 t361 t362 t365 t369 t370 t371 t372 t373 t376))))=some true:=H
    have A20:=aM_ A200
    clear A200
    replace H:=Option.bind_eq_some_iff.mp H
    obtain ⟨t392,A210,H⟩:=H
    replace H:(if (t391 != t392)=true then (laws_FnImageTurn.j0 k true t358 t359 t360 t361 t362 t365 t369 t370 t371 t372 t373 t376) else ((spec_ImageOk.f k t358 t359 t360 t361 t362 t365).bind fun t393=>(laws_FnImageTurn.j0 k (!t393) t358 t359 t360 t361 t362 t365 t369 t370 t371 t372 t373 t376)))=some true:=H
    have A21:=aM_ A210
    clear A210
    by_cases c22:(t391 != t392)=true
    ·rw [if_pos c22] at H
     have c22b0:(t391 != t392)=true:=c22
     (try (have c22b1:decide (t391=t392)=false:=by simpa using c22))
     (try (have c22b2:(t391 == t392)=false:=by simpa using c22))
     (try (have c22b3:¬ (t391=t392):=by simpa using c22))
     clear c22
     (first|rw [c22b0]|(simp only [i64_w,i32_w];rw [c22b0])|skip)
     have H':=aM_ H
     clear H
     try go_wp2
     have n0_:Aside0 (Kd.R (Kd.int .i64) 3 ((((((w12.setCell ⟨gb379,0,none⟩ (.int .i64 t369)).setCell ⟨gb379,1,none⟩ (.int .i64 t370)).setCell ⟨gb379,2,none⟩ (.int .i64 t371)).setCell ⟨gb379,3,none⟩ (.int .i64 t372)).setCell ⟨gb379,4,none⟩ (.slice Ao15 t373.length co15)).setCell ⟨gb379,5,none⟩ (.slice Ao16 t376.length co16)) w.heap.size (fun k_=>some k_≠(.slice Ao10 t365.length co10:Value).ownBlock∧some k_≠(.slice Ao15 t373.length co15:Value).ownBlock∧some k_≠(.slice Ao16 t376.length co16:Value).ownBlock) (.slice Ao9 t362.length co9) t362):=⟨by (with_reducible repeat (first|apply rA_|apply rN_|apply rD_));exact Kd.R_mono (Kd.R_far (Kd.R_far (Kd.R_far (Kd.R_far (Kd.R_far (Kd.R_far (Kd.R_types HO364.out BK379.out (by decide)) (fun _ hk=>hk.2) _) (fun _ hk=>hk.2) _) (fun _ hk=>hk.2) _) (fun _ hk=>hk.2) _) (fun _ hk=>hk.2) _) (fun _ hk=>hk.2) _) (fun _ hk=>⟨hk.1.1.1,⟨hk.1.1.2,hk.1.2⟩⟩)⟩
     have n1_:Aside0 (Kd.Q (Kd.int .i64) 3 ((((((w12.setCell ⟨gb379,0,none⟩ (.int .i64 t369)).setCell ⟨gb379,1,none⟩ (.int .i64 t370)).setCell ⟨gb379,2,none⟩ (.int .i64 t371)).setCell ⟨gb379,3,none⟩ (.int .i64 t372)).setCell ⟨gb379,4,none⟩ (.slice Ao15 t373.length co15)).setCell ⟨gb379,5,none⟩ (.slice Ao16 t376.length co16)) w.heap.size (fun k_=>some k_≠(.slice Ao9 t362.length co9:Value).ownBlock∧some k_≠(.slice Ao15 t373.length co15:Value).ownBlock∧some k_≠(.slice Ao16 t376.length co16:Value).ownBlock) (.slice Ao10 t365.length co10) t365):=⟨by (with_reducible repeat (first|apply Kd.Q_alloc|apply Kd.Q_drewN|apply Kd.Q_drew));exact Kd.Q_mono (Kd.Q_far (Kd.Q_far (Kd.Q_far (Kd.Q_far (Kd.Q_far (Kd.Q_far (Kd.Q_types HO367.out BK379.out (by decide)) (fun _ hk=>hk.2) _) (fun _ hk=>hk.2) _) (fun _ hk=>hk.2) _) (fun _ hk=>hk.2) _) (fun _ hk=>hk.2) _) (fun _ hk=>hk.2) _) (fun _ hk=>⟨hk.1.1.1,⟨hk.1.1.2,hk.1.2⟩⟩)⟩
     have n2_:Aside0 (Kd.R (Kd.int .i64) 3 ((((((w12.setCell ⟨gb379,0,none⟩ (.int .i64 t369)).setCell ⟨gb379,1,none⟩ (.int .i64 t370)).setCell ⟨gb379,2,none⟩ (.int .i64 t371)).setCell ⟨gb379,3,none⟩ (.int .i64 t372)).setCell ⟨gb379,4,none⟩ (.slice Ao15 t373.length co15)).setCell ⟨gb379,5,none⟩ (.slice Ao16 t376.length co16)) w.heap.size (fun k_=>some k_≠(.slice Ao9 t362.length co9:Value).ownBlock∧some k_≠(.slice Ao10 t365.length co10:Value).ownBlock∧some k_≠(.slice Ao16 t376.length co16:Value).ownBlock) (.slice Ao15 t373.length co15) t373):=⟨by (with_reducible repeat (first|apply rA_|apply rN_|apply rD_));exact Kd.R_mono (Kd.R_far (Kd.R_far (Kd.R_far (Kd.R_far (Kd.R_far (Kd.R_far (Kd.R_types HO375.out BK379.out (by decide)) (fun _ hk=>hk.2) _) (fun _ hk=>hk.2) _) (fun _ hk=>hk.2) _) (fun _ hk=>hk.2) _) (fun _ hk=>hk.2) _) (fun _ hk=>hk.2) _) (fun _ hk=>⟨hk.1.1.2,⟨hk.1.2,hk.1.1.1⟩⟩)⟩
     have n3_:Aside0 (Kd.R (Kd.int .i64) 3 ((((((w12.setCell ⟨gb379,0,none⟩ (.int .i64 t369)).setCell ⟨gb379,1,none⟩ (.int .i64 t370)).setCell ⟨gb379,2,none⟩ (.int .i64 t371)).setCell ⟨gb379,3,none⟩ (.int .i64 t372)).setCell ⟨gb379,4,none⟩ (.slice Ao15 t373.length co15)).setCell ⟨gb379,5,none⟩ (.slice Ao16 t376.length co16)) w.heap.size (fun k_=>some k_≠(.slice Ao9 t362.length co9:Value).ownBlock∧some k_≠(.slice Ao10 t365.length co10:Value).ownBlock∧some k_≠(.slice Ao15 t373.length co15:Value).ownBlock) (.slice Ao16 t376.length co16) t376):=⟨by (with_reducible repeat (first|apply rA_|apply rN_|apply rD_));exact Kd.R_mono (Kd.R_far (Kd.R_far (Kd.R_far (Kd.R_far (Kd.R_far (Kd.R_far (Kd.R_types HO378.out BK379.out (by decide)) (fun _ hk=>hk.2) _) (fun _ hk=>hk.2) _) (fun _ hk=>hk.2) _) (fun _ hk=>hk.2) _) (fun _ hk=>hk.2) _) (fun _ hk=>hk.2) _) (fun _ hk=>⟨hk.1.1.2,⟨hk.1.2,hk.1.1.1⟩⟩)⟩
     have n4_:Aside0 (((((((w12.setCell ⟨gb379,0,none⟩ (.int .i64 t369)).setCell ⟨gb379,1,none⟩ (.int .i64 t370)).setCell ⟨gb379,2,none⟩ (.int .i64 t371)).setCell ⟨gb379,3,none⟩ (.int .i64 t372)).setCell ⟨gb379,4,none⟩ (.slice Ao15 t373.length co15)).setCell ⟨gb379,5,none⟩ (.slice Ao16 t376.length co16)).heap[gb368]?=some (.cells #[.int .i64 t358,.int .i64 t359,.int .i64 t360,.int .i64 t361,.slice Ao9 t362.length co9,.slice Ao10 t365.length co10] 27 (0,0))):=⟨by (with_reducible repeat (first|apply kN_|apply kD_|apply kA_));refine blk_far ?_ NB368_379.out _;(with_reducible repeat (first|apply kN_|apply kD_|apply kA_));refine blk_far ?_ NB368_379.out _;(with_reducible repeat (first|apply kN_|apply kD_|apply kA_));refine blk_far ?_ NB368_379.out _;(with_reducible repeat (first|apply kN_|apply kD_|apply kA_));refine blk_far ?_ NB368_379.out _;(with_reducible repeat (first|apply kN_|apply kD_|apply kA_));refine blk_far ?_ NB368_379.out _;(with_reducible repeat (first|apply kN_|apply kD_|apply kA_));refine blk_far ?_ NB368_379.out _;(with_reducible repeat (first|apply kN_|apply kD_|apply kA_));exact BK368.out⟩
     have n5_:Aside0 (((((((w12.setCell ⟨gb379,0,none⟩ (.int .i64 t369)).setCell ⟨gb379,1,none⟩ (.int .i64 t370)).setCell ⟨gb379,2,none⟩ (.int .i64 t371)).setCell ⟨gb379,3,none⟩ (.int .i64 t372)).setCell ⟨gb379,4,none⟩ (.slice Ao15 t373.length co15)).setCell ⟨gb379,5,none⟩ (.slice Ao16 t376.length co16)).heap[gb379]?=some (.cells #[.int .i64 t369,.int .i64 t370,.int .i64 t371,.int .i64 t372,.slice Ao15 t373.length co15,.slice Ao16 t376.length co16] 27 (0,0))):=⟨by (with_reducible repeat (first|apply kN_|apply kD_|apply kA_));refine blk_put (cs:=#[.int .i64 t369,.int .i64 t370,.int .i64 t371,.int .i64 t372,.slice Ao15 t373.length co15,.slice none 0 0]) ?_ 5 _ rfl;(with_reducible repeat (first|apply kN_|apply kD_|apply kA_));refine blk_put (cs:=#[.int .i64 t369,.int .i64 t370,.int .i64 t371,.int .i64 t372,.slice none 0 0,.slice none 0 0]) ?_ 4 _ rfl;(with_reducible repeat (first|apply kN_|apply kD_|apply kA_));refine blk_put (cs:=#[.int .i64 t369,.int .i64 t370,.int .i64 t371,.int .i64 0,.slice none 0 0,.slice none 0 0]) ?_ 3 _ rfl;(with_reducible repeat (first|apply kN_|apply kD_|apply kA_));refine blk_put (cs:=#[.int .i64 t369,.int .i64 t370,.int .i64 0,.int .i64 0,.slice none 0 0,.slice none 0 0]) ?_ 2 _ rfl;(with_reducible repeat (first|apply kN_|apply kD_|apply kA_));refine blk_put (cs:=#[.int .i64 t369,.int .i64 0,.int .i64 0,.int .i64 0,.slice none 0 0,.slice none 0 0]) ?_ 1 _ rfl;(with_reducible repeat (first|apply kN_|apply kD_|apply kA_));refine blk_put (cs:=#[.int .i64 0,.int .i64 0,.int .i64 0,.int .i64 0,.slice none 0 0,.slice none 0 0]) ?_ 0 _ rfl;(with_reducible repeat (first|apply kN_|apply kD_|apply kA_));exact BK379.out⟩
     have n6_:Aside0 (Below w.heap.size w ((((((w12.setCell ⟨gb379,0,none⟩ (.int .i64 t369)).setCell ⟨gb379,1,none⟩ (.int .i64 t370)).setCell ⟨gb379,2,none⟩ (.int .i64 t371)).setCell ⟨gb379,3,none⟩ (.int .i64 t372)).setCell ⟨gb379,4,none⟩ (.slice Ao15 t373.length co15)).setCell ⟨gb379,5,none⟩ (.slice Ao16 t376.length co16))):=⟨by repeat (first|(with_reducible first|exact HB.out|apply wA_|apply wN_|apply wD_|refine below_set ?_ GE368.out|refine below_set ?_ GE379.out)|exact HB.out)⟩
     (try clear HO364)
     (try clear HO367)
     (try clear HO375)
     (try clear HO378)
     (try clear BK368)
     (try clear BK379)
     (try clear HB)
     generalize ((((((w12.setCell ⟨gb379,0,none⟩ (.int .i64 t369)).setCell ⟨gb379,1,none⟩ (.int .i64 t370)).setCell ⟨gb379,2,none⟩ (.int .i64 t371)).setCell ⟨gb379,3,none⟩ (.int .i64 t372)).setCell ⟨gb379,4,none⟩ (.slice Ao15 t373.length co15)).setCell ⟨gb379,5,none⟩ (.slice Ao16 t376.length co16))=w23 at n0_ n1_ n2_ n3_ n4_ n5_ n6_ ⊢
     have HO364:=n0_
     have HO367:=n1_
     have HO375:=n2_
     have HO378:=n3_
     have BK368:=n4_
     have BK379:=n5_
     have HB:=n6_
     clear n0_ n1_ n2_ n3_ n4_ n5_ n6_
     have n0_:=aM_ (rD_ HO364.out)
     have n1_:=aM_ (Kd.Q_drew HO367.out)
     have n2_:=aM_ (rD_ HO375.out)
     have n3_:=aM_ (rD_ HO378.out)
     have n4_:=aM_ (kD_ BK368.out)
     have n5_:=aM_ (kD_ BK379.out)
     have n6_:=aM_ (wD_ HB.out)
     clear HO364
     clear HO367
     clear HO375
     clear HO378
     clear BK368
     clear BK379
     clear HB
     have HO364:=n0_
     have HO367:=n1_
     have HO375:=n2_
     have HO378:=n3_
     have BK368:=n4_
     have BK379:=n5_
     have HB:=n6_
     clear n0_ n1_ n2_ n3_ n4_ n5_ n6_
     refine start_ (n:=17) (S:=fun w'=>w'.cell? ⟨gb379,0,none⟩=some (.int .i64 t369)∧w'.cell? ⟨gb379,1,none⟩=some (.int .i64 t370)∧w'.cell? ⟨gb379,2,none⟩=some (.int .i64 t371)∧w'.cell? ⟨gb379,3,none⟩=some (.int .i64 t372)∧w'.cell? ⟨gb379,4,none⟩=some (.slice Ao15 t373.length co15)∧w'.cell? ⟨gb379,5,none⟩=some (.slice Ao16 t376.length co16)∧w'.cell? ⟨gb368,0,none⟩=some (.int .i64 t358)∧w'.cell? ⟨gb368,1,none⟩=some (.int .i64 t359)∧w'.cell? ⟨gb368,2,none⟩=some (.int .i64 t360)∧w'.cell? ⟨gb368,3,none⟩=some (.int .i64 t361)∧w'.cell? ⟨gb368,4,none⟩=some (.slice Ao9 t362.length co9)∧w'.cell? ⟨gb368,5,none⟩=some (.slice Ao10 t365.length co10)) (ds:=[]) #[false,false,false,false,false,false,false,false,false,false,false,false,false,false,false,false,false] (by kernel_rfl) rfl rfl (bc12 BK379.out BK368.out) (fun hHeld=>?_);refine with_tabW laws_FnImageTurn.tab5 laws_FnImageTurn.bits5 (fun HT_ HW_=>?_)
     generalize w23.drew=w24 at HO364 HO367 HO375 HO378 BK368 BK379 HB hHeld ⊢
     refine take_ (i:=0) (N:=some 14) (v:=?_) (a':=?_) #[true,false,false,false,false,false,false,false,false,false,false,false,false,false,false,false,false] rfl rfl (take_ofW HT_.out HW_.out (by kernel_rfl)) (fun _ _ _ h=>h) (Or.inl ⟨by rfl,?_⟩) hHeld ?_ ?_
     rotate_left
     ·rintro w' ⟨s0,s1,s2,s3,s4,s5,s6,s7,s8,s9,s10,s11⟩
      go_simp
      with_reducible rfl
     rotate_left
     ·simp only [Act.put,sA_,s0_,s1_,i64_w,i32_w]
      rfl
     refine take_ (i:=1) (N:=some 15) (v:=?_) (a':=?_) #[true,true,false,false,false,false,false,false,false,false,false,false,false,false,false,false,false] rfl rfl (take_ofW HT_.out HW_.out (by kernel_rfl)) (fun _ _ _ h=>h) (Or.inl ⟨by rfl,?_⟩) hHeld ?_ ?_
     rotate_left
     ·rintro w' ⟨s0,s1,s2,s3,s4,s5,s6,s7,s8,s9,s10,s11⟩
      go_simp
      with_reducible rfl
     rotate_left
     ·simp only [Act.put,sA_,s0_,s1_,i64_w,i32_w]
      rfl
     refine one_ (i:=2) (N:=some 16) #[true,true,true,false,false,false,false,false,false,false,false,false,false,false,false,false,false] rfl rfl (one_of HT_.out (by kernel_rfl)) (by decide) (fun K hK=>?_)
     refine goes_ Try.func30 (by kernel_rfl) rfl #[.agg #[.int .i64 t358,.int .i64 t359,.int .i64 t360,.int .i64 t361,.slice Ao9 t362.length co9,.slice Ao10 t365.length co10]] (by rfl) rfl rfl (by (try simp only [List.map_toArray,List.map_cons,List.map_nil]);first|done|rfl|(simp only [List.length_drop,List.length_take];rfl)) ?_
     with_reducible refine (spec_ImageTurn.calls k t358 t359 t360 t361 _ _ t362 _ _ t365 t380 t381 t382 t383 t384 t387 _ ?side1 ?side2 ?side3 ?side4 A17.out).mono ?_
     (case side1=>repeat (first|exact (Kd.R_reads' HO364.out).2.2|(with_reducible refine Kd.C_alloc ?_ _)|(with_reducible refine Kd.C_drewN ?_ _)|(with_reducible refine Kd.C_drew ?_)))
     (case side2=>exact (Kd.R_reads' HO364.out).2.1)
     (case side3=>repeat (first|exact (Kd.Q_reads' HO367.out).2.2|(with_reducible refine Kd.C_alloc ?_ _)|(with_reducible refine Kd.C_drewN ?_ _)|(with_reducible refine Kd.C_drew ?_)))
     (case side4=>exact (Kd.Q_reads' HO367.out).2.1)
     rintro e w25 ⟨v385,v388,rfl,ho0,ho1,hb⟩
     refine ⟨_,rfl,?_⟩
     have n0_:=aM_ (Kd.R_mono (Kd.R_told (Kd.R_told (Kd.R_old (by (with_reducible repeat (first|apply rA_|apply rN_|apply rD_));exact HO364.out) hb) (Kd.R_base ho0)) (Kd.R_base ho1)) (fun _ h_=>h_.1))
     have n1_:=aM_ (Kd.Q_mono (Kd.Q_told (Kd.Q_told (Kd.Q_old (by (with_reducible repeat (first|apply Kd.Q_alloc|apply Kd.Q_drewN|apply Kd.Q_drew));exact HO367.out) hb) (Kd.R_base ho0)) (Kd.R_base ho1)) (fun _ h_=>h_.1))
     have n2_:=aM_ (Kd.R_mono (Kd.R_told (Kd.R_told (Kd.R_old (by (with_reducible repeat (first|apply rA_|apply rN_|apply rD_));exact HO375.out) hb) (Kd.R_base ho0)) (Kd.R_base ho1)) (fun _ h_=>h_.1))
     have n3_:=aM_ (Kd.R_mono (Kd.R_told (Kd.R_told (Kd.R_old (by (with_reducible repeat (first|apply rA_|apply rN_|apply rD_));exact HO378.out) hb) (Kd.R_base ho0)) (Kd.R_base ho1)) (fun _ h_=>h_.1))
     have n4_:=aM_ (Kd.R_lower (Kd.R_new' (Kd.R_new' (Kd.R_new' (Kd.R_new' ho0 (Kd.R_lt (by (with_reducible repeat (first|apply rA_|apply rN_|apply rD_));exact HO364.out))) (Kd.Q_lt (by (with_reducible repeat (first|apply Kd.Q_alloc|apply Kd.Q_drewN|apply Kd.Q_drew));exact HO367.out))) (Kd.R_lt (by (with_reducible repeat (first|apply rA_|apply rN_|apply rD_));exact HO375.out))) (Kd.R_lt (by (with_reducible repeat (first|apply rA_|apply rN_|apply rD_));exact HO378.out))) (below_size (by repeat (first|(with_reducible first|exact HB.out|apply wA_|apply wN_|apply wD_|refine below_set ?_ GE368.out|refine below_set ?_ GE379.out)|exact HB.out))))
     have n5_:=aM_ (Kd.R_lower (Kd.R_new' (Kd.R_new' (Kd.R_new' (Kd.R_new' ho1 (Kd.R_lt (by (with_reducible repeat (first|apply rA_|apply rN_|apply rD_));exact HO364.out))) (Kd.Q_lt (by (with_reducible repeat (first|apply Kd.Q_alloc|apply Kd.Q_drewN|apply Kd.Q_drew));exact HO367.out))) (Kd.R_lt (by (with_reducible repeat (first|apply rA_|apply rN_|apply rD_));exact HO375.out))) (Kd.R_lt (by (with_reducible repeat (first|apply rA_|apply rN_|apply rD_));exact HO378.out))) (below_size (by repeat (first|(with_reducible first|exact HB.out|apply wA_|apply wN_|apply wD_|refine below_set ?_ GE368.out|refine below_set ?_ GE379.out)|exact HB.out))))
     have n6_:=aM_ (blk_below (g:=gb368) (by (with_reducible repeat (first|apply kN_|apply kD_|apply kA_));exact BK368.out) hb)
     have n7_:=aM_ (blk_below (g:=gb379) (by (with_reducible repeat (first|apply kN_|apply kD_|apply kA_));exact BK379.out) hb)
     have n8_:=aM_ (below_step (by repeat (first|(with_reducible first|exact HB.out|apply wA_|apply wN_|apply wD_|refine below_set ?_ GE368.out|refine below_set ?_ GE379.out)|exact HB.out)) hb)
     clear HO364
     clear HO367
     clear HO375
     clear HO378
     clear BK368
     clear BK379
     clear HB
     have HO364:=n0_
     have HO367:=n1_
     have HO375:=n2_
     have HO378:=n3_
     have HO386:=n4_
     have HO389:=n5_
     have BK368:=n6_
     have BK379:=n7_
     have HB:=n8_
     clear n0_ n1_ n2_ n3_ n4_ n5_ n6_ n7_ n8_
     (try clear hb)
     (try clear hb2)
     (try clear hk)
     (try clear hi)
     (try clear ho0)
     (try clear ho1)
     obtain ⟨Ao26,co26,eo26⟩:=Kd.R_slice HO386.out
     (first|subst eo26|(injection eo26 with f1_ f2_ f3_;have f4_:=f1_.symm;have f5_:=f3_.symm;clear f1_ f2_ f3_;subst f4_;subst f5_))
     obtain ⟨Ao27,co27,eo27⟩:=Kd.R_slice HO389.out
     (first|subst eo27|(injection eo27 with f1_ f2_ f3_;have f4_:=f1_.symm;have f5_:=f3_.symm;clear f1_ f2_ f3_;subst f4_;subst f5_))
     refine hK.out _ _ (bc12 BK379.out BK368.out) (fun hHeld=>?_)
     clear hK K
     refine norm_ (a':=?_) ?_ ?_
     rotate_left
     ·show Act.put _ (some 16) _=_
      simp only [Act.put,sA_,s0_,s1_,i64_w,i32_w]
      rfl
     refine one_ (i:=3) (N:=some 17) #[true,true,true,true,false,false,false,false,false,false,false,false,false,false,false,false,false] rfl rfl (one_of HT_.out (by kernel_rfl)) (by decide) (fun K hK=>?_)
     refine goes_ Try.func39 (by kernel_rfl) rfl #[.agg #[.int .i64 t369,.int .i64 t370,.int .i64 t371,.int .i64 t372,.slice Ao15 t373.length co15,.slice Ao16 t376.length co16],.agg #[.int .i64 t380,.int .i64 t381,.int .i64 t382,.int .i64 t383,.slice Ao26 t384.length co26,.slice Ao27 t387.length co27]] (by rfl) rfl rfl (by (try simp only [List.map_toArray,List.map_cons,List.map_nil]);first|done|rfl|(simp only [List.length_drop,List.length_take];rfl)) ?_
     with_reducible refine (laws_wiImage.calls k t369 t370 t371 t372 _ _ t373 _ _ t376 t380 t381 t382 t383 _ _ t384 _ _ t387 true _ ?side1 ?side2 ?side3 ?side4 ?side5 ?side6 ?side7 ?side8 A18.out).mono ?_
     (case side1=>repeat (first|exact (Kd.R_reads' HO375.out).2.2|(with_reducible refine Kd.C_alloc ?_ _)|(with_reducible refine Kd.C_drewN ?_ _)|(with_reducible refine Kd.C_drew ?_)))
     (case side2=>exact (Kd.R_reads' HO375.out).2.1)
     (case side3=>repeat (first|exact (Kd.R_reads' HO378.out).2.2|(with_reducible refine Kd.C_alloc ?_ _)|(with_reducible refine Kd.C_drewN ?_ _)|(with_reducible refine Kd.C_drew ?_)))
     (case side4=>exact (Kd.R_reads' HO378.out).2.1)
     (case side5=>repeat (first|exact (Kd.R_reads' HO386.out).2.2|(with_reducible refine Kd.C_alloc ?_ _)|(with_reducible refine Kd.C_drewN ?_ _)|(with_reducible refine Kd.C_drew ?_)))
     (case side6=>exact (Kd.R_reads' HO386.out).2.1)
     (case side7=>repeat (first|exact (Kd.R_reads' HO389.out).2.2|(with_reducible refine Kd.C_alloc ?_ _)|(with_reducible refine Kd.C_drewN ?_ _)|(with_reducible refine Kd.C_drew ?_)))
     (case side8=>exact (Kd.R_reads' HO389.out).2.1)
     rintro e w28 ⟨rfl,hb⟩
     refine ⟨_,rfl,?_⟩
     have n0_:=aM_ (Kd.R_below (by (with_reducible repeat (first|apply rA_|apply rN_|apply rD_));exact HO364.out) hb)
     have n1_:=aM_ (Kd.Q_below (by (with_reducible repeat (first|apply Kd.Q_alloc|apply Kd.Q_drewN|apply Kd.Q_drew));exact HO367.out) hb)
     have n2_:=aM_ (Kd.R_below (by (with_reducible repeat (first|apply rA_|apply rN_|apply rD_));exact HO375.out) hb)
     have n3_:=aM_ (Kd.R_below (by (with_reducible repeat (first|apply rA_|apply rN_|apply rD_));exact HO378.out) hb)
     have n4_:=aM_ (Kd.R_below (by (with_reducible repeat (first|apply rA_|apply rN_|apply rD_));exact HO386.out) hb)
     have n5_:=aM_ (Kd.R_below (by (with_reducible repeat (first|apply rA_|apply rN_|apply rD_));exact HO389.out) hb)
     have n6_:=aM_ (blk_below (g:=gb368) (by (with_reducible repeat (first|apply kN_|apply kD_|apply kA_));exact BK368.out) hb)
     have n7_:=aM_ (blk_below (g:=gb379) (by (with_reducible repeat (first|apply kN_|apply kD_|apply kA_));exact BK379.out) hb)
     have n8_:=aM_ (below_step (by repeat (first|(with_reducible first|exact HB.out|apply wA_|apply wN_|apply wD_|refine below_set ?_ GE368.out|refine below_set ?_ GE379.out)|exact HB.out)) hb)
     clear HO364
     clear HO367
     clear HO375
     clear HO378
     clear HO386
     clear HO389
     clear BK368
     clear BK379
     clear HB
     have HO364:=n0_
     have HO367:=n1_
     have HO375:=n2_
     have HO378:=n3_
     have HO386:=n4_
     have HO389:=n5_
     have BK368:=n6_
     have BK379:=n7_
     have HB:=n8_
     clear n0_ n1_ n2_ n3_ n4_ n5_ n6_ n7_ n8_
     (try clear hb)
     (try clear hb2)
     (try clear hk)
     (try clear hi)
     refine hK.out _ _ (bc12 BK379.out BK368.out) (fun hHeld=>?_)
     clear hK K
     refine norm_ (a':=?_) ?_ ?_
     rotate_left
     ·show Act.put _ (some 17) _=_
      simp only [Act.put,sA_,s0_,s1_,i64_w,i32_w]
      rfl
     refine pure_ (i:=4) (N:=some 18) (v:=?_) (a':=?_) #[true,true,true,true,true,false,false,false,false,false,false,false,false,false,false,false,false] rfl rfl (any_of HT_.out (by kernel_rfl)) (fun _ _ _ h=>h) (Or.inl ⟨by rfl,?_⟩) ?_ ?_
     rotate_left
     ·intro w'
      go_simp
      with_reducible rfl
     rotate_left
     ·simp only [Act.put,sA_,s0_,s1_,i64_w,i32_w]
      rfl
     refine pure_ (i:=5) (N:=some 19) (v:=?_) (a':=?_) #[true,true,true,true,true,true,false,false,false,false,false,false,false,false,false,false,false] rfl rfl (any_of HT_.out (by kernel_rfl)) (fun _ _ _ h=>h) (Or.inl ⟨by rfl,?_⟩) ?_ ?_
     rotate_left
     ·intro w'
      go_simp
      with_reducible rfl
     rotate_left
     ·simp only [Act.put,sA_,s0_,s1_,i64_w,i32_w]
      rfl
     refine take_ (i:=6) (N:=some 20) (v:=?_) (a':=?_) #[true,true,true,true,true,true,true,false,false,false,false,false,false,false,false,false,false] rfl rfl (take_ofW HT_.out HW_.out (by kernel_rfl)) (fun _ _ _ h=>h) (Or.inl ⟨by rfl,?_⟩) hHeld ?_ ?_
     rotate_left
     ·rintro w' ⟨s0,s1,s2,s3,s4,s5,s6,s7,s8,s9,s10,s11⟩
      go_simp
      with_reducible rfl
     rotate_left
     ·simp only [Act.put,sA_,s0_,s1_,i64_w,i32_w]
      rfl
     refine take_ (i:=8) (N:=some 22) (v:=?_) (a':=?_) #[true,true,true,true,true,true,true,false,true,false,false,false,false,false,false,false,false] rfl rfl (take_ofW HT_.out HW_.out (by kernel_rfl)) (fun _ _ _ h=>h) (Or.inl ⟨by rfl,?_⟩) hHeld ?_ ?_
     rotate_left
     ·rintro w' ⟨s0,s1,s2,s3,s4,s5,s6,s7,s8,s9,s10,s11⟩
      go_simp
      with_reducible rfl
     rotate_left
     ·simp only [Act.put,sA_,s0_,s1_,i64_w,i32_w]
      rfl
     refine one_ (i:=7) (N:=some 21) #[true,true,true,true,true,true,true,true,true,false,false,false,false,false,false,false,false] rfl rfl (one_of HT_.out (by kernel_rfl)) (by decide) (fun K hK=>?_)
     refine goes_ Try.func18 (by kernel_rfl) rfl #[.agg #[.int .i64 t358,.int .i64 t359,.int .i64 t360,.int .i64 t361,.slice Ao9 t362.length co9,.slice Ao10 t365.length co10]] (by rfl) rfl rfl (by (try simp only [List.map_toArray,List.map_cons,List.map_nil]);first|done|rfl|(simp only [List.length_drop,List.length_take];rfl)) ?_
     with_reducible refine (impl_ImageOk.calls k t358 t359 t360 t361 _ _ t362 _ _ t365 t391 _ ?side1 ?side2 ?side3 ?side4 A20.out).mono ?_
     (case side1=>repeat (first|exact (Kd.R_reads' HO364.out).2.2|(with_reducible refine Kd.C_alloc ?_ _)|(with_reducible refine Kd.C_drewN ?_ _)|(with_reducible refine Kd.C_drew ?_)))
     (case side2=>exact (Kd.R_reads' HO364.out).2.1)
     (case side3=>repeat (first|exact (Kd.Q_reads' HO367.out).2.2|(with_reducible refine Kd.C_alloc ?_ _)|(with_reducible refine Kd.C_drewN ?_ _)|(with_reducible refine Kd.C_drew ?_)))
     (case side4=>exact (Kd.Q_reads' HO367.out).2.1)
     rintro e w29 ⟨rfl,hb⟩
     refine ⟨_,rfl,?_⟩
     have n0_:=aM_ (Kd.R_below (by (with_reducible repeat (first|apply rA_|apply rN_|apply rD_));exact HO364.out) hb)
     have n1_:=aM_ (Kd.Q_below (by (with_reducible repeat (first|apply Kd.Q_alloc|apply Kd.Q_drewN|apply Kd.Q_drew));exact HO367.out) hb)
     have n2_:=aM_ (Kd.R_below (by (with_reducible repeat (first|apply rA_|apply rN_|apply rD_));exact HO375.out) hb)
     have n3_:=aM_ (Kd.R_below (by (with_reducible repeat (first|apply rA_|apply rN_|apply rD_));exact HO378.out) hb)
     have n4_:=aM_ (Kd.R_below (by (with_reducible repeat (first|apply rA_|apply rN_|apply rD_));exact HO386.out) hb)
     have n5_:=aM_ (Kd.R_below (by (with_reducible repeat (first|apply rA_|apply rN_|apply rD_));exact HO389.out) hb)
     have n6_:=aM_ (blk_below (g:=gb368) (by (with_reducible repeat (first|apply kN_|apply kD_|apply kA_));exact BK368.out) hb)
     have n7_:=aM_ (blk_below (g:=gb379) (by (with_reducible repeat (first|apply kN_|apply kD_|apply kA_));exact BK379.out) hb)
     have n8_:=aM_ (below_step (by repeat (first|(with_reducible first|exact HB.out|apply wA_|apply wN_|apply wD_|refine below_set ?_ GE368.out|refine below_set ?_ GE379.out)|exact HB.out)) hb)
     clear HO364
     clear HO367
     clear HO375
     clear HO378
     clear HO386
     clear HO389
     clear BK368
     clear BK379
     clear HB
     have HO364:=n0_
     have HO367:=n1_
     have HO375:=n2_
     have HO378:=n3_
     have HO386:=n4_
     have HO389:=n5_
     have BK368:=n6_
     have BK379:=n7_
     have HB:=n8_
     clear n0_ n1_ n2_ n3_ n4_ n5_ n6_ n7_ n8_
     (try clear hb)
     (try clear hb2)
     (try clear hk)
     (try clear hi)
     refine hK.out _ _ (bc12 BK379.out BK368.out) (fun hHeld=>?_)
     clear hK K
     refine norm_ (a':=?_) ?_ ?_
     rotate_left
     ·show Act.put _ (some 21) _=_
      simp only [Act.put,sA_,s0_,s1_,i64_w,i32_w]
      rfl
     refine one_ (i:=9) (N:=some 23) #[true,true,true,true,true,true,true,true,true,true,false,false,false,false,false,false,false] rfl rfl (one_of HT_.out (by kernel_rfl)) (by decide) (fun K hK=>?_)
     refine goes_ Try.func16 (by kernel_rfl) rfl #[.agg #[.int .i64 t358,.int .i64 t359,.int .i64 t360,.int .i64 t361,.slice Ao9 t362.length co9,.slice Ao10 t365.length co10]] (by rfl) rfl rfl (by (try simp only [List.map_toArray,List.map_cons,List.map_nil]);first|done|rfl|(simp only [List.length_drop,List.length_take];rfl)) ?_
     with_reducible refine (spec_ImageOk.calls k t358 t359 t360 t361 _ _ t362 _ _ t365 t392 _ ?side1 ?side2 ?side3 ?side4 A21.out).mono ?_
     (case side1=>repeat (first|exact (Kd.R_reads' HO364.out).2.2|(with_reducible refine Kd.C_alloc ?_ _)|(with_reducible refine Kd.C_drewN ?_ _)|(with_reducible refine Kd.C_drew ?_)))
     (case side2=>exact (Kd.R_reads' HO364.out).2.1)
     (case side3=>repeat (first|exact (Kd.Q_reads' HO367.out).2.2|(with_reducible refine Kd.C_alloc ?_ _)|(with_reducible refine Kd.C_drewN ?_ _)|(with_reducible refine Kd.C_drew ?_)))
     (case side4=>exact (Kd.Q_reads' HO367.out).2.1)
     rintro e w30 ⟨rfl,hb⟩
     refine ⟨_,rfl,?_⟩
     have n0_:=aM_ (Kd.R_below (by (with_reducible repeat (first|apply rA_|apply rN_|apply rD_));exact HO364.out) hb)
     have n1_:=aM_ (Kd.Q_below (by (with_reducible repeat (first|apply Kd.Q_alloc|apply Kd.Q_drewN|apply Kd.Q_drew));exact HO367.out) hb)
     have n2_:=aM_ (Kd.R_below (by (with_reducible repeat (first|apply rA_|apply rN_|apply rD_));exact HO375.out) hb)
     have n3_:=aM_ (Kd.R_below (by (with_reducible repeat (first|apply rA_|apply rN_|apply rD_));exact HO378.out) hb)
     have n4_:=aM_ (Kd.R_below (by (with_reducible repeat (first|apply rA_|apply rN_|apply rD_));exact HO386.out) hb)
     have n5_:=aM_ (Kd.R_below (by (with_reducible repeat (first|apply rA_|apply rN_|apply rD_));exact HO389.out) hb)
     have n6_:=aM_ (blk_below (g:=gb368) (by (with_reducible repeat (first|apply kN_|apply kD_|apply kA_));exact BK368.out) hb)
     have n7_:=aM_ (blk_below (g:=gb379) (by (with_reducible repeat (first|apply kN_|apply kD_|apply kA_));exact BK379.out) hb)
     have n8_:=aM_ (below_step (by repeat (first|(with_reducible first|exact HB.out|apply wA_|apply wN_|apply wD_|refine below_set ?_ GE368.out|refine below_set ?_ GE379.out)|exact HB.out)) hb)
     clear HO364
     clear HO367
     clear HO375
     clear HO378
     clear HO386
     clear HO389
     clear BK368
     clear BK379
     clear HB
     have HO364:=n0_
     have HO367:=n1_
     have HO375:=n2_
     have HO378:=n3_
     have HO386:=n4_
     have HO389:=n5_
     have BK368:=n6_
     have BK379:=n7_
     have HB:=n8_
     clear n0_ n1_ n2_ n3_ n4_ n5_ n6_ n7_ n8_
     (try clear hb)
     (try clear hb2)
     (try clear hk)
     (try clear hi)
     refine hK.out _ _ (bc12 BK379.out BK368.out) (fun hHeld=>?_)
     clear hK K
     refine norm_ (a':=?_) ?_ ?_
     rotate_left
     ·show Act.put _ (some 23) _=_
      simp only [Act.put,sA_,s0_,s1_,i64_w,i32_w]
      rfl
     refine pure_ (i:=10) (N:=some 24) (v:=?_) (a':=?_) #[true,true,true,true,true,true,true,true,true,true,true,false,false,false,false,false,false] rfl rfl (any_of HT_.out (by kernel_rfl)) (fun _ _ _ h=>h) (Or.inl ⟨by rfl,?_⟩) ?_ ?_
     rotate_left
     ·intro w'
      go_simp
      with_reducible rfl
     rotate_left
     ·simp only [Act.put,sA_,s0_,s1_,i64_w,i32_w]
      rfl
     refine pure_ (i:=11) (N:=some 25) (v:=?_) (a':=?_) #[true,true,true,true,true,true,true,true,true,true,true,true,false,false,false,false,false] rfl rfl (any_of HT_.out (by kernel_rfl)) (fun _ _ _ h=>h) (Or.inl ⟨by rfl,?_⟩) ?_ ?_
     rotate_left
     ·intro w'
      go_simp
      with_reducible rfl
     rotate_left
     ·simp only [Act.put,sA_,s0_,s1_,i64_w,i32_w]
      rfl
     refine pure_ (i:=12) (N:=some 26) (v:=?_) (a':=?_) #[true,true,true,true,true,true,true,true,true,true,true,true,true,false,false,false,false] rfl rfl (any_of HT_.out (by kernel_rfl)) (fun _ _ _ h=>h) (Or.inl ⟨by rfl,?_⟩) ?_ ?_
     rotate_left
     ·intro w'
      go_simp
      with_reducible rfl
     rotate_left
     ·simp only [Act.put,sA_,s0_,s1_,i64_w,i32_w]
      rfl
     refine pure_ (i:=13) (N:=some 27) (v:=undef) (a':=?_) #[true,true,true,true,true,true,true,true,true,true,true,true,true,true,false,false,false] rfl rfl (any_of HT_.out (by kernel_rfl)) (fun _ _ _ h=>h) (Or.inr ⟨by rfl,rfl⟩) ?_ ?_
     rotate_left
     ·simp only [Act.put,sA_,s0_,s1_,i64_w,i32_w]
      rfl
     refine pure_ (i:=14) (N:=some 28) (v:=undef) (a':=?_) #[true,true,true,true,true,true,true,true,true,true,true,true,true,true,true,false,false] rfl rfl (any_of HT_.out (by kernel_rfl)) (fun _ _ _ h=>h) (Or.inr ⟨by rfl,rfl⟩) ?_ ?_
     rotate_left
     ·simp only [Act.put,sA_,s0_,s1_,i64_w,i32_w]
      rfl
     refine pure_ (i:=15) (N:=some 29) (v:=undef) (a':=?_) #[true,true,true,true,true,true,true,true,true,true,true,true,true,true,true,true,false] rfl rfl (any_of HT_.out (by kernel_rfl)) (fun _ _ _ h=>h) (Or.inr ⟨by rfl,rfl⟩) ?_ ?_
     rotate_left
     ·simp only [Act.put,sA_,s0_,s1_,i64_w,i32_w]
      rfl
     refine pure_ (i:=16) (N:=some 30) (v:=?_) (a':=?_) #[true,true,true,true,true,true,true,true,true,true,true,true,true,true,true,true,true] rfl rfl (any_of HT_.out (by kernel_rfl)) (fun _ _ _ h=>h) (Or.inl ⟨by rfl,?_⟩) ?_ ?_
     rotate_left
     ·intro w'
      go_simp
      with_reducible rfl
     rotate_left
     ·simp only [Act.put,sA_,s0_,s1_,i64_w,i32_w]
      rfl
     refine done_ (done_of HT_.out (by kernel_rfl)) ?_
     try go_wp2
     go_meet
     case rel=>exact ⟨_,(true),(by first|rfl|(simp;done)|(simp [*];done)),H',⟨by first|omega|exact Nat.le_refl _⟩,⟨by (with_reducible repeat (first|apply rA_|apply rN_|apply rD_));exact Kd.R_mono HO364.out (fun _ hk=>⟨hk.1.1.1,⟨hk.1.1.2.1,hk.1.1.2.2⟩⟩)⟩,⟨by (with_reducible repeat (first|apply Kd.Q_alloc|apply Kd.Q_drewN|apply Kd.Q_drew));exact Kd.Q_mono HO367.out (fun _ hk=>⟨hk.1.1.1,⟨hk.1.1.2.1,hk.1.1.2.2⟩⟩)⟩,⟨by (with_reducible repeat (first|apply rA_|apply rN_|apply rD_));exact Kd.R_mono HO375.out (fun _ hk=>⟨hk.1.1.1,⟨hk.1.1.2.1,hk.1.1.2.2⟩⟩)⟩,⟨Kd.Q_of_R (by (with_reducible repeat (first|apply rA_|apply rN_|apply rD_));exact Kd.R_mono HO378.out (fun _ hk=>⟨hk.1.1.1,⟨hk.1.1.2.1,hk.1.1.2.2⟩⟩))⟩,⟨by (with_reducible repeat (first|apply kN_|apply kD_|apply kA_));exact BK368.out⟩,⟨by (with_reducible repeat (first|apply kN_|apply kD_|apply kA_));exact BK379.out⟩,⟨by repeat (first|(with_reducible first|exact HB.out|apply wA_|apply wN_|apply wD_|refine below_set ?_ GE368.out|refine below_set ?_ GE379.out)|exact HB.out)⟩⟩
    ·rw [if_neg c22] at H
     have c22b0:(t391 != t392)=false:=by simpa using c22
     (try (have c22b1:decide (t391=t392)=true:=by simpa using c22))
     (try (have c22b2:(t391 == t392)=true:=by simpa using c22))
     clear c22
     (first|rw [c22b0]|(simp only [i64_w,i32_w];rw [c22b0])|skip)
     replace H:=Option.bind_eq_some_iff.mp H
     obtain ⟨t393,A310,H⟩:=H
     replace H:(laws_FnImageTurn.j0 k (!t393) t358 t359 t360 t361 t362 t365 t369 t370 t371 t372 t373 t376)=some true:=H
     have A31:=aM_ A310
     clear A310
     have H':=aM_ H
     clear H
     try go_wp2
     have n0_:Aside0 (Kd.R (Kd.int .i64) 3 ((((((w12.setCell ⟨gb379,0,none⟩ (.int .i64 t369)).setCell ⟨gb379,1,none⟩ (.int .i64 t370)).setCell ⟨gb379,2,none⟩ (.int .i64 t371)).setCell ⟨gb379,3,none⟩ (.int .i64 t372)).setCell ⟨gb379,4,none⟩ (.slice Ao15 t373.length co15)).setCell ⟨gb379,5,none⟩ (.slice Ao16 t376.length co16)) w.heap.size (fun k_=>some k_≠(.slice Ao10 t365.length co10:Value).ownBlock∧some k_≠(.slice Ao15 t373.length co15:Value).ownBlock∧some k_≠(.slice Ao16 t376.length co16:Value).ownBlock) (.slice Ao9 t362.length co9) t362):=⟨by (with_reducible repeat (first|apply rA_|apply rN_|apply rD_));exact Kd.R_mono (Kd.R_far (Kd.R_far (Kd.R_far (Kd.R_far (Kd.R_far (Kd.R_far (Kd.R_types HO364.out BK379.out (by decide)) (fun _ hk=>hk.2) _) (fun _ hk=>hk.2) _) (fun _ hk=>hk.2) _) (fun _ hk=>hk.2) _) (fun _ hk=>hk.2) _) (fun _ hk=>hk.2) _) (fun _ hk=>⟨hk.1.1.1,⟨hk.1.1.2,hk.1.2⟩⟩)⟩
     have n1_:Aside0 (Kd.Q (Kd.int .i64) 3 ((((((w12.setCell ⟨gb379,0,none⟩ (.int .i64 t369)).setCell ⟨gb379,1,none⟩ (.int .i64 t370)).setCell ⟨gb379,2,none⟩ (.int .i64 t371)).setCell ⟨gb379,3,none⟩ (.int .i64 t372)).setCell ⟨gb379,4,none⟩ (.slice Ao15 t373.length co15)).setCell ⟨gb379,5,none⟩ (.slice Ao16 t376.length co16)) w.heap.size (fun k_=>some k_≠(.slice Ao9 t362.length co9:Value).ownBlock∧some k_≠(.slice Ao15 t373.length co15:Value).ownBlock∧some k_≠(.slice Ao16 t376.length co16:Value).ownBlock) (.slice Ao10 t365.length co10) t365):=⟨by (with_reducible repeat (first|apply Kd.Q_alloc|apply Kd.Q_drewN|apply Kd.Q_drew));exact Kd.Q_mono (Kd.Q_far (Kd.Q_far (Kd.Q_far (Kd.Q_far (Kd.Q_far (Kd.Q_far (Kd.Q_types HO367.out BK379.out (by decide)) (fun _ hk=>hk.2) _) (fun _ hk=>hk.2) _) (fun _ hk=>hk.2) _) (fun _ hk=>hk.2) _) (fun _ hk=>hk.2) _) (fun _ hk=>hk.2) _) (fun _ hk=>⟨hk.1.1.1,⟨hk.1.1.2,hk.1.2⟩⟩)⟩
     have n2_:Aside0 (Kd.R (Kd.int .i64) 3 ((((((w12.setCell ⟨gb379,0,none⟩ (.int .i64 t369)).setCell ⟨gb379,1,none⟩ (.int .i64 t370)).setCell ⟨gb379,2,none⟩ (.int .i64 t371)).setCell ⟨gb379,3,none⟩ (.int .i64 t372)).setCell ⟨gb379,4,none⟩ (.slice Ao15 t373.length co15)).setCell ⟨gb379,5,none⟩ (.slice Ao16 t376.length co16)) w.heap.size (fun k_=>some k_≠(.slice Ao9 t362.length co9:Value).ownBlock∧some k_≠(.slice Ao10 t365.length co10:Value).ownBlock∧some k_≠(.slice Ao16 t376.length co16:Value).ownBlock) (.slice Ao15 t373.length co15) t373):=⟨by (with_reducible repeat (first|apply rA_|apply rN_|apply rD_));exact Kd.R_mono (Kd.R_far (Kd.R_far (Kd.R_far (Kd.R_far (Kd.R_far (Kd.R_far (Kd.R_types HO375.out BK379.out (by decide)) (fun _ hk=>hk.2) _) (fun _ hk=>hk.2) _) (fun _ hk=>hk.2) _) (fun _ hk=>hk.2) _) (fun _ hk=>hk.2) _) (fun _ hk=>hk.2) _) (fun _ hk=>⟨hk.1.1.2,⟨hk.1.2,hk.1.1.1⟩⟩)⟩
     have n3_:Aside0 (Kd.R (Kd.int .i64) 3 ((((((w12.setCell ⟨gb379,0,none⟩ (.int .i64 t369)).setCell ⟨gb379,1,none⟩ (.int .i64 t370)).setCell ⟨gb379,2,none⟩ (.int .i64 t371)).setCell ⟨gb379,3,none⟩ (.int .i64 t372)).setCell ⟨gb379,4,none⟩ (.slice Ao15 t373.length co15)).setCell ⟨gb379,5,none⟩ (.slice Ao16 t376.length co16)) w.heap.size (fun k_=>some k_≠(.slice Ao9 t362.length co9:Value).ownBlock∧some k_≠(.slice Ao10 t365.length co10:Value).ownBlock∧some k_≠(.slice Ao15 t373.length co15:Value).ownBlock) (.slice Ao16 t376.length co16) t376):=⟨by (with_reducible repeat (first|apply rA_|apply rN_|apply rD_));exact Kd.R_mono (Kd.R_far (Kd.R_far (Kd.R_far (Kd.R_far (Kd.R_far (Kd.R_far (Kd.R_types HO378.out BK379.out (by decide)) (fun _ hk=>hk.2) _) (fun _ hk=>hk.2) _) (fun _ hk=>hk.2) _) (fun _ hk=>hk.2) _) (fun _ hk=>hk.2) _) (fun _ hk=>hk.2) _) (fun _ hk=>⟨hk.1.1.2,⟨hk.1.2,hk.1.1.1⟩⟩)⟩
     have n4_:Aside0 (((((((w12.setCell ⟨gb379,0,none⟩ (.int .i64 t369)).setCell ⟨gb379,1,none⟩ (.int .i64 t370)).setCell ⟨gb379,2,none⟩ (.int .i64 t371)).setCell ⟨gb379,3,none⟩ (.int .i64 t372)).setCell ⟨gb379,4,none⟩ (.slice Ao15 t373.length co15)).setCell ⟨gb379,5,none⟩ (.slice Ao16 t376.length co16)).heap[gb368]?=some (.cells #[.int .i64 t358,.int .i64 t359,.int .i64 t360,.int .i64 t361,.slice Ao9 t362.length co9,.slice Ao10 t365.length co10] 27 (0,0))):=⟨by (with_reducible repeat (first|apply kN_|apply kD_|apply kA_));refine blk_far ?_ NB368_379.out _;(with_reducible repeat (first|apply kN_|apply kD_|apply kA_));refine blk_far ?_ NB368_379.out _;(with_reducible repeat (first|apply kN_|apply kD_|apply kA_));refine blk_far ?_ NB368_379.out _;(with_reducible repeat (first|apply kN_|apply kD_|apply kA_));refine blk_far ?_ NB368_379.out _;(with_reducible repeat (first|apply kN_|apply kD_|apply kA_));refine blk_far ?_ NB368_379.out _;(with_reducible repeat (first|apply kN_|apply kD_|apply kA_));refine blk_far ?_ NB368_379.out _;(with_reducible repeat (first|apply kN_|apply kD_|apply kA_));exact BK368.out⟩
     have n5_:Aside0 (((((((w12.setCell ⟨gb379,0,none⟩ (.int .i64 t369)).setCell ⟨gb379,1,none⟩ (.int .i64 t370)).setCell ⟨gb379,2,none⟩ (.int .i64 t371)).setCell ⟨gb379,3,none⟩ (.int .i64 t372)).setCell ⟨gb379,4,none⟩ (.slice Ao15 t373.length co15)).setCell ⟨gb379,5,none⟩ (.slice Ao16 t376.length co16)).heap[gb379]?=some (.cells #[.int .i64 t369,.int .i64 t370,.int .i64 t371,.int .i64 t372,.slice Ao15 t373.length co15,.slice Ao16 t376.length co16] 27 (0,0))):=⟨by (with_reducible repeat (first|apply kN_|apply kD_|apply kA_));refine blk_put (cs:=#[.int .i64 t369,.int .i64 t370,.int .i64 t371,.int .i64 t372,.slice Ao15 t373.length co15,.slice none 0 0]) ?_ 5 _ rfl;(with_reducible repeat (first|apply kN_|apply kD_|apply kA_));refine blk_put (cs:=#[.int .i64 t369,.int .i64 t370,.int .i64 t371,.int .i64 t372,.slice none 0 0,.slice none 0 0]) ?_ 4 _ rfl;(with_reducible repeat (first|apply kN_|apply kD_|apply kA_));refine blk_put (cs:=#[.int .i64 t369,.int .i64 t370,.int .i64 t371,.int .i64 0,.slice none 0 0,.slice none 0 0]) ?_ 3 _ rfl;(with_reducible repeat (first|apply kN_|apply kD_|apply kA_));refine blk_put (cs:=#[.int .i64 t369,.int .i64 t370,.int .i64 0,.int .i64 0,.slice none 0 0,.slice none 0 0]) ?_ 2 _ rfl;(with_reducible repeat (first|apply kN_|apply kD_|apply kA_));refine blk_put (cs:=#[.int .i64 t369,.int .i64 0,.int .i64 0,.int .i64 0,.slice none 0 0,.slice none 0 0]) ?_ 1 _ rfl;(with_reducible repeat (first|apply kN_|apply kD_|apply kA_));refine blk_put (cs:=#[.int .i64 0,.int .i64 0,.int .i64 0,.int .i64 0,.slice none 0 0,.slice none 0 0]) ?_ 0 _ rfl;(with_reducible repeat (first|apply kN_|apply kD_|apply kA_));exact BK379.out⟩
     have n6_:Aside0 (Below w.heap.size w ((((((w12.setCell ⟨gb379,0,none⟩ (.int .i64 t369)).setCell ⟨gb379,1,none⟩ (.int .i64 t370)).setCell ⟨gb379,2,none⟩ (.int .i64 t371)).setCell ⟨gb379,3,none⟩ (.int .i64 t372)).setCell ⟨gb379,4,none⟩ (.slice Ao15 t373.length co15)).setCell ⟨gb379,5,none⟩ (.slice Ao16 t376.length co16))):=⟨by repeat (first|(with_reducible first|exact HB.out|apply wA_|apply wN_|apply wD_|refine below_set ?_ GE368.out|refine below_set ?_ GE379.out)|exact HB.out)⟩
     (try clear HO364)
     (try clear HO367)
     (try clear HO375)
     (try clear HO378)
     (try clear BK368)
     (try clear BK379)
     (try clear HB)
     generalize ((((((w12.setCell ⟨gb379,0,none⟩ (.int .i64 t369)).setCell ⟨gb379,1,none⟩ (.int .i64 t370)).setCell ⟨gb379,2,none⟩ (.int .i64 t371)).setCell ⟨gb379,3,none⟩ (.int .i64 t372)).setCell ⟨gb379,4,none⟩ (.slice Ao15 t373.length co15)).setCell ⟨gb379,5,none⟩ (.slice Ao16 t376.length co16))=w32 at n0_ n1_ n2_ n3_ n4_ n5_ n6_ ⊢
     have HO364:=n0_
     have HO367:=n1_
     have HO375:=n2_
     have HO378:=n3_
     have BK368:=n4_
     have BK379:=n5_
     have HB:=n6_
     clear n0_ n1_ n2_ n3_ n4_ n5_ n6_
     have n0_:=aM_ (rD_ HO364.out)
     have n1_:=aM_ (Kd.Q_drew HO367.out)
     have n2_:=aM_ (rD_ HO375.out)
     have n3_:=aM_ (rD_ HO378.out)
     have n4_:=aM_ (kD_ BK368.out)
     have n5_:=aM_ (kD_ BK379.out)
     have n6_:=aM_ (wD_ HB.out)
     clear HO364
     clear HO367
     clear HO375
     clear HO378
     clear BK368
     clear BK379
     clear HB
     have HO364:=n0_
     have HO367:=n1_
     have HO375:=n2_
     have HO378:=n3_
     have BK368:=n4_
     have BK379:=n5_
     have HB:=n6_
     clear n0_ n1_ n2_ n3_ n4_ n5_ n6_
     refine start_ (n:=17) (S:=fun w'=>w'.cell? ⟨gb379,0,none⟩=some (.int .i64 t369)∧w'.cell? ⟨gb379,1,none⟩=some (.int .i64 t370)∧w'.cell? ⟨gb379,2,none⟩=some (.int .i64 t371)∧w'.cell? ⟨gb379,3,none⟩=some (.int .i64 t372)∧w'.cell? ⟨gb379,4,none⟩=some (.slice Ao15 t373.length co15)∧w'.cell? ⟨gb379,5,none⟩=some (.slice Ao16 t376.length co16)∧w'.cell? ⟨gb368,0,none⟩=some (.int .i64 t358)∧w'.cell? ⟨gb368,1,none⟩=some (.int .i64 t359)∧w'.cell? ⟨gb368,2,none⟩=some (.int .i64 t360)∧w'.cell? ⟨gb368,3,none⟩=some (.int .i64 t361)∧w'.cell? ⟨gb368,4,none⟩=some (.slice Ao9 t362.length co9)∧w'.cell? ⟨gb368,5,none⟩=some (.slice Ao10 t365.length co10)) (ds:=[]) #[false,false,false,false,false,false,false,false,false,false,false,false,false,false,false,false,false] (by kernel_rfl) rfl rfl (bc12 BK379.out BK368.out) (fun hHeld=>?_);refine with_tabW laws_FnImageTurn.tab5 laws_FnImageTurn.bits5 (fun HT_ HW_=>?_)
     generalize w32.drew=w33 at HO364 HO367 HO375 HO378 BK368 BK379 HB hHeld ⊢
     refine take_ (i:=0) (N:=some 14) (v:=?_) (a':=?_) #[true,false,false,false,false,false,false,false,false,false,false,false,false,false,false,false,false] rfl rfl (take_ofW HT_.out HW_.out (by kernel_rfl)) (fun _ _ _ h=>h) (Or.inl ⟨by rfl,?_⟩) hHeld ?_ ?_
     rotate_left
     ·rintro w' ⟨s0,s1,s2,s3,s4,s5,s6,s7,s8,s9,s10,s11⟩
      go_simp
      with_reducible rfl
     rotate_left
     ·simp only [Act.put,sA_,s0_,s1_,i64_w,i32_w]
      rfl
     refine take_ (i:=1) (N:=some 15) (v:=?_) (a':=?_) #[true,true,false,false,false,false,false,false,false,false,false,false,false,false,false,false,false] rfl rfl (take_ofW HT_.out HW_.out (by kernel_rfl)) (fun _ _ _ h=>h) (Or.inl ⟨by rfl,?_⟩) hHeld ?_ ?_
     rotate_left
     ·rintro w' ⟨s0,s1,s2,s3,s4,s5,s6,s7,s8,s9,s10,s11⟩
      go_simp
      with_reducible rfl
     rotate_left
     ·simp only [Act.put,sA_,s0_,s1_,i64_w,i32_w]
      rfl
     refine one_ (i:=2) (N:=some 16) #[true,true,true,false,false,false,false,false,false,false,false,false,false,false,false,false,false] rfl rfl (one_of HT_.out (by kernel_rfl)) (by decide) (fun K hK=>?_)
     refine goes_ Try.func30 (by kernel_rfl) rfl #[.agg #[.int .i64 t358,.int .i64 t359,.int .i64 t360,.int .i64 t361,.slice Ao9 t362.length co9,.slice Ao10 t365.length co10]] (by rfl) rfl rfl (by (try simp only [List.map_toArray,List.map_cons,List.map_nil]);first|done|rfl|(simp only [List.length_drop,List.length_take];rfl)) ?_
     with_reducible refine (spec_ImageTurn.calls k t358 t359 t360 t361 _ _ t362 _ _ t365 t380 t381 t382 t383 t384 t387 _ ?side1 ?side2 ?side3 ?side4 A17.out).mono ?_
     (case side1=>repeat (first|exact (Kd.R_reads' HO364.out).2.2|(with_reducible refine Kd.C_alloc ?_ _)|(with_reducible refine Kd.C_drewN ?_ _)|(with_reducible refine Kd.C_drew ?_)))
     (case side2=>exact (Kd.R_reads' HO364.out).2.1)
     (case side3=>repeat (first|exact (Kd.Q_reads' HO367.out).2.2|(with_reducible refine Kd.C_alloc ?_ _)|(with_reducible refine Kd.C_drewN ?_ _)|(with_reducible refine Kd.C_drew ?_)))
     (case side4=>exact (Kd.Q_reads' HO367.out).2.1)
     rintro e w34 ⟨v385,v388,rfl,ho0,ho1,hb⟩
     refine ⟨_,rfl,?_⟩
     have n0_:=aM_ (Kd.R_mono (Kd.R_told (Kd.R_told (Kd.R_old (by (with_reducible repeat (first|apply rA_|apply rN_|apply rD_));exact HO364.out) hb) (Kd.R_base ho0)) (Kd.R_base ho1)) (fun _ h_=>h_.1))
     have n1_:=aM_ (Kd.Q_mono (Kd.Q_told (Kd.Q_told (Kd.Q_old (by (with_reducible repeat (first|apply Kd.Q_alloc|apply Kd.Q_drewN|apply Kd.Q_drew));exact HO367.out) hb) (Kd.R_base ho0)) (Kd.R_base ho1)) (fun _ h_=>h_.1))
     have n2_:=aM_ (Kd.R_mono (Kd.R_told (Kd.R_told (Kd.R_old (by (with_reducible repeat (first|apply rA_|apply rN_|apply rD_));exact HO375.out) hb) (Kd.R_base ho0)) (Kd.R_base ho1)) (fun _ h_=>h_.1))
     have n3_:=aM_ (Kd.R_mono (Kd.R_told (Kd.R_told (Kd.R_old (by (with_reducible repeat (first|apply rA_|apply rN_|apply rD_));exact HO378.out) hb) (Kd.R_base ho0)) (Kd.R_base ho1)) (fun _ h_=>h_.1))
     have n4_:=aM_ (Kd.R_lower (Kd.R_new' (Kd.R_new' (Kd.R_new' (Kd.R_new' ho0 (Kd.R_lt (by (with_reducible repeat (first|apply rA_|apply rN_|apply rD_));exact HO364.out))) (Kd.Q_lt (by (with_reducible repeat (first|apply Kd.Q_alloc|apply Kd.Q_drewN|apply Kd.Q_drew));exact HO367.out))) (Kd.R_lt (by (with_reducible repeat (first|apply rA_|apply rN_|apply rD_));exact HO375.out))) (Kd.R_lt (by (with_reducible repeat (first|apply rA_|apply rN_|apply rD_));exact HO378.out))) (below_size (by repeat (first|(with_reducible first|exact HB.out|apply wA_|apply wN_|apply wD_|refine below_set ?_ GE368.out|refine below_set ?_ GE379.out)|exact HB.out))))
     have n5_:=aM_ (Kd.R_lower (Kd.R_new' (Kd.R_new' (Kd.R_new' (Kd.R_new' ho1 (Kd.R_lt (by (with_reducible repeat (first|apply rA_|apply rN_|apply rD_));exact HO364.out))) (Kd.Q_lt (by (with_reducible repeat (first|apply Kd.Q_alloc|apply Kd.Q_drewN|apply Kd.Q_drew));exact HO367.out))) (Kd.R_lt (by (with_reducible repeat (first|apply rA_|apply rN_|apply rD_));exact HO375.out))) (Kd.R_lt (by (with_reducible repeat (first|apply rA_|apply rN_|apply rD_));exact HO378.out))) (below_size (by repeat (first|(with_reducible first|exact HB.out|apply wA_|apply wN_|apply wD_|refine below_set ?_ GE368.out|refine below_set ?_ GE379.out)|exact HB.out))))
     have n6_:=aM_ (blk_below (g:=gb368) (by (with_reducible repeat (first|apply kN_|apply kD_|apply kA_));exact BK368.out) hb)
     have n7_:=aM_ (blk_below (g:=gb379) (by (with_reducible repeat (first|apply kN_|apply kD_|apply kA_));exact BK379.out) hb)
     have n8_:=aM_ (below_step (by repeat (first|(with_reducible first|exact HB.out|apply wA_|apply wN_|apply wD_|refine below_set ?_ GE368.out|refine below_set ?_ GE379.out)|exact HB.out)) hb)
     clear HO364
     clear HO367
     clear HO375
     clear HO378
     clear BK368
     clear BK379
     clear HB
     have HO364:=n0_
     have HO367:=n1_
     have HO375:=n2_
     have HO378:=n3_
     have HO386:=n4_
     have HO389:=n5_
     have BK368:=n6_
     have BK379:=n7_
     have HB:=n8_
     clear n0_ n1_ n2_ n3_ n4_ n5_ n6_ n7_ n8_
     (try clear hb)
     (try clear hb2)
     (try clear hk)
     (try clear hi)
     (try clear ho0)
     (try clear ho1)
     obtain ⟨Ao35,co35,eo35⟩:=Kd.R_slice HO386.out
     (first|subst eo35|(injection eo35 with f1_ f2_ f3_;have f4_:=f1_.symm;have f5_:=f3_.symm;clear f1_ f2_ f3_;subst f4_;subst f5_))
     obtain ⟨Ao36,co36,eo36⟩:=Kd.R_slice HO389.out
     (first|subst eo36|(injection eo36 with f1_ f2_ f3_;have f4_:=f1_.symm;have f5_:=f3_.symm;clear f1_ f2_ f3_;subst f4_;subst f5_))
     refine hK.out _ _ (bc12 BK379.out BK368.out) (fun hHeld=>?_)
     clear hK K
     refine norm_ (a':=?_) ?_ ?_
     rotate_left
     ·show Act.put _ (some 16) _=_
      simp only [Act.put,sA_,s0_,s1_,i64_w,i32_w]
      rfl
     refine one_ (i:=3) (N:=some 17) #[true,true,true,true,false,false,false,false,false,false,false,false,false,false,false,false,false] rfl rfl (one_of HT_.out (by kernel_rfl)) (by decide) (fun K hK=>?_)
     refine goes_ Try.func39 (by kernel_rfl) rfl #[.agg #[.int .i64 t369,.int .i64 t370,.int .i64 t371,.int .i64 t372,.slice Ao15 t373.length co15,.slice Ao16 t376.length co16],.agg #[.int .i64 t380,.int .i64 t381,.int .i64 t382,.int .i64 t383,.slice Ao35 t384.length co35,.slice Ao36 t387.length co36]] (by rfl) rfl rfl (by (try simp only [List.map_toArray,List.map_cons,List.map_nil]);first|done|rfl|(simp only [List.length_drop,List.length_take];rfl)) ?_
     with_reducible refine (laws_wiImage.calls k t369 t370 t371 t372 _ _ t373 _ _ t376 t380 t381 t382 t383 _ _ t384 _ _ t387 true _ ?side1 ?side2 ?side3 ?side4 ?side5 ?side6 ?side7 ?side8 A18.out).mono ?_
     (case side1=>repeat (first|exact (Kd.R_reads' HO375.out).2.2|(with_reducible refine Kd.C_alloc ?_ _)|(with_reducible refine Kd.C_drewN ?_ _)|(with_reducible refine Kd.C_drew ?_)))
     (case side2=>exact (Kd.R_reads' HO375.out).2.1)
     (case side3=>repeat (first|exact (Kd.R_reads' HO378.out).2.2|(with_reducible refine Kd.C_alloc ?_ _)|(with_reducible refine Kd.C_drewN ?_ _)|(with_reducible refine Kd.C_drew ?_)))
     (case side4=>exact (Kd.R_reads' HO378.out).2.1)
     (case side5=>repeat (first|exact (Kd.R_reads' HO386.out).2.2|(with_reducible refine Kd.C_alloc ?_ _)|(with_reducible refine Kd.C_drewN ?_ _)|(with_reducible refine Kd.C_drew ?_)))
     (case side6=>exact (Kd.R_reads' HO386.out).2.1)
     (case side7=>repeat (first|exact (Kd.R_reads' HO389.out).2.2|(with_reducible refine Kd.C_alloc ?_ _)|(with_reducible refine Kd.C_drewN ?_ _)|(with_reducible refine Kd.C_drew ?_)))
     (case side8=>exact (Kd.R_reads' HO389.out).2.1)
     rintro e w37 ⟨rfl,hb⟩
     refine ⟨_,rfl,?_⟩
     have n0_:=aM_ (Kd.R_below (by (with_reducible repeat (first|apply rA_|apply rN_|apply rD_));exact HO364.out) hb)
     have n1_:=aM_ (Kd.Q_below (by (with_reducible repeat (first|apply Kd.Q_alloc|apply Kd.Q_drewN|apply Kd.Q_drew));exact HO367.out) hb)
     have n2_:=aM_ (Kd.R_below (by (with_reducible repeat (first|apply rA_|apply rN_|apply rD_));exact HO375.out) hb)
     have n3_:=aM_ (Kd.R_below (by (with_reducible repeat (first|apply rA_|apply rN_|apply rD_));exact HO378.out) hb)
     have n4_:=aM_ (Kd.R_below (by (with_reducible repeat (first|apply rA_|apply rN_|apply rD_));exact HO386.out) hb)
     have n5_:=aM_ (Kd.R_below (by (with_reducible repeat (first|apply rA_|apply rN_|apply rD_));exact HO389.out) hb)
     have n6_:=aM_ (blk_below (g:=gb368) (by (with_reducible repeat (first|apply kN_|apply kD_|apply kA_));exact BK368.out) hb)
     have n7_:=aM_ (blk_below (g:=gb379) (by (with_reducible repeat (first|apply kN_|apply kD_|apply kA_));exact BK379.out) hb)
     have n8_:=aM_ (below_step (by repeat (first|(with_reducible first|exact HB.out|apply wA_|apply wN_|apply wD_|refine below_set ?_ GE368.out|refine below_set ?_ GE379.out)|exact HB.out)) hb)
     clear HO364
     clear HO367
     clear HO375
     clear HO378
     clear HO386
     clear HO389
     clear BK368
     clear BK379
     clear HB
     have HO364:=n0_
     have HO367:=n1_
     have HO375:=n2_
     have HO378:=n3_
     have HO386:=n4_
     have HO389:=n5_
     have BK368:=n6_
     have BK379:=n7_
     have HB:=n8_
     clear n0_ n1_ n2_ n3_ n4_ n5_ n6_ n7_ n8_
     (try clear hb)
     (try clear hb2)
     (try clear hk)
     (try clear hi)
     refine hK.out _ _ (bc12 BK379.out BK368.out) (fun hHeld=>?_)
     clear hK K
     refine norm_ (a':=?_) ?_ ?_
     rotate_left
     ·show Act.put _ (some 17) _=_
      simp only [Act.put,sA_,s0_,s1_,i64_w,i32_w]
      rfl
     refine pure_ (i:=4) (N:=some 18) (v:=?_) (a':=?_) #[true,true,true,true,true,false,false,false,false,false,false,false,false,false,false,false,false] rfl rfl (any_of HT_.out (by kernel_rfl)) (fun _ _ _ h=>h) (Or.inl ⟨by rfl,?_⟩) ?_ ?_
     rotate_left
     ·intro w'
      go_simp
      with_reducible rfl
     rotate_left
     ·simp only [Act.put,sA_,s0_,s1_,i64_w,i32_w]
      rfl
     refine pure_ (i:=5) (N:=some 19) (v:=?_) (a':=?_) #[true,true,true,true,true,true,false,false,false,false,false,false,false,false,false,false,false] rfl rfl (any_of HT_.out (by kernel_rfl)) (fun _ _ _ h=>h) (Or.inl ⟨by rfl,?_⟩) ?_ ?_
     rotate_left
     ·intro w'
      go_simp
      with_reducible rfl
     rotate_left
     ·simp only [Act.put,sA_,s0_,s1_,i64_w,i32_w]
      rfl
     refine take_ (i:=6) (N:=some 20) (v:=?_) (a':=?_) #[true,true,true,true,true,true,true,false,false,false,false,false,false,false,false,false,false] rfl rfl (take_ofW HT_.out HW_.out (by kernel_rfl)) (fun _ _ _ h=>h) (Or.inl ⟨by rfl,?_⟩) hHeld ?_ ?_
     rotate_left
     ·rintro w' ⟨s0,s1,s2,s3,s4,s5,s6,s7,s8,s9,s10,s11⟩
      go_simp
      with_reducible rfl
     rotate_left
     ·simp only [Act.put,sA_,s0_,s1_,i64_w,i32_w]
      rfl
     refine take_ (i:=8) (N:=some 22) (v:=?_) (a':=?_) #[true,true,true,true,true,true,true,false,true,false,false,false,false,false,false,false,false] rfl rfl (take_ofW HT_.out HW_.out (by kernel_rfl)) (fun _ _ _ h=>h) (Or.inl ⟨by rfl,?_⟩) hHeld ?_ ?_
     rotate_left
     ·rintro w' ⟨s0,s1,s2,s3,s4,s5,s6,s7,s8,s9,s10,s11⟩
      go_simp
      with_reducible rfl
     rotate_left
     ·simp only [Act.put,sA_,s0_,s1_,i64_w,i32_w]
      rfl
     refine one_ (i:=7) (N:=some 21) #[true,true,true,true,true,true,true,true,true,false,false,false,false,false,false,false,false] rfl rfl (one_of HT_.out (by kernel_rfl)) (by decide) (fun K hK=>?_)
     refine goes_ Try.func18 (by kernel_rfl) rfl #[.agg #[.int .i64 t358,.int .i64 t359,.int .i64 t360,.int .i64 t361,.slice Ao9 t362.length co9,.slice Ao10 t365.length co10]] (by rfl) rfl rfl (by (try simp only [List.map_toArray,List.map_cons,List.map_nil]);first|done|rfl|(simp only [List.length_drop,List.length_take];rfl)) ?_
     with_reducible refine (impl_ImageOk.calls k t358 t359 t360 t361 _ _ t362 _ _ t365 t391 _ ?side1 ?side2 ?side3 ?side4 A20.out).mono ?_
     (case side1=>repeat (first|exact (Kd.R_reads' HO364.out).2.2|(with_reducible refine Kd.C_alloc ?_ _)|(with_reducible refine Kd.C_drewN ?_ _)|(with_reducible refine Kd.C_drew ?_)))
     (case side2=>exact (Kd.R_reads' HO364.out).2.1)
     (case side3=>repeat (first|exact (Kd.Q_reads' HO367.out).2.2|(with_reducible refine Kd.C_alloc ?_ _)|(with_reducible refine Kd.C_drewN ?_ _)|(with_reducible refine Kd.C_drew ?_)))
     (case side4=>exact (Kd.Q_reads' HO367.out).2.1)
     rintro e w38 ⟨rfl,hb⟩
     refine ⟨_,rfl,?_⟩
     have n0_:=aM_ (Kd.R_below (by (with_reducible repeat (first|apply rA_|apply rN_|apply rD_));exact HO364.out) hb)
     have n1_:=aM_ (Kd.Q_below (by (with_reducible repeat (first|apply Kd.Q_alloc|apply Kd.Q_drewN|apply Kd.Q_drew));exact HO367.out) hb)
     have n2_:=aM_ (Kd.R_below (by (with_reducible repeat (first|apply rA_|apply rN_|apply rD_));exact HO375.out) hb)
     have n3_:=aM_ (Kd.R_below (by (with_reducible repeat (first|apply rA_|apply rN_|apply rD_));exact HO378.out) hb)
     have n4_:=aM_ (Kd.R_below (by (with_reducible repeat (first|apply rA_|apply rN_|apply rD_));exact HO386.out) hb)
     have n5_:=aM_ (Kd.R_below (by (with_reducible repeat (first|apply rA_|apply rN_|apply rD_));exact HO389.out) hb)
     have n6_:=aM_ (blk_below (g:=gb368) (by (with_reducible repeat (first|apply kN_|apply kD_|apply kA_));exact BK368.out) hb)
     have n7_:=aM_ (blk_below (g:=gb379) (by (with_reducible repeat (first|apply kN_|apply kD_|apply kA_));exact BK379.out) hb)
     have n8_:=aM_ (below_step (by repeat (first|(with_reducible first|exact HB.out|apply wA_|apply wN_|apply wD_|refine below_set ?_ GE368.out|refine below_set ?_ GE379.out)|exact HB.out)) hb)
     clear HO364
     clear HO367
     clear HO375
     clear HO378
     clear HO386
     clear HO389
     clear BK368
     clear BK379
     clear HB
     have HO364:=n0_
     have HO367:=n1_
     have HO375:=n2_
     have HO378:=n3_
     have HO386:=n4_
     have HO389:=n5_
     have BK368:=n6_
     have BK379:=n7_
     have HB:=n8_
     clear n0_ n1_ n2_ n3_ n4_ n5_ n6_ n7_ n8_
     (try clear hb)
     (try clear hb2)
     (try clear hk)
     (try clear hi)
     refine hK.out _ _ (bc12 BK379.out BK368.out) (fun hHeld=>?_)
     clear hK K
     refine norm_ (a':=?_) ?_ ?_
     rotate_left
     ·show Act.put _ (some 21) _=_
      simp only [Act.put,sA_,s0_,s1_,i64_w,i32_w]
      rfl
     refine one_ (i:=9) (N:=some 23) #[true,true,true,true,true,true,true,true,true,true,false,false,false,false,false,false,false] rfl rfl (one_of HT_.out (by kernel_rfl)) (by decide) (fun K hK=>?_)
     refine goes_ Try.func16 (by kernel_rfl) rfl #[.agg #[.int .i64 t358,.int .i64 t359,.int .i64 t360,.int .i64 t361,.slice Ao9 t362.length co9,.slice Ao10 t365.length co10]] (by rfl) rfl rfl (by (try simp only [List.map_toArray,List.map_cons,List.map_nil]);first|done|rfl|(simp only [List.length_drop,List.length_take];rfl)) ?_
     with_reducible refine (spec_ImageOk.calls k t358 t359 t360 t361 _ _ t362 _ _ t365 t392 _ ?side1 ?side2 ?side3 ?side4 A21.out).mono ?_
     (case side1=>repeat (first|exact (Kd.R_reads' HO364.out).2.2|(with_reducible refine Kd.C_alloc ?_ _)|(with_reducible refine Kd.C_drewN ?_ _)|(with_reducible refine Kd.C_drew ?_)))
     (case side2=>exact (Kd.R_reads' HO364.out).2.1)
     (case side3=>repeat (first|exact (Kd.Q_reads' HO367.out).2.2|(with_reducible refine Kd.C_alloc ?_ _)|(with_reducible refine Kd.C_drewN ?_ _)|(with_reducible refine Kd.C_drew ?_)))
     (case side4=>exact (Kd.Q_reads' HO367.out).2.1)
     rintro e w39 ⟨rfl,hb⟩
     refine ⟨_,rfl,?_⟩
     have n0_:=aM_ (Kd.R_below (by (with_reducible repeat (first|apply rA_|apply rN_|apply rD_));exact HO364.out) hb)
     have n1_:=aM_ (Kd.Q_below (by (with_reducible repeat (first|apply Kd.Q_alloc|apply Kd.Q_drewN|apply Kd.Q_drew));exact HO367.out) hb)
     have n2_:=aM_ (Kd.R_below (by (with_reducible repeat (first|apply rA_|apply rN_|apply rD_));exact HO375.out) hb)
     have n3_:=aM_ (Kd.R_below (by (with_reducible repeat (first|apply rA_|apply rN_|apply rD_));exact HO378.out) hb)
     have n4_:=aM_ (Kd.R_below (by (with_reducible repeat (first|apply rA_|apply rN_|apply rD_));exact HO386.out) hb)
     have n5_:=aM_ (Kd.R_below (by (with_reducible repeat (first|apply rA_|apply rN_|apply rD_));exact HO389.out) hb)
     have n6_:=aM_ (blk_below (g:=gb368) (by (with_reducible repeat (first|apply kN_|apply kD_|apply kA_));exact BK368.out) hb)
     have n7_:=aM_ (blk_below (g:=gb379) (by (with_reducible repeat (first|apply kN_|apply kD_|apply kA_));exact BK379.out) hb)
     have n8_:=aM_ (below_step (by repeat (first|(with_reducible first|exact HB.out|apply wA_|apply wN_|apply wD_|refine below_set ?_ GE368.out|refine below_set ?_ GE379.out)|exact HB.out)) hb)
     clear HO364
     clear HO367
     clear HO375
     clear HO378
     clear HO386
     clear HO389
     clear BK368
     clear BK379
     clear HB
     have HO364:=n0_
     have HO367:=n1_
     have HO375:=n2_
     have HO378:=n3_
     have HO386:=n4_
     have HO389:=n5_
     have BK368:=n6_
     have BK379:=n7_
     have HB:=n8_
     clear n0_ n1_ n2_ n3_ n4_ n5_ n6_ n7_ n8_
     (try clear hb)
     (try clear hb2)
     (try clear hk)
     (try clear hi)
     refine hK.out _ _ (bc12 BK379.out BK368.out) (fun hHeld=>?_)
     clear hK K
     refine norm_ (a':=?_) ?_ ?_
     rotate_left
     ·show Act.put _ (some 23) _=_
      simp only [Act.put,sA_,s0_,s1_,i64_w,i32_w]
      rfl
     refine pure_ (i:=10) (N:=some 24) (v:=?_) (a':=?_) #[true,true,true,true,true,true,true,true,true,true,true,false,false,false,false,false,false] rfl rfl (any_of HT_.out (by kernel_rfl)) (fun _ _ _ h=>h) (Or.inl ⟨by rfl,?_⟩) ?_ ?_
     rotate_left
     ·intro w'
      go_simp
      with_reducible rfl
     rotate_left
     ·simp only [Act.put,sA_,s0_,s1_,i64_w,i32_w]
      rfl
     refine pure_ (i:=11) (N:=some 25) (v:=?_) (a':=?_) #[true,true,true,true,true,true,true,true,true,true,true,true,false,false,false,false,false] rfl rfl (any_of HT_.out (by kernel_rfl)) (fun _ _ _ h=>h) (Or.inl ⟨by rfl,?_⟩) ?_ ?_
     rotate_left
     ·intro w'
      go_simp
      with_reducible rfl
     rotate_left
     ·simp only [Act.put,sA_,s0_,s1_,i64_w,i32_w]
      rfl
     refine pure_ (i:=12) (N:=some 26) (v:=?_) (a':=?_) #[true,true,true,true,true,true,true,true,true,true,true,true,true,false,false,false,false] rfl rfl (any_of HT_.out (by kernel_rfl)) (fun _ _ _ h=>h) (Or.inl ⟨by rfl,?_⟩) ?_ ?_
     rotate_left
     ·intro w'
      go_simp
      with_reducible rfl
     rotate_left
     ·simp only [Act.put,sA_,s0_,s1_,i64_w,i32_w]
      rfl
     refine take_ (i:=13) (N:=some 27) (v:=?_) (a':=?_) #[true,true,true,true,true,true,true,true,true,true,true,true,true,true,false,false,false] rfl rfl (take_ofW HT_.out HW_.out (by kernel_rfl)) (fun _ _ _ h=>h) (Or.inl ⟨by rfl,?_⟩) hHeld ?_ ?_
     rotate_left
     ·rintro w' ⟨s0,s1,s2,s3,s4,s5,s6,s7,s8,s9,s10,s11⟩
      go_simp
      with_reducible rfl
     rotate_left
     ·simp only [Act.put,sA_,s0_,s1_,i64_w,i32_w]
      rfl
     refine one_ (i:=14) (N:=some 28) #[true,true,true,true,true,true,true,true,true,true,true,true,true,true,true,false,false] rfl rfl (one_of HT_.out (by kernel_rfl)) (by decide) (fun K hK=>?_)
     refine goes_ Try.func16 (by kernel_rfl) rfl #[.agg #[.int .i64 t358,.int .i64 t359,.int .i64 t360,.int .i64 t361,.slice Ao9 t362.length co9,.slice Ao10 t365.length co10]] (by rfl) rfl rfl (by (try simp only [List.map_toArray,List.map_cons,List.map_nil]);first|done|rfl|(simp only [List.length_drop,List.length_take];rfl)) ?_
     with_reducible refine (spec_ImageOk.calls k t358 t359 t360 t361 _ _ t362 _ _ t365 t393 _ ?side1 ?side2 ?side3 ?side4 A31.out).mono ?_
     (case side1=>repeat (first|exact (Kd.R_reads' HO364.out).2.2|(with_reducible refine Kd.C_alloc ?_ _)|(with_reducible refine Kd.C_drewN ?_ _)|(with_reducible refine Kd.C_drew ?_)))
     (case side2=>exact (Kd.R_reads' HO364.out).2.1)
     (case side3=>repeat (first|exact (Kd.Q_reads' HO367.out).2.2|(with_reducible refine Kd.C_alloc ?_ _)|(with_reducible refine Kd.C_drewN ?_ _)|(with_reducible refine Kd.C_drew ?_)))
     (case side4=>exact (Kd.Q_reads' HO367.out).2.1)
     rintro e w40 ⟨rfl,hb⟩
     refine ⟨_,rfl,?_⟩
     have n0_:=aM_ (Kd.R_below (by (with_reducible repeat (first|apply rA_|apply rN_|apply rD_));exact HO364.out) hb)
     have n1_:=aM_ (Kd.Q_below (by (with_reducible repeat (first|apply Kd.Q_alloc|apply Kd.Q_drewN|apply Kd.Q_drew));exact HO367.out) hb)
     have n2_:=aM_ (Kd.R_below (by (with_reducible repeat (first|apply rA_|apply rN_|apply rD_));exact HO375.out) hb)
     have n3_:=aM_ (Kd.R_below (by (with_reducible repeat (first|apply rA_|apply rN_|apply rD_));exact HO378.out) hb)
     have n4_:=aM_ (Kd.R_below (by (with_reducible repeat (first|apply rA_|apply rN_|apply rD_));exact HO386.out) hb)
     have n5_:=aM_ (Kd.R_below (by (with_reducible repeat (first|apply rA_|apply rN_|apply rD_));exact HO389.out) hb)
     have n6_:=aM_ (blk_below (g:=gb368) (by (with_reducible repeat (first|apply kN_|apply kD_|apply kA_));exact BK368.out) hb)
     have n7_:=aM_ (blk_below (g:=gb379) (by (with_reducible repeat (first|apply kN_|apply kD_|apply kA_));exact BK379.out) hb)
     have n8_:=aM_ (below_step (by repeat (first|(with_reducible first|exact HB.out|apply wA_|apply wN_|apply wD_|refine below_set ?_ GE368.out|refine below_set ?_ GE379.out)|exact HB.out)) hb)
     clear HO364
     clear HO367
     clear HO375
     clear HO378
     clear HO386
     clear HO389
     clear BK368
     clear BK379
     clear HB
     have HO364:=n0_
     have HO367:=n1_
     have HO375:=n2_
     have HO378:=n3_
     have HO386:=n4_
     have HO389:=n5_
     have BK368:=n6_
     have BK379:=n7_
     have HB:=n8_
     clear n0_ n1_ n2_ n3_ n4_ n5_ n6_ n7_ n8_
     (try clear hb)
     (try clear hb2)
     (try clear hk)
     (try clear hi)
     refine hK.out _ _ (bc12 BK379.out BK368.out) (fun hHeld=>?_)
     clear hK K
     refine norm_ (a':=?_) ?_ ?_
     rotate_left
     ·show Act.put _ (some 28) _=_
      simp only [Act.put,sA_,s0_,s1_,i64_w,i32_w]
      rfl
     refine pure_ (i:=15) (N:=some 29) (v:=?_) (a':=?_) #[true,true,true,true,true,true,true,true,true,true,true,true,true,true,true,true,false] rfl rfl (any_of HT_.out (by kernel_rfl)) (fun _ _ _ h=>h) (Or.inl ⟨by rfl,?_⟩) ?_ ?_
     rotate_left
     ·intro w'
      go_simp
      with_reducible rfl
     rotate_left
     ·simp only [Act.put,sA_,s0_,s1_,i64_w,i32_w]
      rfl
     refine pure_ (i:=16) (N:=some 30) (v:=?_) (a':=?_) #[true,true,true,true,true,true,true,true,true,true,true,true,true,true,true,true,true] rfl rfl (any_of HT_.out (by kernel_rfl)) (fun _ _ _ h=>h) (Or.inl ⟨by rfl,?_⟩) ?_ ?_
     rotate_left
     ·intro w'
      go_simp
      with_reducible rfl
     rotate_left
     ·simp only [Act.put,sA_,s0_,s1_,i64_w,i32_w]
      rfl
     refine done_ (done_of HT_.out (by kernel_rfl)) ?_
     try go_wp2
     go_meet
     case rel=>exact ⟨_,(!t393),(by first|rfl|(simp;done)|(simp [*];done)),H',⟨by first|omega|exact Nat.le_refl _⟩,⟨by (with_reducible repeat (first|apply rA_|apply rN_|apply rD_));exact Kd.R_mono HO364.out (fun _ hk=>⟨hk.1.1.1,⟨hk.1.1.2.1,hk.1.1.2.2⟩⟩)⟩,⟨by (with_reducible repeat (first|apply Kd.Q_alloc|apply Kd.Q_drewN|apply Kd.Q_drew));exact Kd.Q_mono HO367.out (fun _ hk=>⟨hk.1.1.1,⟨hk.1.1.2.1,hk.1.1.2.2⟩⟩)⟩,⟨by (with_reducible repeat (first|apply rA_|apply rN_|apply rD_));exact Kd.R_mono HO375.out (fun _ hk=>⟨hk.1.1.1,⟨hk.1.1.2.1,hk.1.1.2.2⟩⟩)⟩,⟨Kd.Q_of_R (by (with_reducible repeat (first|apply rA_|apply rN_|apply rD_));exact Kd.R_mono HO378.out (fun _ hk=>⟨hk.1.1.1,⟨hk.1.1.2.1,hk.1.1.2.2⟩⟩))⟩,⟨by (with_reducible repeat (first|apply kN_|apply kD_|apply kA_));exact BK368.out⟩,⟨by (with_reducible repeat (first|apply kN_|apply kD_|apply kA_));exact BK379.out⟩,⟨by repeat (first|(with_reducible first|exact HB.out|apply wA_|apply wN_|apply wD_|refine below_set ?_ GE368.out|refine below_set ?_ GE379.out)|exact HB.out)⟩⟩
   ·replace c19:=Bool.eq_false_iff.mpr c19
    subst c19
    have H1:(laws_FnImageTurn.j0 k true t358 t359 t360 t361 t362 t365 t369 t370 t371 t372 t373 t376)=some true:=by first|(rw [if_neg (show ¬ (false=true) by decide)] at H;exact H)|rfl
    clear H
    have H:=H1
    clear H1
    have H':=aM_ H
    clear H
    try go_wp2
    have n0_:Aside0 (Kd.R (Kd.int .i64) 3 ((((((w12.setCell ⟨gb379,0,none⟩ (.int .i64 t369)).setCell ⟨gb379,1,none⟩ (.int .i64 t370)).setCell ⟨gb379,2,none⟩ (.int .i64 t371)).setCell ⟨gb379,3,none⟩ (.int .i64 t372)).setCell ⟨gb379,4,none⟩ (.slice Ao15 t373.length co15)).setCell ⟨gb379,5,none⟩ (.slice Ao16 t376.length co16)) w.heap.size (fun k_=>some k_≠(.slice Ao10 t365.length co10:Value).ownBlock∧some k_≠(.slice Ao15 t373.length co15:Value).ownBlock∧some k_≠(.slice Ao16 t376.length co16:Value).ownBlock) (.slice Ao9 t362.length co9) t362):=⟨by (with_reducible repeat (first|apply rA_|apply rN_|apply rD_));exact Kd.R_mono (Kd.R_far (Kd.R_far (Kd.R_far (Kd.R_far (Kd.R_far (Kd.R_far (Kd.R_types HO364.out BK379.out (by decide)) (fun _ hk=>hk.2) _) (fun _ hk=>hk.2) _) (fun _ hk=>hk.2) _) (fun _ hk=>hk.2) _) (fun _ hk=>hk.2) _) (fun _ hk=>hk.2) _) (fun _ hk=>⟨hk.1.1.1,⟨hk.1.1.2,hk.1.2⟩⟩)⟩
    have n1_:Aside0 (Kd.Q (Kd.int .i64) 3 ((((((w12.setCell ⟨gb379,0,none⟩ (.int .i64 t369)).setCell ⟨gb379,1,none⟩ (.int .i64 t370)).setCell ⟨gb379,2,none⟩ (.int .i64 t371)).setCell ⟨gb379,3,none⟩ (.int .i64 t372)).setCell ⟨gb379,4,none⟩ (.slice Ao15 t373.length co15)).setCell ⟨gb379,5,none⟩ (.slice Ao16 t376.length co16)) w.heap.size (fun k_=>some k_≠(.slice Ao9 t362.length co9:Value).ownBlock∧some k_≠(.slice Ao15 t373.length co15:Value).ownBlock∧some k_≠(.slice Ao16 t376.length co16:Value).ownBlock) (.slice Ao10 t365.length co10) t365):=⟨by (with_reducible repeat (first|apply Kd.Q_alloc|apply Kd.Q_drewN|apply Kd.Q_drew));exact Kd.Q_mono (Kd.Q_far (Kd.Q_far (Kd.Q_far (Kd.Q_far (Kd.Q_far (Kd.Q_far (Kd.Q_types HO367.out BK379.out (by decide)) (fun _ hk=>hk.2) _) (fun _ hk=>hk.2) _) (fun _ hk=>hk.2) _) (fun _ hk=>hk.2) _) (fun _ hk=>hk.2) _) (fun _ hk=>hk.2) _) (fun _ hk=>⟨hk.1.1.1,⟨hk.1.1.2,hk.1.2⟩⟩)⟩
    have n2_:Aside0 (Kd.R (Kd.int .i64) 3 ((((((w12.setCell ⟨gb379,0,none⟩ (.int .i64 t369)).setCell ⟨gb379,1,none⟩ (.int .i64 t370)).setCell ⟨gb379,2,none⟩ (.int .i64 t371)).setCell ⟨gb379,3,none⟩ (.int .i64 t372)).setCell ⟨gb379,4,none⟩ (.slice Ao15 t373.length co15)).setCell ⟨gb379,5,none⟩ (.slice Ao16 t376.length co16)) w.heap.size (fun k_=>some k_≠(.slice Ao9 t362.length co9:Value).ownBlock∧some k_≠(.slice Ao10 t365.length co10:Value).ownBlock∧some k_≠(.slice Ao16 t376.length co16:Value).ownBlock) (.slice Ao15 t373.length co15) t373):=⟨by (with_reducible repeat (first|apply rA_|apply rN_|apply rD_));exact Kd.R_mono (Kd.R_far (Kd.R_far (Kd.R_far (Kd.R_far (Kd.R_far (Kd.R_far (Kd.R_types HO375.out BK379.out (by decide)) (fun _ hk=>hk.2) _) (fun _ hk=>hk.2) _) (fun _ hk=>hk.2) _) (fun _ hk=>hk.2) _) (fun _ hk=>hk.2) _) (fun _ hk=>hk.2) _) (fun _ hk=>⟨hk.1.1.2,⟨hk.1.2,hk.1.1.1⟩⟩)⟩
    have n3_:Aside0 (Kd.R (Kd.int .i64) 3 ((((((w12.setCell ⟨gb379,0,none⟩ (.int .i64 t369)).setCell ⟨gb379,1,none⟩ (.int .i64 t370)).setCell ⟨gb379,2,none⟩ (.int .i64 t371)).setCell ⟨gb379,3,none⟩ (.int .i64 t372)).setCell ⟨gb379,4,none⟩ (.slice Ao15 t373.length co15)).setCell ⟨gb379,5,none⟩ (.slice Ao16 t376.length co16)) w.heap.size (fun k_=>some k_≠(.slice Ao9 t362.length co9:Value).ownBlock∧some k_≠(.slice Ao10 t365.length co10:Value).ownBlock∧some k_≠(.slice Ao15 t373.length co15:Value).ownBlock) (.slice Ao16 t376.length co16) t376):=⟨by (with_reducible repeat (first|apply rA_|apply rN_|apply rD_));exact Kd.R_mono (Kd.R_far (Kd.R_far (Kd.R_far (Kd.R_far (Kd.R_far (Kd.R_far (Kd.R_types HO378.out BK379.out (by decide)) (fun _ hk=>hk.2) _) (fun _ hk=>hk.2) _) (fun _ hk=>hk.2) _) (fun _ hk=>hk.2) _) (fun _ hk=>hk.2) _) (fun _ hk=>hk.2) _) (fun _ hk=>⟨hk.1.1.2,⟨hk.1.2,hk.1.1.1⟩⟩)⟩
    have n4_:Aside0 (((((((w12.setCell ⟨gb379,0,none⟩ (.int .i64 t369)).setCell ⟨gb379,1,none⟩ (.int .i64 t370)).setCell ⟨gb379,2,none⟩ (.int .i64 t371)).setCell ⟨gb379,3,none⟩ (.int .i64 t372)).setCell ⟨gb379,4,none⟩ (.slice Ao15 t373.length co15)).setCell ⟨gb379,5,none⟩ (.slice Ao16 t376.length co16)).heap[gb368]?=some (.cells #[.int .i64 t358,.int .i64 t359,.int .i64 t360,.int .i64 t361,.slice Ao9 t362.length co9,.slice Ao10 t365.length co10] 27 (0,0))):=⟨by (with_reducible repeat (first|apply kN_|apply kD_|apply kA_));refine blk_far ?_ NB368_379.out _;(with_reducible repeat (first|apply kN_|apply kD_|apply kA_));refine blk_far ?_ NB368_379.out _;(with_reducible repeat (first|apply kN_|apply kD_|apply kA_));refine blk_far ?_ NB368_379.out _;(with_reducible repeat (first|apply kN_|apply kD_|apply kA_));refine blk_far ?_ NB368_379.out _;(with_reducible repeat (first|apply kN_|apply kD_|apply kA_));refine blk_far ?_ NB368_379.out _;(with_reducible repeat (first|apply kN_|apply kD_|apply kA_));refine blk_far ?_ NB368_379.out _;(with_reducible repeat (first|apply kN_|apply kD_|apply kA_));exact BK368.out⟩
    have n5_:Aside0 (((((((w12.setCell ⟨gb379,0,none⟩ (.int .i64 t369)).setCell ⟨gb379,1,none⟩ (.int .i64 t370)).setCell ⟨gb379,2,none⟩ (.int .i64 t371)).setCell ⟨gb379,3,none⟩ (.int .i64 t372)).setCell ⟨gb379,4,none⟩ (.slice Ao15 t373.length co15)).setCell ⟨gb379,5,none⟩ (.slice Ao16 t376.length co16)).heap[gb379]?=some (.cells #[.int .i64 t369,.int .i64 t370,.int .i64 t371,.int .i64 t372,.slice Ao15 t373.length co15,.slice Ao16 t376.length co16] 27 (0,0))):=⟨by (with_reducible repeat (first|apply kN_|apply kD_|apply kA_));refine blk_put (cs:=#[.int .i64 t369,.int .i64 t370,.int .i64 t371,.int .i64 t372,.slice Ao15 t373.length co15,.slice none 0 0]) ?_ 5 _ rfl;(with_reducible repeat (first|apply kN_|apply kD_|apply kA_));refine blk_put (cs:=#[.int .i64 t369,.int .i64 t370,.int .i64 t371,.int .i64 t372,.slice none 0 0,.slice none 0 0]) ?_ 4 _ rfl;(with_reducible repeat (first|apply kN_|apply kD_|apply kA_));refine blk_put (cs:=#[.int .i64 t369,.int .i64 t370,.int .i64 t371,.int .i64 0,.slice none 0 0,.slice none 0 0]) ?_ 3 _ rfl;(with_reducible repeat (first|apply kN_|apply kD_|apply kA_));refine blk_put (cs:=#[.int .i64 t369,.int .i64 t370,.int .i64 0,.int .i64 0,.slice none 0 0,.slice none 0 0]) ?_ 2 _ rfl;(with_reducible repeat (first|apply kN_|apply kD_|apply kA_));refine blk_put (cs:=#[.int .i64 t369,.int .i64 0,.int .i64 0,.int .i64 0,.slice none 0 0,.slice none 0 0]) ?_ 1 _ rfl;(with_reducible repeat (first|apply kN_|apply kD_|apply kA_));refine blk_put (cs:=#[.int .i64 0,.int .i64 0,.int .i64 0,.int .i64 0,.slice none 0 0,.slice none 0 0]) ?_ 0 _ rfl;(with_reducible repeat (first|apply kN_|apply kD_|apply kA_));exact BK379.out⟩
    have n6_:Aside0 (Below w.heap.size w ((((((w12.setCell ⟨gb379,0,none⟩ (.int .i64 t369)).setCell ⟨gb379,1,none⟩ (.int .i64 t370)).setCell ⟨gb379,2,none⟩ (.int .i64 t371)).setCell ⟨gb379,3,none⟩ (.int .i64 t372)).setCell ⟨gb379,4,none⟩ (.slice Ao15 t373.length co15)).setCell ⟨gb379,5,none⟩ (.slice Ao16 t376.length co16))):=⟨by repeat (first|(with_reducible first|exact HB.out|apply wA_|apply wN_|apply wD_|refine below_set ?_ GE368.out|refine below_set ?_ GE379.out)|exact HB.out)⟩
    (try clear HO364)
    (try clear HO367)
    (try clear HO375)
    (try clear HO378)
    (try clear BK368)
    (try clear BK379)
    (try clear HB)
    generalize ((((((w12.setCell ⟨gb379,0,none⟩ (.int .i64 t369)).setCell ⟨gb379,1,none⟩ (.int .i64 t370)).setCell ⟨gb379,2,none⟩ (.int .i64 t371)).setCell ⟨gb379,3,none⟩ (.int .i64 t372)).setCell ⟨gb379,4,none⟩ (.slice Ao15 t373.length co15)).setCell ⟨gb379,5,none⟩ (.slice Ao16 t376.length co16))=w41 at n0_ n1_ n2_ n3_ n4_ n5_ n6_ ⊢
    have HO364:=n0_
    have HO367:=n1_
    have HO375:=n2_
    have HO378:=n3_
    have BK368:=n4_
    have BK379:=n5_
    have HB:=n6_
    clear n0_ n1_ n2_ n3_ n4_ n5_ n6_
    have n0_:=aM_ (rD_ HO364.out)
    have n1_:=aM_ (Kd.Q_drew HO367.out)
    have n2_:=aM_ (rD_ HO375.out)
    have n3_:=aM_ (rD_ HO378.out)
    have n4_:=aM_ (kD_ BK368.out)
    have n5_:=aM_ (kD_ BK379.out)
    have n6_:=aM_ (wD_ HB.out)
    clear HO364
    clear HO367
    clear HO375
    clear HO378
    clear BK368
    clear BK379
    clear HB
    have HO364:=n0_
    have HO367:=n1_
    have HO375:=n2_
    have HO378:=n3_
    have BK368:=n4_
    have BK379:=n5_
    have HB:=n6_
    clear n0_ n1_ n2_ n3_ n4_ n5_ n6_
    refine start_ (n:=17) (S:=fun w'=>w'.cell? ⟨gb379,0,none⟩=some (.int .i64 t369)∧w'.cell? ⟨gb379,1,none⟩=some (.int .i64 t370)∧w'.cell? ⟨gb379,2,none⟩=some (.int .i64 t371)∧w'.cell? ⟨gb379,3,none⟩=some (.int .i64 t372)∧w'.cell? ⟨gb379,4,none⟩=some (.slice Ao15 t373.length co15)∧w'.cell? ⟨gb379,5,none⟩=some (.slice Ao16 t376.length co16)∧w'.cell? ⟨gb368,0,none⟩=some (.int .i64 t358)∧w'.cell? ⟨gb368,1,none⟩=some (.int .i64 t359)∧w'.cell? ⟨gb368,2,none⟩=some (.int .i64 t360)∧w'.cell? ⟨gb368,3,none⟩=some (.int .i64 t361)∧w'.cell? ⟨gb368,4,none⟩=some (.slice Ao9 t362.length co9)∧w'.cell? ⟨gb368,5,none⟩=some (.slice Ao10 t365.length co10)) (ds:=[]) #[false,false,false,false,false,false,false,false,false,false,false,false,false,false,false,false,false] (by kernel_rfl) rfl rfl (bc12 BK379.out BK368.out) (fun hHeld=>?_);refine with_tabW laws_FnImageTurn.tab5 laws_FnImageTurn.bits5 (fun HT_ HW_=>?_)
    generalize w41.drew=w42 at HO364 HO367 HO375 HO378 BK368 BK379 HB hHeld ⊢
    refine take_ (i:=0) (N:=some 14) (v:=?_) (a':=?_) #[true,false,false,false,false,false,false,false,false,false,false,false,false,false,false,false,false] rfl rfl (take_ofW HT_.out HW_.out (by kernel_rfl)) (fun _ _ _ h=>h) (Or.inl ⟨by rfl,?_⟩) hHeld ?_ ?_
    rotate_left
    ·rintro w' ⟨s0,s1,s2,s3,s4,s5,s6,s7,s8,s9,s10,s11⟩
     go_simp
     with_reducible rfl
    rotate_left
    ·simp only [Act.put,sA_,s0_,s1_,i64_w,i32_w]
     rfl
    refine take_ (i:=1) (N:=some 15) (v:=?_) (a':=?_) #[true,true,false,false,false,false,false,false,false,false,false,false,false,false,false,false,false] rfl rfl (take_ofW HT_.out HW_.out (by kernel_rfl)) (fun _ _ _ h=>h) (Or.inl ⟨by rfl,?_⟩) hHeld ?_ ?_
    rotate_left
    ·rintro w' ⟨s0,s1,s2,s3,s4,s5,s6,s7,s8,s9,s10,s11⟩
     go_simp
     with_reducible rfl
    rotate_left
    ·simp only [Act.put,sA_,s0_,s1_,i64_w,i32_w]
     rfl
    refine one_ (i:=2) (N:=some 16) #[true,true,true,false,false,false,false,false,false,false,false,false,false,false,false,false,false] rfl rfl (one_of HT_.out (by kernel_rfl)) (by decide) (fun K hK=>?_)
    refine goes_ Try.func30 (by kernel_rfl) rfl #[.agg #[.int .i64 t358,.int .i64 t359,.int .i64 t360,.int .i64 t361,.slice Ao9 t362.length co9,.slice Ao10 t365.length co10]] (by rfl) rfl rfl (by (try simp only [List.map_toArray,List.map_cons,List.map_nil]);first|done|rfl|(simp only [List.length_drop,List.length_take];rfl)) ?_
    with_reducible refine (spec_ImageTurn.calls k t358 t359 t360 t361 _ _ t362 _ _ t365 t380 t381 t382 t383 t384 t387 _ ?side1 ?side2 ?side3 ?side4 A17.out).mono ?_
    (case side1=>repeat (first|exact (Kd.R_reads' HO364.out).2.2|(with_reducible refine Kd.C_alloc ?_ _)|(with_reducible refine Kd.C_drewN ?_ _)|(with_reducible refine Kd.C_drew ?_)))
    (case side2=>exact (Kd.R_reads' HO364.out).2.1)
    (case side3=>repeat (first|exact (Kd.Q_reads' HO367.out).2.2|(with_reducible refine Kd.C_alloc ?_ _)|(with_reducible refine Kd.C_drewN ?_ _)|(with_reducible refine Kd.C_drew ?_)))
    (case side4=>exact (Kd.Q_reads' HO367.out).2.1)
    rintro e w43 ⟨v385,v388,rfl,ho0,ho1,hb⟩
    refine ⟨_,rfl,?_⟩
    have n0_:=aM_ (Kd.R_mono (Kd.R_told (Kd.R_told (Kd.R_old (by (with_reducible repeat (first|apply rA_|apply rN_|apply rD_));exact HO364.out) hb) (Kd.R_base ho0)) (Kd.R_base ho1)) (fun _ h_=>h_.1))
    have n1_:=aM_ (Kd.Q_mono (Kd.Q_told (Kd.Q_told (Kd.Q_old (by (with_reducible repeat (first|apply Kd.Q_alloc|apply Kd.Q_drewN|apply Kd.Q_drew));exact HO367.out) hb) (Kd.R_base ho0)) (Kd.R_base ho1)) (fun _ h_=>h_.1))
    have n2_:=aM_ (Kd.R_mono (Kd.R_told (Kd.R_told (Kd.R_old (by (with_reducible repeat (first|apply rA_|apply rN_|apply rD_));exact HO375.out) hb) (Kd.R_base ho0)) (Kd.R_base ho1)) (fun _ h_=>h_.1))
    have n3_:=aM_ (Kd.R_mono (Kd.R_told (Kd.R_told (Kd.R_old (by (with_reducible repeat (first|apply rA_|apply rN_|apply rD_));exact HO378.out) hb) (Kd.R_base ho0)) (Kd.R_base ho1)) (fun _ h_=>h_.1))
    have n4_:=aM_ (Kd.R_lower (Kd.R_new' (Kd.R_new' (Kd.R_new' (Kd.R_new' ho0 (Kd.R_lt (by (with_reducible repeat (first|apply rA_|apply rN_|apply rD_));exact HO364.out))) (Kd.Q_lt (by (with_reducible repeat (first|apply Kd.Q_alloc|apply Kd.Q_drewN|apply Kd.Q_drew));exact HO367.out))) (Kd.R_lt (by (with_reducible repeat (first|apply rA_|apply rN_|apply rD_));exact HO375.out))) (Kd.R_lt (by (with_reducible repeat (first|apply rA_|apply rN_|apply rD_));exact HO378.out))) (below_size (by repeat (first|(with_reducible first|exact HB.out|apply wA_|apply wN_|apply wD_|refine below_set ?_ GE368.out|refine below_set ?_ GE379.out)|exact HB.out))))
    have n5_:=aM_ (Kd.R_lower (Kd.R_new' (Kd.R_new' (Kd.R_new' (Kd.R_new' ho1 (Kd.R_lt (by (with_reducible repeat (first|apply rA_|apply rN_|apply rD_));exact HO364.out))) (Kd.Q_lt (by (with_reducible repeat (first|apply Kd.Q_alloc|apply Kd.Q_drewN|apply Kd.Q_drew));exact HO367.out))) (Kd.R_lt (by (with_reducible repeat (first|apply rA_|apply rN_|apply rD_));exact HO375.out))) (Kd.R_lt (by (with_reducible repeat (first|apply rA_|apply rN_|apply rD_));exact HO378.out))) (below_size (by repeat (first|(with_reducible first|exact HB.out|apply wA_|apply wN_|apply wD_|refine below_set ?_ GE368.out|refine below_set ?_ GE379.out)|exact HB.out))))
    have n6_:=aM_ (blk_below (g:=gb368) (by (with_reducible repeat (first|apply kN_|apply kD_|apply kA_));exact BK368.out) hb)
    have n7_:=aM_ (blk_below (g:=gb379) (by (with_reducible repeat (first|apply kN_|apply kD_|apply kA_));exact BK379.out) hb)
    have n8_:=aM_ (below_step (by repeat (first|(with_reducible first|exact HB.out|apply wA_|apply wN_|apply wD_|refine below_set ?_ GE368.out|refine below_set ?_ GE379.out)|exact HB.out)) hb)
    clear HO364
    clear HO367
    clear HO375
    clear HO378
    clear BK368
    clear BK379
    clear HB
    have HO364:=n0_
    have HO367:=n1_
    have HO375:=n2_
    have HO378:=n3_
    have HO386:=n4_
    have HO389:=n5_
    have BK368:=n6_
    have BK379:=n7_
    have HB:=n8_
    clear n0_ n1_ n2_ n3_ n4_ n5_ n6_ n7_ n8_
    (try clear hb)
    (try clear hb2)
    (try clear hk)
    (try clear hi)
    (try clear ho0)
    (try clear ho1)
    obtain ⟨Ao44,co44,eo44⟩:=Kd.R_slice HO386.out
    (first|subst eo44|(injection eo44 with f1_ f2_ f3_;have f4_:=f1_.symm;have f5_:=f3_.symm;clear f1_ f2_ f3_;subst f4_;subst f5_))
    obtain ⟨Ao45,co45,eo45⟩:=Kd.R_slice HO389.out
    (first|subst eo45|(injection eo45 with f1_ f2_ f3_;have f4_:=f1_.symm;have f5_:=f3_.symm;clear f1_ f2_ f3_;subst f4_;subst f5_))
    refine hK.out _ _ (bc12 BK379.out BK368.out) (fun hHeld=>?_)
    clear hK K
    refine norm_ (a':=?_) ?_ ?_
    rotate_left
    ·show Act.put _ (some 16) _=_
     simp only [Act.put,sA_,s0_,s1_,i64_w,i32_w]
     rfl
    refine one_ (i:=3) (N:=some 17) #[true,true,true,true,false,false,false,false,false,false,false,false,false,false,false,false,false] rfl rfl (one_of HT_.out (by kernel_rfl)) (by decide) (fun K hK=>?_)
    refine goes_ Try.func39 (by kernel_rfl) rfl #[.agg #[.int .i64 t369,.int .i64 t370,.int .i64 t371,.int .i64 t372,.slice Ao15 t373.length co15,.slice Ao16 t376.length co16],.agg #[.int .i64 t380,.int .i64 t381,.int .i64 t382,.int .i64 t383,.slice Ao44 t384.length co44,.slice Ao45 t387.length co45]] (by rfl) rfl rfl (by (try simp only [List.map_toArray,List.map_cons,List.map_nil]);first|done|rfl|(simp only [List.length_drop,List.length_take];rfl)) ?_
    with_reducible refine (laws_wiImage.calls k t369 t370 t371 t372 _ _ t373 _ _ t376 t380 t381 t382 t383 _ _ t384 _ _ t387 false _ ?side1 ?side2 ?side3 ?side4 ?side5 ?side6 ?side7 ?side8 A18.out).mono ?_
    (case side1=>repeat (first|exact (Kd.R_reads' HO375.out).2.2|(with_reducible refine Kd.C_alloc ?_ _)|(with_reducible refine Kd.C_drewN ?_ _)|(with_reducible refine Kd.C_drew ?_)))
    (case side2=>exact (Kd.R_reads' HO375.out).2.1)
    (case side3=>repeat (first|exact (Kd.R_reads' HO378.out).2.2|(with_reducible refine Kd.C_alloc ?_ _)|(with_reducible refine Kd.C_drewN ?_ _)|(with_reducible refine Kd.C_drew ?_)))
    (case side4=>exact (Kd.R_reads' HO378.out).2.1)
    (case side5=>repeat (first|exact (Kd.R_reads' HO386.out).2.2|(with_reducible refine Kd.C_alloc ?_ _)|(with_reducible refine Kd.C_drewN ?_ _)|(with_reducible refine Kd.C_drew ?_)))
    (case side6=>exact (Kd.R_reads' HO386.out).2.1)
    (case side7=>repeat (first|exact (Kd.R_reads' HO389.out).2.2|(with_reducible refine Kd.C_alloc ?_ _)|(with_reducible refine Kd.C_drewN ?_ _)|(with_reducible refine Kd.C_drew ?_)))
    (case side8=>exact (Kd.R_reads' HO389.out).2.1)
    rintro e w46 ⟨rfl,hb⟩
    refine ⟨_,rfl,?_⟩
    have n0_:=aM_ (Kd.R_below (by (with_reducible repeat (first|apply rA_|apply rN_|apply rD_));exact HO364.out) hb)
    have n1_:=aM_ (Kd.Q_below (by (with_reducible repeat (first|apply Kd.Q_alloc|apply Kd.Q_drewN|apply Kd.Q_drew));exact HO367.out) hb)
    have n2_:=aM_ (Kd.R_below (by (with_reducible repeat (first|apply rA_|apply rN_|apply rD_));exact HO375.out) hb)
    have n3_:=aM_ (Kd.R_below (by (with_reducible repeat (first|apply rA_|apply rN_|apply rD_));exact HO378.out) hb)
    have n4_:=aM_ (Kd.R_below (by (with_reducible repeat (first|apply rA_|apply rN_|apply rD_));exact HO386.out) hb)
    have n5_:=aM_ (Kd.R_below (by (with_reducible repeat (first|apply rA_|apply rN_|apply rD_));exact HO389.out) hb)
    have n6_:=aM_ (blk_below (g:=gb368) (by (with_reducible repeat (first|apply kN_|apply kD_|apply kA_));exact BK368.out) hb)
    have n7_:=aM_ (blk_below (g:=gb379) (by (with_reducible repeat (first|apply kN_|apply kD_|apply kA_));exact BK379.out) hb)
    have n8_:=aM_ (below_step (by repeat (first|(with_reducible first|exact HB.out|apply wA_|apply wN_|apply wD_|refine below_set ?_ GE368.out|refine below_set ?_ GE379.out)|exact HB.out)) hb)
    clear HO364
    clear HO367
    clear HO375
    clear HO378
    clear HO386
    clear HO389
    clear BK368
    clear BK379
    clear HB
    have HO364:=n0_
    have HO367:=n1_
    have HO375:=n2_
    have HO378:=n3_
    have HO386:=n4_
    have HO389:=n5_
    have BK368:=n6_
    have BK379:=n7_
    have HB:=n8_
    clear n0_ n1_ n2_ n3_ n4_ n5_ n6_ n7_ n8_
    (try clear hb)
    (try clear hb2)
    (try clear hk)
    (try clear hi)
    refine hK.out _ _ (bc12 BK379.out BK368.out) (fun hHeld=>?_)
    clear hK K
    refine norm_ (a':=?_) ?_ ?_
    rotate_left
    ·show Act.put _ (some 17) _=_
     simp only [Act.put,sA_,s0_,s1_,i64_w,i32_w]
     rfl
    refine pure_ (i:=4) (N:=some 18) (v:=?_) (a':=?_) #[true,true,true,true,true,false,false,false,false,false,false,false,false,false,false,false,false] rfl rfl (any_of HT_.out (by kernel_rfl)) (fun _ _ _ h=>h) (Or.inl ⟨by rfl,?_⟩) ?_ ?_
    rotate_left
    ·intro w'
     go_simp
     with_reducible rfl
    rotate_left
    ·simp only [Act.put,sA_,s0_,s1_,i64_w,i32_w]
     rfl
    refine pure_ (i:=5) (N:=some 19) (v:=?_) (a':=?_) #[true,true,true,true,true,true,false,false,false,false,false,false,false,false,false,false,false] rfl rfl (any_of HT_.out (by kernel_rfl)) (fun _ _ _ h=>h) (Or.inl ⟨by rfl,?_⟩) ?_ ?_
    rotate_left
    ·intro w'
     go_simp
     with_reducible rfl
    rotate_left
    ·simp only [Act.put,sA_,s0_,s1_,i64_w,i32_w]
     rfl
    refine pure_ (i:=6) (N:=some 20) (v:=undef) (a':=?_) #[true,true,true,true,true,true,true,false,false,false,false,false,false,false,false,false,false] rfl rfl (any_of HT_.out (by kernel_rfl)) (fun _ _ _ h=>h) (Or.inr ⟨by rfl,rfl⟩) ?_ ?_
    rotate_left
    ·simp only [Act.put,sA_,s0_,s1_,i64_w,i32_w]
     rfl
    refine pure_ (i:=7) (N:=some 21) (v:=undef) (a':=?_) #[true,true,true,true,true,true,true,true,false,false,false,false,false,false,false,false,false] rfl rfl (any_of HT_.out (by kernel_rfl)) (fun _ _ _ h=>h) (Or.inr ⟨by rfl,rfl⟩) ?_ ?_
    rotate_left
    ·simp only [Act.put,sA_,s0_,s1_,i64_w,i32_w]
     rfl
    refine pure_ (i:=8) (N:=some 22) (v:=undef) (a':=?_) #[true,true,true,true,true,true,true,true,true,false,false,false,false,false,false,false,false] rfl rfl (any_of HT_.out (by kernel_rfl)) (fun _ _ _ h=>h) (Or.inr ⟨by rfl,rfl⟩) ?_ ?_
    rotate_left
    ·simp only [Act.put,sA_,s0_,s1_,i64_w,i32_w]
     rfl
    refine pure_ (i:=9) (N:=some 23) (v:=undef) (a':=?_) #[true,true,true,true,true,true,true,true,true,true,false,false,false,false,false,false,false] rfl rfl (any_of HT_.out (by kernel_rfl)) (fun _ _ _ h=>h) (Or.inr ⟨by rfl,rfl⟩) ?_ ?_
    rotate_left
    ·simp only [Act.put,sA_,s0_,s1_,i64_w,i32_w]
     rfl
    refine pure_ (i:=10) (N:=some 24) (v:=undef) (a':=?_) #[true,true,true,true,true,true,true,true,true,true,true,false,false,false,false,false,false] rfl rfl (any_of HT_.out (by kernel_rfl)) (fun _ _ _ h=>h) (Or.inr ⟨by rfl,rfl⟩) ?_ ?_
    rotate_left
    ·simp only [Act.put,sA_,s0_,s1_,i64_w,i32_w]
     rfl
    refine pure_ (i:=11) (N:=some 25) (v:=?_) (a':=?_) #[true,true,true,true,true,true,true,true,true,true,true,true,false,false,false,false,false] rfl rfl (any_of HT_.out (by kernel_rfl)) (fun _ _ _ h=>h) (Or.inl ⟨by rfl,?_⟩) ?_ ?_
    rotate_left
    ·intro w'
     go_simp
     with_reducible rfl
    rotate_left
    ·simp only [Act.put,sA_,s0_,s1_,i64_w,i32_w]
     rfl
    refine pure_ (i:=12) (N:=some 26) (v:=?_) (a':=?_) #[true,true,true,true,true,true,true,true,true,true,true,true,true,false,false,false,false] rfl rfl (any_of HT_.out (by kernel_rfl)) (fun _ _ _ h=>h) (Or.inl ⟨by rfl,?_⟩) ?_ ?_
    rotate_left
    ·intro w'
     go_simp
     with_reducible rfl
    rotate_left
    ·simp only [Act.put,sA_,s0_,s1_,i64_w,i32_w]
     rfl
    refine pure_ (i:=13) (N:=some 27) (v:=undef) (a':=?_) #[true,true,true,true,true,true,true,true,true,true,true,true,true,true,false,false,false] rfl rfl (any_of HT_.out (by kernel_rfl)) (fun _ _ _ h=>h) (Or.inr ⟨by rfl,rfl⟩) ?_ ?_
    rotate_left
    ·simp only [Act.put,sA_,s0_,s1_,i64_w,i32_w]
     rfl
    refine pure_ (i:=14) (N:=some 28) (v:=undef) (a':=?_) #[true,true,true,true,true,true,true,true,true,true,true,true,true,true,true,false,false] rfl rfl (any_of HT_.out (by kernel_rfl)) (fun _ _ _ h=>h) (Or.inr ⟨by rfl,rfl⟩) ?_ ?_
    rotate_left
    ·simp only [Act.put,sA_,s0_,s1_,i64_w,i32_w]
     rfl
    refine pure_ (i:=15) (N:=some 29) (v:=undef) (a':=?_) #[true,true,true,true,true,true,true,true,true,true,true,true,true,true,true,true,false] rfl rfl (any_of HT_.out (by kernel_rfl)) (fun _ _ _ h=>h) (Or.inr ⟨by rfl,rfl⟩) ?_ ?_
    rotate_left
    ·simp only [Act.put,sA_,s0_,s1_,i64_w,i32_w]
     rfl
    refine pure_ (i:=16) (N:=some 30) (v:=?_) (a':=?_) #[true,true,true,true,true,true,true,true,true,true,true,true,true,true,true,true,true] rfl rfl (any_of HT_.out (by kernel_rfl)) (fun _ _ _ h=>h) (Or.inl ⟨by rfl,?_⟩) ?_ ?_
    rotate_left
    ·intro w'
     go_simp
     with_reducible rfl
    rotate_left
    ·simp only [Act.put,sA_,s0_,s1_,i64_w,i32_w]
     rfl
    refine done_ (done_of HT_.out (by kernel_rfl)) ?_
    try go_wp2
    go_meet
    case rel=>exact ⟨_,(true),(by first|rfl|(simp;done)|(simp [*];done)),H',⟨by first|omega|exact Nat.le_refl _⟩,⟨by (with_reducible repeat (first|apply rA_|apply rN_|apply rD_));exact Kd.R_mono HO364.out (fun _ hk=>⟨hk.1.1.1,⟨hk.1.1.2.1,hk.1.1.2.2⟩⟩)⟩,⟨by (with_reducible repeat (first|apply Kd.Q_alloc|apply Kd.Q_drewN|apply Kd.Q_drew));exact Kd.Q_mono HO367.out (fun _ hk=>⟨hk.1.1.1,⟨hk.1.1.2.1,hk.1.1.2.2⟩⟩)⟩,⟨by (with_reducible repeat (first|apply rA_|apply rN_|apply rD_));exact Kd.R_mono HO375.out (fun _ hk=>⟨hk.1.1.1,⟨hk.1.1.2.1,hk.1.1.2.2⟩⟩)⟩,⟨Kd.Q_of_R (by (with_reducible repeat (first|apply rA_|apply rN_|apply rD_));exact Kd.R_mono HO378.out (fun _ hk=>⟨hk.1.1.1,⟨hk.1.1.2.1,hk.1.1.2.2⟩⟩))⟩,⟨by (with_reducible repeat (first|apply kN_|apply kD_|apply kA_));exact BK368.out⟩,⟨by (with_reducible repeat (first|apply kN_|apply kD_|apply kA_));exact BK379.out⟩,⟨by repeat (first|(with_reducible first|exact HB.out|apply wA_|apply wN_|apply wD_|refine below_set ?_ GE368.out|refine below_set ?_ GE379.out)|exact HB.out)⟩⟩
  case rest =>
   clear HC5
   try clear c1
   try clear p2
   try clear c3
   try clear c16
   try clear c18
   try clear c19
   try clear c30
   try clear c39
   obtain ⟨kq,x30_4,rfl,HA,HJ4,HO_369004,HO_369005,HO_380004,HO_380005,BK368,BK379,HB⟩:=hcut
   cases kq with
   | zero=>exact absurd HA.out (by simp [laws_FnImageTurn.j0])
   | succ kj4 =>
    have H:=HA.out
    clear HA
    simp only [laws_FnImageTurn.j0] at H
    by_cases c47:x30_4=true
    ·subst c47
     have H1:((spec_ImageTurn.f kj4 t358 t359 t360 t361 t362 t365).bind fun bt394=>((laws_wiImage.f kj4 t369 t370 t371 t372 t373 t376 bt394.1 bt394.2.1 bt394.2.2.1 bt394.2.2.2.1 bt394.2.2.2.2.1 bt394.2.2.2.2.2).bind fun t404=>(if t404=true then ((impl_ImageOk.f kj4 t358 t359 t360 t361 t362 t365).bind fun t405=>((spec_ImageOk.f kj4 t358 t359 t360 t361 t362 t365).bind fun t406=>(some (t405 == t406)))) else (some false))))=some true:=by first|(rw [if_pos rfl] at H;exact H)|rfl
     clear H
     have H:=H1
     clear H1
     replace H:=Option.bind_eq_some_iff.mp H
     obtain ⟨⟨t394,t395,t396,t397,t398,t401⟩,A480,H⟩:=H
     replace H:((laws_wiImage.f kj4 t369 t370 t371 t372 t373 t376 t394 t395 t396 t397 t398 t401).bind fun t404=>(if t404=true then ((impl_ImageOk.f kj4 t358 t359 t360 t361 t362 t365).bind fun t405=>((spec_ImageOk.f kj4 t358 t359 t360 t361 t362 t365).bind fun t406=>(some (t405 == t406)))) else (some false)))=some true:=H
     have A48:=aM_ A480
     clear A480
     replace H:=Option.bind_eq_some_iff.mp H
     obtain ⟨t404,A490,H⟩:=H
     replace H:(if t404=true then ((impl_ImageOk.f kj4 t358 t359 t360 t361 t362 t365).bind fun t405=>((spec_ImageOk.f kj4 t358 t359 t360 t361 t362 t365).bind fun t406=>(some (t405 == t406)))) else (some false))=some true:=H
     have A49:=aM_ A490
     clear A490
     by_cases c50:t404=true
     ·subst c50
      have H1:((impl_ImageOk.f kj4 t358 t359 t360 t361 t362 t365).bind fun t405=>((spec_ImageOk.f kj4 t358 t359 t360 t361 t362 t365).bind fun t406=>(some (t405 == t406))))=some true:=by first|(rw [if_pos rfl] at H;exact H)|rfl
      clear H
      have H:=H1
      clear H1
      replace H:=Option.bind_eq_some_iff.mp H
      obtain ⟨t405,A510,H⟩:=H
      replace H:((spec_ImageOk.f kj4 t358 t359 t360 t361 t362 t365).bind fun t406=>(some (t405 == t406)))=some true:=H
      have A51:=aM_ A510
      clear A510
      replace H:=Option.bind_eq_some_iff.mp H
      obtain ⟨t406,A520,H⟩:=H
      replace H:(some (t405 == t406))=some true:=H
      have A52:=aM_ A520
      clear A520
      have HX_:=Option.some.inj H
      clear H
      try go_wp2
      have n0_:=aM_ (rD_ HO_369004.out)
      have n1_:=aM_ (Kd.Q_drew HO_369005.out)
      have n2_:=aM_ (rD_ HO_380004.out)
      have n3_:=aM_ (Kd.Q_drew HO_380005.out)
      have n4_:=aM_ (kD_ BK368.out)
      have n5_:=aM_ (kD_ BK379.out)
      have n6_:=aM_ (wD_ HB.out)
      clear HO_369004
      clear HO_369005
      clear HO_380004
      clear HO_380005
      clear BK368
      clear BK379
      clear HB
      have HO_369004:=n0_
      have HO_369005:=n1_
      have HO_380004:=n2_
      have HO_380005:=n3_
      have BK368:=n4_
      have BK379:=n5_
      have HB:=n6_
      clear n0_ n1_ n2_ n3_ n4_ n5_ n6_
      refine start_ (n:=12) (S:=fun w'=>w'.cell? ⟨gb379,0,none⟩=some (.int .i64 t369)∧w'.cell? ⟨gb379,1,none⟩=some (.int .i64 t370)∧w'.cell? ⟨gb379,2,none⟩=some (.int .i64 t371)∧w'.cell? ⟨gb379,3,none⟩=some (.int .i64 t372)∧w'.cell? ⟨gb379,4,none⟩=some (.slice Ao15 t373.length co15)∧w'.cell? ⟨gb379,5,none⟩=some (.slice Ao16 t376.length co16)∧w'.cell? ⟨gb368,0,none⟩=some (.int .i64 t358)∧w'.cell? ⟨gb368,1,none⟩=some (.int .i64 t359)∧w'.cell? ⟨gb368,2,none⟩=some (.int .i64 t360)∧w'.cell? ⟨gb368,3,none⟩=some (.int .i64 t361)∧w'.cell? ⟨gb368,4,none⟩=some (.slice Ao9 t362.length co9)∧w'.cell? ⟨gb368,5,none⟩=some (.slice Ao10 t365.length co10)) (ds:=[]) #[false,false,false,false,false,false,false,false,false,false,false,false] (by kernel_rfl) rfl rfl (bc12 BK379.out BK368.out) (fun hHeld=>?_);refine with_tabW laws_FnImageTurn.tab6 laws_FnImageTurn.bits6 (fun HT_ HW_=>?_)
      generalize wc.drew=w53 at HO_369004 HO_369005 HO_380004 HO_380005 BK368 BK379 HB hHeld ⊢
      refine take_ (i:=0) (N:=some 31) (v:=?_) (a':=?_) #[true,false,false,false,false,false,false,false,false,false,false,false] rfl rfl (take_ofW HT_.out HW_.out (by kernel_rfl)) (fun _ _ _ h=>h) (Or.inl ⟨by rfl,?_⟩) hHeld ?_ ?_
      rotate_left
      ·rintro w' ⟨s0,s1,s2,s3,s4,s5,s6,s7,s8,s9,s10,s11⟩
       go_simp
       with_reducible rfl
      rotate_left
      ·simp only [Act.put,sA_,s0_,s1_,i64_w,i32_w]
       rfl
      refine take_ (i:=1) (N:=some 32) (v:=?_) (a':=?_) #[true,true,false,false,false,false,false,false,false,false,false,false] rfl rfl (take_ofW HT_.out HW_.out (by kernel_rfl)) (fun _ _ _ h=>h) (Or.inl ⟨by rfl,?_⟩) hHeld ?_ ?_
      rotate_left
      ·rintro w' ⟨s0,s1,s2,s3,s4,s5,s6,s7,s8,s9,s10,s11⟩
       go_simp
       with_reducible rfl
      rotate_left
      ·simp only [Act.put,sA_,s0_,s1_,i64_w,i32_w]
       rfl
      refine one_ (i:=2) (N:=some 33) #[true,true,true,false,false,false,false,false,false,false,false,false] rfl rfl (one_of HT_.out (by kernel_rfl)) (by decide) (fun K hK=>?_)
      refine goes_ Try.func30 (by kernel_rfl) rfl #[.agg #[.int .i64 t358,.int .i64 t359,.int .i64 t360,.int .i64 t361,.slice Ao9 t362.length co9,.slice Ao10 t365.length co10]] (by rfl) rfl rfl (by (try simp only [List.map_toArray,List.map_cons,List.map_nil]);first|done|rfl|(simp only [List.length_drop,List.length_take];rfl)) ?_
      with_reducible refine (spec_ImageTurn.calls kj4 t358 t359 t360 t361 _ _ t362 _ _ t365 t394 t395 t396 t397 t398 t401 _ ?side1 ?side2 ?side3 ?side4 A48.out).mono ?_
      (case side1=>repeat (first|exact (Kd.R_reads' HO_369004.out).2.2|(with_reducible refine Kd.C_alloc ?_ _)|(with_reducible refine Kd.C_drewN ?_ _)|(with_reducible refine Kd.C_drew ?_)))
      (case side2=>exact (Kd.R_reads' HO_369004.out).2.1)
      (case side3=>repeat (first|exact (Kd.Q_reads' HO_369005.out).2.2|(with_reducible refine Kd.C_alloc ?_ _)|(with_reducible refine Kd.C_drewN ?_ _)|(with_reducible refine Kd.C_drew ?_)))
      (case side4=>exact (Kd.Q_reads' HO_369005.out).2.1)
      rintro e w54 ⟨v399,v402,rfl,ho0,ho1,hb⟩
      refine ⟨_,rfl,?_⟩
      have n0_:=aM_ (Kd.R_mono (Kd.R_told (Kd.R_told (Kd.R_old (by (with_reducible repeat (first|apply rA_|apply rN_|apply rD_));exact HO_369004.out) hb) (Kd.R_base ho0)) (Kd.R_base ho1)) (fun _ h_=>h_.1))
      have n1_:=aM_ (Kd.Q_mono (Kd.Q_told (Kd.Q_told (Kd.Q_old (by (with_reducible repeat (first|apply Kd.Q_alloc|apply Kd.Q_drewN|apply Kd.Q_drew));exact HO_369005.out) hb) (Kd.R_base ho0)) (Kd.R_base ho1)) (fun _ h_=>h_.1))
      have n2_:=aM_ (Kd.R_mono (Kd.R_told (Kd.R_told (Kd.R_old (by (with_reducible repeat (first|apply rA_|apply rN_|apply rD_));exact HO_380004.out) hb) (Kd.R_base ho0)) (Kd.R_base ho1)) (fun _ h_=>h_.1))
      have n3_:=aM_ (Kd.Q_mono (Kd.Q_told (Kd.Q_told (Kd.Q_old (by (with_reducible repeat (first|apply Kd.Q_alloc|apply Kd.Q_drewN|apply Kd.Q_drew));exact HO_380005.out) hb) (Kd.R_base ho0)) (Kd.R_base ho1)) (fun _ h_=>h_.1))
      have n4_:=aM_ (Kd.R_lower (Kd.R_new' (Kd.R_new' (Kd.R_new' (Kd.R_new' ho0 (Kd.R_lt (by (with_reducible repeat (first|apply rA_|apply rN_|apply rD_));exact HO_369004.out))) (Kd.Q_lt (by (with_reducible repeat (first|apply Kd.Q_alloc|apply Kd.Q_drewN|apply Kd.Q_drew));exact HO_369005.out))) (Kd.R_lt (by (with_reducible repeat (first|apply rA_|apply rN_|apply rD_));exact HO_380004.out))) (Kd.Q_lt (by (with_reducible repeat (first|apply Kd.Q_alloc|apply Kd.Q_drewN|apply Kd.Q_drew));exact HO_380005.out))) (below_size (by repeat (first|(with_reducible first|exact HB.out|apply wA_|apply wN_|apply wD_|refine below_set ?_ GE368.out|refine below_set ?_ GE379.out)|exact HB.out))))
      have n5_:=aM_ (Kd.R_lower (Kd.R_new' (Kd.R_new' (Kd.R_new' (Kd.R_new' ho1 (Kd.R_lt (by (with_reducible repeat (first|apply rA_|apply rN_|apply rD_));exact HO_369004.out))) (Kd.Q_lt (by (with_reducible repeat (first|apply Kd.Q_alloc|apply Kd.Q_drewN|apply Kd.Q_drew));exact HO_369005.out))) (Kd.R_lt (by (with_reducible repeat (first|apply rA_|apply rN_|apply rD_));exact HO_380004.out))) (Kd.Q_lt (by (with_reducible repeat (first|apply Kd.Q_alloc|apply Kd.Q_drewN|apply Kd.Q_drew));exact HO_380005.out))) (below_size (by repeat (first|(with_reducible first|exact HB.out|apply wA_|apply wN_|apply wD_|refine below_set ?_ GE368.out|refine below_set ?_ GE379.out)|exact HB.out))))
      have n6_:=aM_ (blk_below (g:=gb368) (by (with_reducible repeat (first|apply kN_|apply kD_|apply kA_));exact BK368.out) hb)
      have n7_:=aM_ (blk_below (g:=gb379) (by (with_reducible repeat (first|apply kN_|apply kD_|apply kA_));exact BK379.out) hb)
      have n8_:=aM_ (below_step (by repeat (first|(with_reducible first|exact HB.out|apply wA_|apply wN_|apply wD_|refine below_set ?_ GE368.out|refine below_set ?_ GE379.out)|exact HB.out)) hb)
      clear HO_369004
      clear HO_369005
      clear HO_380004
      clear HO_380005
      clear BK368
      clear BK379
      clear HB
      have HO_369004:=n0_
      have HO_369005:=n1_
      have HO_380004:=n2_
      have HO_380005:=n3_
      have HO400:=n4_
      have HO403:=n5_
      have BK368:=n6_
      have BK379:=n7_
      have HB:=n8_
      clear n0_ n1_ n2_ n3_ n4_ n5_ n6_ n7_ n8_
      (try clear hb)
      (try clear hb2)
      (try clear hk)
      (try clear hi)
      (try clear ho0)
      (try clear ho1)
      obtain ⟨Ao55,co55,eo55⟩:=Kd.R_slice HO400.out
      (first|subst eo55|(injection eo55 with f1_ f2_ f3_;have f4_:=f1_.symm;have f5_:=f3_.symm;clear f1_ f2_ f3_;subst f4_;subst f5_))
      obtain ⟨Ao56,co56,eo56⟩:=Kd.R_slice HO403.out
      (first|subst eo56|(injection eo56 with f1_ f2_ f3_;have f4_:=f1_.symm;have f5_:=f3_.symm;clear f1_ f2_ f3_;subst f4_;subst f5_))
      refine hK.out _ _ (bc12 BK379.out BK368.out) (fun hHeld=>?_)
      clear hK K
      refine norm_ (a':=?_) ?_ ?_
      rotate_left
      ·show Act.put _ (some 33) _=_
       simp only [Act.put,sA_,s0_,s1_,i64_w,i32_w]
       rfl
      refine one_ (i:=3) (N:=some 34) #[true,true,true,true,false,false,false,false,false,false,false,false] rfl rfl (one_of HT_.out (by kernel_rfl)) (by decide) (fun K hK=>?_)
      refine goes_ Try.func39 (by kernel_rfl) rfl #[.agg #[.int .i64 t369,.int .i64 t370,.int .i64 t371,.int .i64 t372,.slice Ao15 t373.length co15,.slice Ao16 t376.length co16],.agg #[.int .i64 t394,.int .i64 t395,.int .i64 t396,.int .i64 t397,.slice Ao55 t398.length co55,.slice Ao56 t401.length co56]] (by rfl) rfl rfl (by (try simp only [List.map_toArray,List.map_cons,List.map_nil]);first|done|rfl|(simp only [List.length_drop,List.length_take];rfl)) ?_
      with_reducible refine (laws_wiImage.calls kj4 t369 t370 t371 t372 _ _ t373 _ _ t376 t394 t395 t396 t397 _ _ t398 _ _ t401 true _ ?side1 ?side2 ?side3 ?side4 ?side5 ?side6 ?side7 ?side8 A49.out).mono ?_
      (case side1=>repeat (first|exact (Kd.R_reads' HO_380004.out).2.2|(with_reducible refine Kd.C_alloc ?_ _)|(with_reducible refine Kd.C_drewN ?_ _)|(with_reducible refine Kd.C_drew ?_)))
      (case side2=>exact (Kd.R_reads' HO_380004.out).2.1)
      (case side3=>repeat (first|exact (Kd.Q_reads' HO_380005.out).2.2|(with_reducible refine Kd.C_alloc ?_ _)|(with_reducible refine Kd.C_drewN ?_ _)|(with_reducible refine Kd.C_drew ?_)))
      (case side4=>exact (Kd.Q_reads' HO_380005.out).2.1)
      (case side5=>repeat (first|exact (Kd.R_reads' HO400.out).2.2|(with_reducible refine Kd.C_alloc ?_ _)|(with_reducible refine Kd.C_drewN ?_ _)|(with_reducible refine Kd.C_drew ?_)))
      (case side6=>exact (Kd.R_reads' HO400.out).2.1)
      (case side7=>repeat (first|exact (Kd.R_reads' HO403.out).2.2|(with_reducible refine Kd.C_alloc ?_ _)|(with_reducible refine Kd.C_drewN ?_ _)|(with_reducible refine Kd.C_drew ?_)))
      (case side8=>exact (Kd.R_reads' HO403.out).2.1)
      rintro e w57 ⟨rfl,hb⟩
      refine ⟨_,rfl,?_⟩
      have n0_:=aM_ (Kd.R_below (by (with_reducible repeat (first|apply rA_|apply rN_|apply rD_));exact HO_369004.out) hb)
      have n1_:=aM_ (Kd.Q_below (by (with_reducible repeat (first|apply Kd.Q_alloc|apply Kd.Q_drewN|apply Kd.Q_drew));exact HO_369005.out) hb)
      have n2_:=aM_ (Kd.R_below (by (with_reducible repeat (first|apply rA_|apply rN_|apply rD_));exact HO_380004.out) hb)
      have n3_:=aM_ (Kd.Q_below (by (with_reducible repeat (first|apply Kd.Q_alloc|apply Kd.Q_drewN|apply Kd.Q_drew));exact HO_380005.out) hb)
      have n4_:=aM_ (Kd.R_below (by (with_reducible repeat (first|apply rA_|apply rN_|apply rD_));exact HO400.out) hb)
      have n5_:=aM_ (Kd.R_below (by (with_reducible repeat (first|apply rA_|apply rN_|apply rD_));exact HO403.out) hb)
      have n6_:=aM_ (blk_below (g:=gb368) (by (with_reducible repeat (first|apply kN_|apply kD_|apply kA_));exact BK368.out) hb)
      have n7_:=aM_ (blk_below (g:=gb379) (by (with_reducible repeat (first|apply kN_|apply kD_|apply kA_));exact BK379.out) hb)
      have n8_:=aM_ (below_step (by repeat (first|(with_reducible first|exact HB.out|apply wA_|apply wN_|apply wD_|refine below_set ?_ GE368.out|refine below_set ?_ GE379.out)|exact HB.out)) hb)
      clear HO_369004
      clear HO_369005
      clear HO_380004
      clear HO_380005
      clear HO400
      clear HO403
      clear BK368
      clear BK379
      clear HB
      have HO_369004:=n0_
      have HO_369005:=n1_
      have HO_380004:=n2_
      have HO_380005:=n3_
      have HO400:=n4_
      have HO403:=n5_
      have BK368:=n6_
      have BK379:=n7_
      have HB:=n8_
      clear n0_ n1_ n2_ n3_ n4_ n5_ n6_ n7_ n8_
      (try clear hb)
      (try clear hb2)
      (try clear hk)
      (try clear hi)
      refine hK.out _ _ (bc12 BK379.out BK368.out) (fun hHeld=>?_)
      clear hK K
      refine norm_ (a':=?_) ?_ ?_
      rotate_left
      ·show Act.put _ (some 34) _=_
       simp only [Act.put,sA_,s0_,s1_,i64_w,i32_w]
       rfl
      refine pure_ (i:=4) (N:=some 35) (v:=?_) (a':=?_) #[true,true,true,true,true,false,false,false,false,false,false,false] rfl rfl (any_of HT_.out (by kernel_rfl)) (fun _ _ _ h=>h) (Or.inl ⟨by rfl,?_⟩) ?_ ?_
      rotate_left
      ·intro w'
       go_simp
       with_reducible rfl
      rotate_left
      ·simp only [Act.put,sA_,s0_,s1_,i64_w,i32_w]
       rfl
      refine take_ (i:=5) (N:=some 36) (v:=?_) (a':=?_) #[true,true,true,true,true,true,false,false,false,false,false,false] rfl rfl (take_ofW HT_.out HW_.out (by kernel_rfl)) (fun _ _ _ h=>h) (Or.inl ⟨by rfl,?_⟩) hHeld ?_ ?_
      rotate_left
      ·rintro w' ⟨s0,s1,s2,s3,s4,s5,s6,s7,s8,s9,s10,s11⟩
       go_simp
       with_reducible rfl
      rotate_left
      ·simp only [Act.put,sA_,s0_,s1_,i64_w,i32_w]
       rfl
      refine take_ (i:=7) (N:=some 38) (v:=?_) (a':=?_) #[true,true,true,true,true,true,false,true,false,false,false,false] rfl rfl (take_ofW HT_.out HW_.out (by kernel_rfl)) (fun _ _ _ h=>h) (Or.inl ⟨by rfl,?_⟩) hHeld ?_ ?_
      rotate_left
      ·rintro w' ⟨s0,s1,s2,s3,s4,s5,s6,s7,s8,s9,s10,s11⟩
       go_simp
       with_reducible rfl
      rotate_left
      ·simp only [Act.put,sA_,s0_,s1_,i64_w,i32_w]
       rfl
      refine one_ (i:=6) (N:=some 37) #[true,true,true,true,true,true,true,true,false,false,false,false] rfl rfl (one_of HT_.out (by kernel_rfl)) (by decide) (fun K hK=>?_)
      refine goes_ Try.func18 (by kernel_rfl) rfl #[.agg #[.int .i64 t358,.int .i64 t359,.int .i64 t360,.int .i64 t361,.slice Ao9 t362.length co9,.slice Ao10 t365.length co10]] (by rfl) rfl rfl (by (try simp only [List.map_toArray,List.map_cons,List.map_nil]);first|done|rfl|(simp only [List.length_drop,List.length_take];rfl)) ?_
      with_reducible refine (impl_ImageOk.calls kj4 t358 t359 t360 t361 _ _ t362 _ _ t365 t405 _ ?side1 ?side2 ?side3 ?side4 A51.out).mono ?_
      (case side1=>repeat (first|exact (Kd.R_reads' HO_369004.out).2.2|(with_reducible refine Kd.C_alloc ?_ _)|(with_reducible refine Kd.C_drewN ?_ _)|(with_reducible refine Kd.C_drew ?_)))
      (case side2=>exact (Kd.R_reads' HO_369004.out).2.1)
      (case side3=>repeat (first|exact (Kd.Q_reads' HO_369005.out).2.2|(with_reducible refine Kd.C_alloc ?_ _)|(with_reducible refine Kd.C_drewN ?_ _)|(with_reducible refine Kd.C_drew ?_)))
      (case side4=>exact (Kd.Q_reads' HO_369005.out).2.1)
      rintro e w58 ⟨rfl,hb⟩
      refine ⟨_,rfl,?_⟩
      have n0_:=aM_ (Kd.R_below (by (with_reducible repeat (first|apply rA_|apply rN_|apply rD_));exact HO_369004.out) hb)
      have n1_:=aM_ (Kd.Q_below (by (with_reducible repeat (first|apply Kd.Q_alloc|apply Kd.Q_drewN|apply Kd.Q_drew));exact HO_369005.out) hb)
      have n2_:=aM_ (Kd.R_below (by (with_reducible repeat (first|apply rA_|apply rN_|apply rD_));exact HO_380004.out) hb)
      have n3_:=aM_ (Kd.Q_below (by (with_reducible repeat (first|apply Kd.Q_alloc|apply Kd.Q_drewN|apply Kd.Q_drew));exact HO_380005.out) hb)
      have n4_:=aM_ (Kd.R_below (by (with_reducible repeat (first|apply rA_|apply rN_|apply rD_));exact HO400.out) hb)
      have n5_:=aM_ (Kd.R_below (by (with_reducible repeat (first|apply rA_|apply rN_|apply rD_));exact HO403.out) hb)
      have n6_:=aM_ (blk_below (g:=gb368) (by (with_reducible repeat (first|apply kN_|apply kD_|apply kA_));exact BK368.out) hb)
      have n7_:=aM_ (blk_below (g:=gb379) (by (with_reducible repeat (first|apply kN_|apply kD_|apply kA_));exact BK379.out) hb)
      have n8_:=aM_ (below_step (by repeat (first|(with_reducible first|exact HB.out|apply wA_|apply wN_|apply wD_|refine below_set ?_ GE368.out|refine below_set ?_ GE379.out)|exact HB.out)) hb)
      clear HO_369004
      clear HO_369005
      clear HO_380004
      clear HO_380005
      clear HO400
      clear HO403
      clear BK368
      clear BK379
      clear HB
      have HO_369004:=n0_
      have HO_369005:=n1_
      have HO_380004:=n2_
      have HO_380005:=n3_
      have HO400:=n4_
      have HO403:=n5_
      have BK368:=n6_
      have BK379:=n7_
      have HB:=n8_
      clear n0_ n1_ n2_ n3_ n4_ n5_ n6_ n7_ n8_
      (try clear hb)
      (try clear hb2)
      (try clear hk)
      (try clear hi)
      refine hK.out _ _ (bc12 BK379.out BK368.out) (fun hHeld=>?_)
      clear hK K
      refine norm_ (a':=?_) ?_ ?_
      rotate_left
      ·show Act.put _ (some 37) _=_
       simp only [Act.put,sA_,s0_,s1_,i64_w,i32_w]
       rfl
      refine one_ (i:=8) (N:=some 39) #[true,true,true,true,true,true,true,true,true,false,false,false] rfl rfl (one_of HT_.out (by kernel_rfl)) (by decide) (fun K hK=>?_)
      refine goes_ Try.func16 (by kernel_rfl) rfl #[.agg #[.int .i64 t358,.int .i64 t359,.int .i64 t360,.int .i64 t361,.slice Ao9 t362.length co9,.slice Ao10 t365.length co10]] (by rfl) rfl rfl (by (try simp only [List.map_toArray,List.map_cons,List.map_nil]);first|done|rfl|(simp only [List.length_drop,List.length_take];rfl)) ?_
      with_reducible refine (spec_ImageOk.calls kj4 t358 t359 t360 t361 _ _ t362 _ _ t365 t406 _ ?side1 ?side2 ?side3 ?side4 A52.out).mono ?_
      (case side1=>repeat (first|exact (Kd.R_reads' HO_369004.out).2.2|(with_reducible refine Kd.C_alloc ?_ _)|(with_reducible refine Kd.C_drewN ?_ _)|(with_reducible refine Kd.C_drew ?_)))
      (case side2=>exact (Kd.R_reads' HO_369004.out).2.1)
      (case side3=>repeat (first|exact (Kd.Q_reads' HO_369005.out).2.2|(with_reducible refine Kd.C_alloc ?_ _)|(with_reducible refine Kd.C_drewN ?_ _)|(with_reducible refine Kd.C_drew ?_)))
      (case side4=>exact (Kd.Q_reads' HO_369005.out).2.1)
      rintro e w59 ⟨rfl,hb⟩
      refine ⟨_,rfl,?_⟩
      have n0_:=aM_ (Kd.R_below (by (with_reducible repeat (first|apply rA_|apply rN_|apply rD_));exact HO_369004.out) hb)
      have n1_:=aM_ (Kd.Q_below (by (with_reducible repeat (first|apply Kd.Q_alloc|apply Kd.Q_drewN|apply Kd.Q_drew));exact HO_369005.out) hb)
      have n2_:=aM_ (Kd.R_below (by (with_reducible repeat (first|apply rA_|apply rN_|apply rD_));exact HO_380004.out) hb)
      have n3_:=aM_ (Kd.Q_below (by (with_reducible repeat (first|apply Kd.Q_alloc|apply Kd.Q_drewN|apply Kd.Q_drew));exact HO_380005.out) hb)
      have n4_:=aM_ (Kd.R_below (by (with_reducible repeat (first|apply rA_|apply rN_|apply rD_));exact HO400.out) hb)
      have n5_:=aM_ (Kd.R_below (by (with_reducible repeat (first|apply rA_|apply rN_|apply rD_));exact HO403.out) hb)
      have n6_:=aM_ (blk_below (g:=gb368) (by (with_reducible repeat (first|apply kN_|apply kD_|apply kA_));exact BK368.out) hb)
      have n7_:=aM_ (blk_below (g:=gb379) (by (with_reducible repeat (first|apply kN_|apply kD_|apply kA_));exact BK379.out) hb)
      have n8_:=aM_ (below_step (by repeat (first|(with_reducible first|exact HB.out|apply wA_|apply wN_|apply wD_|refine below_set ?_ GE368.out|refine below_set ?_ GE379.out)|exact HB.out)) hb)
      clear HO_369004
      clear HO_369005
      clear HO_380004
      clear HO_380005
      clear HO400
      clear HO403
      clear BK368
      clear BK379
      clear HB
      have HO_369004:=n0_
      have HO_369005:=n1_
      have HO_380004:=n2_
      have HO_380005:=n3_
      have HO400:=n4_
      have HO403:=n5_
      have BK368:=n6_
      have BK379:=n7_
      have HB:=n8_
      clear n0_ n1_ n2_ n3_ n4_ n5_ n6_ n7_ n8_
      (try clear hb)
      (try clear hb2)
      (try clear hk)
      (try clear hi)
      refine hK.out _ _ (bc12 BK379.out BK368.out) (fun hHeld=>?_)
      clear hK K
      refine norm_ (a':=?_) ?_ ?_
      rotate_left
      ·show Act.put _ (some 39) _=_
       simp only [Act.put,sA_,s0_,s1_,i64_w,i32_w]
       rfl
      refine pure_ (i:=9) (N:=some 40) (v:=?_) (a':=?_) #[true,true,true,true,true,true,true,true,true,true,false,false] rfl rfl (any_of HT_.out (by kernel_rfl)) (fun _ _ _ h=>h) (Or.inl ⟨by rfl,?_⟩) ?_ ?_
      rotate_left
      ·intro w'
       go_simp
       with_reducible rfl
      rotate_left
      ·simp only [Act.put,sA_,s0_,s1_,i64_w,i32_w]
       rfl
      refine pure_ (i:=10) (N:=some 41) (v:=?_) (a':=?_) #[true,true,true,true,true,true,true,true,true,true,true,false] rfl rfl (any_of HT_.out (by kernel_rfl)) (fun _ _ _ h=>h) (Or.inl ⟨by rfl,?_⟩) ?_ ?_
      rotate_left
      ·intro w'
       go_simp
       with_reducible rfl
      rotate_left
      ·simp only [Act.put,sA_,s0_,s1_,i64_w,i32_w]
       rfl
      refine pure_ (i:=11) (N:=some 2) (v:=?_) (a':=?_) #[true,true,true,true,true,true,true,true,true,true,true,true] rfl rfl (any_of HT_.out (by kernel_rfl)) (fun _ _ _ h=>h) (Or.inl ⟨by rfl,?_⟩) ?_ ?_
      rotate_left
      ·intro w'
       go_simp
       with_reducible rfl
      rotate_left
      ·simp only [Act.put,sA_,s0_,s1_,i64_w,i32_w]
       rfl
      refine done_ (done_of HT_.out (by kernel_rfl)) ?_
      try go_wp2
      go_ret
      exact ⟨by first|rfl|(simp [errW_none,errW_some] <;> rfl)|(simp [*,errW_none,errW_some] <;> rfl),by repeat (first|(with_reducible first|exact HB.out|apply wA_|apply wN_|apply wD_|refine below_set ?_ GE368.out|refine below_set ?_ GE379.out)|exact HB.out)⟩
     ·replace c50:=Bool.eq_false_iff.mpr c50
      subst c50
      have H1:(some false)=some true:=by first|(rw [if_neg (show ¬ (false=true) by decide)] at H;exact H)|rfl
      clear H
      have H:=H1
      clear H1
      exact absurd H (by simp)
    ·replace c47:=Bool.eq_false_iff.mpr c47
     subst c47
     have H1:((impl_ImageTurn.f kj4 t369 t370 t371 t372 t373 t376).bind fun bt407=>(laws_FnImageTurn.l0 kj4 0 t358 t359 t360 t361 t362 t365 t369 t370 t371 t372 t373 t376 bt407.1 bt407.2.1 bt407.2.2.1 bt407.2.2.2.1 bt407.2.2.2.2.1 bt407.2.2.2.2.2))=some true:=by first|(rw [if_neg (show ¬ (false=true) by decide)] at H;exact H)|rfl
     clear H
     have H:=H1
     clear H1
     replace H:=Option.bind_eq_some_iff.mp H
     obtain ⟨⟨t407,t408,t409,t410,t411,t414⟩,A600,H⟩:=H
     replace H:(laws_FnImageTurn.l0 kj4 0 t358 t359 t360 t361 t362 t365 t369 t370 t371 t372 t373 t376 t407 t408 t409 t410 t411 t414)=some true:=H
     have A60:=aM_ A600
     clear A600
     have H':=aM_ H
     clear H
     have hnb61:=NB379_368.out
     have hnc61:=NB368_379.out
     obtain ⟨hcz62_0,hcz62_1,hcz62_2,hcz62_3,hcz62_4,hcz62_5⟩:=bc6 BK379.out
     obtain ⟨hfz62_0,hfz62_1,hfz62_2,hfz62_3,hfz62_4,hfz62_5⟩:=bf6 BK379.out
     go_wp2_with (first|((with_reducible refine gate_callee (f:=31) rfl ?_);refine goesL_ (some 43) rfl rfl Try.func31 (by kernel_rfl) rfl #[.agg #[.int .i64 t369,.int .i64 t370,.int .i64 t371,.int .i64 t372,.slice Ao15 t373.length co15,.slice Ao16 t376.length co16]] rfl (by (try simp only [List.map_toArray,List.map_cons,List.map_nil]);first|done|rfl|(simp only [List.length_drop,List.length_take];rfl)) ?_;(with_reducible refine (impl_ImageTurn.calls kj4 t369 t370 t371 t372 _ _ t373 _ _ t376 t407 t408 t409 t410 t411 t414 _ ?side1 ?side2 ?side3 ?side4 A60.out).mono ?_);(case side1=>repeat (first|exact (Kd.R_reads' HO_380004.out).2.2|(with_reducible refine Kd.C_alloc ?_ _)|(with_reducible refine Kd.C_drewN ?_ _)|(with_reducible refine Kd.C_drew ?_)));(case side2=>exact (Kd.R_reads' HO_380004.out).2.1);(case side3=>repeat (first|exact (Kd.Q_reads' HO_380005.out).2.2|(with_reducible refine Kd.C_alloc ?_ _)|(with_reducible refine Kd.C_drewN ?_ _)|(with_reducible refine Kd.C_drew ?_)));(case side4=>exact (Kd.Q_reads' HO_380005.out).2.1);rintro e w63 ⟨v412,v415,rfl,ho0,ho1,hb⟩;refine ⟨_,rfl,?_⟩;have n0_:=aM_ (Kd.R_mono (Kd.R_told (Kd.R_told (Kd.R_old (by (with_reducible repeat (first|apply rA_|apply rN_|apply rD_));exact HO_369004.out) hb) (Kd.R_base ho0)) (Kd.R_base ho1)) (fun _ h_=>h_.1));have n1_:=aM_ (Kd.Q_mono (Kd.Q_told (Kd.Q_told (Kd.Q_old (by (with_reducible repeat (first|apply Kd.Q_alloc|apply Kd.Q_drewN|apply Kd.Q_drew));exact HO_369005.out) hb) (Kd.R_base ho0)) (Kd.R_base ho1)) (fun _ h_=>h_.1));have n2_:=aM_ (Kd.R_mono (Kd.R_told (Kd.R_told (Kd.R_old (by (with_reducible repeat (first|apply rA_|apply rN_|apply rD_));exact HO_380004.out) hb) (Kd.R_base ho0)) (Kd.R_base ho1)) (fun _ h_=>h_.1));have n3_:=aM_ (Kd.Q_mono (Kd.Q_told (Kd.Q_told (Kd.Q_old (by (with_reducible repeat (first|apply Kd.Q_alloc|apply Kd.Q_drewN|apply Kd.Q_drew));exact HO_380005.out) hb) (Kd.R_base ho0)) (Kd.R_base ho1)) (fun _ h_=>h_.1));have n4_:=aM_ (Kd.R_lower (Kd.R_new' (Kd.R_new' (Kd.R_new' (Kd.R_new' ho0 (Kd.R_lt (by (with_reducible repeat (first|apply rA_|apply rN_|apply rD_));exact HO_369004.out))) (Kd.Q_lt (by (with_reducible repeat (first|apply Kd.Q_alloc|apply Kd.Q_drewN|apply Kd.Q_drew));exact HO_369005.out))) (Kd.R_lt (by (with_reducible repeat (first|apply rA_|apply rN_|apply rD_));exact HO_380004.out))) (Kd.Q_lt (by (with_reducible repeat (first|apply Kd.Q_alloc|apply Kd.Q_drewN|apply Kd.Q_drew));exact HO_380005.out))) (below_size (by repeat (first|(with_reducible first|exact HB.out|apply wA_|apply wN_|apply wD_|refine below_set ?_ GE368.out|refine below_set ?_ GE379.out)|exact HB.out))));have n5_:=aM_ (Kd.R_lower (Kd.R_new' (Kd.R_new' (Kd.R_new' (Kd.R_new' ho1 (Kd.R_lt (by (with_reducible repeat (first|apply rA_|apply rN_|apply rD_));exact HO_369004.out))) (Kd.Q_lt (by (with_reducible repeat (first|apply Kd.Q_alloc|apply Kd.Q_drewN|apply Kd.Q_drew));exact HO_369005.out))) (Kd.R_lt (by (with_reducible repeat (first|apply rA_|apply rN_|apply rD_));exact HO_380004.out))) (Kd.Q_lt (by (with_reducible repeat (first|apply Kd.Q_alloc|apply Kd.Q_drewN|apply Kd.Q_drew));exact HO_380005.out))) (below_size (by repeat (first|(with_reducible first|exact HB.out|apply wA_|apply wN_|apply wD_|refine below_set ?_ GE368.out|refine below_set ?_ GE379.out)|exact HB.out))));have n6_:=aM_ (blk_below (g:=gb368) (by (with_reducible repeat (first|apply kN_|apply kD_|apply kA_));exact BK368.out) hb);have n7_:=aM_ (blk_below (g:=gb379) (by (with_reducible repeat (first|apply kN_|apply kD_|apply kA_));exact BK379.out) hb);have n8_:=aM_ (below_step (by repeat (first|(with_reducible first|exact HB.out|apply wA_|apply wN_|apply wD_|refine below_set ?_ GE368.out|refine below_set ?_ GE379.out)|exact HB.out)) hb);clear HO_369004;clear HO_369005;clear HO_380004;clear HO_380005;clear BK368;clear BK379;clear HB;have HO_369004:=n0_;have HO_369005:=n1_;have HO_380004:=n2_;have HO_380005:=n3_;have HO413:=n4_;have HO416:=n5_;have BK368:=n6_;have BK379:=n7_;have HB:=n8_;clear n0_ n1_ n2_ n3_ n4_ n5_ n6_ n7_ n8_;(try clear hb);(try clear hb2);(try clear hk);(try clear hi);(try clear ho0);(try clear ho1))|((with_reducible refine gate_dst (N:=5) rfl ?_);refine box_event ?hg (N:=5) ?hd (cs:=#[.int .i64 0,.int .i64 0,.int .i64 0,.int .i64 0,.slice none 0 0,.slice none 0 0]) (t:=27) ?hr ?_;(case hd=>rfl);(case hg=>rfl);(case hr=>first|(go_simp;done)|(go_simp;rfl));intro gb417 hg w64 hbox hb;have n0_:=aM_ (Kd.R_below (by (with_reducible repeat (first|apply rA_|apply rN_|apply rD_));exact HO_369004.out) hb);have n1_:=aM_ (Kd.Q_below (by (with_reducible repeat (first|apply Kd.Q_alloc|apply Kd.Q_drewN|apply Kd.Q_drew));exact HO_369005.out) hb);have n2_:=aM_ (Kd.R_below (by (with_reducible repeat (first|apply rA_|apply rN_|apply rD_));exact HO_380004.out) hb);have n3_:=aM_ (Kd.Q_below (by (with_reducible repeat (first|apply Kd.Q_alloc|apply Kd.Q_drewN|apply Kd.Q_drew));exact HO_380005.out) hb);have n4_:=aM_ (Kd.R_below (by (with_reducible repeat (first|apply rA_|apply rN_|apply rD_));exact HO413.out) hb);have n5_:=aM_ (Kd.R_below (by (with_reducible repeat (first|apply rA_|apply rN_|apply rD_));exact HO416.out) hb);have n6_:=aM_ (blk_below (g:=gb368) (by (with_reducible repeat (first|apply kN_|apply kD_|apply kA_));exact BK368.out) hb);have n7_:=aM_ (blk_below (g:=gb379) (by (with_reducible repeat (first|apply kN_|apply kD_|apply kA_));exact BK379.out) hb);have n8_:=aM_ (below_step (by repeat (first|(with_reducible first|exact HB.out|apply wA_|apply wN_|apply wD_|refine below_set ?_ GE368.out|refine below_set ?_ GE379.out)|exact HB.out)) hb);have n9_:=aM_ (hbox);have n10_:=aM_ ((by rw [hg];exact (below_size (by repeat (first|(with_reducible first|exact HB.out|apply wA_|apply wN_|apply wD_|refine below_set ?_ GE368.out|refine below_set ?_ GE379.out)|exact HB.out))):w.heap.size≤gb417));have n11_:=aM_ ((by rw [hg];exact (below_size (by repeat (first|(with_reducible first|exact HB.out|apply wA_|apply wN_|apply wD_|refine below_set ?_ GE368.out|refine below_set ?_ GE379.out)|exact HB.out))):w.heap.size≤gb417));have n12_:=aM_ ((by rw [hg];exact Nat.ne_of_lt (blk_lt (g:=gb368) (by (with_reducible repeat (first|apply kN_|apply kD_|apply kA_));exact BK368.out)):gb368≠gb417));have n13_:=aM_ n12_.out.symm;have n14_:=aM_ ((by rw [hg];exact Nat.ne_of_lt (blk_lt (g:=gb379) (by (with_reducible repeat (first|apply kN_|apply kD_|apply kA_));exact BK379.out)):gb379≠gb417));have n15_:=aM_ n14_.out.symm;clear HO_369004;clear HO_369005;clear HO_380004;clear HO_380005;clear HO413;clear HO416;clear BK368;clear BK379;clear HB;have HO_369004:=n0_;have HO_369005:=n1_;have HO_380004:=n2_;have HO_380005:=n3_;have HO413:=n4_;have HO416:=n5_;have BK368:=n6_;have BK379:=n7_;have HB:=n8_;have BK417:=n9_;have GW417:=n10_;have GE417:=n11_;have NB368_417:=n12_;have NB417_368:=n13_;have NB379_417:=n14_;have NB417_379:=n15_;clear n0_ n1_ n2_ n3_ n4_ n5_ n6_ n7_ n8_ n9_ n10_ n11_ n12_ n13_ n14_ n15_;clear hb hbox hg;have hnb65:=NB417_368.out;have hnc65:=NB368_417.out;have hnb66:=NB417_379.out;have hnc66:=NB379_417.out;obtain ⟨hcz67_0,hcz67_1,hcz67_2,hcz67_3,hcz67_4,hcz67_5⟩:=bc6 BK417.out;obtain ⟨hfz67_0,hfz67_1,hfz67_2,hfz67_3,hfz67_4,hfz67_5⟩:=bf6 BK417.out;obtain ⟨Ao68,co68,eo68⟩:=Kd.R_slice HO413.out;subst eo68;obtain ⟨Ao69,co69,eo69⟩:=Kd.R_slice HO416.out;subst eo69))
     go_loopg [6] kj4 (fun kq v6 w'=>∃ (x6_2:Int),v6=.int .i64 x6_2∧Aside0 (laws_FnImageTurn.l0 kq x6_2 t358 t359 t360 t361 t362 t365 t369 t370 t371 t372 t373 t376 t407 t408 t409 t410 t411 t414=some true)∧Aside0 (kq≤kj4)∧Aside0 (Kd.R (Kd.int .i64) 3 w' w.heap.size (fun k_=>some k_≠((.slice Ao10 t365.length co10):Value).ownBlock∧some k_≠((.slice Ao15 t373.length co15):Value).ownBlock∧some k_≠((.slice Ao16 t376.length co16):Value).ownBlock∧some k_≠((.slice Ao68 t411.length co68):Value).ownBlock∧some k_≠((.slice Ao69 t414.length co69):Value).ownBlock) (.slice Ao9 t362.length co9) t362)∧Aside0 (Kd.Q (Kd.int .i64) 3 w' w.heap.size (fun k_=>some k_≠((.slice Ao9 t362.length co9):Value).ownBlock∧some k_≠((.slice Ao15 t373.length co15):Value).ownBlock∧some k_≠((.slice Ao16 t376.length co16):Value).ownBlock∧some k_≠((.slice Ao68 t411.length co68):Value).ownBlock∧some k_≠((.slice Ao69 t414.length co69):Value).ownBlock) (.slice Ao10 t365.length co10) t365)∧Aside0 (Kd.R (Kd.int .i64) 3 w' w.heap.size (fun k_=>some k_≠((.slice Ao9 t362.length co9):Value).ownBlock∧some k_≠((.slice Ao10 t365.length co10):Value).ownBlock∧some k_≠((.slice Ao16 t376.length co16):Value).ownBlock∧some k_≠((.slice Ao68 t411.length co68):Value).ownBlock∧some k_≠((.slice Ao69 t414.length co69):Value).ownBlock) (.slice Ao15 t373.length co15) t373)∧Aside0 (Kd.Q (Kd.int .i64) 3 w' w.heap.size (fun k_=>some k_≠((.slice Ao9 t362.length co9):Value).ownBlock∧some k_≠((.slice Ao10 t365.length co10):Value).ownBlock∧some k_≠((.slice Ao15 t373.length co15):Value).ownBlock∧some k_≠((.slice Ao68 t411.length co68):Value).ownBlock∧some k_≠((.slice Ao69 t414.length co69):Value).ownBlock) (.slice Ao16 t376.length co16) t376)∧Aside0 (Kd.R (Kd.int .i64) 3 w' w.heap.size (fun k_=>some k_≠((.slice Ao9 t362.length co9):Value).ownBlock∧some k_≠((.slice Ao10 t365.length co10):Value).ownBlock∧some k_≠((.slice Ao15 t373.length co15):Value).ownBlock∧some k_≠((.slice Ao16 t376.length co16):Value).ownBlock∧some k_≠((.slice Ao69 t414.length co69):Value).ownBlock) (.slice Ao68 t411.length co68) t411)∧Aside0 (Kd.Q (Kd.int .i64) 3 w' w.heap.size (fun k_=>some k_≠((.slice Ao9 t362.length co9):Value).ownBlock∧some k_≠((.slice Ao10 t365.length co10):Value).ownBlock∧some k_≠((.slice Ao15 t373.length co15):Value).ownBlock∧some k_≠((.slice Ao16 t376.length co16):Value).ownBlock∧some k_≠((.slice Ao68 t411.length co68):Value).ownBlock) (.slice Ao69 t414.length co69) t414)∧Aside0 (w'.heap[gb368]?=some (.cells #[.int .i64 t358,.int .i64 t359,.int .i64 t360,.int .i64 t361,(.slice Ao9 t362.length co9),(.slice Ao10 t365.length co10)] 27 (0,0)))∧Aside0 (w'.heap[gb379]?=some (.cells #[.int .i64 t369,.int .i64 t370,.int .i64 t371,.int .i64 t372,(.slice Ao15 t373.length co15),(.slice Ao16 t376.length co16)] 27 (0,0)))∧Aside0 (w'.heap[gb417]?=some (.cells #[.int .i64 t407,.int .i64 t408,.int .i64 t409,.int .i64 t410,(.slice Ao68 t411.length co68),(.slice Ao69 t414.length co69)] 27 (0,0)))∧Aside0 (Below w.heap.size w w'))
     case atStart=>exact ⟨(0),(by first|rfl|(simp;done)|(simp [*];done)),H',⟨Nat.le_refl _⟩,⟨by (with_reducible repeat (first|apply rA_|apply rN_|apply rD_));exact Kd.R_mono (Kd.R_far (Kd.R_far (Kd.R_far (Kd.R_far (Kd.R_far (Kd.R_far (Kd.R_types HO_369004.out BK417.out (by decide)) (fun _ hk=>hk.2) _) (fun _ hk=>hk.2) _) (fun _ hk=>hk.2) _) (fun _ hk=>hk.2) _) (fun _ hk=>hk.2) _) (fun _ hk=>hk.2) _) (fun _ hk=>⟨hk.1.1.1.1,⟨hk.1.1.1.2.1,⟨hk.1.1.1.2.2,⟨hk.1.1.2,hk.1.2⟩⟩⟩⟩)⟩,⟨by (with_reducible repeat (first|apply Kd.Q_alloc|apply Kd.Q_drewN|apply Kd.Q_drew));exact Kd.Q_mono (Kd.Q_far (Kd.Q_far (Kd.Q_far (Kd.Q_far (Kd.Q_far (Kd.Q_far (Kd.Q_types HO_369005.out BK417.out (by decide)) (fun _ hk=>hk.2) _) (fun _ hk=>hk.2) _) (fun _ hk=>hk.2) _) (fun _ hk=>hk.2) _) (fun _ hk=>hk.2) _) (fun _ hk=>hk.2) _) (fun _ hk=>⟨hk.1.1.1.1,⟨hk.1.1.1.2.1,⟨hk.1.1.1.2.2,⟨hk.1.1.2,hk.1.2⟩⟩⟩⟩)⟩,⟨by (with_reducible repeat (first|apply rA_|apply rN_|apply rD_));exact Kd.R_mono (Kd.R_far (Kd.R_far (Kd.R_far (Kd.R_far (Kd.R_far (Kd.R_far (Kd.R_types HO_380004.out BK417.out (by decide)) (fun _ hk=>hk.2) _) (fun _ hk=>hk.2) _) (fun _ hk=>hk.2) _) (fun _ hk=>hk.2) _) (fun _ hk=>hk.2) _) (fun _ hk=>hk.2) _) (fun _ hk=>⟨hk.1.1.1.1,⟨hk.1.1.1.2.1,⟨hk.1.1.1.2.2,⟨hk.1.1.2,hk.1.2⟩⟩⟩⟩)⟩,⟨by (with_reducible repeat (first|apply Kd.Q_alloc|apply Kd.Q_drewN|apply Kd.Q_drew));exact Kd.Q_mono (Kd.Q_far (Kd.Q_far (Kd.Q_far (Kd.Q_far (Kd.Q_far (Kd.Q_far (Kd.Q_types HO_380005.out BK417.out (by decide)) (fun _ hk=>hk.2) _) (fun _ hk=>hk.2) _) (fun _ hk=>hk.2) _) (fun _ hk=>hk.2) _) (fun _ hk=>hk.2) _) (fun _ hk=>hk.2) _) (fun _ hk=>⟨hk.1.1.1.1,⟨hk.1.1.1.2.1,⟨hk.1.1.1.2.2,⟨hk.1.1.2,hk.1.2⟩⟩⟩⟩)⟩,⟨by (with_reducible repeat (first|apply rA_|apply rN_|apply rD_));exact Kd.R_mono (Kd.R_far (Kd.R_far (Kd.R_far (Kd.R_far (Kd.R_far (Kd.R_far (Kd.R_types HO413.out BK417.out (by decide)) (fun _ hk=>hk.2) _) (fun _ hk=>hk.2) _) (fun _ hk=>hk.2) _) (fun _ hk=>hk.2) _) (fun _ hk=>hk.2) _) (fun _ hk=>hk.2) _) (fun _ hk=>⟨hk.1.1.1.1.2,⟨hk.1.1.1.2,⟨hk.1.1.2,⟨hk.1.2,hk.1.1.1.1.1⟩⟩⟩⟩)⟩,⟨Kd.Q_of_R (by (with_reducible repeat (first|apply rA_|apply rN_|apply rD_));exact Kd.R_mono (Kd.R_far (Kd.R_far (Kd.R_far (Kd.R_far (Kd.R_far (Kd.R_far (Kd.R_types HO416.out BK417.out (by decide)) (fun _ hk=>hk.2) _) (fun _ hk=>hk.2) _) (fun _ hk=>hk.2) _) (fun _ hk=>hk.2) _) (fun _ hk=>hk.2) _) (fun _ hk=>hk.2) _) (fun _ hk=>⟨hk.1.1.1.1.2,⟨hk.1.1.1.2,⟨hk.1.1.2,⟨hk.1.2,hk.1.1.1.1.1⟩⟩⟩⟩))⟩,⟨by (with_reducible repeat (first|apply kN_|apply kD_|apply kA_));refine blk_far ?_ NB368_417.out _;(with_reducible repeat (first|apply kN_|apply kD_|apply kA_));refine blk_far ?_ NB368_417.out _;(with_reducible repeat (first|apply kN_|apply kD_|apply kA_));refine blk_far ?_ NB368_417.out _;(with_reducible repeat (first|apply kN_|apply kD_|apply kA_));refine blk_far ?_ NB368_417.out _;(with_reducible repeat (first|apply kN_|apply kD_|apply kA_));refine blk_far ?_ NB368_417.out _;(with_reducible repeat (first|apply kN_|apply kD_|apply kA_));refine blk_far ?_ NB368_417.out _;(with_reducible repeat (first|apply kN_|apply kD_|apply kA_));exact BK368.out⟩,⟨by (with_reducible repeat (first|apply kN_|apply kD_|apply kA_));refine blk_far ?_ NB379_417.out _;(with_reducible repeat (first|apply kN_|apply kD_|apply kA_));refine blk_far ?_ NB379_417.out _;(with_reducible repeat (first|apply kN_|apply kD_|apply kA_));refine blk_far ?_ NB379_417.out _;(with_reducible repeat (first|apply kN_|apply kD_|apply kA_));refine blk_far ?_ NB379_417.out _;(with_reducible repeat (first|apply kN_|apply kD_|apply kA_));refine blk_far ?_ NB379_417.out _;(with_reducible repeat (first|apply kN_|apply kD_|apply kA_));refine blk_far ?_ NB379_417.out _;(with_reducible repeat (first|apply kN_|apply kD_|apply kA_));exact BK379.out⟩,⟨by (with_reducible repeat (first|apply kN_|apply kD_|apply kA_));refine blk_put (cs:=#[.int .i64 t407,.int .i64 t408,.int .i64 t409,.int .i64 t410,.slice Ao68 t411.length co68,.slice none 0 0]) ?_ 5 _ rfl;(with_reducible repeat (first|apply kN_|apply kD_|apply kA_));refine blk_put (cs:=#[.int .i64 t407,.int .i64 t408,.int .i64 t409,.int .i64 t410,.slice none 0 0,.slice none 0 0]) ?_ 4 _ rfl;(with_reducible repeat (first|apply kN_|apply kD_|apply kA_));refine blk_put (cs:=#[.int .i64 t407,.int .i64 t408,.int .i64 t409,.int .i64 0,.slice none 0 0,.slice none 0 0]) ?_ 3 _ rfl;(with_reducible repeat (first|apply kN_|apply kD_|apply kA_));refine blk_put (cs:=#[.int .i64 t407,.int .i64 t408,.int .i64 0,.int .i64 0,.slice none 0 0,.slice none 0 0]) ?_ 2 _ rfl;(with_reducible repeat (first|apply kN_|apply kD_|apply kA_));refine blk_put (cs:=#[.int .i64 t407,.int .i64 0,.int .i64 0,.int .i64 0,.slice none 0 0,.slice none 0 0]) ?_ 1 _ rfl;(with_reducible repeat (first|apply kN_|apply kD_|apply kA_));refine blk_put (cs:=#[.int .i64 0,.int .i64 0,.int .i64 0,.int .i64 0,.slice none 0 0,.slice none 0 0]) ?_ 0 _ rfl;(with_reducible repeat (first|apply kN_|apply kD_|apply kA_));exact BK417.out⟩,⟨by repeat (first|(with_reducible first|exact HB.out|apply wA_|apply wN_|apply wD_|refine below_set ?_ GE368.out|refine below_set ?_ GE379.out|refine below_set ?_ GE417.out)|exact HB.out)⟩⟩
     case round =>
      clear H'
      try clear c1
      try clear p2
      try clear c3
      try clear c4
      try clear c5
      try clear c6
      try clear c16
      try clear c18
      try clear c19
      try clear c30
      try clear c31
      try clear c39
      try clear c47
      try clear c50
      try clear c61
      try clear c65
      try clear c66
      try clear hcz62_0 hcz62_1 hcz62_2 hcz62_3 hcz62_4 hcz62_5
      try clear hcz67_0 hcz67_1 hcz67_2 hcz67_3 hcz67_4 hcz67_5
      try clear hfz62_0 hfz62_1 hfz62_2 hfz62_3 hfz62_4 hfz62_5
      try clear hfz67_0 hfz67_1 hfz67_2 hfz67_3 hfz67_4 hfz67_5
      try clear p2
      obtain ⟨x6_2,rfl,HA,HK2,HO_369004,HO_369005,HO_380004,HO_380005,HO_418004,HO_418005,BK368,BK379,BK417,HB⟩:=hrel
      cases gk with
      | zero=>exact absurd HA.out (by simp [laws_FnImageTurn.l0])
      | succ k2 =>
       have H:=HA.out
       clear HA
       simp only [laws_FnImageTurn.l0] at H
       by_cases c70:x6_2 < (t365.length:Int)
       ·rw [if_pos c70] at H
        have c70b0:decide (x6_2 < (t365.length:Int))=true:=decide_eq_true c70
        clear c70
        obtain ⟨ji71,hji71⟩:∃ j_:Int,(wrap64 ((wrap64 ((t365.length:Int) - 1)) - x6_2))=j_:=⟨_,rfl⟩
        replace H:(if 0≤(ji71) then (if (ji71) < (t414.length:Int) then (if 0≤x6_2 then (if (rd t414 (ji71))=(rd t365 x6_2) then (laws_FnImageTurn.l0 k2 (wrap64 (x6_2+1)) t358 t359 t360 t361 t362 t365 t369 t370 t371 t372 t373 t376 t407 t408 t409 t410 t411 t414) else (some false)) else (none)) else (none)) else (none))=some true:=by first|(rw [hji71] at H;exact H)|(simp only [hji71] at H ⊢;exact H)
        have hji71w:(IntKind.i64.wrap ((wrap64 ((t365.length:Int) - 1)) - x6_2))=ji71:=(i64_w _).trans hji71
        by_cases c72:0≤(ji71)
        ·rw [if_pos c72] at H
         have c72b0:decide (0≤(ji71))=true:=decide_eq_true c72
         clear c72
         by_cases c73:(ji71) < (t414.length:Int)
         ·rw [if_pos c73] at H
          have c73b0:decide ((ji71) < (t414.length:Int))=true:=decide_eq_true c73
          clear c73
          by_cases c74:0≤x6_2
          ·rw [if_pos c74] at H
           have c74b0:decide (0≤x6_2)=true:=decide_eq_true c74
           clear c74
           by_cases c75:(rd t414 (ji71))=(rd t365 x6_2)
           ·rw [if_pos c75] at H
            have c75b0:((rd t414 (ji71)) == (rd t365 x6_2))=true:=beq_iff_eq.mpr c75
            have c75b1:((rd t414 (ji71)) != (rd t365 x6_2))=false:=bne_eq_false_iff_eq.mpr c75
            clear c75
            have H':=aM_ H
            clear H
            have hnb76:=NB368_379.out
            have hnc76:=NB379_368.out
            have hnb77:=NB368_417.out
            have hnc77:=NB417_368.out
            obtain ⟨hcz78_0,hcz78_1,hcz78_2,hcz78_3,hcz78_4,hcz78_5⟩:=bc6 BK368.out
            obtain ⟨hfz78_0,hfz78_1,hfz78_2,hfz78_3,hfz78_4,hfz78_5⟩:=bf6 BK368.out
            try go_wp2
            have n0_:=aM_ (rD_ HO_369004.out)
            have n1_:=aM_ (Kd.Q_drew HO_369005.out)
            have n2_:=aM_ (rD_ HO_380004.out)
            have n3_:=aM_ (Kd.Q_drew HO_380005.out)
            have n4_:=aM_ (rD_ HO_418004.out)
            have n5_:=aM_ (Kd.Q_drew HO_418005.out)
            have n6_:=aM_ (kD_ BK368.out)
            have n7_:=aM_ (kD_ BK379.out)
            have n8_:=aM_ (kD_ BK417.out)
            have n9_:=aM_ (wD_ HB.out)
            clear HO_369004
            clear HO_369005
            clear HO_380004
            clear HO_380005
            clear HO_418004
            clear HO_418005
            clear BK368
            clear BK379
            clear BK417
            clear HB
            have HO_369004:=n0_
            have HO_369005:=n1_
            have HO_380004:=n2_
            have HO_380005:=n3_
            have HO_418004:=n4_
            have HO_418005:=n5_
            have BK368:=n6_
            have BK379:=n7_
            have BK417:=n8_
            have HB:=n9_
            clear n0_ n1_ n2_ n3_ n4_ n5_ n6_ n7_ n8_ n9_
            have p418:0≤((ji71):Int):=of_decide_eq_true (by first|(with_reducible assumption)|assumption)
            have q418:(ji71) < (t414.length:Int):=of_decide_eq_true (by first|(with_reducible assumption)|assumption)
            obtain ⟨ad418,e418,hx418_0⟩:=Kd.at_int (Kd.Q_reads' HO_418005.out).2.2 (ji71) p418 q418
            cases e418
            replace p418:=eq_true p418
            replace q418:=eq_true q418
            have p419:0≤(x6_2:Int):=of_decide_eq_true (by first|(with_reducible assumption)|assumption)
            have q419:x6_2 < (t365.length:Int):=of_decide_eq_true (by first|(with_reducible assumption)|assumption)
            obtain ⟨ad419,e419,hx419_0⟩:=Kd.at_int (Kd.Q_reads' HO_369005.out).2.2 x6_2 p419 q419
            cases e419
            replace p419:=eq_true p419
            replace q419:=eq_true q419
            refine start_ (n:=16) (S:=fun w'=>w'.cell? ⟨gb417,0,none⟩=some (.int .i64 t407)∧w'.cell? ⟨gb417,1,none⟩=some (.int .i64 t408)∧w'.cell? ⟨gb417,2,none⟩=some (.int .i64 t409)∧w'.cell? ⟨gb417,3,none⟩=some (.int .i64 t410)∧w'.cell? ⟨gb417,4,none⟩=some (.slice Ao68 t411.length co68)∧w'.cell? ⟨gb417,5,none⟩=some (.slice (some ad418) t414.length co69)∧w'.cell? ⟨gb368,0,none⟩=some (.int .i64 t358)∧w'.cell? ⟨gb368,1,none⟩=some (.int .i64 t359)∧w'.cell? ⟨gb368,2,none⟩=some (.int .i64 t360)∧w'.cell? ⟨gb368,3,none⟩=some (.int .i64 t361)∧w'.cell? ⟨gb368,4,none⟩=some (.slice Ao9 t362.length co9)∧w'.cell? ⟨gb368,5,none⟩=some (.slice (some ad419) t365.length co10)∧w'.cell? (ad418.add ((ji71)).toNat)=some (.int .i64 (rd t414 (ji71)))∧w'.cell? (ad419.add (x6_2).toNat)=some (.int .i64 (rd t365 x6_2))) (ds:=[]) #[false,false,false,false,false,false,false,false,false,false,false,false,false,false,false,false] (by kernel_rfl) rfl rfl ⟨(blk_cell BK417.out 0).trans rfl,(blk_cell BK417.out 1).trans rfl,(blk_cell BK417.out 2).trans rfl,(blk_cell BK417.out 3).trans rfl,(blk_cell BK417.out 4).trans rfl,(blk_cell BK417.out 5).trans rfl,(blk_cell BK368.out 0).trans rfl,(blk_cell BK368.out 1).trans rfl,(blk_cell BK368.out 2).trans rfl,(blk_cell BK368.out 3).trans rfl,(blk_cell BK368.out 4).trans rfl,(blk_cell BK368.out 5).trans rfl,hx418_0,hx419_0⟩ (fun hHeld=>?_);refine with_tabW laws_FnImageTurn.tab11 laws_FnImageTurn.bits11 (fun HT_ HW_=>?_)
            generalize wr.drew=w79 at HO_369004 HO_369005 HO_380004 HO_380005 HO_418004 HO_418005 BK368 BK379 BK417 HB hx418_0 hx419_0 hHeld ⊢
            refine pure_ (i:=0) (N:=some 51) (v:=?_) (a':=?_) #[true,false,false,false,false,false,false,false,false,false,false,false,false,false,false,false] rfl rfl (any_of HT_.out (by kernel_rfl)) (fun _ _ _ h=>h) (Or.inl ⟨by rfl,?_⟩) ?_ ?_
            rotate_left
            ·intro w'
             go_simp
             with_reducible rfl
            rotate_left
            ·simp only [Act.put,sA_,s0_,s1_,i64_w,i32_w]
             rfl
            refine pure_ (i:=2) (N:=some 53) (v:=?_) (a':=?_) #[true,false,true,false,false,false,false,false,false,false,false,false,false,false,false,false] rfl rfl (any_of HT_.out (by kernel_rfl)) (fun _ _ _ h=>h) (Or.inl ⟨by rfl,?_⟩) ?_ ?_
            rotate_left
            ·intro w'
             go_simp
             with_reducible rfl
            rotate_left
            ·simp only [Act.put,sA_,s0_,s1_,i64_w,i32_w]
             rfl
            refine pure_ (i:=6) (N:=some 57) (v:=?_) (a':=?_) #[true,false,true,false,false,false,true,false,false,false,false,false,false,false,false,false] rfl rfl (any_of HT_.out (by kernel_rfl)) (fun _ _ _ h=>h) (Or.inl ⟨by rfl,?_⟩) ?_ ?_
            rotate_left
            ·intro w'
             go_simp
             with_reducible rfl
            rotate_left
            ·simp only [Act.put,sA_,s0_,s1_,i64_w,i32_w]
             rfl
            refine pure_ (i:=10) (N:=some 61) (v:=?_) (a':=?_) #[true,false,true,false,false,false,true,false,false,false,true,false,false,false,false,false] rfl rfl (any_of HT_.out (by kernel_rfl)) (fun _ _ _ h=>h) (Or.inl ⟨by rfl,?_⟩) ?_ ?_
            rotate_left
            ·intro w'
             go_simp
             with_reducible rfl
            rotate_left
            ·simp only [Act.put,sA_,s0_,s1_,i64_w,i32_w]
             rfl
            refine pure_ (i:=12) (N:=some 63) (v:=?_) (a':=?_) #[true,false,true,false,false,false,true,false,false,false,true,false,true,false,false,false] rfl rfl (any_of HT_.out (by kernel_rfl)) (fun _ _ _ h=>h) (Or.inl ⟨by rfl,?_⟩) ?_ ?_
            rotate_left
            ·intro w'
             go_simp
             with_reducible rfl
            rotate_left
            ·simp only [Act.put,sA_,s0_,s1_,i64_w,i32_w]
             rfl
            refine take_ (i:=1) (N:=some 52) (v:=?_) (a':=?_) #[true,true,true,false,false,false,true,false,false,false,true,false,true,false,false,false] rfl rfl (take_ofW HT_.out HW_.out (by kernel_rfl)) (fun _ _ _ h=>h) (Or.inl ⟨by rfl,?_⟩) hHeld ?_ ?_
            rotate_left
            ·rintro w' ⟨s0,s1,s2,s3,s4,s5,s6,s7,s8,s9,s10,s11,s12,s13⟩
             go_simp
             with_reducible rfl
            rotate_left
            ·simp only [Act.put,sA_,s0_,s1_,i64_w,i32_w]
             rfl
            refine take_ (i:=3) (N:=some 54) (v:=?_) (a':=?_) #[true,true,true,true,false,false,true,false,false,false,true,false,true,false,false,false] rfl rfl (take_ofW HT_.out HW_.out (by kernel_rfl)) (fun _ _ _ h=>h) (Or.inl ⟨by rfl,?_⟩) hHeld ?_ ?_
            rotate_left
            ·rintro w' ⟨s0,s1,s2,s3,s4,s5,s6,s7,s8,s9,s10,s11,s12,s13⟩
             go_simp
             with_reducible rfl
            rotate_left
            ·simp only [Act.put,sA_,s0_,s1_,i64_w,i32_w]
             rfl
            refine pure_ (i:=4) (N:=some 55) (v:=?_) (a':=?_) #[true,true,true,true,true,false,true,false,false,false,true,false,true,false,false,false] rfl rfl (any_of HT_.out (by kernel_rfl)) (fun _ _ _ h=>h) (Or.inl ⟨by rfl,?_⟩) ?_ ?_
            rotate_left
            ·intro w'
             go_simp
             with_reducible rfl
            rotate_left
            ·simp only [Act.put,sA_,s0_,s1_,i64_w,i32_w]
             rfl
            refine pure_ (i:=5) (N:=some 56) (v:=?_) (a':=?_) #[true,true,true,true,true,true,true,false,false,false,true,false,true,false,false,false] rfl rfl (any_of HT_.out (by kernel_rfl)) (fun _ _ _ h=>h) (Or.inl ⟨by rfl,?_⟩) ?_ ?_
            rotate_left
            ·intro w'
             go_simp
             with_reducible rfl
            rotate_left
            ·simp only [Act.put,sA_,s0_,s1_,i64_w,i32_w]
             rfl
            refine pure_ (i:=7) (N:=some 58) (v:=?_) (a':=?_) #[true,true,true,true,true,true,true,true,false,false,true,false,true,false,false,false] rfl rfl (any_of HT_.out (by kernel_rfl)) (fun _ _ _ h=>h) (Or.inl ⟨by rfl,?_⟩) ?_ ?_
            rotate_left
            ·intro w'
             go_simp
             with_reducible rfl
            rotate_left
            ·simp only [Act.put,sA_,s0_,s1_,i64_w,i32_w]
             rfl
            refine pure_ (i:=8) (N:=some 59) (v:=?_) (a':=?_) #[true,true,true,true,true,true,true,true,true,false,true,false,true,false,false,false] rfl rfl (any_of HT_.out (by kernel_rfl)) (fun _ _ _ h=>h) (Or.inl ⟨by rfl,?_⟩) ?_ ?_
            rotate_left
            ·intro w'
             go_simp
             with_reducible rfl
            rotate_left
            ·simp only [Act.put,sA_,s0_,s1_,i64_w,i32_w]
             rfl
            refine take_ (i:=9) (N:=some 60) (v:=?_) (a':=?_) #[true,true,true,true,true,true,true,true,true,true,true,false,true,false,false,false] rfl rfl (take_ofW HT_.out HW_.out (by kernel_rfl)) (fun _ _ _ h=>h) (Or.inl ⟨by rfl,?_⟩) hHeld ?_ ?_
            rotate_left
            ·rintro w' ⟨s0,s1,s2,s3,s4,s5,s6,s7,s8,s9,s10,s11,s12,s13⟩
             go_simp
             with_reducible rfl
            rotate_left
            ·simp only [Act.put,sA_,s0_,s1_,i64_w,i32_w]
             rfl
            refine take_ (i:=11) (N:=some 62) (v:=?_) (a':=?_) #[true,true,true,true,true,true,true,true,true,true,true,true,true,false,false,false] rfl rfl (take_ofW HT_.out HW_.out (by kernel_rfl)) (fun _ _ _ h=>h) (Or.inl ⟨by rfl,?_⟩) hHeld ?_ ?_
            rotate_left
            ·rintro w' ⟨s0,s1,s2,s3,s4,s5,s6,s7,s8,s9,s10,s11,s12,s13⟩
             go_simp
             with_reducible rfl
            rotate_left
            ·simp only [Act.put,sA_,s0_,s1_,i64_w,i32_w]
             rfl
            refine pure_ (i:=13) (N:=some 64) (v:=?_) (a':=?_) #[true,true,true,true,true,true,true,true,true,true,true,true,true,true,false,false] rfl rfl (any_of HT_.out (by kernel_rfl)) (fun _ _ _ h=>h) (Or.inl ⟨by rfl,?_⟩) ?_ ?_
            rotate_left
            ·intro w'
             go_simp
             with_reducible rfl
            rotate_left
            ·simp only [Act.put,sA_,s0_,s1_,i64_w,i32_w]
             rfl
            refine take_ (i:=14) (N:=some 65) (v:=?_) (a':=?_) #[true,true,true,true,true,true,true,true,true,true,true,true,true,true,true,false] rfl rfl (take_ofW HT_.out HW_.out (by kernel_rfl)) (fun _ _ _ h=>h) (Or.inl ⟨by rfl,?_⟩) hHeld ?_ ?_
            rotate_left
            ·rintro w' ⟨s0,s1,s2,s3,s4,s5,s6,s7,s8,s9,s10,s11,s12,s13⟩
             go_simp
             with_reducible rfl
            rotate_left
            ·simp only [Act.put,sA_,s0_,s1_,i64_w,i32_w]
             rfl
            refine pure_ (i:=15) (N:=some 66) (v:=?_) (a':=?_) #[true,true,true,true,true,true,true,true,true,true,true,true,true,true,true,true] rfl rfl (any_of HT_.out (by kernel_rfl)) (fun _ _ _ h=>h) (Or.inl ⟨by rfl,?_⟩) ?_ ?_
            rotate_left
            ·intro w'
             go_simp
             with_reducible rfl
            rotate_left
            ·simp only [Act.put,sA_,s0_,s1_,i64_w,i32_w]
             rfl
            refine done_ (done_of HT_.out (by kernel_rfl)) ?_
            try go_wp2
            go_roundg k2
            case measure=>have:=HJ4.out;have:=HK2.out;omega
            case rel=>exact ⟨(wrap64 (x6_2+1)),(by first|rfl|(simp;done)|(simp [*];done)),H',⟨by have:=HJ4.out;have:=HK2.out;omega⟩,⟨by (with_reducible repeat (first|apply rA_|apply rN_|apply rD_));exact HO_369004.out⟩,⟨by (with_reducible repeat (first|apply Kd.Q_alloc|apply Kd.Q_drewN|apply Kd.Q_drew));exact HO_369005.out⟩,⟨by (with_reducible repeat (first|apply rA_|apply rN_|apply rD_));exact HO_380004.out⟩,⟨by (with_reducible repeat (first|apply Kd.Q_alloc|apply Kd.Q_drewN|apply Kd.Q_drew));exact HO_380005.out⟩,⟨by (with_reducible repeat (first|apply rA_|apply rN_|apply rD_));exact HO_418004.out⟩,⟨by (with_reducible repeat (first|apply Kd.Q_alloc|apply Kd.Q_drewN|apply Kd.Q_drew));exact HO_418005.out⟩,⟨by (with_reducible repeat (first|apply kN_|apply kD_|apply kA_));exact BK368.out⟩,⟨by (with_reducible repeat (first|apply kN_|apply kD_|apply kA_));exact BK379.out⟩,⟨by (with_reducible repeat (first|apply kN_|apply kD_|apply kA_));exact BK417.out⟩,⟨by repeat (first|(with_reducible first|exact HB.out|apply wA_|apply wN_|apply wD_|refine below_set ?_ GE368.out|refine below_set ?_ GE379.out|refine below_set ?_ GE417.out)|exact HB.out)⟩⟩
           ·rw [if_neg c75] at H
            have c75b0:((rd t414 (ji71)) == (rd t365 x6_2))=false:=beq_eq_false_iff_ne.mpr c75
            have c75b1:((rd t414 (ji71)) != (rd t365 x6_2))=true:=bne_iff_ne.mpr c75
            exact absurd H (by simp)
          ·rw [if_neg c74] at H
           exact absurd H (by simp)
         ·rw [if_neg c73] at H
          exact absurd H (by simp)
        ·rw [if_neg c72] at H
         exact absurd H (by simp)
       ·rw [if_neg c70] at H
        have c70b0:decide (x6_2 < (t365.length:Int))=false:=decide_eq_false c70
        clear c70
        replace H:=Option.bind_eq_some_iff.mp H
        obtain ⟨t420,A800,H⟩:=H
        replace H:(if t420=true then (if t371=t361 then (if t372=t360 then ((impl_ImageTurn.f k2 t407 t408 t409 t410 t411 t414).bind fun bt421=>((impl_ImageTurn.f k2 bt421.1 bt421.2.1 bt421.2.2.1 bt421.2.2.2.1 bt421.2.2.2.2.1 bt421.2.2.2.2.2).bind fun bt431=>((laws_wiImage.f k2 bt431.1 bt431.2.1 bt431.2.2.1 bt431.2.2.2.1 bt431.2.2.2.2.1 bt431.2.2.2.2.2 t358 t359 t360 t361 t362 t365).bind fun t441=>(some t441)))) else (some false)) else (some false)) else (some false))=some true:=H
        have A80:=aM_ A800
        clear A800
        by_cases c81:t420=true
        ·subst c81
         have H1:(if t371=t361 then (if t372=t360 then ((impl_ImageTurn.f k2 t407 t408 t409 t410 t411 t414).bind fun bt421=>((impl_ImageTurn.f k2 bt421.1 bt421.2.1 bt421.2.2.1 bt421.2.2.2.1 bt421.2.2.2.2.1 bt421.2.2.2.2.2).bind fun bt431=>((laws_wiImage.f k2 bt431.1 bt431.2.1 bt431.2.2.1 bt431.2.2.2.1 bt431.2.2.2.2.1 bt431.2.2.2.2.2 t358 t359 t360 t361 t362 t365).bind fun t441=>(some t441)))) else (some false)) else (some false))=some true:=by first|(rw [if_pos rfl] at H;exact H)|rfl
         clear H
         have H:=H1
         clear H1
         by_cases c82:t371=t361
         ·rw [if_pos c82] at H
          have c82b0:(t371 == t361)=true:=beq_iff_eq.mpr c82
          have c82b1:(t371 != t361)=false:=bne_eq_false_iff_eq.mpr c82
          clear c82
          by_cases c83:t372=t360
          ·rw [if_pos c83] at H
           have c83b0:(t372 == t360)=true:=beq_iff_eq.mpr c83
           have c83b1:(t372 != t360)=false:=bne_eq_false_iff_eq.mpr c83
           clear c83
           replace H:=Option.bind_eq_some_iff.mp H
           obtain ⟨⟨t421,t422,t423,t424,t425,t428⟩,A840,H⟩:=H
           replace H:((impl_ImageTurn.f k2 t421 t422 t423 t424 t425 t428).bind fun bt431=>((laws_wiImage.f k2 bt431.1 bt431.2.1 bt431.2.2.1 bt431.2.2.2.1 bt431.2.2.2.2.1 bt431.2.2.2.2.2 t358 t359 t360 t361 t362 t365).bind fun t441=>(some t441)))=some true:=H
           have A84:=aM_ A840
           clear A840
           replace H:=Option.bind_eq_some_iff.mp H
           obtain ⟨⟨t431,t432,t433,t434,t435,t438⟩,A850,H⟩:=H
           replace H:((laws_wiImage.f k2 t431 t432 t433 t434 t435 t438 t358 t359 t360 t361 t362 t365).bind fun t441=>(some t441))=some true:=H
           have A85:=aM_ A850
           clear A850
           replace H:=Option.bind_eq_some_iff.mp H
           obtain ⟨t441,A860,H⟩:=H
           replace H:(some t441)=some true:=H
           have A86:=aM_ A860
           clear A860
           have HX_:=Option.some.inj H
           clear H
           have hnb87:=NB368_379.out
           have hnc87:=NB379_368.out
           have hnb88:=NB368_417.out
           have hnc88:=NB417_368.out
           obtain ⟨hcz89_0,hcz89_1,hcz89_2,hcz89_3,hcz89_4,hcz89_5⟩:=bc6 BK368.out
           obtain ⟨hfz89_0,hfz89_1,hfz89_2,hfz89_3,hfz89_4,hfz89_5⟩:=bf6 BK368.out
           try go_wp2
           have n0_:=aM_ (rD_ HO_369004.out)
           have n1_:=aM_ (Kd.Q_drew HO_369005.out)
           have n2_:=aM_ (rD_ HO_380004.out)
           have n3_:=aM_ (Kd.Q_drew HO_380005.out)
           have n4_:=aM_ (rD_ HO_418004.out)
           have n5_:=aM_ (Kd.Q_drew HO_418005.out)
           have n6_:=aM_ (kD_ BK368.out)
           have n7_:=aM_ (kD_ BK379.out)
           have n8_:=aM_ (kD_ BK417.out)
           have n9_:=aM_ (wD_ HB.out)
           clear HO_369004
           clear HO_369005
           clear HO_380004
           clear HO_380005
           clear HO_418004
           clear HO_418005
           clear BK368
           clear BK379
           clear BK417
           clear HB
           have HO_369004:=n0_
           have HO_369005:=n1_
           have HO_380004:=n2_
           have HO_380005:=n3_
           have HO_418004:=n4_
           have HO_418005:=n5_
           have BK368:=n6_
           have BK379:=n7_
           have BK417:=n8_
           have HB:=n9_
           clear n0_ n1_ n2_ n3_ n4_ n5_ n6_ n7_ n8_ n9_
           refine start_ (n:=24) (S:=fun w'=>w'.cell? ⟨gb379,0,none⟩=some (.int .i64 t369)∧w'.cell? ⟨gb379,1,none⟩=some (.int .i64 t370)∧w'.cell? ⟨gb379,2,none⟩=some (.int .i64 t371)∧w'.cell? ⟨gb379,3,none⟩=some (.int .i64 t372)∧w'.cell? ⟨gb379,4,none⟩=some (.slice Ao15 t373.length co15)∧w'.cell? ⟨gb379,5,none⟩=some (.slice Ao16 t376.length co16)∧w'.cell? ⟨gb368,0,none⟩=some (.int .i64 t358)∧w'.cell? ⟨gb368,1,none⟩=some (.int .i64 t359)∧w'.cell? ⟨gb368,2,none⟩=some (.int .i64 t360)∧w'.cell? ⟨gb368,3,none⟩=some (.int .i64 t361)∧w'.cell? ⟨gb368,4,none⟩=some (.slice Ao9 t362.length co9)∧w'.cell? ⟨gb368,5,none⟩=some (.slice Ao10 t365.length co10)∧w'.cell? ⟨gb417,0,none⟩=some (.int .i64 t407)∧w'.cell? ⟨gb417,1,none⟩=some (.int .i64 t408)∧w'.cell? ⟨gb417,2,none⟩=some (.int .i64 t409)∧w'.cell? ⟨gb417,3,none⟩=some (.int .i64 t410)∧w'.cell? ⟨gb417,4,none⟩=some (.slice Ao68 t411.length co68)∧w'.cell? ⟨gb417,5,none⟩=some (.slice Ao69 t414.length co69)) (ds:=[]) #[false,false,false,false,false,false,false,false,false,false,false,false,false,false,false,false,false,false,false,false,false,false,false,false] (by kernel_rfl) rfl rfl ⟨(blk_cell BK379.out 0).trans rfl,(blk_cell BK379.out 1).trans rfl,(blk_cell BK379.out 2).trans rfl,(blk_cell BK379.out 3).trans rfl,(blk_cell BK379.out 4).trans rfl,(blk_cell BK379.out 5).trans rfl,(blk_cell BK368.out 0).trans rfl,(blk_cell BK368.out 1).trans rfl,(blk_cell BK368.out 2).trans rfl,(blk_cell BK368.out 3).trans rfl,(blk_cell BK368.out 4).trans rfl,(blk_cell BK368.out 5).trans rfl,(blk_cell BK417.out 0).trans rfl,(blk_cell BK417.out 1).trans rfl,(blk_cell BK417.out 2).trans rfl,(blk_cell BK417.out 3).trans rfl,(blk_cell BK417.out 4).trans rfl,(blk_cell BK417.out 5).trans rfl⟩ (fun hHeld=>?_);refine with_tabW laws_FnImageTurn.tab13 laws_FnImageTurn.bits13 (fun HT_ HW_=>?_)
           generalize wr.drew=w90 at HO_369004 HO_369005 HO_380004 HO_380005 HO_418004 HO_418005 BK368 BK379 BK417 HB hHeld ⊢
           refine take_ (i:=0) (N:=some 67) (v:=?_) (a':=?_) #[true,false,false,false,false,false,false,false,false,false,false,false,false,false,false,false,false,false,false,false,false,false,false,false] rfl rfl (take_ofW HT_.out HW_.out (by kernel_rfl)) (fun _ _ _ h=>h) (Or.inl ⟨by rfl,?_⟩) hHeld ?_ ?_
           rotate_left
           ·rintro w' ⟨s0,s1,s2,s3,s4,s5,s6,s7,s8,s9,s10,s11,s12,s13,s14,s15,s16,s17⟩
            go_simp
            with_reducible rfl
           rotate_left
           ·simp only [Act.put,sA_,s0_,s1_,i64_w,i32_w]
            rfl
           refine one_ (i:=1) (N:=some 68) #[true,true,false,false,false,false,false,false,false,false,false,false,false,false,false,false,false,false,false,false,false,false,false,false] rfl rfl (one_of HT_.out (by kernel_rfl)) (by decide) (fun K hK=>?_)
           refine goes_ Try.func18 (by kernel_rfl) rfl #[.agg #[.int .i64 t369,.int .i64 t370,.int .i64 t371,.int .i64 t372,.slice Ao15 t373.length co15,.slice Ao16 t376.length co16]] (by rfl) rfl rfl (by (try simp only [List.map_toArray,List.map_cons,List.map_nil]);first|done|rfl|(simp only [List.length_drop,List.length_take];rfl)) ?_
           with_reducible refine (impl_ImageOk.calls k2 t369 t370 t371 t372 _ _ t373 _ _ t376 true _ ?side1 ?side2 ?side3 ?side4 A80.out).mono ?_
           (case side1=>repeat (first|exact (Kd.R_reads' HO_380004.out).2.2|(with_reducible refine Kd.C_alloc ?_ _)|(with_reducible refine Kd.C_drewN ?_ _)|(with_reducible refine Kd.C_drew ?_)))
           (case side2=>exact (Kd.R_reads' HO_380004.out).2.1)
           (case side3=>repeat (first|exact (Kd.Q_reads' HO_380005.out).2.2|(with_reducible refine Kd.C_alloc ?_ _)|(with_reducible refine Kd.C_drewN ?_ _)|(with_reducible refine Kd.C_drew ?_)))
           (case side4=>exact (Kd.Q_reads' HO_380005.out).2.1)
           rintro e w91 ⟨rfl,hb⟩
           refine ⟨_,rfl,?_⟩
           have n0_:=aM_ (Kd.R_below (by (with_reducible repeat (first|apply rA_|apply rN_|apply rD_));exact HO_369004.out) hb)
           have n1_:=aM_ (Kd.Q_below (by (with_reducible repeat (first|apply Kd.Q_alloc|apply Kd.Q_drewN|apply Kd.Q_drew));exact HO_369005.out) hb)
           have n2_:=aM_ (Kd.R_below (by (with_reducible repeat (first|apply rA_|apply rN_|apply rD_));exact HO_380004.out) hb)
           have n3_:=aM_ (Kd.Q_below (by (with_reducible repeat (first|apply Kd.Q_alloc|apply Kd.Q_drewN|apply Kd.Q_drew));exact HO_380005.out) hb)
           have n4_:=aM_ (Kd.R_below (by (with_reducible repeat (first|apply rA_|apply rN_|apply rD_));exact HO_418004.out) hb)
           have n5_:=aM_ (Kd.Q_below (by (with_reducible repeat (first|apply Kd.Q_alloc|apply Kd.Q_drewN|apply Kd.Q_drew));exact HO_418005.out) hb)
           have n6_:=aM_ (blk_below (g:=gb368) (by (with_reducible repeat (first|apply kN_|apply kD_|apply kA_));exact BK368.out) hb)
           have n7_:=aM_ (blk_below (g:=gb379) (by (with_reducible repeat (first|apply kN_|apply kD_|apply kA_));exact BK379.out) hb)
           have n8_:=aM_ (blk_below (g:=gb417) (by (with_reducible repeat (first|apply kN_|apply kD_|apply kA_));exact BK417.out) hb)
           have n9_:=aM_ (below_step (by repeat (first|(with_reducible first|exact HB.out|apply wA_|apply wN_|apply wD_|refine below_set ?_ GE368.out|refine below_set ?_ GE379.out|refine below_set ?_ GE417.out)|exact HB.out)) hb)
           clear HO_369004
           clear HO_369005
           clear HO_380004
           clear HO_380005
           clear HO_418004
           clear HO_418005
           clear BK368
           clear BK379
           clear BK417
           clear HB
           have HO_369004:=n0_
           have HO_369005:=n1_
           have HO_380004:=n2_
           have HO_380005:=n3_
           have HO_418004:=n4_
           have HO_418005:=n5_
           have BK368:=n6_
           have BK379:=n7_
           have BK417:=n8_
           have HB:=n9_
           clear n0_ n1_ n2_ n3_ n4_ n5_ n6_ n7_ n8_ n9_
           (try clear hb)
           (try clear hb2)
           (try clear hk)
           (try clear hi)
           refine hK.out _ _ ⟨(blk_cell BK379.out 0).trans rfl,(blk_cell BK379.out 1).trans rfl,(blk_cell BK379.out 2).trans rfl,(blk_cell BK379.out 3).trans rfl,(blk_cell BK379.out 4).trans rfl,(blk_cell BK379.out 5).trans rfl,(blk_cell BK368.out 0).trans rfl,(blk_cell BK368.out 1).trans rfl,(blk_cell BK368.out 2).trans rfl,(blk_cell BK368.out 3).trans rfl,(blk_cell BK368.out 4).trans rfl,(blk_cell BK368.out 5).trans rfl,(blk_cell BK417.out 0).trans rfl,(blk_cell BK417.out 1).trans rfl,(blk_cell BK417.out 2).trans rfl,(blk_cell BK417.out 3).trans rfl,(blk_cell BK417.out 4).trans rfl,(blk_cell BK417.out 5).trans rfl⟩ (fun hHeld=>?_)
           clear hK K
           refine norm_ (a':=?_) ?_ ?_
           rotate_left
           ·show Act.put _ (some 68) _=_
            simp only [Act.put,sA_,s0_,s1_,i64_w,i32_w]
            rfl
           refine pure_ (i:=2) (N:=some 69) (v:=?_) (a':=?_) #[true,true,true,false,false,false,false,false,false,false,false,false,false,false,false,false,false,false,false,false,false,false,false,false] rfl rfl (any_of HT_.out (by kernel_rfl)) (fun _ _ _ h=>h) (Or.inl ⟨by rfl,?_⟩) ?_ ?_
           rotate_left
           ·intro w'
            go_simp
            with_reducible rfl
           rotate_left
           ·simp only [Act.put,sA_,s0_,s1_,i64_w,i32_w]
            rfl
           refine pure_ (i:=3) (N:=some 70) (v:=?_) (a':=?_) #[true,true,true,true,false,false,false,false,false,false,false,false,false,false,false,false,false,false,false,false,false,false,false,false] rfl rfl (any_of HT_.out (by kernel_rfl)) (fun _ _ _ h=>h) (Or.inl ⟨by rfl,?_⟩) ?_ ?_
           rotate_left
           ·intro w'
            go_simp
            with_reducible rfl
           rotate_left
           ·simp only [Act.put,sA_,s0_,s1_,i64_w,i32_w]
            rfl
           refine pure_ (i:=5) (N:=some 72) (v:=?_) (a':=?_) #[true,true,true,true,false,true,false,false,false,false,false,false,false,false,false,false,false,false,false,false,false,false,false,false] rfl rfl (any_of HT_.out (by kernel_rfl)) (fun _ _ _ h=>h) (Or.inl ⟨by rfl,?_⟩) ?_ ?_
           rotate_left
           ·intro w'
            go_simp
            with_reducible rfl
           rotate_left
           ·simp only [Act.put,sA_,s0_,s1_,i64_w,i32_w]
            rfl
           refine take_ (i:=4) (N:=some 71) (v:=?_) (a':=?_) #[true,true,true,true,true,true,false,false,false,false,false,false,false,false,false,false,false,false,false,false,false,false,false,false] rfl rfl (take_ofW HT_.out HW_.out (by kernel_rfl)) (fun _ _ _ h=>h) (Or.inl ⟨by rfl,?_⟩) hHeld ?_ ?_
           rotate_left
           ·rintro w' ⟨s0,s1,s2,s3,s4,s5,s6,s7,s8,s9,s10,s11,s12,s13,s14,s15,s16,s17⟩
            go_simp
            with_reducible rfl
           rotate_left
           ·simp only [Act.put,sA_,s0_,s1_,i64_w,i32_w]
            rfl
           refine take_ (i:=6) (N:=some 73) (v:=?_) (a':=?_) #[true,true,true,true,true,true,true,false,false,false,false,false,false,false,false,false,false,false,false,false,false,false,false,false] rfl rfl (take_ofW HT_.out HW_.out (by kernel_rfl)) (fun _ _ _ h=>h) (Or.inl ⟨by rfl,?_⟩) hHeld ?_ ?_
           rotate_left
           ·rintro w' ⟨s0,s1,s2,s3,s4,s5,s6,s7,s8,s9,s10,s11,s12,s13,s14,s15,s16,s17⟩
            go_simp
            with_reducible rfl
           rotate_left
           ·simp only [Act.put,sA_,s0_,s1_,i64_w,i32_w]
            rfl
           refine pure_ (i:=7) (N:=some 74) (v:=?_) (a':=?_) #[true,true,true,true,true,true,true,true,false,false,false,false,false,false,false,false,false,false,false,false,false,false,false,false] rfl rfl (any_of HT_.out (by kernel_rfl)) (fun _ _ _ h=>h) (Or.inl ⟨by rfl,?_⟩) ?_ ?_
           rotate_left
           ·intro w'
            go_simp
            with_reducible rfl
           rotate_left
           ·simp only [Act.put,sA_,s0_,s1_,i64_w,i32_w]
            rfl
           refine pure_ (i:=8) (N:=some 75) (v:=?_) (a':=?_) #[true,true,true,true,true,true,true,true,true,false,false,false,false,false,false,false,false,false,false,false,false,false,false,false] rfl rfl (any_of HT_.out (by kernel_rfl)) (fun _ _ _ h=>h) (Or.inl ⟨by rfl,?_⟩) ?_ ?_
           rotate_left
           ·intro w'
            go_simp
            with_reducible rfl
           rotate_left
           ·simp only [Act.put,sA_,s0_,s1_,i64_w,i32_w]
            rfl
           refine pure_ (i:=9) (N:=some 76) (v:=?_) (a':=?_) #[true,true,true,true,true,true,true,true,true,true,false,false,false,false,false,false,false,false,false,false,false,false,false,false] rfl rfl (any_of HT_.out (by kernel_rfl)) (fun _ _ _ h=>h) (Or.inl ⟨by rfl,?_⟩) ?_ ?_
           rotate_left
           ·intro w'
            go_simp
            with_reducible rfl
           rotate_left
           ·simp only [Act.put,sA_,s0_,s1_,i64_w,i32_w]
            rfl
           refine pure_ (i:=10) (N:=some 77) (v:=?_) (a':=?_) #[true,true,true,true,true,true,true,true,true,true,true,false,false,false,false,false,false,false,false,false,false,false,false,false] rfl rfl (any_of HT_.out (by kernel_rfl)) (fun _ _ _ h=>h) (Or.inl ⟨by rfl,?_⟩) ?_ ?_
           rotate_left
           ·intro w'
            go_simp
            with_reducible rfl
           rotate_left
           ·simp only [Act.put,sA_,s0_,s1_,i64_w,i32_w]
            rfl
           refine pure_ (i:=12) (N:=some 79) (v:=?_) (a':=?_) #[true,true,true,true,true,true,true,true,true,true,true,false,true,false,false,false,false,false,false,false,false,false,false,false] rfl rfl (any_of HT_.out (by kernel_rfl)) (fun _ _ _ h=>h) (Or.inl ⟨by rfl,?_⟩) ?_ ?_
           rotate_left
           ·intro w'
            go_simp
            with_reducible rfl
           rotate_left
           ·simp only [Act.put,sA_,s0_,s1_,i64_w,i32_w]
            rfl
           refine take_ (i:=11) (N:=some 78) (v:=?_) (a':=?_) #[true,true,true,true,true,true,true,true,true,true,true,true,true,false,false,false,false,false,false,false,false,false,false,false] rfl rfl (take_ofW HT_.out HW_.out (by kernel_rfl)) (fun _ _ _ h=>h) (Or.inl ⟨by rfl,?_⟩) hHeld ?_ ?_
           rotate_left
           ·rintro w' ⟨s0,s1,s2,s3,s4,s5,s6,s7,s8,s9,s10,s11,s12,s13,s14,s15,s16,s17⟩
            go_simp
            with_reducible rfl
           rotate_left
           ·simp only [Act.put,sA_,s0_,s1_,i64_w,i32_w]
            rfl
           refine take_ (i:=13) (N:=some 80) (v:=?_) (a':=?_) #[true,true,true,true,true,true,true,true,true,true,true,true,true,true,false,false,false,false,false,false,false,false,false,false] rfl rfl (take_ofW HT_.out HW_.out (by kernel_rfl)) (fun _ _ _ h=>h) (Or.inl ⟨by rfl,?_⟩) hHeld ?_ ?_
           rotate_left
           ·rintro w' ⟨s0,s1,s2,s3,s4,s5,s6,s7,s8,s9,s10,s11,s12,s13,s14,s15,s16,s17⟩
            go_simp
            with_reducible rfl
           rotate_left
           ·simp only [Act.put,sA_,s0_,s1_,i64_w,i32_w]
            rfl
           refine pure_ (i:=14) (N:=some 81) (v:=?_) (a':=?_) #[true,true,true,true,true,true,true,true,true,true,true,true,true,true,true,false,false,false,false,false,false,false,false,false] rfl rfl (any_of HT_.out (by kernel_rfl)) (fun _ _ _ h=>h) (Or.inl ⟨by rfl,?_⟩) ?_ ?_
           rotate_left
           ·intro w'
            go_simp
            with_reducible rfl
           rotate_left
           ·simp only [Act.put,sA_,s0_,s1_,i64_w,i32_w]
            rfl
           refine pure_ (i:=15) (N:=some 82) (v:=?_) (a':=?_) #[true,true,true,true,true,true,true,true,true,true,true,true,true,true,true,true,false,false,false,false,false,false,false,false] rfl rfl (any_of HT_.out (by kernel_rfl)) (fun _ _ _ h=>h) (Or.inl ⟨by rfl,?_⟩) ?_ ?_
           rotate_left
           ·intro w'
            go_simp
            with_reducible rfl
           rotate_left
           ·simp only [Act.put,sA_,s0_,s1_,i64_w,i32_w]
            rfl
           refine pure_ (i:=16) (N:=some 83) (v:=?_) (a':=?_) #[true,true,true,true,true,true,true,true,true,true,true,true,true,true,true,true,true,false,false,false,false,false,false,false] rfl rfl (any_of HT_.out (by kernel_rfl)) (fun _ _ _ h=>h) (Or.inl ⟨by rfl,?_⟩) ?_ ?_
           rotate_left
           ·intro w'
            go_simp
            with_reducible rfl
           rotate_left
           ·simp only [Act.put,sA_,s0_,s1_,i64_w,i32_w]
            rfl
           refine take_ (i:=17) (N:=some 84) (v:=?_) (a':=?_) #[true,true,true,true,true,true,true,true,true,true,true,true,true,true,true,true,true,true,false,false,false,false,false,false] rfl rfl (take_ofW HT_.out HW_.out (by kernel_rfl)) (fun _ _ _ h=>h) (Or.inl ⟨by rfl,?_⟩) hHeld ?_ ?_
           rotate_left
           ·rintro w' ⟨s0,s1,s2,s3,s4,s5,s6,s7,s8,s9,s10,s11,s12,s13,s14,s15,s16,s17⟩
            go_simp
            with_reducible rfl
           rotate_left
           ·simp only [Act.put,sA_,s0_,s1_,i64_w,i32_w]
            rfl
           refine take_ (i:=20) (N:=some 87) (v:=?_) (a':=?_) #[true,true,true,true,true,true,true,true,true,true,true,true,true,true,true,true,true,true,false,false,true,false,false,false] rfl rfl (take_ofW HT_.out HW_.out (by kernel_rfl)) (fun _ _ _ h=>h) (Or.inl ⟨by rfl,?_⟩) hHeld ?_ ?_
           rotate_left
           ·rintro w' ⟨s0,s1,s2,s3,s4,s5,s6,s7,s8,s9,s10,s11,s12,s13,s14,s15,s16,s17⟩
            go_simp
            with_reducible rfl
           rotate_left
           ·simp only [Act.put,sA_,s0_,s1_,i64_w,i32_w]
            rfl
           refine one_ (i:=18) (N:=some 85) #[true,true,true,true,true,true,true,true,true,true,true,true,true,true,true,true,true,true,true,false,true,false,false,false] rfl rfl (one_of HT_.out (by kernel_rfl)) (by decide) (fun K hK=>?_)
           refine goes_ Try.func31 (by kernel_rfl) rfl #[.agg #[.int .i64 t407,.int .i64 t408,.int .i64 t409,.int .i64 t410,.slice Ao68 t411.length co68,.slice Ao69 t414.length co69]] (by rfl) rfl rfl (by (try simp only [List.map_toArray,List.map_cons,List.map_nil]);first|done|rfl|(simp only [List.length_drop,List.length_take];rfl)) ?_
           with_reducible refine (impl_ImageTurn.calls k2 t407 t408 t409 t410 _ _ t411 _ _ t414 t421 t422 t423 t424 t425 t428 _ ?side1 ?side2 ?side3 ?side4 A84.out).mono ?_
           (case side1=>repeat (first|exact (Kd.R_reads' HO_418004.out).2.2|(with_reducible refine Kd.C_alloc ?_ _)|(with_reducible refine Kd.C_drewN ?_ _)|(with_reducible refine Kd.C_drew ?_)))
           (case side2=>exact (Kd.R_reads' HO_418004.out).2.1)
           (case side3=>repeat (first|exact (Kd.Q_reads' HO_418005.out).2.2|(with_reducible refine Kd.C_alloc ?_ _)|(with_reducible refine Kd.C_drewN ?_ _)|(with_reducible refine Kd.C_drew ?_)))
           (case side4=>exact (Kd.Q_reads' HO_418005.out).2.1)
           rintro e w92 ⟨v426,v429,rfl,ho0,ho1,hb⟩
           refine ⟨_,rfl,?_⟩
           have n0_:=aM_ (Kd.R_mono (Kd.R_told (Kd.R_told (Kd.R_old (by (with_reducible repeat (first|apply rA_|apply rN_|apply rD_));exact HO_369004.out) hb) (Kd.R_base ho0)) (Kd.R_base ho1)) (fun _ h_=>h_.1))
           have n1_:=aM_ (Kd.Q_mono (Kd.Q_told (Kd.Q_told (Kd.Q_old (by (with_reducible repeat (first|apply Kd.Q_alloc|apply Kd.Q_drewN|apply Kd.Q_drew));exact HO_369005.out) hb) (Kd.R_base ho0)) (Kd.R_base ho1)) (fun _ h_=>h_.1))
           have n2_:=aM_ (Kd.R_mono (Kd.R_told (Kd.R_told (Kd.R_old (by (with_reducible repeat (first|apply rA_|apply rN_|apply rD_));exact HO_380004.out) hb) (Kd.R_base ho0)) (Kd.R_base ho1)) (fun _ h_=>h_.1))
           have n3_:=aM_ (Kd.Q_mono (Kd.Q_told (Kd.Q_told (Kd.Q_old (by (with_reducible repeat (first|apply Kd.Q_alloc|apply Kd.Q_drewN|apply Kd.Q_drew));exact HO_380005.out) hb) (Kd.R_base ho0)) (Kd.R_base ho1)) (fun _ h_=>h_.1))
           have n4_:=aM_ (Kd.R_mono (Kd.R_told (Kd.R_told (Kd.R_old (by (with_reducible repeat (first|apply rA_|apply rN_|apply rD_));exact HO_418004.out) hb) (Kd.R_base ho0)) (Kd.R_base ho1)) (fun _ h_=>h_.1))
           have n5_:=aM_ (Kd.Q_mono (Kd.Q_told (Kd.Q_told (Kd.Q_old (by (with_reducible repeat (first|apply Kd.Q_alloc|apply Kd.Q_drewN|apply Kd.Q_drew));exact HO_418005.out) hb) (Kd.R_base ho0)) (Kd.R_base ho1)) (fun _ h_=>h_.1))
           have n6_:=aM_ (Kd.R_lower (Kd.R_new' (Kd.R_new' (Kd.R_new' (Kd.R_new' (Kd.R_new' (Kd.R_new' ho0 (Kd.R_lt (by (with_reducible repeat (first|apply rA_|apply rN_|apply rD_));exact HO_369004.out))) (Kd.Q_lt (by (with_reducible repeat (first|apply Kd.Q_alloc|apply Kd.Q_drewN|apply Kd.Q_drew));exact HO_369005.out))) (Kd.R_lt (by (with_reducible repeat (first|apply rA_|apply rN_|apply rD_));exact HO_380004.out))) (Kd.Q_lt (by (with_reducible repeat (first|apply Kd.Q_alloc|apply Kd.Q_drewN|apply Kd.Q_drew));exact HO_380005.out))) (Kd.R_lt (by (with_reducible repeat (first|apply rA_|apply rN_|apply rD_));exact HO_418004.out))) (Kd.Q_lt (by (with_reducible repeat (first|apply Kd.Q_alloc|apply Kd.Q_drewN|apply Kd.Q_drew));exact HO_418005.out))) (below_size (by repeat (first|(with_reducible first|exact HB.out|apply wA_|apply wN_|apply wD_|refine below_set ?_ GE368.out|refine below_set ?_ GE379.out|refine below_set ?_ GE417.out)|exact HB.out))))
           have n7_:=aM_ (Kd.R_lower (Kd.R_new' (Kd.R_new' (Kd.R_new' (Kd.R_new' (Kd.R_new' (Kd.R_new' ho1 (Kd.R_lt (by (with_reducible repeat (first|apply rA_|apply rN_|apply rD_));exact HO_369004.out))) (Kd.Q_lt (by (with_reducible repeat (first|apply Kd.Q_alloc|apply Kd.Q_drewN|apply Kd.Q_drew));exact HO_369005.out))) (Kd.R_lt (by (with_reducible repeat (first|apply rA_|apply rN_|apply rD_));exact HO_380004.out))) (Kd.Q_lt (by (with_reducible repeat (first|apply Kd.Q_alloc|apply Kd.Q_drewN|apply Kd.Q_drew));exact HO_380005.out))) (Kd.R_lt (by (with_reducible repeat (first|apply rA_|apply rN_|apply rD_));exact HO_418004.out))) (Kd.Q_lt (by (with_reducible repeat (first|apply Kd.Q_alloc|apply Kd.Q_drewN|apply Kd.Q_drew));exact HO_418005.out))) (below_size (by repeat (first|(with_reducible first|exact HB.out|apply wA_|apply wN_|apply wD_|refine below_set ?_ GE368.out|refine below_set ?_ GE379.out|refine below_set ?_ GE417.out)|exact HB.out))))
           have n8_:=aM_ (blk_below (g:=gb368) (by (with_reducible repeat (first|apply kN_|apply kD_|apply kA_));exact BK368.out) hb)
           have n9_:=aM_ (blk_below (g:=gb379) (by (with_reducible repeat (first|apply kN_|apply kD_|apply kA_));exact BK379.out) hb)
           have n10_:=aM_ (blk_below (g:=gb417) (by (with_reducible repeat (first|apply kN_|apply kD_|apply kA_));exact BK417.out) hb)
           have n11_:=aM_ (below_step (by repeat (first|(with_reducible first|exact HB.out|apply wA_|apply wN_|apply wD_|refine below_set ?_ GE368.out|refine below_set ?_ GE379.out|refine below_set ?_ GE417.out)|exact HB.out)) hb)
           clear HO_369004
           clear HO_369005
           clear HO_380004
           clear HO_380005
           clear HO_418004
           clear HO_418005
           clear BK368
           clear BK379
           clear BK417
           clear HB
           have HO_369004:=n0_
           have HO_369005:=n1_
           have HO_380004:=n2_
           have HO_380005:=n3_
           have HO_418004:=n4_
           have HO_418005:=n5_
           have HO427:=n6_
           have HO430:=n7_
           have BK368:=n8_
           have BK379:=n9_
           have BK417:=n10_
           have HB:=n11_
           clear n0_ n1_ n2_ n3_ n4_ n5_ n6_ n7_ n8_ n9_ n10_ n11_
           (try clear hb)
           (try clear hb2)
           (try clear hk)
           (try clear hi)
           (try clear ho0)
           (try clear ho1)
           obtain ⟨Ao93,co93,eo93⟩:=Kd.R_slice HO427.out
           (first|subst eo93|(injection eo93 with f1_ f2_ f3_;have f4_:=f1_.symm;have f5_:=f3_.symm;clear f1_ f2_ f3_;subst f4_;subst f5_))
           obtain ⟨Ao94,co94,eo94⟩:=Kd.R_slice HO430.out
           (first|subst eo94|(injection eo94 with f1_ f2_ f3_;have f4_:=f1_.symm;have f5_:=f3_.symm;clear f1_ f2_ f3_;subst f4_;subst f5_))
           refine hK.out _ _ ⟨(blk_cell BK379.out 0).trans rfl,(blk_cell BK379.out 1).trans rfl,(blk_cell BK379.out 2).trans rfl,(blk_cell BK379.out 3).trans rfl,(blk_cell BK379.out 4).trans rfl,(blk_cell BK379.out 5).trans rfl,(blk_cell BK368.out 0).trans rfl,(blk_cell BK368.out 1).trans rfl,(blk_cell BK368.out 2).trans rfl,(blk_cell BK368.out 3).trans rfl,(blk_cell BK368.out 4).trans rfl,(blk_cell BK368.out 5).trans rfl,(blk_cell BK417.out 0).trans rfl,(blk_cell BK417.out 1).trans rfl,(blk_cell BK417.out 2).trans rfl,(blk_cell BK417.out 3).trans rfl,(blk_cell BK417.out 4).trans rfl,(blk_cell BK417.out 5).trans rfl⟩ (fun hHeld=>?_)
           clear hK K
           refine norm_ (a':=?_) ?_ ?_
           rotate_left
           ·show Act.put _ (some 85) _=_
            simp only [Act.put,sA_,s0_,s1_,i64_w,i32_w]
            rfl
           refine one_ (i:=19) (N:=some 86) #[true,true,true,true,true,true,true,true,true,true,true,true,true,true,true,true,true,true,true,true,true,false,false,false] rfl rfl (one_of HT_.out (by kernel_rfl)) (by decide) (fun K hK=>?_)
           refine goes_ Try.func31 (by kernel_rfl) rfl #[.agg #[.int .i64 t421,.int .i64 t422,.int .i64 t423,.int .i64 t424,.slice Ao93 t425.length co93,.slice Ao94 t428.length co94]] (by rfl) rfl rfl (by (try simp only [List.map_toArray,List.map_cons,List.map_nil]);first|done|rfl|(simp only [List.length_drop,List.length_take];rfl)) ?_
           with_reducible refine (impl_ImageTurn.calls k2 t421 t422 t423 t424 _ _ t425 _ _ t428 t431 t432 t433 t434 t435 t438 _ ?side1 ?side2 ?side3 ?side4 A85.out).mono ?_
           (case side1=>repeat (first|exact (Kd.R_reads' HO427.out).2.2|(with_reducible refine Kd.C_alloc ?_ _)|(with_reducible refine Kd.C_drewN ?_ _)|(with_reducible refine Kd.C_drew ?_)))
           (case side2=>exact (Kd.R_reads' HO427.out).2.1)
           (case side3=>repeat (first|exact (Kd.R_reads' HO430.out).2.2|(with_reducible refine Kd.C_alloc ?_ _)|(with_reducible refine Kd.C_drewN ?_ _)|(with_reducible refine Kd.C_drew ?_)))
           (case side4=>exact (Kd.R_reads' HO430.out).2.1)
           rintro e w95 ⟨v436,v439,rfl,ho0,ho1,hb⟩
           refine ⟨_,rfl,?_⟩
           have n0_:=aM_ (Kd.R_mono (Kd.R_told (Kd.R_told (Kd.R_old (by (with_reducible repeat (first|apply rA_|apply rN_|apply rD_));exact HO_369004.out) hb) (Kd.R_base ho0)) (Kd.R_base ho1)) (fun _ h_=>h_.1))
           have n1_:=aM_ (Kd.Q_mono (Kd.Q_told (Kd.Q_told (Kd.Q_old (by (with_reducible repeat (first|apply Kd.Q_alloc|apply Kd.Q_drewN|apply Kd.Q_drew));exact HO_369005.out) hb) (Kd.R_base ho0)) (Kd.R_base ho1)) (fun _ h_=>h_.1))
           have n2_:=aM_ (Kd.R_mono (Kd.R_told (Kd.R_told (Kd.R_old (by (with_reducible repeat (first|apply rA_|apply rN_|apply rD_));exact HO_380004.out) hb) (Kd.R_base ho0)) (Kd.R_base ho1)) (fun _ h_=>h_.1))
           have n3_:=aM_ (Kd.Q_mono (Kd.Q_told (Kd.Q_told (Kd.Q_old (by (with_reducible repeat (first|apply Kd.Q_alloc|apply Kd.Q_drewN|apply Kd.Q_drew));exact HO_380005.out) hb) (Kd.R_base ho0)) (Kd.R_base ho1)) (fun _ h_=>h_.1))
           have n4_:=aM_ (Kd.R_mono (Kd.R_told (Kd.R_told (Kd.R_old (by (with_reducible repeat (first|apply rA_|apply rN_|apply rD_));exact HO_418004.out) hb) (Kd.R_base ho0)) (Kd.R_base ho1)) (fun _ h_=>h_.1))
           have n5_:=aM_ (Kd.Q_mono (Kd.Q_told (Kd.Q_told (Kd.Q_old (by (with_reducible repeat (first|apply Kd.Q_alloc|apply Kd.Q_drewN|apply Kd.Q_drew));exact HO_418005.out) hb) (Kd.R_base ho0)) (Kd.R_base ho1)) (fun _ h_=>h_.1))
           have n6_:=aM_ (Kd.R_mono (Kd.R_told (Kd.R_told (Kd.R_old (by (with_reducible repeat (first|apply rA_|apply rN_|apply rD_));exact HO427.out) hb) (Kd.R_base ho0)) (Kd.R_base ho1)) (fun _ h_=>h_.1))
           have n7_:=aM_ (Kd.R_mono (Kd.R_told (Kd.R_told (Kd.R_old (by (with_reducible repeat (first|apply rA_|apply rN_|apply rD_));exact HO430.out) hb) (Kd.R_base ho0)) (Kd.R_base ho1)) (fun _ h_=>h_.1))
           have n8_:=aM_ (Kd.R_lower (Kd.R_new' (Kd.R_new' (Kd.R_new' (Kd.R_new' (Kd.R_new' (Kd.R_new' (Kd.R_new' (Kd.R_new' ho0 (Kd.R_lt (by (with_reducible repeat (first|apply rA_|apply rN_|apply rD_));exact HO_369004.out))) (Kd.Q_lt (by (with_reducible repeat (first|apply Kd.Q_alloc|apply Kd.Q_drewN|apply Kd.Q_drew));exact HO_369005.out))) (Kd.R_lt (by (with_reducible repeat (first|apply rA_|apply rN_|apply rD_));exact HO_380004.out))) (Kd.Q_lt (by (with_reducible repeat (first|apply Kd.Q_alloc|apply Kd.Q_drewN|apply Kd.Q_drew));exact HO_380005.out))) (Kd.R_lt (by (with_reducible repeat (first|apply rA_|apply rN_|apply rD_));exact HO_418004.out))) (Kd.Q_lt (by (with_reducible repeat (first|apply Kd.Q_alloc|apply Kd.Q_drewN|apply Kd.Q_drew));exact HO_418005.out))) (Kd.R_lt (by (with_reducible repeat (first|apply rA_|apply rN_|apply rD_));exact HO427.out))) (Kd.R_lt (by (with_reducible repeat (first|apply rA_|apply rN_|apply rD_));exact HO430.out))) (below_size (by repeat (first|(with_reducible first|exact HB.out|apply wA_|apply wN_|apply wD_|refine below_set ?_ GE368.out|refine below_set ?_ GE379.out|refine below_set ?_ GE417.out)|exact HB.out))))
           have n9_:=aM_ (Kd.R_lower (Kd.R_new' (Kd.R_new' (Kd.R_new' (Kd.R_new' (Kd.R_new' (Kd.R_new' (Kd.R_new' (Kd.R_new' ho1 (Kd.R_lt (by (with_reducible repeat (first|apply rA_|apply rN_|apply rD_));exact HO_369004.out))) (Kd.Q_lt (by (with_reducible repeat (first|apply Kd.Q_alloc|apply Kd.Q_drewN|apply Kd.Q_drew));exact HO_369005.out))) (Kd.R_lt (by (with_reducible repeat (first|apply rA_|apply rN_|apply rD_));exact HO_380004.out))) (Kd.Q_lt (by (with_reducible repeat (first|apply Kd.Q_alloc|apply Kd.Q_drewN|apply Kd.Q_drew));exact HO_380005.out))) (Kd.R_lt (by (with_reducible repeat (first|apply rA_|apply rN_|apply rD_));exact HO_418004.out))) (Kd.Q_lt (by (with_reducible repeat (first|apply Kd.Q_alloc|apply Kd.Q_drewN|apply Kd.Q_drew));exact HO_418005.out))) (Kd.R_lt (by (with_reducible repeat (first|apply rA_|apply rN_|apply rD_));exact HO427.out))) (Kd.R_lt (by (with_reducible repeat (first|apply rA_|apply rN_|apply rD_));exact HO430.out))) (below_size (by repeat (first|(with_reducible first|exact HB.out|apply wA_|apply wN_|apply wD_|refine below_set ?_ GE368.out|refine below_set ?_ GE379.out|refine below_set ?_ GE417.out)|exact HB.out))))
           have n10_:=aM_ (blk_below (g:=gb368) (by (with_reducible repeat (first|apply kN_|apply kD_|apply kA_));exact BK368.out) hb)
           have n11_:=aM_ (blk_below (g:=gb379) (by (with_reducible repeat (first|apply kN_|apply kD_|apply kA_));exact BK379.out) hb)
           have n12_:=aM_ (blk_below (g:=gb417) (by (with_reducible repeat (first|apply kN_|apply kD_|apply kA_));exact BK417.out) hb)
           have n13_:=aM_ (below_step (by repeat (first|(with_reducible first|exact HB.out|apply wA_|apply wN_|apply wD_|refine below_set ?_ GE368.out|refine below_set ?_ GE379.out|refine below_set ?_ GE417.out)|exact HB.out)) hb)
           clear HO_369004
           clear HO_369005
           clear HO_380004
           clear HO_380005
           clear HO_418004
           clear HO_418005
           clear HO427
           clear HO430
           clear BK368
           clear BK379
           clear BK417
           clear HB
           have HO_369004:=n0_
           have HO_369005:=n1_
           have HO_380004:=n2_
           have HO_380005:=n3_
           have HO_418004:=n4_
           have HO_418005:=n5_
           have HO427:=n6_
           have HO430:=n7_
           have HO437:=n8_
           have HO440:=n9_
           have BK368:=n10_
           have BK379:=n11_
           have BK417:=n12_
           have HB:=n13_
           clear n0_ n1_ n2_ n3_ n4_ n5_ n6_ n7_ n8_ n9_ n10_ n11_ n12_ n13_
           (try clear hb)
           (try clear hb2)
           (try clear hk)
           (try clear hi)
           (try clear ho0)
           (try clear ho1)
           obtain ⟨Ao96,co96,eo96⟩:=Kd.R_slice HO437.out
           (first|subst eo96|(injection eo96 with f1_ f2_ f3_;have f4_:=f1_.symm;have f5_:=f3_.symm;clear f1_ f2_ f3_;subst f4_;subst f5_))
           obtain ⟨Ao97,co97,eo97⟩:=Kd.R_slice HO440.out
           (first|subst eo97|(injection eo97 with f1_ f2_ f3_;have f4_:=f1_.symm;have f5_:=f3_.symm;clear f1_ f2_ f3_;subst f4_;subst f5_))
           refine hK.out _ _ ⟨(blk_cell BK379.out 0).trans rfl,(blk_cell BK379.out 1).trans rfl,(blk_cell BK379.out 2).trans rfl,(blk_cell BK379.out 3).trans rfl,(blk_cell BK379.out 4).trans rfl,(blk_cell BK379.out 5).trans rfl,(blk_cell BK368.out 0).trans rfl,(blk_cell BK368.out 1).trans rfl,(blk_cell BK368.out 2).trans rfl,(blk_cell BK368.out 3).trans rfl,(blk_cell BK368.out 4).trans rfl,(blk_cell BK368.out 5).trans rfl,(blk_cell BK417.out 0).trans rfl,(blk_cell BK417.out 1).trans rfl,(blk_cell BK417.out 2).trans rfl,(blk_cell BK417.out 3).trans rfl,(blk_cell BK417.out 4).trans rfl,(blk_cell BK417.out 5).trans rfl⟩ (fun hHeld=>?_)
           clear hK K
           refine norm_ (a':=?_) ?_ ?_
           rotate_left
           ·show Act.put _ (some 86) _=_
            simp only [Act.put,sA_,s0_,s1_,i64_w,i32_w]
            rfl
           refine one_ (i:=21) (N:=some 88) #[true,true,true,true,true,true,true,true,true,true,true,true,true,true,true,true,true,true,true,true,true,true,false,false] rfl rfl (one_of HT_.out (by kernel_rfl)) (by decide) (fun K hK=>?_)
           refine goes_ Try.func39 (by kernel_rfl) rfl #[.agg #[.int .i64 t431,.int .i64 t432,.int .i64 t433,.int .i64 t434,.slice Ao96 t435.length co96,.slice Ao97 t438.length co97],.agg #[.int .i64 t358,.int .i64 t359,.int .i64 t360,.int .i64 t361,.slice Ao9 t362.length co9,.slice Ao10 t365.length co10]] (by rfl) rfl rfl (by (try simp only [List.map_toArray,List.map_cons,List.map_nil]);first|done|rfl|(simp only [List.length_drop,List.length_take];rfl)) ?_
           with_reducible refine (laws_wiImage.calls k2 t431 t432 t433 t434 _ _ t435 _ _ t438 t358 t359 t360 t361 _ _ t362 _ _ t365 t441 _ ?side1 ?side2 ?side3 ?side4 ?side5 ?side6 ?side7 ?side8 A86.out).mono ?_
           (case side1=>repeat (first|exact (Kd.R_reads' HO437.out).2.2|(with_reducible refine Kd.C_alloc ?_ _)|(with_reducible refine Kd.C_drewN ?_ _)|(with_reducible refine Kd.C_drew ?_)))
           (case side2=>exact (Kd.R_reads' HO437.out).2.1)
           (case side3=>repeat (first|exact (Kd.R_reads' HO440.out).2.2|(with_reducible refine Kd.C_alloc ?_ _)|(with_reducible refine Kd.C_drewN ?_ _)|(with_reducible refine Kd.C_drew ?_)))
           (case side4=>exact (Kd.R_reads' HO440.out).2.1)
           (case side5=>repeat (first|exact (Kd.R_reads' HO_369004.out).2.2|(with_reducible refine Kd.C_alloc ?_ _)|(with_reducible refine Kd.C_drewN ?_ _)|(with_reducible refine Kd.C_drew ?_)))
           (case side6=>exact (Kd.R_reads' HO_369004.out).2.1)
           (case side7=>repeat (first|exact (Kd.Q_reads' HO_369005.out).2.2|(with_reducible refine Kd.C_alloc ?_ _)|(with_reducible refine Kd.C_drewN ?_ _)|(with_reducible refine Kd.C_drew ?_)))
           (case side8=>exact (Kd.Q_reads' HO_369005.out).2.1)
           rintro e w98 ⟨rfl,hb⟩
           refine ⟨_,rfl,?_⟩
           have n0_:=aM_ (Kd.R_below (by (with_reducible repeat (first|apply rA_|apply rN_|apply rD_));exact HO_369004.out) hb)
           have n1_:=aM_ (Kd.Q_below (by (with_reducible repeat (first|apply Kd.Q_alloc|apply Kd.Q_drewN|apply Kd.Q_drew));exact HO_369005.out) hb)
           have n2_:=aM_ (Kd.R_below (by (with_reducible repeat (first|apply rA_|apply rN_|apply rD_));exact HO_380004.out) hb)
           have n3_:=aM_ (Kd.Q_below (by (with_reducible repeat (first|apply Kd.Q_alloc|apply Kd.Q_drewN|apply Kd.Q_drew));exact HO_380005.out) hb)
           have n4_:=aM_ (Kd.R_below (by (with_reducible repeat (first|apply rA_|apply rN_|apply rD_));exact HO_418004.out) hb)
           have n5_:=aM_ (Kd.Q_below (by (with_reducible repeat (first|apply Kd.Q_alloc|apply Kd.Q_drewN|apply Kd.Q_drew));exact HO_418005.out) hb)
           have n6_:=aM_ (Kd.R_below (by (with_reducible repeat (first|apply rA_|apply rN_|apply rD_));exact HO427.out) hb)
           have n7_:=aM_ (Kd.R_below (by (with_reducible repeat (first|apply rA_|apply rN_|apply rD_));exact HO430.out) hb)
           have n8_:=aM_ (Kd.R_below (by (with_reducible repeat (first|apply rA_|apply rN_|apply rD_));exact HO437.out) hb)
           have n9_:=aM_ (Kd.R_below (by (with_reducible repeat (first|apply rA_|apply rN_|apply rD_));exact HO440.out) hb)
           have n10_:=aM_ (blk_below (g:=gb368) (by (with_reducible repeat (first|apply kN_|apply kD_|apply kA_));exact BK368.out) hb)
           have n11_:=aM_ (blk_below (g:=gb379) (by (with_reducible repeat (first|apply kN_|apply kD_|apply kA_));exact BK379.out) hb)
           have n12_:=aM_ (blk_below (g:=gb417) (by (with_reducible repeat (first|apply kN_|apply kD_|apply kA_));exact BK417.out) hb)
           have n13_:=aM_ (below_step (by repeat (first|(with_reducible first|exact HB.out|apply wA_|apply wN_|apply wD_|refine below_set ?_ GE368.out|refine below_set ?_ GE379.out|refine below_set ?_ GE417.out)|exact HB.out)) hb)
           clear HO_369004
           clear HO_369005
           clear HO_380004
           clear HO_380005
           clear HO_418004
           clear HO_418005
           clear HO427
           clear HO430
           clear HO437
           clear HO440
           clear BK368
           clear BK379
           clear BK417
           clear HB
           have HO_369004:=n0_
           have HO_369005:=n1_
           have HO_380004:=n2_
           have HO_380005:=n3_
           have HO_418004:=n4_
           have HO_418005:=n5_
           have HO427:=n6_
           have HO430:=n7_
           have HO437:=n8_
           have HO440:=n9_
           have BK368:=n10_
           have BK379:=n11_
           have BK417:=n12_
           have HB:=n13_
           clear n0_ n1_ n2_ n3_ n4_ n5_ n6_ n7_ n8_ n9_ n10_ n11_ n12_ n13_
           (try clear hb)
           (try clear hb2)
           (try clear hk)
           (try clear hi)
           refine hK.out _ _ ⟨(blk_cell BK379.out 0).trans rfl,(blk_cell BK379.out 1).trans rfl,(blk_cell BK379.out 2).trans rfl,(blk_cell BK379.out 3).trans rfl,(blk_cell BK379.out 4).trans rfl,(blk_cell BK379.out 5).trans rfl,(blk_cell BK368.out 0).trans rfl,(blk_cell BK368.out 1).trans rfl,(blk_cell BK368.out 2).trans rfl,(blk_cell BK368.out 3).trans rfl,(blk_cell BK368.out 4).trans rfl,(blk_cell BK368.out 5).trans rfl,(blk_cell BK417.out 0).trans rfl,(blk_cell BK417.out 1).trans rfl,(blk_cell BK417.out 2).trans rfl,(blk_cell BK417.out 3).trans rfl,(blk_cell BK417.out 4).trans rfl,(blk_cell BK417.out 5).trans rfl⟩ (fun hHeld=>?_)
           clear hK K
           refine norm_ (a':=?_) ?_ ?_
           rotate_left
           ·show Act.put _ (some 88) _=_
            simp only [Act.put,sA_,s0_,s1_,i64_w,i32_w]
            rfl
           refine pure_ (i:=22) (N:=some 89) (v:=?_) (a':=?_) #[true,true,true,true,true,true,true,true,true,true,true,true,true,true,true,true,true,true,true,true,true,true,true,false] rfl rfl (any_of HT_.out (by kernel_rfl)) (fun _ _ _ h=>h) (Or.inl ⟨by rfl,?_⟩) ?_ ?_
           rotate_left
           ·intro w'
            go_simp
            with_reducible rfl
           rotate_left
           ·simp only [Act.put,sA_,s0_,s1_,i64_w,i32_w]
            rfl
           refine pure_ (i:=23) (N:=some 2) (v:=?_) (a':=?_) #[true,true,true,true,true,true,true,true,true,true,true,true,true,true,true,true,true,true,true,true,true,true,true,true] rfl rfl (any_of HT_.out (by kernel_rfl)) (fun _ _ _ h=>h) (Or.inl ⟨by rfl,?_⟩) ?_ ?_
           rotate_left
           ·intro w'
            go_simp
            with_reducible rfl
           rotate_left
           ·simp only [Act.put,sA_,s0_,s1_,i64_w,i32_w]
            rfl
           refine done_ (done_of HT_.out (by kernel_rfl)) ?_
           try go_wp2
           go_ret
           exact ⟨by first|rfl|(simp [errW_none,errW_some] <;> rfl)|(simp [*,errW_none,errW_some] <;> rfl),by repeat (first|(with_reducible first|exact HB.out|apply wA_|apply wN_|apply wD_|refine below_set ?_ GE368.out|refine below_set ?_ GE379.out|refine below_set ?_ GE417.out)|exact HB.out)⟩
          ·rw [if_neg c83] at H
           have c83b0:(t372 == t360)=false:=beq_eq_false_iff_ne.mpr c83
           have c83b1:(t372 != t360)=true:=bne_iff_ne.mpr c83
           exact absurd H (by simp)
         ·rw [if_neg c82] at H
          have c82b0:(t371 == t361)=false:=beq_eq_false_iff_ne.mpr c82
          have c82b1:(t371 != t361)=true:=bne_iff_ne.mpr c82
          exact absurd H (by simp)
        ·replace c81:=Bool.eq_false_iff.mpr c81
         subst c81
         have H1:(some false)=some true:=by first|(rw [if_neg (show ¬ (false=true) by decide)] at H;exact H)|rfl
         clear H
         have H:=H1
         clear H1
         exact absurd H (by simp)

/-- THE ONE PURE STATEMENT of laws_FnImageTurn: yours. -/
def laws_FnImageTurn.Pure:Prop:=∀ (l0:List Int),l0.length≤maxLen → l0.length * 1≤140737488351232 → (∀ x ∈ l0,(Lit.int .u8 x).wf=true) → ∃ k,laws_FnImageTurn.f k l0=some true
theorem laws_FnImageTurn.walk (P:laws_FnImageTurn.Pure) (a0:Option Addr) (len0 cap0:Nat) (z0:List Int) (w:World) (w0:(a0=none∧len0=0∧cap0=0∧z0=[]) ∨ ∃ x,a0=some x∧len0≤cap0∧cap0≤maxLen∧z0.length=cap0∧(∀ i,i < z0.length → w.cell? (x.add i)=some (.int .u8 (z0.getD i 0)))∧∀ n ∈ z0,(Lit.int .u8 n).wf=true) (y0:len0 * 1≤140737488351232) :
  Calls Try.prog 12 #[.slice a0 len0 cap0] w fun e w'=>e=.returned (.bool true)∧Below w.heap.size w w':=by
 obtain ⟨l0,rfl,hr0,hm0,hw0,hc0⟩:=ReadsInt.ofRowC w0
 obtain ⟨k,h⟩:=P l0 hm0 y0 hw0
 refine (laws_FnImageTurn.calls k _ _ l0 w (Kd.C_of_reads (d:=(0:Int)) (h1:=fun _=>rfl) hr0) hc0 h).mono ?_
 rintro e w' ⟨rfl,hd⟩
 exact ⟨rfl,hd⟩

end Go.Proofs.Ytkjfefiphdloiaa.PFnImageTurn
