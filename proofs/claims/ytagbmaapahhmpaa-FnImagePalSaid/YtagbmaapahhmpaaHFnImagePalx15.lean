/- What the functions that the law comes to compute, as plain functions, and that the machine's calls come to just that: written by a program for this claim, and turned where Lean did not take it. No condition. -/
import Derived.Test.YtagbmaapahhmpaaHFnImagePalx0
namespace Go.Proofs.Ytagbmaapahhmpaa.PFnImagePal
open Go.RowKit Go.Proofs.YtagbmaapahhmpaaW.PrintWords Go.Proofs.YtagbmaapahhmpaaW.PrintLast Go.Proofs.YtagbmaapahhmpaaW.PrintMore
attribute [local go_sem] max2_int min2_int max_two min_two max_three min_three max_four min_four   -- for this text's walks alone
set_option linter.unusedVariables false
set_option linter.unusedSimpArgs false

/-! ### laws_wiPow: function 11 -/
def laws_wiPow.l0:Nat → Int → Int → Int → Option (Int)
 | 0,_,_,_=>none
 | k+1,x0,x3,x4=>if x4 < x0 then (if x4 < 60 then (laws_wiPow.l0 k x0 (wrap64 (x3 * 2)) (wrap64 (x4+1))) else (some x3)) else (some x3)
def laws_wiPow.f (k:Nat) (a0:Int):Option (Int):=laws_wiPow.l0 k a0 1 0
theorem laws_wiPow.mono_l:∀ k,(∀ y0 y1 y2,LeO (laws_wiPow.l0 k y0 y1 y2) (laws_wiPow.l0 (k+1) y0 y1 y2))
 | 0=>fun _ _ _ r h=>by simp [laws_wiPow.l0] at h
 | k+1=>by
  have ih0:=laws_wiPow.mono_l k
  ·intro y0 y1 y2
   unfold laws_wiPow.l0
   repeat' first
   | (with_reducible exact ih0 _ _ _)
   | (with_reducible exact LeO.refl _)
   | (with_reducible exact LeO.none _)
   | (with_reducible refine LeO.ite ?_ ?_)
   | (with_reducible refine LeO.bind ?_ (fun _=>?_))
theorem laws_wiPow.mono:∀ a0 k,LeO (laws_wiPow.f k a0) (laws_wiPow.f (k+1) a0):=by
 intro a0 k;have ih0:=laws_wiPow.mono_l k
 unfold laws_wiPow.f
 repeat' first
   | (with_reducible exact ih0 _ _ _)
   | (with_reducible exact LeO.refl _)
   | (with_reducible exact LeO.none _)
   | (with_reducible refine LeO.ite ?_ ?_)
   | (with_reducible refine LeO.bind ?_ (fun _=>?_))
set_option maxHeartbeats 8000000 in
set_option maxRecDepth 100000 in
theorem laws_wiPow.calls (k:Nat) (a0:Int) (r:Int) (w:World) (h:laws_wiPow.f k a0=some r) :
  Calls Try.prog 11 #[.int .i64 a0] w fun e w'=>e=.returned (.int .i64 r)∧Drawn0 w w':=by
 have H:(laws_wiPow.l0 k a0 1 0)=some r:=h;clear h;have H':=aM_ H;clear H
 go_enter Try.func11,Try.ntmps11
 go_wp2
 go_loopg [3,4] k (fun kq v3 v4 w'=>∃ (x3_1:Int) (x4_1:Int),v3=.int .i64 x3_1∧v4=.int .i64 x4_1∧Aside0 (laws_wiPow.l0 kq a0 x3_1 x4_1=some r)∧Aside0 (kq≤k)∧Drawn0 w w')
 case atStart=>exact ⟨(1),(0),(by first|rfl|(simp;done)|(simp [*];done)),(by first|rfl|(simp;done)|(simp [*];done)),H',⟨Nat.le_refl _⟩,by repeat (first|exact Drawn0.refl _|apply Drawn0.step)⟩
 case round =>
  clear H';(try clear c1);obtain ⟨x3_1,x4_1,rfl,rfl,HA,HK1,⟨m1,rfl⟩⟩:=hrel
  cases gk with
  | zero=>exact absurd HA.out (by simp [laws_wiPow.l0])
  | succ k1 =>
   have H:=HA.out;clear HA;simp only [laws_wiPow.l0] at H
   by_cases c2:x4_1 < a0
   ·rw [if_pos c2] at H;have c2b0:decide (x4_1 < a0)=true:=decide_eq_true c2;clear c2
    by_cases c3:x4_1 < 60
    ·rw [if_pos c3] at H;have c3b0:decide (x4_1 < 60)=true:=decide_eq_true c3;clear c3;have H':=aM_ H;clear H;go_wp2
     go_roundg k1
     case measure=>have:=HK1.out;omega
     case rel=>exact ⟨(wrap64 (x3_1 * 2)),(wrap64 (x4_1+1)),(by first|rfl|(simp;done)|(simp [*];done)),(by first|rfl|(simp;done)|(simp [*];done)),H',⟨by have:=HK1.out;omega⟩,by repeat (first|exact Drawn0.refl _|apply Drawn0.step)⟩
    ·rw [if_neg c3] at H;have c3b0:decide (x4_1 < 60)=false:=decide_eq_false c3;clear c3;obtain rfl:=Option.some.inj H;go_wp2
     go_ret
     exact ⟨by first|rfl|(simp;done)|(simp [*];done),by repeat (first|exact Drawn0.refl _|apply Drawn0.step)⟩
   ·rw [if_neg c2] at H;have c2b0:decide (x4_1 < a0)=false:=decide_eq_false c2;clear c2;obtain rfl:=Option.some.inj H;go_wp2
    go_ret
    exact ⟨by first|rfl|(simp;done)|(simp [*];done),by repeat (first|exact Drawn0.refl _|apply Drawn0.step)⟩

end Go.Proofs.Ytagbmaapahhmpaa.PFnImagePal
