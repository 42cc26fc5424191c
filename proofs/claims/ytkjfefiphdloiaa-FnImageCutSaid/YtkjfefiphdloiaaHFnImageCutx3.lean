/- What the functions that the law comes to compute, as plain functions, and that the machine's calls come to just that: written by a program for this claim, and turned where Lean did not take it. No condition. -/
import Derived.Test.YtkjfefiphdloiaaHFnImageCutx0
import Derived.Test.YtkjfefiphdloiaaHFnImageCutx2
namespace Go.Proofs.Ytkjfefiphdloiaa.PFnImageCut
open Go.RowKit Go.Proofs.YtkjfefiphdloiaaW.PrintWords Go.Proofs.YtkjfefiphdloiaaW.PrintLast Go.Proofs.YtkjfefiphdloiaaW.PrintMore
attribute [local go_sem] max2_int min2_int max_two min_two max_three min_three max_four min_four   -- for this text's walks alone
set_option linter.unusedVariables false
set_option linter.unusedSimpArgs false

/-! ### impl_depthOk: function 48 -/
def impl_depthOk.j0:Nat → Int → Int → Bool → Option (Bool)
 | 0,_,_,_=>none
 | k+1,x1,x5,x6=>if x6=true then ((impl_smallDepth.f x1).bind fun t114=>(some t114)) else (if x5=2 then (some (x1 == 24)) else (if x5=3 then (some (x1 == 32)) else (some false)))
def impl_depthOk.f (k:Nat) (a0:Int) (a1:Int):Option (Bool):=if a0=1 then (impl_depthOk.j0 k a1 a0 (a0 == 1)) else (impl_depthOk.j0 k a1 a0 (a0 == 4))
theorem impl_depthOk.mono_l:∀ k,(∀ y0 y1 y2,LeO (impl_depthOk.j0 k y0 y1 y2) (impl_depthOk.j0 (k+1) y0 y1 y2))
 | 0=>fun _ _ _ r h=>by simp [impl_depthOk.j0] at h
 | k+1=>by
  have ih0:=impl_depthOk.mono_l k
  ·intro y0 y1 y2
   unfold impl_depthOk.j0
   repeat' first
   | (with_reducible exact ih0 _ _ _)
   | (with_reducible exact LeO.refl _)
   | (with_reducible exact LeO.none _)
   | (with_reducible refine LeO.ite ?_ ?_)
   | (with_reducible refine LeO.bind ?_ (fun _=>?_))
theorem impl_depthOk.mono:∀ a0 a1 k,LeO (impl_depthOk.f k a0 a1) (impl_depthOk.f (k+1) a0 a1):=by
 intro a0 a1 k
 have ih0:=impl_depthOk.mono_l k
 unfold impl_depthOk.f
 repeat' first
   | (with_reducible exact ih0 _ _ _)
   | (with_reducible exact LeO.refl _)
   | (with_reducible exact LeO.none _)
   | (with_reducible refine LeO.ite ?_ ?_)
   | (with_reducible refine LeO.bind ?_ (fun _=>?_))
set_option maxHeartbeats 8000000 in
set_option maxRecDepth 100000 in
theorem impl_depthOk.calls (k:Nat) (a0:Int) (a1:Int) (r:Bool) (w:World) (h:impl_depthOk.f k a0 a1=some r) :
  Calls Try.prog 48 #[.int .i64 a0,.int .i64 a1] w fun e w'=>e=.returned (.bool r)∧Drawn0 w w':=by
 have H:(if a0=1 then (impl_depthOk.j0 k a1 a0 (a0 == 1)) else (impl_depthOk.j0 k a1 a0 (a0 == 4)))=some r:=h
 clear h
 have HC3:=aM_ H
 clear H
 go_enter Try.func48,Try.ntmps48
 go_upto_if 6 with (fail)
 go_cut [6] (fun v6 wc=>∃ (kq:Nat) (x6_2:Bool),v6=.bool x6_2∧Aside0 (impl_depthOk.j0 kq a1 a0 x6_2=some r)∧Aside0 (kq≤k)∧Drawn0 w wc)
 case first =>
  have H:=HC3.out
  clear HC3
  by_cases c4:a0=1
  ·rw [if_pos c4] at H
   have c4b0:(a0 == 1)=true:=beq_iff_eq.mpr c4
   have c4b1:(a0 != 1)=false:=bne_eq_false_iff_eq.mpr c4
   clear c4
   (first|rw [c4b0]|(simp only [i64_w,i32_w];rw [c4b0])|skip)
   have H':=aM_ H
   clear H
   go_wp2
   go_meet
   case rel=>exact ⟨_,((a0 == 1)),(by first|rfl|(simp;done)|(simp [*];done)),H',⟨by first|omega|exact Nat.le_refl _⟩,by repeat (first|exact Drawn0.refl _|apply Drawn0.step)⟩
  ·rw [if_neg c4] at H
   have c4b0:(a0 == 1)=false:=beq_eq_false_iff_ne.mpr c4
   have c4b1:(a0 != 1)=true:=bne_iff_ne.mpr c4
   (first|rw [c4b0]|(simp only [i64_w,i32_w];rw [c4b0])|skip)
   have H':=aM_ H
   clear H
   go_wp2
   go_meet
   case rel=>exact ⟨_,((a0 == 4)),(by first|rfl|(simp;done)|(simp [*];done)),H',⟨by first|omega|exact Nat.le_refl _⟩,by repeat (first|exact Drawn0.refl _|apply Drawn0.step)⟩
 case rest =>
  clear HC3
  try clear p2
  try clear c4
  try clear c4b0
  try clear c4b1
  obtain ⟨kq,x6_2,rfl,HA,HJ2,⟨mc2,rfl⟩⟩:=hcut
  cases kq with
  | zero=>exact absurd HA.out (by simp [impl_depthOk.j0])
  | succ kj2 =>
   have H:=HA.out
   clear HA
   simp only [impl_depthOk.j0] at H
   by_cases c5:x6_2=true
   ·subst c5
    have H1:((impl_smallDepth.f a1).bind fun t114=>(some t114))=some r:=by first|(rw [if_pos rfl] at H;exact H)|rfl
    clear H
    have H:=H1
    clear H1
    replace H:=Option.bind_eq_some_iff.mp H
    obtain ⟨t114,A60,H⟩:=H
    replace H:(some t114)=some r:=H
    have A6:=aM_ A60
    clear A60
    obtain rfl:=Option.some.inj H
    go_wp2_with (first|((with_reducible refine gate_callee (f:=70) rfl ?_);refine goesL_ (some 10) rfl rfl Try.func70 (by kernel_rfl) rfl #[.int .i64 a1] rfl (by (try simp only [List.map_toArray,List.map_cons,List.map_nil]);first|done|rfl|(simp only [List.length_drop,List.length_take];rfl)) ?_;(with_reducible refine (impl_smallDepth.calls a1 t114 _ A6.out).mono ?_);rintro e w' ⟨rfl,⟨nd,rfl⟩⟩;refine ⟨_,rfl,?_⟩))
    go_ret
    exact ⟨by first|rfl|(simp;done)|(simp [*];done),by repeat (first|exact Drawn0.refl _|apply Drawn0.step)⟩
   ·replace c5:=Bool.eq_false_iff.mpr c5
    subst c5
    have H1:(if a0=2 then (some (a1 == 24)) else (if a0=3 then (some (a1 == 32)) else (some false)))=some r:=by first|(rw [if_neg (show ¬ (false=true) by decide)] at H;exact H)|rfl
    clear H
    have H:=H1
    clear H1
    by_cases c7:a0=2
    ·rw [if_pos c7] at H
     have c7b0:(a0 == 2)=true:=beq_iff_eq.mpr c7
     have c7b1:(a0 != 2)=false:=bne_eq_false_iff_eq.mpr c7
     clear c7
     obtain rfl:=Option.some.inj H
     go_wp2
     go_ret
     exact ⟨by first|rfl|(simp;done)|(simp [*];done),by repeat (first|exact Drawn0.refl _|apply Drawn0.step)⟩
    ·rw [if_neg c7] at H
     have c7b0:(a0 == 2)=false:=beq_eq_false_iff_ne.mpr c7
     have c7b1:(a0 != 2)=true:=bne_iff_ne.mpr c7
     by_cases c8:a0=3
     ·rw [if_pos c8] at H
      have c8b0:(a0 == 3)=true:=beq_iff_eq.mpr c8
      have c8b1:(a0 != 3)=false:=bne_eq_false_iff_eq.mpr c8
      clear c8
      obtain rfl:=Option.some.inj H
      go_wp2
      go_ret
      exact ⟨by first|rfl|(simp;done)|(simp [*];done),by repeat (first|exact Drawn0.refl _|apply Drawn0.step)⟩
     ·rw [if_neg c8] at H
      have c8b0:(a0 == 3)=false:=beq_eq_false_iff_ne.mpr c8
      have c8b1:(a0 != 3)=true:=bne_iff_ne.mpr c8
      obtain rfl:=Option.some.inj H
      go_wp2
      go_ret
      exact ⟨by first|rfl|(simp;done)|(simp [*];done),by repeat (first|exact Drawn0.refl _|apply Drawn0.step)⟩

/-! ### impl_in: function 49 -/
def impl_in.f (a0:Int) (a1:Int) (a2:Int):Option (Bool):=if a0 ≥ a1 then (some (decide (a0≤a2))) else (some false)
set_option maxHeartbeats 8000000 in
set_option maxRecDepth 100000 in
theorem impl_in.calls (a0:Int) (a1:Int) (a2:Int) (r:Bool) (w:World) (h:impl_in.f a0 a1 a2=some r) :
  Calls Try.prog 49 #[.int .i64 a0,.int .i64 a1,.int .i64 a2] w fun e w'=>e=.returned (.bool r)∧Drawn0 w w':=by
 have H:(if a0 ≥ a1 then (some (decide (a0≤a2))) else (some false))=some r:=h
 clear h
 by_cases c4:a0 ≥ a1
 ·rw [if_pos c4] at H
  have c4b0:decide (a1≤a0)=true:=decide_eq_true c4
  clear c4
  obtain rfl:=Option.some.inj H
  go_enter Try.func49,Try.ntmps49
  go_wp2
  go_ret
  exact ⟨by first|rfl|(simp;done)|(simp [*];done),by repeat (first|exact Drawn0.refl _|apply Drawn0.step)⟩
 ·rw [if_neg c4] at H
  have c4b0:decide (a1≤a0)=false:=decide_eq_false c4
  clear c4
  obtain rfl:=Option.some.inj H
  go_enter Try.func49,Try.ntmps49
  go_wp2
  go_ret
  exact ⟨by first|rfl|(simp;done)|(simp [*];done),by repeat (first|exact Drawn0.refl _|apply Drawn0.step)⟩

/-! ### impl_outside: function 50 -/
def impl_outside.f (l0:List Int) (a1:Int):Option Bool:=some (l0.any fun n=>!(decide (0≤n∧n≤a1)))
theorem impl_outside.pred (n most:Int) (g:Nat) (w:World) (hc:w.cell? ⟨g,0,none⟩=some (.int .i64 most)) :
  Calls Try.prog 72 #[.int .i64 n,.pointer (some ⟨g,0,none⟩)] w fun e w'=>e=.returned (.bool (!(decide (0≤n∧n≤most))))∧Drawn0 w w':=by
 have hin:impl_in.f n 0 most=some (decide (0≤n∧n≤most)):=by
  unfold impl_in.f
  by_cases h:n ≥ 0
  ·rw [if_pos h];congr 1;rw [Bool.eq_iff_iff];simp;omega
  ·rw [if_neg h];congr 1;symm;rw [decide_eq_false_iff_not];omega
 have HIN:=aM_ hin
 clear hin
 go_enter Try.func72,Try.ntmps72
 go_wp2_with (go_at_call 49;refine (impl_in.calls n 0 most _ _ HIN.out).mono ?_;rintro e w' ⟨rfl,hd⟩;obtain ⟨⟨m,rfl⟩⟩:=hd)
 go_ret
 exact ⟨by first|rfl|simp,by repeat (first|exact Drawn0.refl _|apply Drawn0.step)⟩
theorem impl_outside.index (A0:Option Addr) (c0:Nat) (l0:List Int) (most:Int) (g:Nat) (w:World) (hr0:Kd.C (Kd.int .i64) w A0 l0.length l0) (hc:w.cell? ⟨g,0,none⟩=some (.int .i64 most)) :
  Calls Try.prog 76 #[.slice A0 l0.length c0,.func (.func 72) #[] #[.pointer (some ⟨g,0,none⟩)]] w fun e w'=>∃ r:Int,e=.returned (.int .i64 r)∧Aside0 (decide (r ≥ 0)=l0.any fun n=>!(decide (0≤n∧n≤most)))∧Drawn0 w w':=by
 have HR0:=aM_ hr0
 have HP:=fun (n:Int) (m:Nat)=>impl_outside.pred n most g (w.drewN m) hc
 have HPA:=aM_ HP
 clear HP hr0 hc
 go_enter Try.func76,Try.ntmps76
 go_wp2
 go_loopw [8] (fun v8 wr=>∃ x:Int,v8=.int .i64 x∧Aside0 (0≤x∧x≤(l0.length:Int))∧Aside0 (∀ j:Nat,(j:Int) < x → 0≤rd l0 j∧rd l0 j≤most)∧Drawn0 w wr) (fun v8 _=>l0.length - (intOf v8).toNat)
 case atStart=>exact ⟨0,rfl,⟨by omega,by omega⟩,⟨fun j hj=>by omega⟩,Drawn0.refl _⟩
 case round =>
  obtain ⟨x,rfl,HX,HJ,⟨m1,rfl⟩⟩:=hrel
  have hn:l0.length≤9223372036854775807:=HR0.out.2.1
  obtain ⟨x0,x1⟩:=HX.out
  by_cases hlt:x < (l0.length:Int)
  ·have hx:=HPA.out (rd l0 x) m1
   have c4b0:decide (x < (l0.length:Int))=true:=decide_eq_true hlt
   obtain ⟨ad,e,hcell⟩:=Kd.at_int HR0.out x x0 hlt
   cases e
   have hcell2:(w.drewN m1).cell? (ad.add x.toNat)=some (.int .i64 (rd l0 x)):=hcell
   clear hcell
   by_cases hb:0≤rd l0 x∧rd l0 x≤most
   ·have e1:(!(decide (0≤rd l0 x∧rd l0 x≤most)))=false:=by simp [hb]
    rw [e1] at hx
    have HB:=aM_ hb
    have HXX:=aM_ hx
    have HLT:=aM_ hlt
    clear e1 hb hx
    go_wp2_with (go_at_call 72;refine (HXX.out).mono ?_;rintro e w' ⟨rfl,hd⟩;obtain ⟨⟨m,rfl⟩⟩:=hd)
    go_roundw
    case rel=>exact ⟨x+1,by go_num,⟨by omega,by omega⟩,⟨fun j hj=>by
     by_cases hjx:(j:Int) < x
     ·exact HJ.out j hjx
     ·have:(j:Int)=x:=by omega
      rw [this];exact HB.out⟩,by repeat (first|exact Drawn0.refl _|apply Drawn0.step)⟩
    case measure=>simp [intOf];omega
   ·have e1:(!(decide (0≤rd l0 x∧rd l0 x≤most)))=true:=by simp [hb]
    rw [e1] at hx
    have HB:=aM_ hb
    have HXX:=aM_ hx
    have HLT:=aM_ hlt
    clear e1 hb hx
    go_wp2_with (go_at_call 72;refine (HXX.out).mono ?_;rintro e w' ⟨rfl,hd⟩;obtain ⟨⟨m,rfl⟩⟩:=hd)
    go_ret
    refine ⟨x,rfl,⟨?_⟩,by repeat (first|exact Drawn0.refl _|apply Drawn0.step)⟩
    rw [decide_eq_true (show x ≥ 0 from x0)]
    symm
    rw [List.any_eq_true]
    refine ⟨rd l0 x,?_,by have h9:=HB.out;simp only [Bool.not_eq_true',decide_eq_false_iff_not];exact h9⟩
    unfold rd
    rw [List.getD_eq_getElem?_getD,List.getElem?_eq_getElem (by omega)]
    exact List.getElem_mem _
  ·have c4b0:decide (x < (l0.length:Int))=false:=decide_eq_false hlt
   have HLT:=aM_ hlt
   clear hlt
   go_wp2
   go_ret
   refine ⟨-1,rfl,⟨?_⟩,by repeat (first|exact Drawn0.refl _|apply Drawn0.step)⟩
   rw [decide_eq_false (show ¬ ((-1:Int) ≥ 0) by omega)]
   symm
   rw [List.any_eq_false]
   intro n hn2
   obtain ⟨j,hj,rfl⟩:=List.mem_iff_getElem.1 hn2
   have hl:=HLT.out
   have:=HJ.out j (by omega)
   unfold rd at this
   rw [Int.toNat_natCast,List.getD_eq_getElem?_getD,List.getElem?_eq_getElem hj] at this
   simpa using this
theorem impl_outside.contains (A0:Option Addr) (c0:Nat) (l0:List Int) (most:Int) (g:Nat) (w:World) (hr0:Kd.C (Kd.int .i64) w A0 l0.length l0) (hc:w.cell? ⟨g,0,none⟩=some (.int .i64 most)) :
  Calls Try.prog 71 #[.slice A0 l0.length c0,.func (.func 72) #[] #[.pointer (some ⟨g,0,none⟩)]] w fun e w'=>e=.returned (.bool (l0.any fun n=>!(decide (0≤n∧n≤most))))∧Drawn0 w w':=by
 have hx:=impl_outside.index A0 c0 l0 most g w hr0 hc
 have HX:=aM_ hx
 clear hx hr0 hc
 generalize (l0.any fun n=>!(decide (0≤n∧n≤most)))=b at HX ⊢
 go_enter Try.func71,Try.ntmps71
 go_wp2_with (go_at_call 76;refine (HX.out).mono ?_;rintro e w' ⟨r,rfl,HD,hd⟩;obtain ⟨⟨m,rfl⟩⟩:=hd)
 go_ret
 refine ⟨?_,by repeat (first|exact Drawn0.refl _|apply Drawn0.step)⟩
 rw [← HD.out]
 rfl
theorem impl_outside.calls (A0:Option Addr) (c0:Nat) (l0:List Int) (a1:Int) (r:Bool) (w:World) (hr0:Kd.C (Kd.int .i64) w A0 l0.length l0) (hc0:l0.length≤c0) (h:impl_outside.f l0 a1=some r) :
  Calls Try.prog 50 #[.slice A0 l0.length c0,.int .i64 a1] w fun e w'=>e=.returned (.bool r)∧Below w.heap.size w w':=by
 have hmf:∀ (fn:Fn) (first cap:Array Value) (w:World),(Instr.makeFunc fn first cap).run Try.prog w=.ok (.func fn first cap) w:=fun _ _ _ _=>rfl
 have hb:Below w.heap.size w (w.alloc (.cells #[.int .i64 a1] 3)):=(Below.refl _ _).alloc (Nat.le_refl _) _
 have hcell:(w.alloc (.cells #[.int .i64 a1] 3)).cell? ⟨w.heap.size,0,none⟩=some (.int .i64 a1):=by
  rw [World.cell?_alloc_at _ _ _ _ rfl];rfl
 have hx:=impl_outside.contains A0 c0 l0 a1 w.heap.size (w.alloc (.cells #[.int .i64 a1] 3)) (Kd.C_below hr0 hb) hcell
 obtain rfl:(l0.any fun n=>!(decide (0≤n∧n≤a1)))=r:=Option.some.inj h
 have HX:=aM_ hx
 clear hx hcell hr0 h
 generalize (l0.any fun n=>!(decide (0≤n∧n≤a1)))=b at HX ⊢
 go_enter Try.func50,Try.ntmps50
 go_wp2_with (go_at_call 71;refine (HX.out).mono ?_;rintro e w' ⟨rfl,hd⟩)
 go_ret
 exact ⟨rfl,Below.trans hb (hd.below.mono (by simp))⟩

end Go.Proofs.Ytkjfefiphdloiaa.PFnImageCut
