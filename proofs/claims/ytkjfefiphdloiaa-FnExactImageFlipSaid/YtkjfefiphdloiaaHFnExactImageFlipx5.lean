/- What the functions that the law comes to compute, as plain functions, and that the machine's calls come to just that: written by a program for this claim, and turned where Lean did not take it. No condition. -/
import Derived.Test.YtkjfefiphdloiaaHFnExactImageFlipx0
import Derived.Test.YtkjfefiphdloiaaHFnExactImageFlipx4
namespace Go.Proofs.Ytkjfefiphdloiaa.PFnExactImageFlip
open Go.RowKit Go.Proofs.YtkjfefiphdloiaaW.PrintWords Go.Proofs.YtkjfefiphdloiaaW.PrintLast Go.Proofs.YtkjfefiphdloiaaW.PrintMore
attribute [local go_sem] max2_int min2_int max_two min_two max_three min_three max_four min_four   -- for this text's walks alone
set_option linter.unusedVariables false
set_option linter.unusedSimpArgs false

/-! ### impl_outside: function 50 -/
def impl_outside.f (l0 : List Int) (a1 : Int) : Option Bool := some (l0.any fun n => !(decide (0 ≤ n ∧ n ≤ a1)))
theorem impl_outside.pred (n most : Int) (g : Nat) (w : World) (hc : w.cell? ⟨g, 0, none⟩ = some (.int .i64 most)) :
  Calls Try.prog 72 #[.int .i64 n, .pointer (some ⟨g, 0, none⟩)] w fun e w' => e = .returned (.bool (!(decide (0 ≤ n ∧ n ≤ most)))) ∧ Drawn0 w w' := by
 have hin : impl_in.f n 0 most = some (decide (0 ≤ n ∧ n ≤ most)) := by
  unfold impl_in.f
  by_cases h : n ≥ 0
  ·rw [if_pos h]; congr 1; rw [Bool.eq_iff_iff]; simp; omega
  ·rw [if_neg h]; congr 1; symm; rw [decide_eq_false_iff_not]; omega
 have HIN := Aside0.mk hin
 clear hin
 go_enter Try.func72, Try.ntmps72
 go_wp2_with (go_at_call 49; refine (impl_in.calls n 0 most _ _ HIN.out).mono ?_; rintro e w' ⟨rfl, hd⟩; obtain ⟨⟨m, rfl⟩⟩ := hd)
 go_ret
 exact ⟨by first | rfl | simp, by repeat (first | exact Drawn0.refl _ | apply Drawn0.step)⟩
theorem impl_outside.index (A0 : Option Addr) (c0 : Nat) (l0 : List Int) (most : Int) (g : Nat) (w : World) (hr0 : Kd.C (Kd.int .i64) w A0 l0.length l0) (hc : w.cell? ⟨g, 0, none⟩ = some (.int .i64 most)) :
  Calls Try.prog 76 #[.slice A0 l0.length c0, .func (.func 72) #[] #[.pointer (some ⟨g, 0, none⟩)]] w fun e w' => ∃ r : Int, e = .returned (.int .i64 r) ∧ Aside0 (decide (r ≥ 0) = l0.any fun n => !(decide (0 ≤ n ∧ n ≤ most))) ∧ Drawn0 w w' := by
 have HR0 := Aside0.mk hr0
 have HP := fun (n : Int) (m : Nat) => impl_outside.pred n most g (w.drewN m) hc
 have HPA := Aside0.mk HP
 clear HP hr0 hc
 go_enter Try.func76, Try.ntmps76
 go_wp2
 go_loopw [8] (fun v8 wr => ∃ x : Int, v8 = .int .i64 x ∧ Aside0 (0 ≤ x ∧ x ≤ (l0.length : Int)) ∧ Aside0 (∀ j : Nat, (j : Int) < x → 0 ≤ rd l0 j ∧ rd l0 j ≤ most) ∧ Drawn0 w wr) (fun v8 _ => l0.length - (intOf v8).toNat)
 case atStart => exact ⟨0, rfl, ⟨by omega, by omega⟩, ⟨fun j hj => by omega⟩, Drawn0.refl _⟩
 case round =>
  obtain ⟨x, rfl, HX, HJ, ⟨m1, rfl⟩⟩ := hrel
  have hn : l0.length ≤ 9223372036854775807 := HR0.out.2.1
  obtain ⟨x0, x1⟩ := HX.out
  by_cases hlt : x < (l0.length : Int)
  ·have hx := HPA.out (rd l0 x) m1
   have c4b0 : decide (x < (l0.length : Int)) = true := decide_eq_true hlt
   obtain ⟨ad, e, hcell⟩ := Kd.at_int HR0.out x x0 hlt
   cases e
   have hcell2 : (w.drewN m1).cell? (ad.add x.toNat) = some (.int .i64 (rd l0 x)) := hcell
   clear hcell
   by_cases hb : 0 ≤ rd l0 x ∧ rd l0 x ≤ most
   ·have e1 : (!(decide (0 ≤ rd l0 x ∧ rd l0 x ≤ most))) = false := by simp [hb]
    rw [e1] at hx
    have HB := Aside0.mk hb
    have HXX := Aside0.mk hx
    have HLT := Aside0.mk hlt
    clear e1 hb hx
    go_wp2_with (go_at_call 72; refine (HXX.out).mono ?_; rintro e w' ⟨rfl, hd⟩; obtain ⟨⟨m, rfl⟩⟩ := hd)
    go_roundw
    case rel => exact ⟨x + 1, by go_num, ⟨by omega, by omega⟩, ⟨fun j hj => by
     by_cases hjx : (j : Int) < x
     ·exact HJ.out j hjx
     ·have : (j : Int) = x := by omega
      rw [this]; exact HB.out⟩, by repeat (first | exact Drawn0.refl _ | apply Drawn0.step)⟩
    case measure => simp [intOf]; omega
   ·have e1 : (!(decide (0 ≤ rd l0 x ∧ rd l0 x ≤ most))) = true := by simp [hb]
    rw [e1] at hx
    have HB := Aside0.mk hb
    have HXX := Aside0.mk hx
    have HLT := Aside0.mk hlt
    clear e1 hb hx
    go_wp2_with (go_at_call 72; refine (HXX.out).mono ?_; rintro e w' ⟨rfl, hd⟩; obtain ⟨⟨m, rfl⟩⟩ := hd)
    go_ret
    refine ⟨x, rfl, ⟨?_⟩, by repeat (first | exact Drawn0.refl _ | apply Drawn0.step)⟩
    rw [decide_eq_true (show x ≥ 0 from x0)]
    symm
    rw [List.any_eq_true]
    refine ⟨rd l0 x, ?_, by have h9 := HB.out; simp only [Bool.not_eq_true', decide_eq_false_iff_not]; exact h9⟩
    unfold rd
    rw [List.getD_eq_getElem?_getD, List.getElem?_eq_getElem (by omega)]
    exact List.getElem_mem _
  ·have c4b0 : decide (x < (l0.length : Int)) = false := decide_eq_false hlt
   have HLT := Aside0.mk hlt
   clear hlt
   go_wp2
   go_ret
   refine ⟨-1, rfl, ⟨?_⟩, by repeat (first | exact Drawn0.refl _ | apply Drawn0.step)⟩
   rw [decide_eq_false (show ¬ ((-1 : Int) ≥ 0) by omega)]
   symm
   rw [List.any_eq_false]
   intro n hn2
   obtain ⟨j, hj, rfl⟩ := List.mem_iff_getElem.1 hn2
   have hl := HLT.out
   have := HJ.out j (by omega)
   unfold rd at this
   rw [Int.toNat_natCast, List.getD_eq_getElem?_getD, List.getElem?_eq_getElem hj] at this
   simpa using this
theorem impl_outside.contains (A0 : Option Addr) (c0 : Nat) (l0 : List Int) (most : Int) (g : Nat) (w : World) (hr0 : Kd.C (Kd.int .i64) w A0 l0.length l0) (hc : w.cell? ⟨g, 0, none⟩ = some (.int .i64 most)) :
  Calls Try.prog 71 #[.slice A0 l0.length c0, .func (.func 72) #[] #[.pointer (some ⟨g, 0, none⟩)]] w fun e w' => e = .returned (.bool (l0.any fun n => !(decide (0 ≤ n ∧ n ≤ most)))) ∧ Drawn0 w w' := by
 have hx := impl_outside.index A0 c0 l0 most g w hr0 hc
 have HX := Aside0.mk hx
 clear hx hr0 hc
 generalize (l0.any fun n => !(decide (0 ≤ n ∧ n ≤ most))) = b at HX ⊢
 go_enter Try.func71, Try.ntmps71
 go_wp2_with (go_at_call 76; refine (HX.out).mono ?_; rintro e w' ⟨r, rfl, HD, hd⟩; obtain ⟨⟨m, rfl⟩⟩ := hd)
 go_ret
 refine ⟨?_, by repeat (first | exact Drawn0.refl _ | apply Drawn0.step)⟩
 rw [← HD.out]
 rfl
theorem impl_outside.calls (A0 : Option Addr) (c0 : Nat) (l0 : List Int) (a1 : Int) (r : Bool) (w : World) (hr0 : Kd.C (Kd.int .i64) w A0 l0.length l0) (hc0 : l0.length ≤ c0) (h : impl_outside.f l0 a1 = some r) :
  Calls Try.prog 50 #[.slice A0 l0.length c0, .int .i64 a1] w fun e w' => e = .returned (.bool r) ∧ Below w.heap.size w w' := by
 have hmf : ∀ (fn : Fn) (first cap : Array Value) (w : World), (Instr.makeFunc fn first cap).run Try.prog w = .ok (.func fn first cap) w := fun _ _ _ _ => rfl
 have hb : Below w.heap.size w (w.alloc (.cells #[.int .i64 a1] 3)) := (Below.refl _ _).alloc (Nat.le_refl _) _
 have hcell : (w.alloc (.cells #[.int .i64 a1] 3)).cell? ⟨w.heap.size, 0, none⟩ = some (.int .i64 a1) := by
  rw [World.cell?_alloc_at _ _ _ _ rfl]; rfl
 have hx := impl_outside.contains A0 c0 l0 a1 w.heap.size (w.alloc (.cells #[.int .i64 a1] 3)) (Kd.C_below hr0 hb) hcell
 obtain rfl : (l0.any fun n => !(decide (0 ≤ n ∧ n ≤ a1))) = r := Option.some.inj h
 have HX := Aside0.mk hx
 clear hx hcell hr0 h
 generalize (l0.any fun n => !(decide (0 ≤ n ∧ n ≤ a1))) = b at HX ⊢
 go_enter Try.func50, Try.ntmps50
 go_wp2_with (go_at_call 71; refine (HX.out).mono ?_; rintro e w' ⟨rfl, hd⟩)
 go_ret
 exact ⟨rfl, Below.trans hb (hd.below.mono (by simp))⟩

end Go.Proofs.Ytkjfefiphdloiaa.PFnExactImageFlip
