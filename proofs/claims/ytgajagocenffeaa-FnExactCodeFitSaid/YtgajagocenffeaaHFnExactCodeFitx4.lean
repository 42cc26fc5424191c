/- What the functions that the law comes to compute, as plain functions, and that the machine's calls come to just that: written by a program for this claim, and turned where Lean did not take it. No condition. -/
import Derived.Test.YtgajagocenffeaaThFit
import Derived.Test.YtgajagocenffeaaThDel
import Derived.Test.YtgajagocenffeaaThNode
import Derived.Test.YtgajagocenffeaaHFnExactCodeFitx0
import Derived.Test.YtgajagocenffeaaHFnExactCodeFitx3
namespace Go.Proofs.Ytgajagocenffeaa.PFnExactCodeFit
open Go.RowKit Go.Proofs.YtgajagocenffeaaW.PrintWords Go.Proofs.YtgajagocenffeaaW.PrintLast Go.Proofs.YtgajagocenffeaaW.PrintMore
attribute [local go_sem] max2_int min2_int max_two min_two max_three min_three max_four min_four   -- for this text's walks alone
set_option linter.unusedVariables false
set_option linter.unusedSimpArgs false

/-! ### impl_CodeFit: function 12 -/
section
open Go.Proofs.Ytgajagocenffeaa.Th
def impl_CodeFit.f (l0 : List Int) (a1 : Int) : Option (List Int) := some (codeFitM l0 a1)
theorem impl_CodeFit.pred (n most : Int) (g : Nat) (w : World) (hc : w.cell? ⟨g, 0, none⟩ = some (.int .i64 most)) :
    Calls Try.prog 43 #[.int .i64 n, .pointer (some ⟨g, 0, none⟩)] w fun e w' => e = .returned (.bool (decide (n > most))) ∧ Drawn0 w w' := by
  go_enter Try.func43, Try.ntmps43
  go_wp2
  go_ret
  exact ⟨by first | rfl | simp, by repeat (first | exact Drawn0.refl _ | apply Drawn0.step)⟩
theorem impl_CodeFit.index (A0 : Option Addr) (c0 : Nat) (l0 : List Int) (most : Int) (g : Nat) (w : World) (hr0 : Kd.C (Kd.int .i64) w A0 l0.length l0) (hc : w.cell? ⟨g, 0, none⟩ = some (.int .i64 most)) :
    Calls Try.prog 65 #[.slice A0 l0.length c0, .func (.func 43) #[] #[.pointer (some ⟨g, 0, none⟩)]] w fun e w' => ∃ r : Int, e = .returned (.int .i64 r) ∧ Aside0 (decide (r ≥ 0) = overM most l0) ∧ Drawn0 w w' := by
  have HR0 := Aside0.mk hr0
  have HP := fun (n : Int) (m : Nat) => impl_CodeFit.pred n most g (w.drewN m) hc
  have HPA := Aside0.mk HP
  clear HP hr0 hc
  go_enter Try.func65, Try.ntmps65
  go_wp2
  go_loopw [8] (fun v8 wr => ∃ x : Int, v8 = .int .i64 x ∧ Aside0 (0 ≤ x ∧ x ≤ (l0.length : Int)) ∧ Aside0 (∀ j : Nat, (j : Int) < x → rd l0 j ≤ most) ∧ Drawn0 w wr) (fun v8 _ => l0.length - (intOf v8).toNat)
  case atStart => exact ⟨0, rfl, ⟨by omega, by omega⟩, ⟨fun j hj => by omega⟩, Drawn0.refl _⟩
  case round =>
    obtain ⟨x, rfl, HX, HJ, ⟨m1, rfl⟩⟩ := hrel
    have hn : l0.length ≤ 9223372036854775807 := HR0.out.2.1
    obtain ⟨x0, x1⟩ := HX.out
    by_cases hlt : x < (l0.length : Int)
    · have hx := HPA.out (rd l0 x) m1
      have c4b0 : decide (x < (l0.length : Int)) = true := decide_eq_true hlt
      obtain ⟨ad, e, hcell⟩ := Kd.at_int HR0.out x x0 hlt
      cases e
      have hcell2 : (w.drewN m1).cell? (ad.add x.toNat) = some (.int .i64 (rd l0 x)) := hcell
      clear hcell
      by_cases hb : rd l0 x > most
      · rw [decide_eq_true hb] at hx
        have HB := Aside0.mk hb
        have HXX := Aside0.mk hx
        have HLT := Aside0.mk hlt
        clear hb hx
        go_wp2_with (go_at_call 43; refine (HXX.out).mono ?_; rintro e w' ⟨rfl, hd⟩; obtain ⟨⟨m, rfl⟩⟩ := hd)
        go_ret
        refine ⟨x, rfl, ⟨?_⟩, by repeat (first | exact Drawn0.refl _ | apply Drawn0.step)⟩
        rw [decide_eq_true (show x ≥ 0 from x0)]
        symm
        unfold overM
        rw [List.any_eq_true]
        refine ⟨rd l0 x, ?_, decide_eq_true HB.out⟩
        unfold rd
        rw [List.getD_eq_getElem?_getD, List.getElem?_eq_getElem (by omega)]
        exact List.getElem_mem _
      · rw [decide_eq_false hb] at hx
        have HB := Aside0.mk hb
        have HXX := Aside0.mk hx
        have HLT := Aside0.mk hlt
        clear hb hx
        go_wp2_with (go_at_call 43; refine (HXX.out).mono ?_; rintro e w' ⟨rfl, hd⟩; obtain ⟨⟨m, rfl⟩⟩ := hd)
        go_roundw
        case rel => exact ⟨x + 1, by go_num, ⟨by omega, by omega⟩, ⟨fun j hj => by
          by_cases hjx : (j : Int) < x
          · exact HJ.out j hjx
          · have : (j : Int) = x := by omega
            rw [this]; have := HB.out; omega⟩, by repeat (first | exact Drawn0.refl _ | apply Drawn0.step)⟩
        case measure => simp [intOf]; omega
    · have c4b0 : decide (x < (l0.length : Int)) = false := decide_eq_false hlt
      have HLT := Aside0.mk hlt
      clear hlt
      go_wp2
      go_ret
      refine ⟨-1, rfl, ⟨?_⟩, by repeat (first | exact Drawn0.refl _ | apply Drawn0.step)⟩
      rw [decide_eq_false (show ¬ ((-1 : Int) ≥ 0) by omega)]
      symm
      apply over_at
      intro j hj
      have hl := HLT.out
      have := HJ.out j (by omega)
      unfold rd at this
      rwa [Int.toNat_natCast] at this
theorem impl_CodeFit.contains (A0 : Option Addr) (c0 : Nat) (l0 : List Int) (most : Int) (g : Nat) (w : World) (hr0 : Kd.C (Kd.int .i64) w A0 l0.length l0) (hc : w.cell? ⟨g, 0, none⟩ = some (.int .i64 most)) :
    Calls Try.prog 42 #[.slice A0 l0.length c0, .func (.func 43) #[] #[.pointer (some ⟨g, 0, none⟩)]] w fun e w' => e = .returned (.bool (overM most l0)) ∧ Drawn0 w w' := by
  have hx := impl_CodeFit.index A0 c0 l0 most g w hr0 hc
  have HX := Aside0.mk hx
  clear hx hr0 hc
  generalize overM most l0 = b at HX ⊢
  go_enter Try.func42, Try.ntmps42
  go_wp2_with (go_at_call 65; refine (HX.out).mono ?_; rintro e w' ⟨r, rfl, HD, hd⟩; obtain ⟨⟨m, rfl⟩⟩ := hd)
  go_ret
  refine ⟨?_, by repeat (first | exact Drawn0.refl _ | apply Drawn0.step)⟩
  rw [← HD.out]
  rfl
set_option maxHeartbeats 8000000 in
set_option maxRecDepth 100000 in
theorem impl_CodeFit.calls (A0 : Option Addr) (c0 : Nat) (l0 : List Int) (a1 : Int) (r : List Int) (w : World) (hr0 : Kd.C (Kd.int .i64) w A0 l0.length l0) (hc0 : l0.length ≤ c0) (h : impl_CodeFit.f l0 a1 = some r) :
    Calls Try.prog 12 #[.slice A0 l0.length c0, .int .i64 a1] w fun e w' => ∃ v0_ : Value, e = .returned (v0_) ∧ Kd.R (Kd.int .i64) 3 w' w.heap.size (fun _ => True) v0_ r ∧ Below w.heap.size w w' := by
  have hmf : ∀ (fn : Fn) (first cap : Array Value) (w : World), (Instr.makeFunc fn first cap).run Try.prog w = .ok (.func fn first cap) w := fun _ _ _ _ => rfl
  obtain ⟨r0, hr1⟩ : ∃ r0, codeFitM l0 a1 = r0 := ⟨_, rfl⟩
  have HR1 := Aside0.mk hr1
  obtain rfl : r0 = r := by rw [← hr1]; exact Option.some.inj h
  clear h hr1
  have HC0 := Aside0.mk hc0
  have hlen := hr0.2.1
  have HR0 := Aside0.mk hr0
  clear hr0 hc0
  have hin : impl_in.f a1 1 15 = some (decide (1 ≤ a1 ∧ a1 ≤ 15)) := by
    unfold impl_in.f
    by_cases h : a1 ≥ 1
    · rw [if_pos h]; congr 1; rw [Bool.eq_iff_iff]; simp; omega
    · rw [if_neg h]; congr 1; symm; rw [decide_eq_false_iff_not]; omega
  have HIN := Aside0.mk hin
  clear hin
  by_cases h300 : (l0.length : Int) > 300
  · have c1 : decide ((l0.length : Int) > 300) = true := decide_eq_true h300
    have hno : roomM l0 a1 = false := decide_eq_false (fun h => by omega)
    have HNO := Aside0.mk hno
    clear hno
    go_enter Try.func12, Try.ntmps12
    go_wp2
    go_ret
    have hr2 : r0 = [] := by rw [← HR1.out]; unfold codeFitM; rw [HNO.out]; rfl
    subst hr2
    exact ⟨_, rfl, Kd.R_nil _ _ _ _ _, (Below.refl _ _).alloc (Nat.le_refl _) _⟩
  · have c1 : decide ((l0.length : Int) > 300) = false := decide_eq_false h300
    by_cases hm : 1 ≤ a1 ∧ a1 ≤ 15
    · have HM := Aside0.mk hm
      have HIN2 := HIN.out
      rw [decide_eq_true hm] at HIN2
      have HINT := Aside0.mk HIN2
      clear HIN2 hm HIN
      go_enter Try.func12, Try.ntmps12
      go_wp2_with (go_at_call 39; refine (impl_in.calls a1 1 15 _ _ HINT.out).mono ?_; rintro e w' ⟨rfl, hd⟩; obtain ⟨⟨m, rfl⟩⟩ := hd)
      have hB0 : Below w.heap.size w (w.alloc (Obj.cells #[.int .i64 a1] 3)) := (Below.refl _ _).alloc (Nat.le_refl _) _
      have hX0 := blk_new w (Obj.cells #[.int .i64 a1] 3)
      have HX0 := Aside0.mk hX0
      have HB0 := Aside0.mk hB0
      clear hX0 hB0
      go_loopw [5, 21] (fun v5 v21 wr => ∃ k : Nat, v5 = .int .i64 (manyM (l0.take k)) ∧ v21 = .int .i64 k ∧ k ≤ l0.length ∧ Aside0 (∀ x ∈ l0.take k, 0 ≤ x ∧ x ≤ 9000) ∧ Aside0 (wr.heap[w.heap.size]? = some (.cells #[.int .i64 a1] 3 (0, 0))) ∧ Aside0 (Below w.heap.size w wr)) (fun _ v21 _ => l0.length - (intOf v21).toNat)
      case atStart => exact ⟨0, rfl, rfl, Nat.zero_le _, ⟨fun x hx => by simp at hx⟩, ⟨HX0.out⟩, ⟨pw_below_drewN HB0.out _⟩⟩
      case round =>
        clear HX0 HB0
        obtain ⟨k, rfl, rfl, hk, HV, HX, HB⟩ := hrel
        by_cases hlt : k < l0.length
        · have c4b0 : decide ((k : Int) < (l0.length : Int)) = true := decide_eq_true (by omega)
          have q0 : (0 : Int) ≤ (k : Int) := by omega
          have q1 : (k : Int) < (l0.length : Int) := by omega
          obtain ⟨ad, e, hcell⟩ := Kd.at_int HR0.out (k : Int) q0 q1
          cases e
          rw [Int.toNat_natCast] at hcell
          have hcell2 : wr.cell? (ad.add k) = some (.int .i64 (rd l0 k)) := (HB.out.cell (World.block_lt_of_cell? w _ hcell)).trans hcell
          clear hcell
          have hst : l0.take (k + 1) = l0.take k ++ [rd l0 k] := by
            rw [List.take_succ_eq_append_getElem hlt]; simp [rd, List.getD_eq_getElem?_getD, List.getElem?_eq_getElem hlt]
          have HST := Aside0.mk hst
          clear hst
          have hmy := manyM_le (l0.take k)
          rw [List.length_take] at hmy
          by_cases hv : 0 ≤ rd l0 k ∧ rd l0 k ≤ 9000
          · have hin : impl_in.f (rd l0 k) 0 9000 = some true := by
              unfold impl_in.f
              rw [if_pos (show rd l0 k ≥ 0 from hv.1)]; congr 1; exact decide_eq_true hv.2
            have HIN := Aside0.mk hin
            have HVV := Aside0.mk (show ∀ x ∈ l0.take (k + 1), 0 ≤ x ∧ x ≤ 9000 from fun x hx => by
              rw [HST.out] at hx
              rcases List.mem_append.1 hx with hx | hx
              · exact HV.out x hx
              · rw [List.mem_singleton] at hx; rw [hx]; exact hv)
            clear hin
            have HVK := Aside0.mk hv
            clear hv
            by_cases hp : rd l0 k > 0
            · have c5 : decide (rd l0 k > 0) = true := decide_eq_true hp
              have HMS := Aside0.mk (show (manyM (l0.take (k + 1)) : Int) = (manyM (l0.take k) : Int) + 1 from by
                rw [HST.out, manyM_append, manyM_cons, if_pos hp]; simp [manyM, leavesN])
              have hw : IntKind.i64.wrap ((manyM (l0.take k) : Int) + 1) = (manyM (l0.take k) : Int) + 1 := by rw [i64_w', w64 (by omega)]
              clear hp
              go_wp2_with (go_at_call 39; refine (impl_in.calls (rd l0 k) 0 9000 _ _ HIN.out).mono ?_; rintro e w' ⟨rfl, hd⟩; obtain ⟨⟨m, rfl⟩⟩ := hd)
              go_roundw
              case rel => exact ⟨k + 1, by rw [HMS.out], by go_num, by omega, HVV, ⟨HX.out⟩, ⟨pw_below_drewN HB.out _⟩⟩
              case measure => simp [intOf]; omega
            · have c5 : decide (rd l0 k > 0) = false := decide_eq_false hp
              have HMS := Aside0.mk (show (manyM (l0.take (k + 1)) : Int) = (manyM (l0.take k) : Int) from by
                rw [HST.out, manyM_append, manyM_cons, if_neg hp]; simp [manyM, leavesN])
              clear hp
              go_wp2_with (go_at_call 39; refine (impl_in.calls (rd l0 k) 0 9000 _ _ HIN.out).mono ?_; rintro e w' ⟨rfl, hd⟩; obtain ⟨⟨m, rfl⟩⟩ := hd)
              go_roundw
              case rel => exact ⟨k + 1, by rw [HMS.out], by go_num, by omega, HVV, ⟨HX.out⟩, ⟨pw_below_drewN HB.out _⟩⟩
              case measure => simp [intOf]; omega
          · have hin : impl_in.f (rd l0 k) 0 9000 = some false := by
              unfold impl_in.f
              by_cases h : rd l0 k ≥ 0
              · rw [if_pos h]; congr 1; rw [decide_eq_false_iff_not]; omega
              · rw [if_neg h]
            have HIN := Aside0.mk hin
            have hno : roomM l0 a1 = false := decide_eq_false (fun h => hv (h.1 _ (by unfold rd; rw [Int.toNat_natCast, List.getD_eq_getElem?_getD, List.getElem?_eq_getElem hlt]; exact List.getElem_mem _)))
            have HNO := Aside0.mk hno
            clear hin hno hv
            go_wp2_with (go_at_call 39; refine (impl_in.calls (rd l0 k) 0 9000 _ _ HIN.out).mono ?_; rintro e w' ⟨rfl, hd⟩; obtain ⟨⟨m, rfl⟩⟩ := hd)
            go_ret
            have hr2 : r0 = [] := by rw [← HR1.out]; unfold codeFitM; rw [HNO.out]; rfl
            subst hr2
            exact ⟨_, rfl, Kd.R_nil _ _ _ _ _, pw_below_drewN HB.out _⟩
        · obtain rfl : k = l0.length := by omega
          rw [List.take_length] at HV
          rw [List.take_length]
          have c4b0 : decide ((l0.length : Int) < (l0.length : Int)) = false := decide_eq_false (by omega)
          have hxc := (blk_cell HX.out 0).trans rfl
          have hmy := manyM_le l0
          have HM2 := HM.out
          obtain ⟨m0, m1⟩ := HM2
          obtain ⟨P, hP⟩ : ∃ P : Int, ((2 ^ a1.toNat : Nat) : Int) = P := ⟨_, rfl⟩
          have hPP := Aside0.mk hP
          have hPb : 0 ≤ P ∧ P ≤ 32768 := by
            have h1 := Nat.pow_le_pow_right (n := 2) (by decide) (show a1.toNat ≤ 15 by omega)
            have e : (2 ^ 15 : Nat) = 32768 := rfl
            rw [e] at h1
            generalize 2 ^ a1.toNat = Q at hP h1
            omega
          have hs1 : IntKind.i64.wrap (1 * 2 ^ min a1.toNat 64) = P := by
            rw [Nat.min_eq_left (by omega), Int.one_mul, show ((2 : Int) ^ a1.toNat) = P by rw [← hP]; simp, i64_w', w64 (by omega)]
          have hs2 : IntKind.i64.wrap (2 ^ min a1.toNat 64) = P := by rw [Int.one_mul] at hs1; exact hs1
          have hs3 : wrap64 (1 * 2 ^ min a1.toNat 64) = P := (i64_w _).symm.trans hs1
          have hs6 : wrap64 (2 ^ a1.toNat) = P := by rw [← i64_w']; rw [Nat.min_eq_left (by omega)] at hs2; exact hs2
          have hs7 : IntKind.i64.wrap (2 ^ a1.toNat) = P := by rw [Nat.min_eq_left (by omega)] at hs2; exact hs2
          have hs0 : (0 : Int) ≤ a1 := by omega
          have hs4 := eq_true hs0
          have hs5 := decide_eq_true hs0
          clear hP hlt
          by_cases hpm : (manyM l0 : Int) > P
          · have c5 : decide ((manyM l0 : Int) > P) = true := decide_eq_true hpm
            have c6 := eq_true hpm
            have hno : roomM l0 a1 = false := decide_eq_false (fun h => by have h1 := h.2.2.2.1; have h2 := hPP.out; omega)
            have HNO := Aside0.mk hno
            clear hpm hno
            go_wp2
            go_ret
            have hr2 : r0 = [] := by rw [← HR1.out]; unfold codeFitM; rw [HNO.out]; rfl
            subst hr2
            exact ⟨_, rfl, Kd.R_nil _ _ _ _ _, HB.out⟩
          · have c5 : decide ((manyM l0 : Int) > P) = false := decide_eq_false hpm
            have c6 := eq_false hpm
            have HMP := Aside0.mk (show manyM l0 ≤ 2 ^ a1.toNat from by have h2 := hPP.out; omega)
            have HFIT := Aside0.mk (show fitM 14 l0 a1 = r0 from by
              have hyes : roomM l0 a1 = true := decide_eq_true ⟨fun v hv => HV.out v hv, m0, m1, HMP.out, by omega⟩
              rw [← HR1.out]; unfold codeFitM; rw [if_pos hyes])
            have hwr := blk_lt HX.out
            have hcl : slices_Clone_int_int.f l0 = some l0 := by
              unfold slices_Clone_int_int.f
              rw [Option.bind_some, if_pos (by simp; omega), List.nil_append]
            have HCL := Aside0.mk hcl
            have HCC := Aside0.mk (slices_Clone_int_int.calls A0 c0 l0 l0 wr (Kd.C_below HR0.out HB.out) HC0.out hcl)
            clear hpm hcl
            go_upto_region 15 with (go_at_call 40; refine (HCC.out).mono ?_; rintro e w2 ⟨v8, rfl, hr8, hb8⟩)
            obtain ⟨A8, c8, rfl⟩ := Kd.R_slice hr8
            have hHX := Aside0.mk ((hb8.block _ hwr).trans HX.out)
            have hHB := Aside0.mk (HB.out.trans (hb8.mono (by omega)))
            have HR8 := Aside0.mk (Kd.R_lower hr8 (show w.heap.size + 1 ≤ wr.heap.size by omega))
            clear hr8 hb8 HX HB HCC HCL hs1 hs2 hs3 hs4 hs5 hs6 hs7 hPb hPP hmy c5 c6 c4b0 hwr hs0 hxc
            go_loopg [9] 14 (fun n v9 wr => ∃ (x : List Int), Aside0 (Kd.R (Kd.int .i64) 3 wr (w.heap.size + 1) (fun _ => True) (.slice A8 l0.length c8) x) ∧ Aside0 (fitM n x a1 = r0 ∧ x.length = l0.length ∧ n ≤ 14 ∧ (∀ v ∈ x, 0 ≤ v ∧ v ≤ ((2 ^ n : Nat) : Int)) ∧ manyM x ≤ 2 ^ a1.toNat) ∧ Aside0 (wr.heap[w.heap.size]? = some (.cells #[.int .i64 a1] 3 (0, 0))) ∧ Aside0 (Below w.heap.size w wr))
            case atStart => exact ⟨l0, HR8, ⟨HFIT.out, rfl, Nat.le_refl _, fun v hv => by have := HV.out v hv; have e : ((2 ^ 14 : Nat) : Int) = 16384 := rfl; rw [e]; omega, HMP.out⟩, hHX, hHB⟩
            case round =>
              clear HR8 hHX hHB HV HFIT HMP
              obtain ⟨x, HX8, HF, HX, HB⟩ := hrel
              obtain ⟨hfit, hxl, hn14, hxb, hmn⟩ := HF.out
              have hx16 : ∀ v ∈ x, v ≤ 16384 := fun v hv => by
                have h1 := (hxb v hv).2
                have h2 := Nat.pow_le_pow_right (n := 2) (by decide) hn14
                have e : (2 ^ 14 : Nat) = 16384 := rfl
                rw [e] at h2
                omega
              have hwr := blk_lt HX.out
              have hC8 := Kd.R_reads' HX8.out
              have htl := impl_treeLengths.calls A8 c8 x (treeM x) wr hC8.2.2 (by rw [hxl]; exact hC8.2.1) (by unfold impl_treeLengths.f; rw [if_pos ⟨by omega, fun v hv => by have := hx16 v hv; omega⟩])
              rw [hxl] at htl
              have HTL := Aside0.mk htl
              have HX16 := Aside0.mk hx16
              clear htl hC8 hfit hxb hmn hx16
              go_upto_region 16 with (go_at_call 41; refine (HTL.out).mono ?_; rintro e w2 ⟨v9, rfl, hr9, hb9⟩)
              obtain ⟨A9, c9, rfl⟩ := Kd.R_slice hr9
              have hX2 := (hb9.block _ hwr).trans HX.out
              have hct := impl_CodeFit.contains A9 c9 (treeM x) a1 w.heap.size w2 (Kd.R_reads' hr9).2.2 ((blk_cell hX2 0).trans rfl)
              have HCT := Aside0.mk hct
              have HR9 := Aside0.mk hr9
              have HX2 := Aside0.mk hX2
              have HR8 := Aside0.mk (Kd.R_below HX8.out hb9)
              have HB2 := Aside0.mk (HB.out.trans (hb9.mono (by omega)))
              have hw2 := blk_lt hX2
              clear hct hX2 HTL
              by_cases hov : overM a1 (treeM x) = true
              · rw [hov] at HCT
                have hn0 : 0 < gk := by
                  refine Nat.pos_of_ne_zero (fun h0 => ?_)
                  subst h0
                  have h1 := treeM_flat x (fun v hv => by have := HF.out.2.2.2.1 v hv; simpa using this) a1 m0 HF.out.2.2.2.2
                  rw [hov] at h1
                  cases h1
                obtain ⟨n', rfl⟩ : ∃ n', gk = n' + 1 := ⟨gk - 1, by omega⟩
                have HF2 := Aside0.mk (show fitM n' (halfL x) a1 = r0 from by
                  have h1 := HF.out.1
                  unfold fitM at h1
                  rw [if_pos hov] at h1
                  exact h1)
                clear hov hn0
                go_wp2_with (go_at_call 42; refine (HCT.out).mono ?_; rintro e w3 ⟨rfl, hd⟩; obtain ⟨⟨m, rfl⟩⟩ := hd)
                have HR8n := Aside0.mk (Kd.R_drewN HR8.out m)
                have HX2n := Aside0.mk (show (w2.drewN m).heap[w.heap.size]? = some (.cells #[.int .i64 a1] 3 (0, 0)) from HX2.out)
                have HB2n := Aside0.mk (pw_below_drewN HB2.out m)
                clear HR8 HX2 HB2 HX8 HX HB HR9 HCT hw2 hwr
                go_loopw [48] (fun v48 wr => ∃ k : Nat, v48 = .int .i64 k ∧ k ≤ l0.length ∧ Aside0 (Kd.R (Kd.int .i64) 3 wr (w.heap.size + 1) (fun _ => True) (.slice A8 l0.length c8) (halfL (x.take k) ++ x.drop k)) ∧ Aside0 (wr.heap[w.heap.size]? = some (.cells #[.int .i64 a1] 3 (0, 0))) ∧ Aside0 (Below w.heap.size w wr)) (fun v48 _ => l0.length - (intOf v48).toNat)
                case atStart => exact ⟨0, rfl, Nat.zero_le _, HR8n, HX2n, HB2n⟩
                case round =>
                  clear HR8n HX2n HB2n
                  obtain ⟨k, rfl, hk, HRk, HX, HB⟩ := hrel
                  have hlk : (halfL (x.take k) ++ x.drop k).length = l0.length := by
                    rw [List.length_append, halfL_length, List.length_take, List.length_drop]; omega
                  by_cases hlt : k < l0.length
                  · have c4b0 : decide ((k : Int) < (l0.length : Int)) = true := decide_eq_true (by omega)
                    have q0 : (0 : Int) ≤ (k : Int) := by omega
                    have q1 : (k : Int) < (l0.length : Int) := by omega
                    obtain ⟨g, cap, hv, hbg, hgl, _⟩ := Kd.R_form HRk.out (by omega)
                    rw [hlk] at hv
                    injection hv with hA _ hc
                    subst hA hc
                    obtain ⟨q, hq⟩ : ∃ q, x[k]? = some q := ⟨_, List.getElem?_eq_getElem (by omega)⟩
                    obtain ⟨hco, hfo⟩ := Kd.R_celln 0 HRk.out (k : Int) q0 q1
                    have hpu := Kd.R_putn HRk.out (k : Int) ((q + 1) / 2)
                    have hrd : rdOf 0 (halfL (x.take k) ++ x.drop k) (k : Int) = q := by
                      unfold rdOf
                      rw [Int.toNat_natCast, List.getD_eq_getElem?_getD, List.getElem?_append_right (by rw [halfL_length, List.length_take]; omega), halfL_length, List.length_take, Nat.min_eq_left (by omega), Nat.sub_self, List.getElem?_drop, Nat.add_zero, hq]; rfl
                    have hset : (halfL (x.take k) ++ x.drop k).set k ((q + 1) / 2) = halfL (x.take (k + 1)) ++ x.drop (k + 1) := by
                      rw [List.set_append_right _ _ (by rw [halfL_length, List.length_take]; omega), halfL_length, List.length_take, Nat.min_eq_left (by omega), Nat.sub_self, List.drop_eq_getElem_cons (show k < x.length by omega), List.set_cons_zero, List.take_add_one, hq]
                      simp [halfL]
                    rw [hrd] at hco
                    rw [Int.toNat_natCast] at hco hfo hpu
                    rw [hset] at hpu
                    have HPU := Aside0.mk hpu
                    have hqm : q ∈ x := List.mem_of_getElem? hq
                    have hq0 := (HF.out.2.2.2.1 q hqm).1
                    have hq1 := HX16.out q hqm
                    have hw1 : IntKind.i64.wrap (q + 1) = q + 1 := by rw [i64_w', w64 (by omega)]
                    have ht : (q + 1).tdiv 2 = (q + 1) / 2 := tdiv_pos (by omega)
                    have hw2 : IntKind.i64.wrap ((q + 1).tdiv 2) = (q + 1) / 2 := by rw [ht, i64_w', w64 (by omega)]
                    have hw3 : IntKind.i64.wrap ((q + 1) / 2) = (q + 1) / 2 := by rw [i64_w', w64 (by omega)]
                    have hw4 : wrap64 ((q + 1) / 2) = (q + 1) / 2 := w64 (by omega)
                    have hne : g ≠ w.heap.size := by omega
                    clear hpu hset hrd hq hqm
                    go_wp2
                    go_roundw
                    case rel => exact ⟨k + 1, by go_num, by omega, ⟨HPU.out⟩, ⟨blk_far HX.out (by simp; omega) _⟩, ⟨HB.out.setCell (by simp; omega) _⟩⟩
                    case measure => simp [intOf]; omega
                  · obtain rfl : k = l0.length := by omega
                    have c4b0 : decide ((l0.length : Int) < (l0.length : Int)) = false := decide_eq_false (by omega)
                    rw [← hxl, List.take_length, List.drop_length, List.append_nil, hxl] at HRk
                    go_wp2
                    go_roundg n'
                    case measure => omega
                    case rel =>
                      refine ⟨halfL x, HRk, ⟨HF2.out, by rw [halfL_length]; exact hxl, by omega, halfL_b _ _ HF.out.2.2.2.1, ?_⟩, HX, HB⟩
                      rw [halfL_many x (fun v hv => (HF.out.2.2.2.1 v hv).1)]
                      exact HF.out.2.2.2.2
              · have hov2 : overM a1 (treeM x) = false := by simpa using hov
                rw [hov2] at HCT
                have HFT := Aside0.mk (show treeM x = r0 from by
                  have h1 := HF.out.1
                  cases gk with
                  | zero => exact h1
                  | succ n =>
                    unfold fitM at h1
                    rw [if_neg hov] at h1
                    exact h1)
                clear hov hov2
                go_wp2_with (go_at_call 42; refine (HCT.out).mono ?_; rintro e w3 ⟨rfl, hd⟩; obtain ⟨⟨m, rfl⟩⟩ := hd)
                go_ret
                have hft := HFT.out
                subst hft
                exact ⟨_, rfl, Kd.R_mono (Kd.R_lower (Kd.R_drewN HR9.out _) (by omega)) (fun _ _ => trivial), pw_below_drewN HB2.out _⟩
    · have hno : roomM l0 a1 = false := decide_eq_false (fun h => hm ⟨h.2.1, h.2.2.1⟩)
      have HNO := Aside0.mk hno
      have HIN2 := HIN.out
      rw [decide_eq_false hm] at HIN2
      have HINT := Aside0.mk HIN2
      clear HIN2 hm HIN hno
      go_enter Try.func12, Try.ntmps12
      go_wp2_with (go_at_call 39; refine (impl_in.calls a1 1 15 _ _ HINT.out).mono ?_; rintro e w' ⟨rfl, hd⟩; obtain ⟨⟨m, rfl⟩⟩ := hd)
      go_ret
      have hr2 : r0 = [] := by rw [← HR1.out]; unfold codeFitM; rw [HNO.out]; rfl
      subst hr2
      exact ⟨_, rfl, Kd.R_nil _ _ _ _ _, by repeat (first | exact Below.refl _ _ | apply Below.drew | apply pw_below_drewN | refine Below.alloc ?_ (Nat.le_refl _) _)⟩
end

/-! ### laws_eqIntS: function 13 -/
def laws_eqIntS.l0 : Nat → List Int → List Int → Int → Option (Bool)
  | 0, _, _, _ => none
  | k + 1, x0, x1, x5 => if x5 < (x0.length : Int) then (if 0 ≤ x5 then (if x5 < (x1.length : Int) then (if (rd x0 x5) = (rd x1 x5) then (laws_eqIntS.l0 k x0 x1 (wrap64 (x5 + 1))) else (some false)) else (none)) else (none)) else (some true)
def laws_eqIntS.f (k : Nat) (l0 : List Int) (l1 : List Int) : Option (Bool) := if (l0.length : Int) = (l1.length : Int) then (laws_eqIntS.l0 k l0 l1 0) else (some false)
theorem laws_eqIntS.mono_l : ∀ k, (∀ y0 y1 y2, LeO (laws_eqIntS.l0 k y0 y1 y2) (laws_eqIntS.l0 (k + 1) y0 y1 y2))
  | 0 => fun _ _ _ r h => by simp [laws_eqIntS.l0] at h
  | k + 1 => by
    have ih0 := laws_eqIntS.mono_l k
    · intro y0 y1 y2
      unfold laws_eqIntS.l0
      repeat' first
      | (with_reducible exact ih0 _ _ _)
      | (with_reducible exact LeO.refl _)
      | (with_reducible exact LeO.none _)
      | (with_reducible refine LeO.ite ?_ ?_)
      | (with_reducible refine LeO.bind ?_ (fun _ => ?_))
      | exact ih0 _ _ _
      | exact LeO.none _
      | refine LeO.ite ?_ ?_
      | refine LeO.bind ?_ (fun _ => ?_)
theorem laws_eqIntS.mono : ∀ a0 a1 k, LeO (laws_eqIntS.f k a0 a1) (laws_eqIntS.f (k + 1) a0 a1) := by
  intro a0 a1 k
  have ih0 := laws_eqIntS.mono_l k
  unfold laws_eqIntS.f
  repeat' first
      | (with_reducible exact ih0 _ _ _)
      | (with_reducible exact LeO.refl _)
      | (with_reducible exact LeO.none _)
      | (with_reducible refine LeO.ite ?_ ?_)
      | (with_reducible refine LeO.bind ?_ (fun _ => ?_))
      | exact ih0 _ _ _
      | exact LeO.none _
      | refine LeO.ite ?_ ?_
      | refine LeO.bind ?_ (fun _ => ?_)
set_option maxHeartbeats 8000000 in
set_option maxRecDepth 100000 in
theorem laws_eqIntS.calls (k : Nat) (A0 : Option Addr) (c0 : Nat) (l0 : List Int) (A1 : Option Addr) (c1 : Nat) (l1 : List Int) (r : Bool) (w : World) (hr0 : Kd.C (Kd.int .i64) w A0 l0.length l0) (hc0 : l0.length ≤ c0) (hr1 : Kd.C (Kd.int .i64) w A1 l1.length l1) (hc1 : l1.length ≤ c1) (h : laws_eqIntS.f k l0 l1 = some r) :
    Calls Try.prog 13 #[.slice A0 l0.length c0, .slice A1 l1.length c1] w fun e w' => e = .returned (.bool r) ∧ Drawn0 w w' := by
  have HR0 := Aside0.mk hr0
  have HC0 := Aside0.mk hc0
  clear hr0 hc0
  have HR1 := Aside0.mk hr1
  have HC1 := Aside0.mk hc1
  clear hr1 hc1
  have H : (if (l0.length : Int) = (l1.length : Int) then (laws_eqIntS.l0 k l0 l1 0) else (some false)) = some r := h
  clear h
  by_cases c3 : (l0.length : Int) = (l1.length : Int)
  · rw [if_pos c3] at H
    have c3b0 : ((l0.length : Int) == (l1.length : Int)) = true := beq_iff_eq.mpr c3
    have c3b1 : ((l0.length : Int) != (l1.length : Int)) = false := bne_eq_false_iff_eq.mpr c3
    have c3b2 : (l0.length == l1.length) = true := by first | simpa using c3 | (simp at c3 ⊢; omega)
    clear c3
    have H' := Aside0.mk H
    clear H
    go_enter Try.func13, Try.ntmps13
    go_wp2
    repeat (go_quiet (fail); try go_wp2)
    go_loopg [5] k (fun kq v5 w' => ∃ (x5_1 : Int), v5 = .int .i64 x5_1 ∧ Aside0 (laws_eqIntS.l0 kq l0 l1 x5_1 = some r) ∧ Aside0 (kq ≤ k) ∧ Drawn0 w w')
    case atStart => exact ⟨(0), (by first | rfl | (simp; done) | (simp [*]; done)), H', ⟨Nat.le_refl _⟩, by repeat (first | exact Drawn0.refl _ | apply Drawn0.step)⟩
    case round =>
      clear H'
      try clear c1
      try clear p2
      try clear c3
      try clear c3b0
      try clear c3b1
      try clear c3b2
      obtain ⟨x5_1, rfl, HA, HK1, ⟨m1, rfl⟩⟩ := hrel
      cases gk with
      | zero => exact absurd HA.out (by simp [laws_eqIntS.l0])
      | succ k1 =>
        have H := HA.out
        clear HA
        simp only [laws_eqIntS.l0] at H
        by_cases c4 : x5_1 < (l0.length : Int)
        · rw [if_pos c4] at H
          have c4b0 : decide (x5_1 < (l0.length : Int)) = true := decide_eq_true c4
          clear c4
          by_cases c5 : 0 ≤ x5_1
          · rw [if_pos c5] at H
            have c5b0 : decide (0 ≤ x5_1) = true := decide_eq_true c5
            clear c5
            by_cases c6 : x5_1 < (l1.length : Int)
            · rw [if_pos c6] at H
              have c6b0 : decide (x5_1 < (l1.length : Int)) = true := decide_eq_true c6
              clear c6
              by_cases c7 : (rd l0 x5_1) = (rd l1 x5_1)
              · rw [if_pos c7] at H
                have c7b0 : ((rd l0 x5_1) == (rd l1 x5_1)) = true := beq_iff_eq.mpr c7
                have c7b1 : ((rd l0 x5_1) != (rd l1 x5_1)) = false := bne_eq_false_iff_eq.mpr c7
                clear c7
                have H' := Aside0.mk H
                clear H
                have p143 : 0 ≤ (x5_1 : Int) := of_decide_eq_true (by first | (with_reducible assumption) | assumption)
                have q143 : x5_1 < (l0.length : Int) := of_decide_eq_true (by first | (with_reducible assumption) | assumption)
                obtain ⟨ad143, e143, hx143_0⟩ := Kd.at_int HR0.out x5_1 p143 q143
                cases e143
                replace p143 := eq_true p143
                replace q143 := eq_true q143
                have p144 : 0 ≤ (x5_1 : Int) := of_decide_eq_true (by first | (with_reducible assumption) | assumption)
                have q144 : x5_1 < (l1.length : Int) := of_decide_eq_true (by first | (with_reducible assumption) | assumption)
                obtain ⟨ad144, e144, hx144_0⟩ := Kd.at_int HR1.out x5_1 p144 q144
                cases e144
                replace p144 := eq_true p144
                replace q144 := eq_true q144
                go_wp2
                repeat (go_quiet (fail); try go_wp2)
                go_roundg k1
                case measure => have := HK1.out; omega
                case rel => exact ⟨(wrap64 (x5_1 + 1)), (by first | rfl | (simp; done) | (simp [*]; done)), H', ⟨by have := HK1.out; omega⟩, by repeat (first | exact Drawn0.refl _ | apply Drawn0.step)⟩
              · rw [if_neg c7] at H
                have c7b0 : ((rd l0 x5_1) == (rd l1 x5_1)) = false := beq_eq_false_iff_ne.mpr c7
                have c7b1 : ((rd l0 x5_1) != (rd l1 x5_1)) = true := bne_iff_ne.mpr c7
                obtain rfl := Option.some.inj H
                have p143 : 0 ≤ (x5_1 : Int) := of_decide_eq_true (by first | (with_reducible assumption) | assumption)
                have q143 : x5_1 < (l0.length : Int) := of_decide_eq_true (by first | (with_reducible assumption) | assumption)
                obtain ⟨ad143, e143, hx143_0⟩ := Kd.at_int HR0.out x5_1 p143 q143
                cases e143
                replace p143 := eq_true p143
                replace q143 := eq_true q143
                have p144 : 0 ≤ (x5_1 : Int) := of_decide_eq_true (by first | (with_reducible assumption) | assumption)
                have q144 : x5_1 < (l1.length : Int) := of_decide_eq_true (by first | (with_reducible assumption) | assumption)
                obtain ⟨ad144, e144, hx144_0⟩ := Kd.at_int HR1.out x5_1 p144 q144
                cases e144
                replace p144 := eq_true p144
                replace q144 := eq_true q144
                go_wp2
                repeat (go_quiet (fail); try go_wp2)
                go_ret
                exact ⟨by first | rfl | (simp; done) | (simp [*]; done), by repeat (first | exact Drawn0.refl _ | apply Drawn0.step)⟩
            · rw [if_neg c6] at H
              exact absurd H (by simp)
          · rw [if_neg c5] at H
            exact absurd H (by simp)
        · rw [if_neg c4] at H
          have c4b0 : decide (x5_1 < (l0.length : Int)) = false := decide_eq_false c4
          clear c4
          obtain rfl := Option.some.inj H
          go_wp2
          repeat (go_quiet (fail); try go_wp2)
          go_ret
          exact ⟨by first | rfl | (simp; done) | (simp [*]; done), by repeat (first | exact Drawn0.refl _ | apply Drawn0.step)⟩
  · rw [if_neg c3] at H
    have c3b0 : ((l0.length : Int) == (l1.length : Int)) = false := beq_eq_false_iff_ne.mpr c3
    have c3b1 : ((l0.length : Int) != (l1.length : Int)) = true := bne_iff_ne.mpr c3
    have c3b2 : (l0.length == l1.length) = false := by first | simpa using c3 | (simp at c3 ⊢; omega)
    obtain rfl := Option.some.inj H
    go_enter Try.func13, Try.ntmps13
    go_wp2
    repeat (go_quiet (fail); try go_wp2)
    go_ret
    exact ⟨by first | rfl | (simp; done) | (simp [*]; done), by repeat (first | exact Drawn0.refl _ | apply Drawn0.step)⟩

/-! ### laws_markIntS: function 14 -/
def laws_markIntS.l0 : Nat → List Int → Int → Int → Option (Int × List Int)
  | 0, _, _, _ => none
  | k + 1, x0, x1, x5 => if x5 < (x0.length : Int) then (if 0 ≤ x5 then (laws_markIntS.l0 k (x0.set (x5 : Int).toNat x1) (wrap64 (x1 + 1)) (wrap64 (x5 + 1))) else (none)) else (some (x1, x0))
def laws_markIntS.f (k : Nat) (l0 : List Int) (a1 : Int) : Option (Int × List Int) := laws_markIntS.l0 k l0 a1 0
theorem laws_markIntS.mono_l : ∀ k, (∀ y0 y1 y2, LeO (laws_markIntS.l0 k y0 y1 y2) (laws_markIntS.l0 (k + 1) y0 y1 y2))
  | 0 => fun _ _ _ r h => by simp [laws_markIntS.l0] at h
  | k + 1 => by
    have ih0 := laws_markIntS.mono_l k
    · intro y0 y1 y2
      unfold laws_markIntS.l0
      repeat' first
      | (with_reducible exact ih0 _ _ _)
      | (with_reducible exact LeO.refl _)
      | (with_reducible exact LeO.none _)
      | (with_reducible refine LeO.ite ?_ ?_)
      | (with_reducible refine LeO.bind ?_ (fun _ => ?_))
      | exact ih0 _ _ _
      | exact LeO.none _
      | refine LeO.ite ?_ ?_
      | refine LeO.bind ?_ (fun _ => ?_)
theorem laws_markIntS.mono : ∀ a0 a1 k, LeO (laws_markIntS.f k a0 a1) (laws_markIntS.f (k + 1) a0 a1) := by
  intro a0 a1 k
  have ih0 := laws_markIntS.mono_l k
  unfold laws_markIntS.f
  repeat' first
      | (with_reducible exact ih0 _ _ _)
      | (with_reducible exact LeO.refl _)
      | (with_reducible exact LeO.none _)
      | (with_reducible refine LeO.ite ?_ ?_)
      | (with_reducible refine LeO.bind ?_ (fun _ => ?_))
      | exact ih0 _ _ _
      | exact LeO.none _
      | refine LeO.ite ?_ ?_
      | refine LeO.bind ?_ (fun _ => ?_)
set_option maxHeartbeats 8000000 in
set_option maxRecDepth 100000 in
theorem laws_markIntS.calls (k : Nat) (P0_ : Nat → Prop) (u9000_ : Value) (l0 : List Int) (a1 : Int) (r1 : Int) (r2 : List Int) (w0 w : World) (hB : Below w0.heap.size w0 w) (ho0 : Kd.R (Kd.int .i64) 3 w w0.heap.size P0_ u9000_ l0) (h : laws_markIntS.f k l0 a1 = some (r1, r2)) :
    Calls Try.prog 14 #[u9000_, .int .i64 a1] w fun e w' => e = .returned (.int .i64 r1) ∧ Kd.R (Kd.int .i64) 3 w' w0.heap.size (fun k_ => (P0_ k_ ∨ w.heap.size ≤ k_)) u9000_ r2 ∧ Below w0.heap.size w0 w' ∧ Kept w w' (fun k_ => P0_ k_) := by
  have HO0 := Aside0.mk (show Kd.R (Kd.int .i64) 3 w w0.heap.size (fun k_ => (P0_ k_ ∨ w.heap.size ≤ k_)) u9000_ l0 from Kd.R_mono ho0 (fun k_ hk => (.inl hk)))
  have HK := Aside0.mk (Kept.refl w (fun k_ => P0_ k_))
  have HW0 := Aside0.mk hB.size
  have HB := Aside0.mk hB
  clear hB
  have H : (laws_markIntS.l0 k l0 a1 0) = some (r1, r2) := h
  clear h
  have H' := Aside0.mk H
  clear H
  go_enter Try.func14, Try.ntmps14
  go_wp2
  go_loopg [1, 5] k (fun kq v1 v5 w' => ∃ (x0_1 : List Int) (x1_1 : Int) (x5_1 : Int), v1 = .int .i64 x1_1 ∧ v5 = .int .i64 x5_1 ∧ Aside0 (laws_markIntS.l0 kq x0_1 x1_1 x5_1 = some (r1, r2)) ∧ Aside0 (kq ≤ k) ∧ Aside0 (Kd.R (Kd.int .i64) 3 w' w0.heap.size (fun k_ => (P0_ k_ ∨ w.heap.size ≤ k_)) u9000_ x0_1) ∧ Aside0 (Kept w w' (fun k_ => P0_ k_)) ∧ Aside0 (Below w0.heap.size w0 w'))
  case atStart => exact ⟨(l0), (a1), (0), (by first | rfl | (simp; done) | (simp [*]; done)), (by first | rfl | (simp; done) | (simp [*]; done)), H', ⟨Nat.le_refl _⟩, ⟨by (with_reducible repeat (first | apply Kd.R_alloc | apply Kd.R_drewN | apply Kd.R_drew)); exact HO0.out⟩, ⟨by repeat (first | (with_reducible first | exact HK.out | apply Kept.alloc | apply Kept.drewN | apply Kept.drew) | exact HK.out)⟩, ⟨by repeat (first | (with_reducible first | exact HB.out | apply below_alloc | apply pw_below_drewN | apply below_drew1) | exact HB.out)⟩⟩
  case round =>
    clear H'
    try clear c1
    try clear p2
    obtain ⟨x0_1, x1_1, x5_1, rfl, rfl, HA, HK1, HO_0, HK, HB⟩ := hrel
    cases gk with
    | zero => exact absurd HA.out (by simp [laws_markIntS.l0])
    | succ k1 =>
      have H := HA.out
      clear HA
      simp only [laws_markIntS.l0] at H
      by_cases c3 : x5_1 < (x0_1.length : Int)
      · rw [if_pos c3] at H
        have c3b0 : decide (x5_1 < (x0_1.length : Int)) = true := decide_eq_true c3
        clear c3
        by_cases c4 : 0 ≤ x5_1
        · rw [if_pos c4] at H
          have c4b0 : decide (0 ≤ x5_1) = true := decide_eq_true c4
          clear c4
          obtain ⟨y145, hy145⟩ : ∃ y_ : List Int, y_ = (x0_1.set (x5_1 : Int).toNat x1_1) := ⟨_, rfl⟩
          replace H : (laws_markIntS.l0 k1 y145 (wrap64 (x1_1 + 1)) (wrap64 (x5_1 + 1))) = some (r1, r2) := by first | (rw [hy145]; with_reducible exact H) | (have H2_ := (Option.bind_some _ _).symm.trans H; rw [hy145]; with_reducible exact H2_) | (have H2_ := (Option.bind_some _ _).symm.trans H; with_reducible exact H2_) | with_reducible exact H | (rw [hy145]; exact H) | exact H
          have Ny145 := Aside0.mk hy145
          clear hy145
          have H' := Aside0.mk H
          clear H
          obtain ⟨Ao6, co6, eo6⟩ := Kd.R_slice HO_0.out
          subst eo6
          have p5 : 0 ≤ (x5_1 : Int) := of_decide_eq_true (by first | (with_reducible assumption) | assumption)
          have q5 : (x5_1 : Int) < ((x0_1.length : Int) : Int) := of_decide_eq_true (by first | (with_reducible assumption) | assumption)
          obtain ⟨go5, co5, eo5, gb5, gl5, cl5, HG5⟩ := Kd.R_form HO_0.out (by omega)
          (first | cases eo5 | (injection eo5 with ea_ en_ ec_; (first | subst ea_ | (injection ea_ with ea_; subst ea_)); subst ec_; clear en_))
          have GB5 := Aside0.mk gb5
          have GG5 := Aside0.mk HG5
          clear gb5 gl5 HG5
          have HMgo5 := Aside0.mk (show (P0_ go5 ∨ w.heap.size ≤ go5) from (HO_0.out.1 _ rfl))
          obtain ⟨hx5_0, hf5_0⟩ := Kd.R_celln 0 HO_0.out (x5_1 : Int) p5 q5
          replace p5 := eq_true p5
          replace q5 := eq_true q5
          have HP7 := Kd.R_putg HO_0.out (x5_1 : Int) x1_1
          go_wp2_with (first | ((with_reducible refine gate_store (t := 3) (p := 15) rfl ?_); refine store_event (t := 3) (p := 15) (v := ?vo_w8) (w1 := (wr.setCell ⟨go5, (x5_1 : Int).toNat, none⟩ (.int .i64 x1_1))) ?hg ?ho ?hn ?hr ?_; (case ho => rfl); (case hg => rfl); (case hn => rfl); (case hr => first | (go_simp; done) | (go_simp; rfl)); intro w8 hw; have hg : wr.grownBy w8 (some go5) := (by rw [hw]; exact HP7.2); have hp_ : Kd.R (Kd.int .i64) 3 w8 w0.heap.size (fun k_ => (P0_ k_ ∨ w.heap.size ≤ k_)) (.slice (some ⟨go5, 0, none⟩) x0_1.length co6) y145 := (by rw [hw, Ny145.out]; exact HP7.1); clear HP7; have n0_ := Aside0.mk (hp_); have n1_ := Aside0.mk ((by rw [hw]; exact below_set (HB.out) GB5.out : Below w0.heap.size w0 w8)); have n2_ := Aside0.mk (Kept.of_grown (S := (fun k_ => P0_ k_)) hg (by repeat (first | (with_reducible first | exact HK.out | apply Kept.alloc | apply Kept.drewN | apply Kept.drew) | exact HK.out)) (fun k_ e_ => (HO_0.out.1 k_ e_))); clear HO_0; clear HB; clear HK; have HO_0 := n0_; have HB := n1_; have HK := n2_; clear n0_ n1_ n2_; clear hg hw hp_))
          go_roundg k1
          case measure => have := HK1.out; omega
          case rel => exact ⟨(y145), (wrap64 (x1_1 + 1)), (wrap64 (x5_1 + 1)), (by first | rfl | (simp; done) | (simp [*]; done)), (by first | rfl | (simp; done) | (simp [*]; done)), H', ⟨by have := HK1.out; omega⟩, ⟨by (with_reducible repeat (first | apply Kd.R_alloc | apply Kd.R_drewN | apply Kd.R_drew)); exact HO_0.out⟩, ⟨by repeat (first | (with_reducible first | exact HK.out | apply Kept.alloc | apply Kept.drewN | apply Kept.drew) | exact HK.out)⟩, ⟨by repeat (first | (with_reducible first | exact HB.out | apply below_alloc | apply pw_below_drewN | apply below_drew1) | exact HB.out)⟩⟩
        · rw [if_neg c4] at H
          exact absurd H (by simp)
      · rw [if_neg c3] at H
        have c3b0 : decide (x5_1 < (x0_1.length : Int)) = false := decide_eq_false c3
        clear c3
        simp only [Option.some.injEq, Prod.mk.injEq] at H
        obtain ⟨rfl, rfl⟩ := H
        obtain ⟨Ao9, co9, eo9⟩ := Kd.R_slice HO_0.out
        subst eo9
        go_wp2
        go_ret
        exact ⟨by first | rfl | (simp [errW_none, errW_some] <;> rfl) | (simp [*, errW_none, errW_some] <;> rfl), by (with_reducible repeat (first | apply Kd.R_alloc | apply Kd.R_drewN | apply Kd.R_drew)); exact HO_0.out, by repeat (first | (with_reducible first | exact HB.out | apply below_alloc | apply pw_below_drewN | apply below_drew1) | exact HB.out), by repeat (first | (with_reducible first | exact HK.out | apply Kept.alloc | apply Kept.drewN | apply Kept.drew) | exact HK.out)⟩

/-! ### laws_heldIntS: function 15 -/
def laws_heldIntS.l0 : Nat → List Int → Int → Int → Option (Int)
  | 0, _, _, _ => none
  | k + 1, x0, x1, x5 => if x5 < (x0.length : Int) then (if 0 ≤ x5 then (if (rd x0 x5) = x1 then (laws_heldIntS.l0 k x0 (wrap64 (x1 + 1)) (wrap64 (x5 + 1))) else (some (-1))) else (none)) else (some x1)
def laws_heldIntS.f (k : Nat) (l0 : List Int) (a1 : Int) : Option (Int) := laws_heldIntS.l0 k l0 a1 0
theorem laws_heldIntS.mono_l : ∀ k, (∀ y0 y1 y2, LeO (laws_heldIntS.l0 k y0 y1 y2) (laws_heldIntS.l0 (k + 1) y0 y1 y2))
  | 0 => fun _ _ _ r h => by simp [laws_heldIntS.l0] at h
  | k + 1 => by
    have ih0 := laws_heldIntS.mono_l k
    · intro y0 y1 y2
      unfold laws_heldIntS.l0
      repeat' first
      | (with_reducible exact ih0 _ _ _)
      | (with_reducible exact LeO.refl _)
      | (with_reducible exact LeO.none _)
      | (with_reducible refine LeO.ite ?_ ?_)
      | (with_reducible refine LeO.bind ?_ (fun _ => ?_))
      | exact ih0 _ _ _
      | exact LeO.none _
      | refine LeO.ite ?_ ?_
      | refine LeO.bind ?_ (fun _ => ?_)
theorem laws_heldIntS.mono : ∀ a0 a1 k, LeO (laws_heldIntS.f k a0 a1) (laws_heldIntS.f (k + 1) a0 a1) := by
  intro a0 a1 k
  have ih0 := laws_heldIntS.mono_l k
  unfold laws_heldIntS.f
  repeat' first
      | (with_reducible exact ih0 _ _ _)
      | (with_reducible exact LeO.refl _)
      | (with_reducible exact LeO.none _)
      | (with_reducible refine LeO.ite ?_ ?_)
      | (with_reducible refine LeO.bind ?_ (fun _ => ?_))
      | exact ih0 _ _ _
      | exact LeO.none _
      | refine LeO.ite ?_ ?_
      | refine LeO.bind ?_ (fun _ => ?_)
set_option maxHeartbeats 8000000 in
set_option maxRecDepth 100000 in
theorem laws_heldIntS.calls (k : Nat) (A0 : Option Addr) (c0 : Nat) (l0 : List Int) (a1 : Int) (r : Int) (w : World) (hr0 : Kd.C (Kd.int .i64) w A0 l0.length l0) (hc0 : l0.length ≤ c0) (h : laws_heldIntS.f k l0 a1 = some r) :
    Calls Try.prog 15 #[.slice A0 l0.length c0, .int .i64 a1] w fun e w' => e = .returned (.int .i64 r) ∧ Drawn0 w w' := by
  have HR0 := Aside0.mk hr0
  have HC0 := Aside0.mk hc0
  clear hr0 hc0
  have H : (laws_heldIntS.l0 k l0 a1 0) = some r := h
  clear h
  have H' := Aside0.mk H
  clear H
  go_enter Try.func15, Try.ntmps15
  go_wp2
  go_loopg [1, 5] k (fun kq v1 v5 w' => ∃ (x1_1 : Int) (x5_1 : Int), v1 = .int .i64 x1_1 ∧ v5 = .int .i64 x5_1 ∧ Aside0 (laws_heldIntS.l0 kq l0 x1_1 x5_1 = some r) ∧ Aside0 (kq ≤ k) ∧ Drawn0 w w')
  case atStart => exact ⟨(a1), (0), (by first | rfl | (simp; done) | (simp [*]; done)), (by first | rfl | (simp; done) | (simp [*]; done)), H', ⟨Nat.le_refl _⟩, by repeat (first | exact Drawn0.refl _ | apply Drawn0.step)⟩
  case round =>
    clear H'
    try clear c1
    try clear p2
    obtain ⟨x1_1, x5_1, rfl, rfl, HA, HK1, ⟨m1, rfl⟩⟩ := hrel
    cases gk with
    | zero => exact absurd HA.out (by simp [laws_heldIntS.l0])
    | succ k1 =>
      have H := HA.out
      clear HA
      simp only [laws_heldIntS.l0] at H
      by_cases c3 : x5_1 < (l0.length : Int)
      · rw [if_pos c3] at H
        have c3b0 : decide (x5_1 < (l0.length : Int)) = true := decide_eq_true c3
        clear c3
        by_cases c4 : 0 ≤ x5_1
        · rw [if_pos c4] at H
          have c4b0 : decide (0 ≤ x5_1) = true := decide_eq_true c4
          clear c4
          by_cases c5 : (rd l0 x5_1) = x1_1
          · rw [if_pos c5] at H
            have c5b0 : ((rd l0 x5_1) == x1_1) = true := beq_iff_eq.mpr c5
            have c5b1 : ((rd l0 x5_1) != x1_1) = false := bne_eq_false_iff_eq.mpr c5
            clear c5
            have H' := Aside0.mk H
            clear H
            have p146 : 0 ≤ (x5_1 : Int) := of_decide_eq_true (by first | (with_reducible assumption) | assumption)
            have q146 : x5_1 < (l0.length : Int) := of_decide_eq_true (by first | (with_reducible assumption) | assumption)
            obtain ⟨ad146, e146, hx146_0⟩ := Kd.at_int HR0.out x5_1 p146 q146
            cases e146
            replace p146 := eq_true p146
            replace q146 := eq_true q146
            go_wp2
            go_roundg k1
            case measure => have := HK1.out; omega
            case rel => exact ⟨(wrap64 (x1_1 + 1)), (wrap64 (x5_1 + 1)), (by first | rfl | (simp; done) | (simp [*]; done)), (by first | rfl | (simp; done) | (simp [*]; done)), H', ⟨by have := HK1.out; omega⟩, by repeat (first | exact Drawn0.refl _ | apply Drawn0.step)⟩
          · rw [if_neg c5] at H
            have c5b0 : ((rd l0 x5_1) == x1_1) = false := beq_eq_false_iff_ne.mpr c5
            have c5b1 : ((rd l0 x5_1) != x1_1) = true := bne_iff_ne.mpr c5
            obtain rfl := Option.some.inj H
            have p146 : 0 ≤ (x5_1 : Int) := of_decide_eq_true (by first | (with_reducible assumption) | assumption)
            have q146 : x5_1 < (l0.length : Int) := of_decide_eq_true (by first | (with_reducible assumption) | assumption)
            obtain ⟨ad146, e146, hx146_0⟩ := Kd.at_int HR0.out x5_1 p146 q146
            cases e146
            replace p146 := eq_true p146
            replace q146 := eq_true q146
            go_wp2
            go_ret
            exact ⟨by first | rfl | (simp; done) | (simp [*]; done), by repeat (first | exact Drawn0.refl _ | apply Drawn0.step)⟩
        · rw [if_neg c4] at H
          exact absurd H (by simp)
      · rw [if_neg c3] at H
        have c3b0 : decide (x5_1 < (l0.length : Int)) = false := decide_eq_false c3
        clear c3
        obtain rfl := Option.some.inj H
        go_wp2
        go_ret
        exact ⟨by first | rfl | (simp; done) | (simp [*]; done), by repeat (first | exact Drawn0.refl _ | apply Drawn0.step)⟩

end Go.Proofs.Ytgajagocenffeaa.PFnExactCodeFit
