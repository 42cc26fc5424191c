/- What the functions that the law comes to compute, as plain functions, and that the machine's calls come to just that: written by a program for this claim, and turned where Lean did not take it. No condition. -/
import Derived.Test.YtfladcffgblfdaaHFnRunGetx0
import Derived.Test.YtfladcffgblfdaaHFnRunGetx2
import Derived.Test.YtfladcffgblfdaaHFnRunGetx3
import Derived.Test.YtfladcffgblfdaaHFnRunGetx5
namespace Go.Proofs.Ytfladcffgblfdaa.PFnRunGet
open Go.RowKit Go.Proofs.YtfladcffgblfdaaW.PrintWords Go.Proofs.YtfladcffgblfdaaW.PrintLast Go.Proofs.YtfladcffgblfdaaW.PrintMore
attribute [local go_sem] max2_int min2_int max_two min_two max_three min_three max_four min_four   -- for this text's walks alone
set_option linter.unusedVariables false
set_option linter.unusedSimpArgs false

/-! ### spec_DrawRunGet: function 52 -/
def spec_DrawRunGet.f (k : Nat) (l0 : List Int) : Option (ByteArray × Int × Int × Int) := (spec_l1Open.f l0).bind fun bt208 => ((spec_DrawRunPut.f k l0).bind fun bt211 => ((spec_RunPut.f k bt211.1 bt211.2).bind fun t215 => ((spec_l1Rd_pick.f k bt208.1 bt208.2 6).bind fun bt216 => (if bt216.1 = 0 then ((spec_l14Bend.f k bt208.1 bt216.2 t215).bind fun bt218 => ((some (([0, 0, 0, 0, 0, (-1), wrap64 ((bt218.1.size : Int) + 1)] : List Int) : List Int)).bind fun y220 => ((spec_l1Rd_pick.f k bt208.1 bt218.2 7).bind fun bt223 => (if 0 ≤ bt223.1 then (if bt223.1 < (y220.length : Int) then (some (bt218.1, rd y220 bt223.1, bt211.2, (bt211.1.length : Int))) else (none)) else (none))))) else (if bt216.1 = 1 then ((spec_l1Rd_pick.f k bt208.1 bt216.2 3).bind fun bt226 => ((some (([0, 0, 0, 0, 0, (-1), wrap64 ((t215.size : Int) + 1)] : List Int) : List Int)).bind fun y228 => ((spec_l1Rd_pick.f k bt208.1 bt226.2 7).bind fun bt231 => (if 0 ≤ bt231.1 then (if bt231.1 < (y228.length : Int) then (some (t215, rd y228 bt231.1, bt211.2, wrap64 ((wrap64 ((bt211.1.length : Int) + bt226.1)) - 1))) else (none)) else (none))))) else (if bt216.1 = 2 then (if 1 + t215.size ≤ 9223372036854775807 then (some ((⟨#[120]⟩ : ByteArray) ++ t215, 1, bt211.2, (bt211.1.length : Int))) else (none)) else (if bt216.1 = 3 then ((spec_l1Rd_pick.f k bt208.1 bt216.2 (wrap64 ((t215.size : Int) + 1))).bind fun bt234 => (if 0 ≤ bt234.1 then (if bt234.1 ≤ (t215.size : Int) then ((some (([0, 0, 0, 0, 0, (-1), wrap64 (((t215.extract 0 (bt234.1 : Int).toNat).size : Int) + 1)] : List Int) : List Int)).bind fun y236 => ((spec_l1Rd_pick.f k bt208.1 bt234.2 7).bind fun bt239 => (if 0 ≤ bt239.1 then (if bt239.1 < (y236.length : Int) then (some (t215.extract 0 (bt234.1 : Int).toNat, rd y236 bt239.1, bt211.2, (bt211.1.length : Int))) else (none)) else (none)))) else (none)) else (none))) else ((some (([0, 0, 0, 0, 0, (-1), wrap64 ((t215.size : Int) + 1)] : List Int) : List Int)).bind fun y242 => ((spec_l1Rd_pick.f k bt208.1 bt216.2 7).bind fun bt245 => (if 0 ≤ bt245.1 then (if bt245.1 < (y242.length : Int) then (some (t215, rd y242 bt245.1, bt211.2, (bt211.1.length : Int))) else (none)) else (none)))))))))))
theorem spec_DrawRunGet.mono : ∀ a0 k, LeO (spec_DrawRunGet.f k a0) (spec_DrawRunGet.f (k + 1) a0) := by
  intro a0 k
  unfold spec_DrawRunGet.f
  repeat' first
      | (with_reducible exact spec_DrawRunPut.mono _ _)
      | (with_reducible exact spec_RunPut.mono _ _ _)
      | (with_reducible exact spec_l14Bend.mono _ _ _ _)
      | (with_reducible exact spec_l1Rd_pick.mono _ _ _ _)
      | (with_reducible exact LeO.refl _)
      | (with_reducible exact LeO.none _)
      | (with_reducible refine LeO.ite ?_ ?_)
      | (with_reducible refine LeO.bind ?_ (fun _ => ?_))
      | exact spec_DrawRunPut.mono _ _
      | exact spec_RunPut.mono _ _ _
      | exact spec_l14Bend.mono _ _ _ _
      | exact spec_l1Rd_pick.mono _ _ _ _
      | exact LeO.none _
      | refine LeO.ite ?_ ?_
      | refine LeO.bind ?_ (fun _ => ?_)
def spec_DrawRunGet.T15 : Bool × List (List Nat × List Nat) := (true, [([], []), ([], []), ([1], [1]), ([2], [2]), ([3], [3]), ([], []), ([5], [5]), ([4, 6], [4, 6]), ([7], [7]), ([], []), ([], []), ([0, 6, 0], [0]), ([8, 11, 0, 1, 2, 3, 4, 5, 6, 7, 8, 11], [8]), ([9, 12, 0, 1, 2, 3, 4, 5, 6, 7, 8, 9, 11, 12], [9]), ([10, 13, 0, 1, 2, 3, 4, 5, 6, 7, 8, 9, 10, 11, 12, 13], [10])])
def spec_DrawRunGet.B15 : List Nat := [0, 0, 2, 6, 14, 0, 32, 126, 254, 0, 0, 97, 2559, 7167, 16383]
theorem spec_DrawRunGet.tab15 : rtab .any (opsOf Try.f52 15) = spec_DrawRunGet.T15 := by kernel_rfl
theorem spec_DrawRunGet.bits15 : waitsOk spec_DrawRunGet.T15.2 spec_DrawRunGet.B15 = true := by kernel_rfl
set_option maxHeartbeats 8000000 in
set_option maxRecDepth 100000 in
theorem spec_DrawRunGet.calls (k : Nat) (A0 : Option Addr) (c0 : Nat) (l0 : List Int) (r1 : ByteArray) (r2 : Int) (r3 : Int) (r4 : Int) (w : World) (hr0 : Kd.C (Kd.int .u8) w A0 l0.length l0) (hc0 : l0.length ≤ c0) (h : spec_DrawRunGet.f k l0 = some (r1, r2, r3, r4)) :
    Calls Try.prog 52 #[.slice A0 l0.length c0] w fun e w' => e = .returned (.tuple #[.string r1, .int .i64 r2, .int .i64 r3, .int .i64 r4]) ∧ Below w.heap.size w w' := by
  have HR0 := Aside0.mk hr0
  have HC0 := Aside0.mk hc0
  clear hr0 hc0
  have HB := Aside0.mk (Below.refl w.heap.size w)
  have H : ((spec_l1Open.f l0).bind fun bt208 => ((spec_DrawRunPut.f k l0).bind fun bt211 => ((spec_RunPut.f k bt211.1 bt211.2).bind fun t215 => ((spec_l1Rd_pick.f k bt208.1 bt208.2 6).bind fun bt216 => (if bt216.1 = 0 then ((spec_l14Bend.f k bt208.1 bt216.2 t215).bind fun bt218 => ((some (([0, 0, 0, 0, 0, (-1), wrap64 ((bt218.1.size : Int) + 1)] : List Int) : List Int)).bind fun y220 => ((spec_l1Rd_pick.f k bt208.1 bt218.2 7).bind fun bt223 => (if 0 ≤ bt223.1 then (if bt223.1 < (y220.length : Int) then (some (bt218.1, rd y220 bt223.1, bt211.2, (bt211.1.length : Int))) else (none)) else (none))))) else (if bt216.1 = 1 then ((spec_l1Rd_pick.f k bt208.1 bt216.2 3).bind fun bt226 => ((some (([0, 0, 0, 0, 0, (-1), wrap64 ((t215.size : Int) + 1)] : List Int) : List Int)).bind fun y228 => ((spec_l1Rd_pick.f k bt208.1 bt226.2 7).bind fun bt231 => (if 0 ≤ bt231.1 then (if bt231.1 < (y228.length : Int) then (some (t215, rd y228 bt231.1, bt211.2, wrap64 ((wrap64 ((bt211.1.length : Int) + bt226.1)) - 1))) else (none)) else (none))))) else (if bt216.1 = 2 then (if 1 + t215.size ≤ 9223372036854775807 then (some ((⟨#[120]⟩ : ByteArray) ++ t215, 1, bt211.2, (bt211.1.length : Int))) else (none)) else (if bt216.1 = 3 then ((spec_l1Rd_pick.f k bt208.1 bt216.2 (wrap64 ((t215.size : Int) + 1))).bind fun bt234 => (if 0 ≤ bt234.1 then (if bt234.1 ≤ (t215.size : Int) then ((some (([0, 0, 0, 0, 0, (-1), wrap64 (((t215.extract 0 (bt234.1 : Int).toNat).size : Int) + 1)] : List Int) : List Int)).bind fun y236 => ((spec_l1Rd_pick.f k bt208.1 bt234.2 7).bind fun bt239 => (if 0 ≤ bt239.1 then (if bt239.1 < (y236.length : Int) then (some (t215.extract 0 (bt234.1 : Int).toNat, rd y236 bt239.1, bt211.2, (bt211.1.length : Int))) else (none)) else (none)))) else (none)) else (none))) else ((some (([0, 0, 0, 0, 0, (-1), wrap64 ((t215.size : Int) + 1)] : List Int) : List Int)).bind fun y242 => ((spec_l1Rd_pick.f k bt208.1 bt216.2 7).bind fun bt245 => (if 0 ≤ bt245.1 then (if bt245.1 < (y242.length : Int) then (some (t215, rd y242 bt245.1, bt211.2, (bt211.1.length : Int))) else (none)) else (none)))))))))))) = some (r1, r2, r3, r4) := h
  clear h
  replace H := Option.bind_eq_some_iff.mp H
  obtain ⟨⟨t208, t209⟩, A20, H⟩ := H
  replace H : ((spec_DrawRunPut.f k l0).bind fun bt211 => ((spec_RunPut.f k bt211.1 bt211.2).bind fun t215 => ((spec_l1Rd_pick.f k t208 t209 6).bind fun bt216 => (if bt216.1 = 0 then ((spec_l14Bend.f k t208 bt216.2 t215).bind fun bt218 => ((some (([0, 0, 0, 0, 0, (-1), wrap64 ((bt218.1.size : Int) + 1)] : List Int) : List Int)).bind fun y220 => ((spec_l1Rd_pick.f k t208 bt218.2 7).bind fun bt223 => (if 0 ≤ bt223.1 then (if bt223.1 < (y220.length : Int) then (some (bt218.1, rd y220 bt223.1, bt211.2, (bt211.1.length : Int))) else (none)) else (none))))) else (if bt216.1 = 1 then ((spec_l1Rd_pick.f k t208 bt216.2 3).bind fun bt226 => ((some (([0, 0, 0, 0, 0, (-1), wrap64 ((t215.size : Int) + 1)] : List Int) : List Int)).bind fun y228 => ((spec_l1Rd_pick.f k t208 bt226.2 7).bind fun bt231 => (if 0 ≤ bt231.1 then (if bt231.1 < (y228.length : Int) then (some (t215, rd y228 bt231.1, bt211.2, wrap64 ((wrap64 ((bt211.1.length : Int) + bt226.1)) - 1))) else (none)) else (none))))) else (if bt216.1 = 2 then (if 1 + t215.size ≤ 9223372036854775807 then (some ((⟨#[120]⟩ : ByteArray) ++ t215, 1, bt211.2, (bt211.1.length : Int))) else (none)) else (if bt216.1 = 3 then ((spec_l1Rd_pick.f k t208 bt216.2 (wrap64 ((t215.size : Int) + 1))).bind fun bt234 => (if 0 ≤ bt234.1 then (if bt234.1 ≤ (t215.size : Int) then ((some (([0, 0, 0, 0, 0, (-1), wrap64 (((t215.extract 0 (bt234.1 : Int).toNat).size : Int) + 1)] : List Int) : List Int)).bind fun y236 => ((spec_l1Rd_pick.f k t208 bt234.2 7).bind fun bt239 => (if 0 ≤ bt239.1 then (if bt239.1 < (y236.length : Int) then (some (t215.extract 0 (bt234.1 : Int).toNat, rd y236 bt239.1, bt211.2, (bt211.1.length : Int))) else (none)) else (none)))) else (none)) else (none))) else ((some (([0, 0, 0, 0, 0, (-1), wrap64 ((t215.size : Int) + 1)] : List Int) : List Int)).bind fun y242 => ((spec_l1Rd_pick.f k t208 bt216.2 7).bind fun bt245 => (if 0 ≤ bt245.1 then (if bt245.1 < (y242.length : Int) then (some (t215, rd y242 bt245.1, bt211.2, (bt211.1.length : Int))) else (none)) else (none))))))))))) = some (r1, r2, r3, r4) := H
  have A2 := Aside0.mk A20
  clear A20
  replace H := Option.bind_eq_some_iff.mp H
  obtain ⟨⟨t211, t212⟩, A30, H⟩ := H
  replace H : ((spec_RunPut.f k t211 t212).bind fun t215 => ((spec_l1Rd_pick.f k t208 t209 6).bind fun bt216 => (if bt216.1 = 0 then ((spec_l14Bend.f k t208 bt216.2 t215).bind fun bt218 => ((some (([0, 0, 0, 0, 0, (-1), wrap64 ((bt218.1.size : Int) + 1)] : List Int) : List Int)).bind fun y220 => ((spec_l1Rd_pick.f k t208 bt218.2 7).bind fun bt223 => (if 0 ≤ bt223.1 then (if bt223.1 < (y220.length : Int) then (some (bt218.1, rd y220 bt223.1, t212, (t211.length : Int))) else (none)) else (none))))) else (if bt216.1 = 1 then ((spec_l1Rd_pick.f k t208 bt216.2 3).bind fun bt226 => ((some (([0, 0, 0, 0, 0, (-1), wrap64 ((t215.size : Int) + 1)] : List Int) : List Int)).bind fun y228 => ((spec_l1Rd_pick.f k t208 bt226.2 7).bind fun bt231 => (if 0 ≤ bt231.1 then (if bt231.1 < (y228.length : Int) then (some (t215, rd y228 bt231.1, t212, wrap64 ((wrap64 ((t211.length : Int) + bt226.1)) - 1))) else (none)) else (none))))) else (if bt216.1 = 2 then (if 1 + t215.size ≤ 9223372036854775807 then (some ((⟨#[120]⟩ : ByteArray) ++ t215, 1, t212, (t211.length : Int))) else (none)) else (if bt216.1 = 3 then ((spec_l1Rd_pick.f k t208 bt216.2 (wrap64 ((t215.size : Int) + 1))).bind fun bt234 => (if 0 ≤ bt234.1 then (if bt234.1 ≤ (t215.size : Int) then ((some (([0, 0, 0, 0, 0, (-1), wrap64 (((t215.extract 0 (bt234.1 : Int).toNat).size : Int) + 1)] : List Int) : List Int)).bind fun y236 => ((spec_l1Rd_pick.f k t208 bt234.2 7).bind fun bt239 => (if 0 ≤ bt239.1 then (if bt239.1 < (y236.length : Int) then (some (t215.extract 0 (bt234.1 : Int).toNat, rd y236 bt239.1, t212, (t211.length : Int))) else (none)) else (none)))) else (none)) else (none))) else ((some (([0, 0, 0, 0, 0, (-1), wrap64 ((t215.size : Int) + 1)] : List Int) : List Int)).bind fun y242 => ((spec_l1Rd_pick.f k t208 bt216.2 7).bind fun bt245 => (if 0 ≤ bt245.1 then (if bt245.1 < (y242.length : Int) then (some (t215, rd y242 bt245.1, t212, (t211.length : Int))) else (none)) else (none)))))))))) = some (r1, r2, r3, r4) := H
  have A3 := Aside0.mk A30
  clear A30
  replace H := Option.bind_eq_some_iff.mp H
  obtain ⟨t215, A40, H⟩ := H
  replace H : ((spec_l1Rd_pick.f k t208 t209 6).bind fun bt216 => (if bt216.1 = 0 then ((spec_l14Bend.f k t208 bt216.2 t215).bind fun bt218 => ((some (([0, 0, 0, 0, 0, (-1), wrap64 ((bt218.1.size : Int) + 1)] : List Int) : List Int)).bind fun y220 => ((spec_l1Rd_pick.f k t208 bt218.2 7).bind fun bt223 => (if 0 ≤ bt223.1 then (if bt223.1 < (y220.length : Int) then (some (bt218.1, rd y220 bt223.1, t212, (t211.length : Int))) else (none)) else (none))))) else (if bt216.1 = 1 then ((spec_l1Rd_pick.f k t208 bt216.2 3).bind fun bt226 => ((some (([0, 0, 0, 0, 0, (-1), wrap64 ((t215.size : Int) + 1)] : List Int) : List Int)).bind fun y228 => ((spec_l1Rd_pick.f k t208 bt226.2 7).bind fun bt231 => (if 0 ≤ bt231.1 then (if bt231.1 < (y228.length : Int) then (some (t215, rd y228 bt231.1, t212, wrap64 ((wrap64 ((t211.length : Int) + bt226.1)) - 1))) else (none)) else (none))))) else (if bt216.1 = 2 then (if 1 + t215.size ≤ 9223372036854775807 then (some ((⟨#[120]⟩ : ByteArray) ++ t215, 1, t212, (t211.length : Int))) else (none)) else (if bt216.1 = 3 then ((spec_l1Rd_pick.f k t208 bt216.2 (wrap64 ((t215.size : Int) + 1))).bind fun bt234 => (if 0 ≤ bt234.1 then (if bt234.1 ≤ (t215.size : Int) then ((some (([0, 0, 0, 0, 0, (-1), wrap64 (((t215.extract 0 (bt234.1 : Int).toNat).size : Int) + 1)] : List Int) : List Int)).bind fun y236 => ((spec_l1Rd_pick.f k t208 bt234.2 7).bind fun bt239 => (if 0 ≤ bt239.1 then (if bt239.1 < (y236.length : Int) then (some (t215.extract 0 (bt234.1 : Int).toNat, rd y236 bt239.1, t212, (t211.length : Int))) else (none)) else (none)))) else (none)) else (none))) else ((some (([0, 0, 0, 0, 0, (-1), wrap64 ((t215.size : Int) + 1)] : List Int) : List Int)).bind fun y242 => ((spec_l1Rd_pick.f k t208 bt216.2 7).bind fun bt245 => (if 0 ≤ bt245.1 then (if bt245.1 < (y242.length : Int) then (some (t215, rd y242 bt245.1, t212, (t211.length : Int))) else (none)) else (none))))))))) = some (r1, r2, r3, r4) := H
  have A4 := Aside0.mk A40
  clear A40
  replace H := Option.bind_eq_some_iff.mp H
  obtain ⟨⟨t216, t217⟩, A50, H⟩ := H
  replace H : (if t216 = 0 then ((spec_l14Bend.f k t208 t217 t215).bind fun bt218 => ((some (([0, 0, 0, 0, 0, (-1), wrap64 ((bt218.1.size : Int) + 1)] : List Int) : List Int)).bind fun y220 => ((spec_l1Rd_pick.f k t208 bt218.2 7).bind fun bt223 => (if 0 ≤ bt223.1 then (if bt223.1 < (y220.length : Int) then (some (bt218.1, rd y220 bt223.1, t212, (t211.length : Int))) else (none)) else (none))))) else (if t216 = 1 then ((spec_l1Rd_pick.f k t208 t217 3).bind fun bt226 => ((some (([0, 0, 0, 0, 0, (-1), wrap64 ((t215.size : Int) + 1)] : List Int) : List Int)).bind fun y228 => ((spec_l1Rd_pick.f k t208 bt226.2 7).bind fun bt231 => (if 0 ≤ bt231.1 then (if bt231.1 < (y228.length : Int) then (some (t215, rd y228 bt231.1, t212, wrap64 ((wrap64 ((t211.length : Int) + bt226.1)) - 1))) else (none)) else (none))))) else (if t216 = 2 then (if 1 + t215.size ≤ 9223372036854775807 then (some ((⟨#[120]⟩ : ByteArray) ++ t215, 1, t212, (t211.length : Int))) else (none)) else (if t216 = 3 then ((spec_l1Rd_pick.f k t208 t217 (wrap64 ((t215.size : Int) + 1))).bind fun bt234 => (if 0 ≤ bt234.1 then (if bt234.1 ≤ (t215.size : Int) then ((some (([0, 0, 0, 0, 0, (-1), wrap64 (((t215.extract 0 (bt234.1 : Int).toNat).size : Int) + 1)] : List Int) : List Int)).bind fun y236 => ((spec_l1Rd_pick.f k t208 bt234.2 7).bind fun bt239 => (if 0 ≤ bt239.1 then (if bt239.1 < (y236.length : Int) then (some (t215.extract 0 (bt234.1 : Int).toNat, rd y236 bt239.1, t212, (t211.length : Int))) else (none)) else (none)))) else (none)) else (none))) else ((some (([0, 0, 0, 0, 0, (-1), wrap64 ((t215.size : Int) + 1)] : List Int) : List Int)).bind fun y242 => ((spec_l1Rd_pick.f k t208 t217 7).bind fun bt245 => (if 0 ≤ bt245.1 then (if bt245.1 < (y242.length : Int) then (some (t215, rd y242 bt245.1, t212, (t211.length : Int))) else (none)) else (none)))))))) = some (r1, r2, r3, r4) := H
  have A5 := Aside0.mk A50
  clear A50
  by_cases c6 : t216 = 0
  · rw [if_pos c6] at H
    have c6b0 : (t216 == 0) = true := beq_iff_eq.mpr c6
    have c6b1 : (t216 != 0) = false := bne_eq_false_iff_eq.mpr c6
    clear c6
    replace H := Option.bind_eq_some_iff.mp H
    obtain ⟨⟨t218, t219⟩, A70, H⟩ := H
    replace H : ((some (([0, 0, 0, 0, 0, (-1), wrap64 ((t218.size : Int) + 1)] : List Int) : List Int)).bind fun y220 => ((spec_l1Rd_pick.f k t208 t219 7).bind fun bt223 => (if 0 ≤ bt223.1 then (if bt223.1 < (y220.length : Int) then (some (t218, rd y220 bt223.1, t212, (t211.length : Int))) else (none)) else (none)))) = some (r1, r2, r3, r4) := H
    have A7 := Aside0.mk A70
    clear A70
    obtain ⟨y220, hy220⟩ : ∃ y_ : List Int, y_ = (([0, 0, 0, 0, 0, (-1), wrap64 ((t218.size : Int) + 1)] : List Int)) := ⟨_, rfl⟩
    replace H : ((spec_l1Rd_pick.f k t208 t219 7).bind fun bt223 => (if 0 ≤ bt223.1 then (if bt223.1 < (y220.length : Int) then (some (t218, rd y220 bt223.1, t212, (t211.length : Int))) else (none)) else (none))) = some (r1, r2, r3, r4) := by first | (rw [hy220]; with_reducible exact H) | (have H2_ := (Option.bind_some _ _).symm.trans H; rw [hy220]; with_reducible exact H2_) | (have H2_ := (Option.bind_some _ _).symm.trans H; with_reducible exact H2_) | with_reducible exact H | (rw [hy220]; exact H) | exact H
    have Ny220 := Aside0.mk hy220
    clear hy220
    replace H := Option.bind_eq_some_iff.mp H
    obtain ⟨⟨t223, t224⟩, A80, H⟩ := H
    replace H : (if 0 ≤ t223 then (if t223 < (y220.length : Int) then (some (t218, rd y220 t223, t212, (t211.length : Int))) else (none)) else (none)) = some (r1, r2, r3, r4) := H
    have A8 := Aside0.mk A80
    clear A80
    by_cases c9 : 0 ≤ t223
    · rw [if_pos c9] at H
      have c9b0 : decide (0 ≤ t223) = true := decide_eq_true c9
      clear c9
      by_cases c10 : t223 < (y220.length : Int)
      · rw [if_pos c10] at H
        have c10b0 : decide (t223 < (y220.length : Int)) = true := decide_eq_true c10
        clear c10
        simp only [Option.some.injEq, Prod.mk.injEq] at H
        obtain ⟨rfl, rfl, rfl, rfl⟩ := H
        go_enter Try.func52, Try.ntmps52
        try go_wp2_with (first | ((with_reducible refine gate_callee (f := 68) rfl ?_); refine goesL_ (some 12) rfl rfl Try.func68 (by kernel_rfl) rfl #[.slice A0 l0.length c0] rfl (by (try simp only [List.map_toArray, List.map_cons, List.map_nil]); first | done | rfl | (simp only [List.length_drop, List.length_take]; rfl)) ?_; (with_reducible refine (spec_l1Open.calls _ _ l0 t208 t209 w _ ?side1 ?side2 ?side3 A2.out).mono ?_); (case side1 => repeat (first | (with_reducible first | exact HB.out | apply below_alloc | apply pw_below_drewN | apply below_drew1) | exact HB.out)); (case side2 => exact HR0.out); (case side3 => exact HC0.out); rintro e w11 ⟨g210, rfl, hi, hb, hb2⟩; refine ⟨_, rfl, ?_⟩; have n0_ := Aside0.mk (hb); have n1_ := Aside0.mk (hi); clear HB; have HB := n0_; have HI210 := n1_; clear n0_ n1_; (try clear hb); (try clear hb2); (try clear hk); (try clear hi)) | ((with_reducible refine gate_callee (f := 47) rfl ?_); refine goesL_ (some 15) rfl rfl Try.func47 (by kernel_rfl) rfl #[.slice A0 l0.length c0] rfl (by (try simp only [List.map_toArray, List.map_cons, List.map_nil]); first | done | rfl | (simp only [List.length_drop, List.length_take]; rfl)) ?_; (with_reducible refine (spec_DrawRunPut.calls k _ _ l0 t211 t212 _ ?side1 ?side2 A3.out).mono ?_); (case side1 => repeat (first | exact (Kd.C_below HR0.out HB.out) | (with_reducible refine Kd.C_alloc ?_ _) | (with_reducible refine Kd.C_drewN ?_ _) | (with_reducible refine Kd.C_drew ?_))); (case side2 => exact HC0.out); rintro e w12 ⟨v213, rfl, ho0, hb⟩; refine ⟨_, rfl, ?_⟩; have n0_ := Aside0.mk (Kd.R_lower ho0 (below_size (by repeat (first | (with_reducible first | exact HB.out | apply below_alloc | apply pw_below_drewN | apply below_drew1 | refine below_set ?_ (IsS93.ge HI210.out)) | exact HB.out)))); have n1_ := Aside0.mk (IsS93.below (by repeat (first | (with_reducible first | exact HI210.out | apply IsS93.alloc | apply IsS93.drewN | apply IsS93.drew | apply IsS93.set_1) | exact HI210.out)) hb); have n2_ := Aside0.mk (below_step (by repeat (first | (with_reducible first | exact HB.out | apply below_alloc | apply pw_below_drewN | apply below_drew1 | refine below_set ?_ (IsS93.ge HI210.out)) | exact HB.out)) hb); clear HI210; clear HB; have HO214 := n0_; have HI210 := n1_; have HB := n2_; clear n0_ n1_ n2_; (try clear hb); (try clear hb2); (try clear hk); (try clear hi); (try clear ho0); obtain ⟨Ao13, co13, eo13⟩ := Kd.R_slice HO214.out; subst eo13) | ((with_reducible refine gate_callee (f := 49) rfl ?_); refine goesL_ (some 20) rfl rfl Try.func49 (by kernel_rfl) rfl #[.slice Ao13 t211.length co13, .int .i64 t212] rfl (by (try simp only [List.map_toArray, List.map_cons, List.map_nil]); first | done | rfl | (simp only [List.length_drop, List.length_take]; rfl)) ?_; (with_reducible refine (spec_RunPut.calls k _ _ t211 t212 t215 _ ?side1 ?side2 A4.out).mono ?_); (case side1 => repeat (first | exact (Kd.R_reads' HO214.out).2.2 | (with_reducible refine Kd.C_alloc ?_ _) | (with_reducible refine Kd.C_drewN ?_ _) | (with_reducible refine Kd.C_drew ?_))); (case side2 => exact (Kd.R_reads' HO214.out).2.1); rintro e w14 ⟨rfl, hb⟩; refine ⟨_, rfl, ?_⟩; have n0_ := Aside0.mk (Kd.R_below (by (with_reducible repeat (first | apply Kd.R_alloc | apply Kd.R_drewN | apply Kd.R_drew)); exact HO214.out) hb); have n1_ := Aside0.mk (IsS93.below (by repeat (first | (with_reducible first | exact HI210.out | apply IsS93.alloc | apply IsS93.drewN | apply IsS93.drew | apply IsS93.set_1) | exact HI210.out)) hb); have n2_ := Aside0.mk (below_step (by repeat (first | (with_reducible first | exact HB.out | apply below_alloc | apply pw_below_drewN | apply below_drew1 | refine below_set ?_ (IsS93.ge HI210.out)) | exact HB.out)) hb); clear HO214; clear HI210; clear HB; have HO214 := n0_; have HI210 := n1_; have HB := n2_; clear n0_ n1_ n2_; (try clear hb); (try clear hb2); (try clear hk); (try clear hi)) | ((with_reducible refine gate_callee (f := 69) rfl ?_); refine goesL_ (some 24) rfl rfl Try.func69 (by kernel_rfl) rfl #[.pointer (some ⟨g210, 0, none⟩), .int .i64 6] rfl (by (try simp only [List.map_toArray, List.map_cons, List.map_nil]); first | done | rfl | (simp only [List.length_drop, List.length_take]; rfl)) ?_; (with_reducible refine (spec_l1Rd_pick.calls k g210 t208 t209 6 t216 t217 w _ ?side1 ?side2 A5.out).mono ?_); (case side1 => repeat (first | (with_reducible first | exact HI210.out | apply IsS93.alloc | apply IsS93.drewN | apply IsS93.drew | apply IsS93.set_1) | exact HI210.out)); (case side2 => repeat (first | (with_reducible first | exact HB.out | apply below_alloc | apply pw_below_drewN | apply below_drew1 | refine below_set ?_ (IsS93.ge HI210.out)) | exact HB.out)); rintro e w15 ⟨rfl, hi, hb, hk⟩; refine ⟨_, rfl, ?_⟩; have n0_ := Aside0.mk (Kd.R_mono (Kd.R_keep (IsS93.apart (show IsS93 w _ g210 t208 t209 from by repeat (first | (with_reducible first | exact HI210.out | apply IsS93.alloc | apply IsS93.drewN | apply IsS93.drew | apply IsS93.set_1) | exact HI210.out)) (by (with_reducible repeat (first | apply Kd.R_alloc | apply Kd.R_drewN | apply Kd.R_drew)); exact HO214.out) (by decide)) hk (fun _ h => h.2)) (fun _ h => h.1)); have n1_ := Aside0.mk (hb); have n2_ := Aside0.mk (hi); clear HO214; clear HB; clear HI210; have HO214 := n0_; have HB := n1_; have HI210 := n2_; clear n0_ n1_ n2_; (try clear hb); (try clear hb2); (try clear hk); (try clear hi)) | ((with_reducible refine gate_callee (f := 88) rfl ?_); refine goesL_ (some 29) rfl rfl Try.func88 (by kernel_rfl) rfl #[.pointer (some ⟨g210, 0, none⟩), .string t215] rfl (by (try simp only [List.map_toArray, List.map_cons, List.map_nil]); first | done | rfl | (simp only [List.length_drop, List.length_take]; rfl)) ?_; (with_reducible refine (spec_l14Bend.calls k g210 t208 t217 t215 t218 t219 w _ ?side1 ?side2 A7.out).mono ?_); (case side1 => repeat (first | (with_reducible first | exact HI210.out | apply IsS93.alloc | apply IsS93.drewN | apply IsS93.drew | apply IsS93.set_1) | exact HI210.out)); (case side2 => repeat (first | (with_reducible first | exact HB.out | apply below_alloc | apply pw_below_drewN | apply below_drew1 | refine below_set ?_ (IsS93.ge HI210.out)) | exact HB.out)); rintro e w16 ⟨rfl, hi, hb, hk⟩; refine ⟨_, rfl, ?_⟩; have n0_ := Aside0.mk (Kd.R_mono (Kd.R_keep (IsS93.apart (show IsS93 w _ g210 t208 t217 from by repeat (first | (with_reducible first | exact HI210.out | apply IsS93.alloc | apply IsS93.drewN | apply IsS93.drew | apply IsS93.set_1) | exact HI210.out)) (by (with_reducible repeat (first | apply Kd.R_alloc | apply Kd.R_drewN | apply Kd.R_drew)); exact HO214.out) (by decide)) hk (fun _ h => h.2)) (fun _ h => h.1)); have n1_ := Aside0.mk (hb); have n2_ := Aside0.mk (hi); clear HO214; clear HB; clear HI210; have HO214 := n0_; have HB := n1_; have HI210 := n2_; clear n0_ n1_ n2_; (try clear hb); (try clear hb2); (try clear hk); (try clear hi)))
        have pi225 : (0 ≤ (t223 : Int)) = True := eq_true (of_decide_eq_true (by first | (with_reducible assumption) | assumption))
        have qi225 : (t223 < (y220.length : Int)) = True := eq_true (of_decide_eq_true (by first | (with_reducible assumption) | assumption))
        have n0_ := Aside0.mk (Kd.R_drew HO214.out)
        have n1_ := Aside0.mk (IsS93.drew HI210.out)
        have n2_ := Aside0.mk (below_drew1 HB.out)
        clear HO214
        clear HI210
        clear HB
        have HO214 := n0_
        have HI210 := n1_
        have HB := n2_
        clear n0_ n1_ n2_
        refine start_ (n := 15) (S := fun w' => True) (ds := []) #[false, false, false, false, false, false, false, false, false, false, false, false, false, false, false] (by kernel_rfl) rfl rfl trivial (fun hHeld => ?_); refine with_tabW spec_DrawRunGet.tab15 spec_DrawRunGet.bits15 (fun HT_ HW_ => ?_)
        generalize w16.drew = w17 at HO214 HI210 HB hHeld ⊢
        refine pure_ (i := 0) (N := some 53) (v := ?_) (a' := ?_) #[true, false, false, false, false, false, false, false, false, false, false, false, false, false, false] rfl rfl (any_of HT_.out (by kernel_rfl)) (fun _ _ _ h => h) (Or.inl ⟨by rfl, ?_⟩) ?_ ?_
        rotate_left
        · intro w'
          go_simp
          with_reducible rfl
        rotate_left
        · simp only [Act.put, List.setIfInBounds_toArray, List.set_cons_zero, List.set_cons_succ, i64_w, i32_w]
          rfl
        refine pure_ (i := 1) (N := some 54) (v := ?_) (a' := ?_) #[true, true, false, false, false, false, false, false, false, false, false, false, false, false, false] rfl rfl (any_of HT_.out (by kernel_rfl)) (fun _ _ _ h => h) (Or.inl ⟨by rfl, ?_⟩) ?_ ?_
        rotate_left
        · intro w'
          go_simp
          with_reducible rfl
        rotate_left
        · simp only [Act.put, List.setIfInBounds_toArray, List.set_cons_zero, List.set_cons_succ, i64_w, i32_w]
          rfl
        refine pure_ (i := 5) (N := some 58) (v := ?_) (a' := ?_) #[true, true, false, false, false, true, false, false, false, false, false, false, false, false, false] rfl rfl (any_of HT_.out (by kernel_rfl)) (fun _ _ _ h => h) (Or.inl ⟨by rfl, ?_⟩) ?_ ?_
        rotate_left
        · intro w'
          go_simp
          with_reducible rfl
        rotate_left
        · simp only [Act.put, List.setIfInBounds_toArray, List.set_cons_zero, List.set_cons_succ, i64_w, i32_w]
          rfl
        refine pure_ (i := 9) (N := some 62) (v := ?_) (a' := ?_) #[true, true, false, false, false, true, false, false, false, true, false, false, false, false, false] rfl rfl (any_of HT_.out (by kernel_rfl)) (fun _ _ _ h => h) (Or.inl ⟨by rfl, ?_⟩) ?_ ?_
        rotate_left
        · intro w'
          go_simp
          with_reducible rfl
        rotate_left
        · simp only [Act.put, List.setIfInBounds_toArray, List.set_cons_zero, List.set_cons_succ, i64_w, i32_w]
          rfl
        refine pure_ (i := 10) (N := some 63) (v := ?_) (a' := ?_) #[true, true, false, false, false, true, false, false, false, true, true, false, false, false, false] rfl rfl (any_of HT_.out (by kernel_rfl)) (fun _ _ _ h => h) (Or.inl ⟨by rfl, ?_⟩) ?_ ?_
        rotate_left
        · intro w'
          go_simp
          with_reducible rfl
        rotate_left
        · simp only [Act.put, List.setIfInBounds_toArray, List.set_cons_zero, List.set_cons_succ, i64_w, i32_w]
          rfl
        refine inv_at [2, 3, 4, 6, 7, 8, 11, 12, 13, 14] (fun a0_ b a w' => ∃ (v221 : Value) (adz_v221 : Addr) (m7_ : Value), a = putSel a0_ b [(2, 55, .int .i64 (t218.size : Int)), (3, 56, .int .i64 (wrap64 ((t218.size : Int) + 1))), (4, 57, v221), (6, 59, .int .i64 t223), (7, 60, m7_), (8, 61, .int .i64 (rd y220 t223)), (11, 2, .string t218), (12, 3, .int .i64 (rd y220 t223)), (13, 4, .int .i64 t212), (14, 5, .int .i64 (t211.length : Int))] ∧ (Kd.R (Kd.int .i64) 3 w' w.heap.size (fun _ => True) (.slice Ao13 t211.length co13) t211) ∧ (b 6 = false → IsS93 w w' g210 t208 t219) ∧ (Below w.heap.size w w') ∧ (b 4 = true → Kd.R (Kd.int .i64) 3 w' w.heap.size (fun k_ => some k_ ≠ (.slice Ao13 t211.length co13 : Value).ownBlock) v221 y220) ∧ (b 4 = true → ∃ c_, (v221 : Value) = .slice (some adz_v221) y220.length c_) ∧ (b 6 = true → IsS93 w w' g210 t208 t224) ∧ (b 7 = true → (m7_ : Value) = .pointer (some (adz_v221.add (t223).toNat)))) HT_.out HW_.out (by kernel_rfl) (by kernel_rfl) ?_ ?_ ?_
        · exact ⟨.bool false, ⟨0, 0, none⟩, .bool false, by simp only [putSel, Bool.false_eq_true, if_false], HO214.out, fun _ => HI210.out, HB.out, fun h_ => absurd h_ (by decide), fun h_ => absurd h_ (by decide), fun h_ => absurd h_ (by decide), fun h_ => absurd h_ (by decide)⟩
        · skip
          clear HB HI210 HO214
          refine steps_cons ?_ ?_
          · rintro b a w' ⟨v221, adz_v221, m7_, ha, Q_HO214, Q_HI210, Q_HB, Q_HO222, Q_HA_HO222, Q_HI210_e6, Q_X7_⟩ hb_ hon hoff
            refine ⟨_, rfl, fun K hK => ?_⟩
            have e54 : a.tmps[54]? = some (.string t218) := by rw [ha]; exact (putSel_off rfl).trans rfl
            replace ha := Aside0.mk ha
            have HO214 := Aside0.mk Q_HO214
            have HB := Aside0.mk Q_HB
            refine value_ (w1 := w') (v := .int .i64 (t218.size : Int)) (by rfl) rfl ?_ ?_
            · go_simp
              (try simp only [i64_w])
              try rfl
            refine hK.out _ _ ⟨v221, adz_v221, m7_, (by rw [ha.out]; exact putSel_upk 0 hb_ rfl rfl rfl), Q_HO214, Q_HI210, Q_HB, fun h0_ => absurd ((hoff 4 (by kernel_rfl)).symm.trans h0_) (by decide), fun h0_ => absurd ((hoff 4 (by kernel_rfl)).symm.trans h0_) (by decide), Q_HI210_e6, fun h0_ => absurd ((hoff 7 (by kernel_rfl)).symm.trans h0_) (by decide)⟩
          refine steps_cons ?_ ?_
          · rintro b a w' ⟨v221, adz_v221, m7_, ha, Q_HO214, Q_HI210, Q_HB, Q_HO222, Q_HA_HO222, Q_HI210_e6, Q_X7_⟩ hb_ hon hoff
            refine ⟨_, rfl, fun K hK => ?_⟩
            have e55 : a.tmps[55]? = some (.int .i64 (t218.size : Int)) := by rw [ha]; exact putSel_on (e := (2, 55, .int .i64 (t218.size : Int))) 0 rfl rfl (hon 2 (by kernel_rfl)) rfl
            replace ha := Aside0.mk ha
            have HO214 := Aside0.mk Q_HO214
            have HB := Aside0.mk Q_HB
            refine value_ (w1 := w') (v := .int .i64 (wrap64 ((t218.size : Int) + 1))) (by rfl) rfl ?_ ?_
            · go_simp
              (try simp only [i64_w])
              try rfl
            refine hK.out _ _ ⟨v221, adz_v221, m7_, (by rw [ha.out]; exact putSel_upk 1 hb_ rfl rfl rfl), Q_HO214, Q_HI210, Q_HB, fun h0_ => absurd ((hoff 4 (by kernel_rfl)).symm.trans h0_) (by decide), fun h0_ => absurd ((hoff 4 (by kernel_rfl)).symm.trans h0_) (by decide), Q_HI210_e6, fun h0_ => absurd ((hoff 7 (by kernel_rfl)).symm.trans h0_) (by decide)⟩
          refine steps_cons ?_ ?_
          · rintro b a w' ⟨v221, adz_v221, m7_, ha, Q_HO214, Q_HI210, Q_HB, Q_HO222, Q_HA_HO222, Q_HI210_e6, Q_X7_⟩ hb_ hon hoff
            refine ⟨_, rfl, fun K hK => ?_⟩
            have e56 : a.tmps[56]? = some (.int .i64 (wrap64 ((t218.size : Int) + 1))) := by rw [ha]; exact putSel_on (e := (3, 56, .int .i64 (wrap64 ((t218.size : Int) + 1)))) 1 rfl rfl (hon 3 (by kernel_rfl)) rfl
            replace ha := Aside0.mk ha
            have HO214 := Aside0.mk Q_HO214
            have HB := Aside0.mk Q_HB
            refine Kd.R_lit_step (Kd.int .i64) _ 3 ?hg (N := 57) ?hd (xs := ([0, 0, 0, 0, 0, (-1), wrap64 ((t218.size : Int) + 1)] : List Int)) (inner := [.int .i64 0, .int .i64 0, .int .i64 0, .int .i64 0, .int .i64 0, .int .i64 (-1), .int .i64 (wrap64 ((t218.size : Int) + 1))]) (ok := fun _ => True) (okp := fun _ => True) ?hr ?hp (fun _ hk => hk) trivial (Below.refl _ _) (Nat.le_refl _) (by simp) ?_; (case hd => rfl); (case hg => rfl); (case hr => first | (go_simp; done) | (go_simp; rfl)); (case hp => exact (Reps.one (show Kd.M (Kd.int .i64) _ _ _ 0 [.int .i64 0] from rfl) (Reps.one (show Kd.M (Kd.int .i64) _ _ _ 0 [.int .i64 0] from rfl) (Reps.one (show Kd.M (Kd.int .i64) _ _ _ 0 [.int .i64 0] from rfl) (Reps.one (show Kd.M (Kd.int .i64) _ _ _ 0 [.int .i64 0] from rfl) (Reps.one (show Kd.M (Kd.int .i64) _ _ _ 0 [.int .i64 0] from rfl) (Reps.one (show Kd.M (Kd.int .i64) _ _ _ (-1) [.int .i64 (-1)] from rfl) (Reps.one (show Kd.M (Kd.int .i64) _ _ _ (wrap64 ((t218.size : Int) + 1)) [.int .i64 (wrap64 ((t218.size : Int) + 1))] from rfl) (Reps.none _ _)))))))))
            intro v221 w18 ho19 hb hg_ hnew_
            clear hg_ hnew_
            (first | rw [← Ny220.out] at ho19 | (simp only [Int.reduceToNat] at ho19; rw [← Ny220.out] at ho19))
            have n0_ := Aside0.mk (Kd.R_elder' (by (with_reducible repeat (first | apply Kd.R_alloc | apply Kd.R_drewN | apply Kd.R_drew)); exact HO214.out) (Kd.R_base ho19) hb)
            have n1_ := Aside0.mk (Kd.R_lower (Kd.R_new' ho19 (Kd.R_lt (by (with_reducible repeat (first | apply Kd.R_alloc | apply Kd.R_drewN | apply Kd.R_drew)); exact HO214.out))) (below_size (by repeat (first | (with_reducible first | exact HB.out | apply below_alloc | apply pw_below_drewN | apply below_drew1) | exact HB.out))))
            have n3_ := Aside0.mk (below_step (by repeat (first | (with_reducible first | exact HB.out | apply below_alloc | apply pw_below_drewN | apply below_drew1) | exact HB.out)) hb)
            have z_HI210 := fun (h0_ : b 6 = false) => (show IsS93 w w18 g210 t208 t219 from by first | exact (IsS93.below (by repeat (first | (with_reducible first | exact (Q_HI210 h0_) | apply IsS93.alloc | apply IsS93.drewN | apply IsS93.drew | apply IsS93.set_1) | exact (Q_HI210 h0_))) hb))
            have z_HI210_e6 := fun (h0_ : b 6 = true) => (show IsS93 w w18 g210 t208 t224 from by first | exact (IsS93.below (by repeat (first | (with_reducible first | exact (Q_HI210_e6 h0_) | apply IsS93.alloc | apply IsS93.drewN | apply IsS93.drew | apply IsS93.set_1) | exact (Q_HI210_e6 h0_))) hb))
            clear HO214
            clear HB
            have HO214 := n0_
            have HO222 := n1_
            have HB := n3_
            clear n0_ n1_ n3_
            clear hb ho19
            obtain ⟨Ao20, co20, eo20⟩ := Kd.R_slice HO222.out
            subst eo20
            obtain ⟨ado20, fo20, _⟩ := Kd.at_int (Kd.R_reads' HO222.out).2.2 0 (by decide) (by rw [Ny220.out]; simp)
            cases fo20
            refine hK.out _ _ ⟨.slice (some ado20) y220.length co20, ado20, m7_, (by rw [ha.out]; exact putSel_upk 2 hb_ rfl rfl rfl), (by (with_reducible repeat (first | apply Kd.R_alloc | apply Kd.R_drewN | apply Kd.R_drew)); exact Kd.R_mono HO214.out (fun _ hk => by first | exact hk.2 | trivial)), z_HI210, (by repeat (first | (with_reducible first | exact HB.out | apply below_alloc | apply pw_below_drewN | apply below_drew1) | exact HB.out)), fun _ => (by (with_reducible repeat (first | apply Kd.R_alloc | apply Kd.R_drewN | apply Kd.R_drew)); exact Kd.R_mono HO222.out (fun _ hk => by first | exact hk.2 | trivial)), fun _ => ⟨_, rfl⟩, z_HI210_e6, fun h0_ => absurd ((hoff 7 (by kernel_rfl)).symm.trans h0_) (by decide)⟩
          refine steps_cons ?_ ?_
          · rintro b a w' ⟨v221, adz_v221, m7_, ha, Q_HO214, Q_HI210, Q_HB, Q_HO222, Q_HA_HO222, Q_HI210_e6, Q_X7_⟩ hb_ hon hoff
            refine ⟨_, rfl, fun K hK => ?_⟩
            have e58 : a.tmps[58]? = some (.pointer (some ⟨g210, 0, none⟩)) := by rw [ha]; exact (putSel_off rfl).trans rfl
            replace ha := Aside0.mk ha
            have HO214 := Aside0.mk Q_HO214
            have HI210 := Aside0.mk (Q_HI210 hb_)
            have HB := Aside0.mk Q_HB
            refine goes_ Try.func69 (by kernel_rfl) rfl #[.pointer (some ⟨g210, 0, none⟩), .int .i64 7] (by rfl) rfl rfl (by first | (simp only [List.map_toArray, List.map_cons, List.map_nil, Act.eval, Array.getD_eq_getD_getElem?, Option.getD_some, e58]; done) | (simp only [List.map_toArray, List.map_cons, List.map_nil, Act.eval, Array.getD_eq_getD_getElem?, Option.getD_some, e58]; rfl)) ?_
            with_reducible refine (spec_l1Rd_pick.calls k g210 t208 t219 7 t223 t224 w _ ?side1 ?side2 A8.out).mono ?_
            (case side1 => repeat (first | (with_reducible first | exact HI210.out | apply IsS93.alloc | apply IsS93.drewN | apply IsS93.drew | apply IsS93.set_1) | exact HI210.out))
            (case side2 => repeat (first | (with_reducible first | exact HB.out | apply below_alloc | apply pw_below_drewN | apply below_drew1 | refine below_set ?_ (IsS93.ge HI210.out)) | exact HB.out))
            rintro e w18 ⟨rfl, hi, hb, hk⟩
            refine ⟨_, rfl, ?_⟩
            have n0_ := Aside0.mk (Kd.R_mono (Kd.R_keep (IsS93.apart (show IsS93 w _ g210 t208 t219 from by repeat (first | (with_reducible first | exact HI210.out | apply IsS93.alloc | apply IsS93.drewN | apply IsS93.drew | apply IsS93.set_1) | exact HI210.out)) (by (with_reducible repeat (first | apply Kd.R_alloc | apply Kd.R_drewN | apply Kd.R_drew)); exact HO214.out) (by decide)) hk (fun _ h => h.2)) (fun _ h => h.1))
            have n1_ := Aside0.mk (hb)
            have n2_ := Aside0.mk (hi)
            have z_HO222 := fun (h0_ : b 4 = true) => (show Kd.R (Kd.int .i64) 3 w18 w.heap.size (fun k_ => some k_ ≠ (.slice Ao13 t211.length co13 : Value).ownBlock) v221 y220 from by first | exact (Kd.R_mono (Kd.R_keep (IsS93.apart (show IsS93 w _ g210 t208 t219 from by repeat (first | (with_reducible first | exact HI210.out | apply IsS93.alloc | apply IsS93.drewN | apply IsS93.drew | apply IsS93.set_1) | exact HI210.out)) (by (with_reducible repeat (first | apply Kd.R_alloc | apply Kd.R_drewN | apply Kd.R_drew)); exact (Q_HO222 h0_)) (by decide)) hk (fun _ h => h.2)) (fun _ h => h.1)) | exact Kd.R_mono (Kd.R_mono (Kd.R_keep (IsS93.apart (show IsS93 w _ g210 t208 t219 from by repeat (first | (with_reducible first | exact HI210.out | apply IsS93.alloc | apply IsS93.drewN | apply IsS93.drew | apply IsS93.set_1) | exact HI210.out)) (by (with_reducible repeat (first | apply Kd.R_alloc | apply Kd.R_drewN | apply Kd.R_drew)); exact (Q_HO222 h0_)) (by decide)) hk (fun _ h => h.2)) (fun _ h => h.1)) (fun _ h_ => by first | trivial | exact h_ | exact h_.1))
            clear HO214
            clear HB
            clear HI210
            have HO214 := n0_
            have HB := n1_
            have HI210 := n2_
            clear n0_ n1_ n2_
            (try clear hb)
            (try clear hb2)
            (try clear hk)
            (try clear hi)
            refine hK.out _ _ ⟨v221, adz_v221, m7_, (by rw [ha.out]; exact putSel_upk 3 hb_ rfl rfl rfl), (by (with_reducible repeat (first | apply Kd.R_alloc | apply Kd.R_drewN | apply Kd.R_drew)); exact HO214.out), fun h0_ => absurd ((up_self b 6).symm.trans h0_) (by decide), (by repeat (first | (with_reducible first | exact HB.out | apply below_alloc | apply pw_below_drewN | apply below_drew1 | refine below_set ?_ (IsS93.ge HI210.out)) | exact HB.out)), z_HO222, Q_HA_HO222, fun _ => (by repeat (first | (with_reducible first | exact HI210.out | apply IsS93.alloc | apply IsS93.drewN | apply IsS93.drew | apply IsS93.set_1) | exact HI210.out)), fun h0_ => absurd ((hoff 7 (by kernel_rfl)).symm.trans h0_) (by decide)⟩
          refine steps_cons ?_ ?_
          · rintro b a w' ⟨v221, adz_v221, m7_, ha, Q_HO214, Q_HI210, Q_HB, Q_HO222, Q_HA_HO222, Q_HI210_e6, Q_X7_⟩ hb_ hon hoff
            refine ⟨_, rfl, fun K hK => ?_⟩
            have e57 : a.tmps[57]? = some (v221) := by rw [ha]; exact putSel_on (e := (4, 57, v221)) 2 rfl rfl (hon 4 (by kernel_rfl)) rfl
            have e59 : a.tmps[59]? = some (.int .i64 t223) := by rw [ha]; exact putSel_on (e := (6, 59, .int .i64 t223)) 3 rfl rfl (hon 6 (by kernel_rfl)) rfl
            replace ha := Aside0.mk ha
            have HO214 := Aside0.mk Q_HO214
            have HB := Aside0.mk Q_HB
            have HO222 := Aside0.mk (Q_HO222 (hon 4 (by kernel_rfl)))
            have HA_HO222 := Aside0.mk (Q_HA_HO222 (hon 4 (by kernel_rfl)))
            have HI210 := Aside0.mk (Q_HI210_e6 (hon 6 (by kernel_rfl)))
            obtain ⟨c_, hv_⟩ := HA_HO222.out
            rw [hv_] at e57
            refine value_ (w1 := w') (v := .pointer (some (adz_v221.add (t223).toNat))) (by rfl) rfl ?_ ?_
            · go_simp
              (try simp only [i64_w])
              try rfl
            refine hK.out _ _ ⟨v221, adz_v221, (.pointer (some (adz_v221.add (t223).toNat))), (by rw [ha.out]; exact putSel_upk 4 hb_ rfl rfl rfl), Q_HO214, fun h0_ => absurd ((hon 6 (by kernel_rfl)).symm.trans h0_) (by decide), Q_HB, Q_HO222, Q_HA_HO222, Q_HI210_e6, fun _ => rfl⟩
          refine steps_cons ?_ ?_
          · rintro b a w' ⟨v221, adz_v221, m7_, ha, Q_HO214, Q_HI210, Q_HB, Q_HO222, Q_HA_HO222, Q_HI210_e6, Q_X7_⟩ hb_ hon hoff
            refine ⟨_, rfl, fun K hK => ?_⟩
            have e60 : a.tmps[60]? = some (m7_) := by rw [ha]; exact putSel_on (e := (7, 60, m7_)) 4 rfl rfl (hon 7 (by kernel_rfl)) rfl
            rw [Q_X7_ (hon 7 (by kernel_rfl))] at e60
            replace ha := Aside0.mk ha
            have HO214 := Aside0.mk Q_HO214
            have HB := Aside0.mk Q_HB
            have HO222 := Aside0.mk (Q_HO222 (hon 4 (by kernel_rfl)))
            have HA_HO222 := Aside0.mk (Q_HA_HO222 (hon 4 (by kernel_rfl)))
            have HI210 := Aside0.mk (Q_HI210_e6 (hon 6 (by kernel_rfl)))
            obtain ⟨c_, hv_⟩ := HA_HO222.out
            have hF_ := HO222.out
            rw [hv_] at hF_
            obtain ⟨ad_, ea_, hx_⟩ := Kd.at_int (Kd.R_reads' hF_).2.2 t223 (of_eq_true pi225) (of_eq_true qi225)
            cases ea_
            refine value_ (w1 := w') (v := .int .i64 (rd y220 t223)) (by rfl) rfl ?_ ?_
            · go_simp
              (try simp only [i64_w])
              try rfl
            refine hK.out _ _ ⟨v221, adz_v221, m7_, (by rw [ha.out]; exact putSel_upk 5 hb_ rfl rfl rfl), Q_HO214, fun h0_ => absurd ((hon 6 (by kernel_rfl)).symm.trans h0_) (by decide), Q_HB, Q_HO222, Q_HA_HO222, Q_HI210_e6, Q_X7_⟩
          refine steps_cons ?_ ?_
          · rintro b a w' ⟨v221, adz_v221, m7_, ha, Q_HO214, Q_HI210, Q_HB, Q_HO222, Q_HA_HO222, Q_HI210_e6, Q_X7_⟩ hb_ hon hoff
            refine ⟨_, rfl, fun K hK => ?_⟩
            have e53 : a.tmps[53]? = some (.string t218) := by rw [ha]; exact (putSel_off rfl).trans rfl
            replace ha := Aside0.mk ha
            have HO214 := Aside0.mk Q_HO214
            have HB := Aside0.mk Q_HB
            have HI210 := Aside0.mk (Q_HI210_e6 (hon 6 (by kernel_rfl)))
            refine value_ (w1 := w') (v := .string t218) (by rfl) rfl ?_ ?_
            · go_simp
              (try simp only [i64_w])
              try rfl
            refine hK.out _ _ ⟨v221, adz_v221, m7_, (by rw [ha.out]; exact putSel_upk 6 hb_ rfl rfl rfl), Q_HO214, fun h0_ => absurd ((hon 6 (by kernel_rfl)).symm.trans h0_) (by decide), Q_HB, Q_HO222, Q_HA_HO222, Q_HI210_e6, Q_X7_⟩
          refine steps_cons ?_ ?_
          · rintro b a w' ⟨v221, adz_v221, m7_, ha, Q_HO214, Q_HI210, Q_HB, Q_HO222, Q_HA_HO222, Q_HI210_e6, Q_X7_⟩ hb_ hon hoff
            refine ⟨_, rfl, fun K hK => ?_⟩
            have e61 : a.tmps[61]? = some (.int .i64 (rd y220 t223)) := by rw [ha]; exact putSel_on (e := (8, 61, .int .i64 (rd y220 t223))) 5 rfl rfl (hon 8 (by kernel_rfl)) rfl
            replace ha := Aside0.mk ha
            have HO214 := Aside0.mk Q_HO214
            have HB := Aside0.mk Q_HB
            have HO222 := Aside0.mk (Q_HO222 (hon 4 (by kernel_rfl)))
            have HA_HO222 := Aside0.mk (Q_HA_HO222 (hon 4 (by kernel_rfl)))
            have HI210 := Aside0.mk (Q_HI210_e6 (hon 6 (by kernel_rfl)))
            refine value_ (w1 := w') (v := .int .i64 (rd y220 t223)) (by rfl) rfl ?_ ?_
            · go_simp
              (try simp only [i64_w])
              try rfl
            refine hK.out _ _ ⟨v221, adz_v221, m7_, (by rw [ha.out]; exact putSel_upk 7 hb_ rfl rfl rfl), Q_HO214, fun h0_ => absurd ((hon 6 (by kernel_rfl)).symm.trans h0_) (by decide), Q_HB, Q_HO222, Q_HA_HO222, Q_HI210_e6, Q_X7_⟩
          refine steps_cons ?_ ?_
          · rintro b a w' ⟨v221, adz_v221, m7_, ha, Q_HO214, Q_HI210, Q_HB, Q_HO222, Q_HA_HO222, Q_HI210_e6, Q_X7_⟩ hb_ hon hoff
            refine ⟨_, rfl, fun K hK => ?_⟩
            have e62 : a.tmps[62]? = some (.int .i64 t212) := by rw [ha]; exact (putSel_off rfl).trans rfl
            replace ha := Aside0.mk ha
            have HO214 := Aside0.mk Q_HO214
            have HB := Aside0.mk Q_HB
            have HO222 := Aside0.mk (Q_HO222 (hon 4 (by kernel_rfl)))
            have HA_HO222 := Aside0.mk (Q_HA_HO222 (hon 4 (by kernel_rfl)))
            have HI210 := Aside0.mk (Q_HI210_e6 (hon 6 (by kernel_rfl)))
            refine value_ (w1 := w') (v := .int .i64 t212) (by rfl) rfl ?_ ?_
            · go_simp
              (try simp only [i64_w])
              try rfl
            refine hK.out _ _ ⟨v221, adz_v221, m7_, (by rw [ha.out]; exact putSel_upk 8 hb_ rfl rfl rfl), Q_HO214, fun h0_ => absurd ((hon 6 (by kernel_rfl)).symm.trans h0_) (by decide), Q_HB, Q_HO222, Q_HA_HO222, Q_HI210_e6, Q_X7_⟩
          refine steps_cons ?_ ?_
          · rintro b a w' ⟨v221, adz_v221, m7_, ha, Q_HO214, Q_HI210, Q_HB, Q_HO222, Q_HA_HO222, Q_HI210_e6, Q_X7_⟩ hb_ hon hoff
            refine ⟨_, rfl, fun K hK => ?_⟩
            have e63 : a.tmps[63]? = some (.int .i64 (t211.length : Int)) := by rw [ha]; exact (putSel_off rfl).trans rfl
            replace ha := Aside0.mk ha
            have HO214 := Aside0.mk Q_HO214
            have HB := Aside0.mk Q_HB
            have HO222 := Aside0.mk (Q_HO222 (hon 4 (by kernel_rfl)))
            have HA_HO222 := Aside0.mk (Q_HA_HO222 (hon 4 (by kernel_rfl)))
            have HI210 := Aside0.mk (Q_HI210_e6 (hon 6 (by kernel_rfl)))
            refine value_ (w1 := w') (v := .int .i64 (t211.length : Int)) (by rfl) rfl ?_ ?_
            · go_simp
              (try simp only [i64_w])
              try rfl
            refine hK.out _ _ ⟨v221, adz_v221, m7_, (by rw [ha.out]; exact putSel_upk 9 hb_ rfl rfl rfl), Q_HO214, fun h0_ => absurd ((hon 6 (by kernel_rfl)).symm.trans h0_) (by decide), Q_HB, Q_HO222, Q_HA_HO222, Q_HI210_e6, Q_X7_⟩
          exact steps_nil
        rintro b a w22 hall ⟨v221, adz_v221, m7_, ha, Q_HO214, Q_HI210, Q_HB, Q_HO222, Q_HA_HO222, Q_HI210_e6, Q_X7_⟩
        clear HB HI210 HO214
        have hb2_ := hall 2 (by kernel_rfl)
        have hb3_ := hall 3 (by kernel_rfl)
        have hb4_ := hall 4 (by kernel_rfl)
        have hb6_ := hall 6 (by kernel_rfl)
        have hb7_ := hall 7 (by kernel_rfl)
        have hb8_ := hall 8 (by kernel_rfl)
        have hb11_ := hall 11 (by kernel_rfl)
        have hb12_ := hall 12 (by kernel_rfl)
        have hb13_ := hall 13 (by kernel_rfl)
        have hb14_ := hall 14 (by kernel_rfl)
        subst ha
        obtain rfl := Q_X7_ hb7_
        simp only [putSel, hb2_, hb3_, hb4_, hb6_, hb7_, hb8_, hb11_, hb12_, hb13_, hb14_, if_true, Act.put, List.setIfInBounds_toArray, List.set_cons_zero, List.set_cons_succ]
        have HO214 := Aside0.mk Q_HO214
        clear Q_HO214
        clear Q_HI210
        have HB := Aside0.mk Q_HB
        clear Q_HB
        have HO222 := Aside0.mk (Q_HO222 hb4_)
        clear Q_HO222
        have HA_HO222 := Aside0.mk (Q_HA_HO222 hb4_)
        clear Q_HA_HO222
        have HI210 := Aside0.mk (Q_HI210_e6 hb6_)
        clear Q_HI210_e6
        clear hall hb2_ hb3_ hb4_ hb6_ hb7_ hb8_ hb11_ hb12_ hb13_ hb14_
        obtain ⟨co23, eo23⟩ := HA_HO222.out
        clear HA_HO222
        subst eo23
        try go_wp2
        refine bodyPost_ret (results_list (rs := [.tmp 2, .tmp 3, .tmp 4, .tmp 5]) rfl (by simp) (.tmp (.tmp (.tmp (.tmp .nil))))) rfl ?_
        exact ⟨by first | rfl | (simp [errW_none, errW_some] <;> rfl) | (simp [*, errW_none, errW_some] <;> rfl), by repeat (first | (with_reducible first | exact HB.out | apply below_alloc | apply pw_below_drewN | apply below_drew1 | refine below_set ?_ (IsS93.ge HI210.out)) | exact HB.out)⟩
      · rw [if_neg c10] at H
        exact absurd H (by simp)
    · rw [if_neg c9] at H
      exact absurd H (by simp)
  · rw [if_neg c6] at H
    have c6b0 : (t216 == 0) = false := beq_eq_false_iff_ne.mpr c6
    have c6b1 : (t216 != 0) = true := bne_iff_ne.mpr c6
    by_cases c24 : t216 = 1
    · rw [if_pos c24] at H
      have c24b0 : (t216 == 1) = true := beq_iff_eq.mpr c24
      have c24b1 : (t216 != 1) = false := bne_eq_false_iff_eq.mpr c24
      clear c24
      replace H := Option.bind_eq_some_iff.mp H
      obtain ⟨⟨t226, t227⟩, A250, H⟩ := H
      replace H : ((some (([0, 0, 0, 0, 0, (-1), wrap64 ((t215.size : Int) + 1)] : List Int) : List Int)).bind fun y228 => ((spec_l1Rd_pick.f k t208 t227 7).bind fun bt231 => (if 0 ≤ bt231.1 then (if bt231.1 < (y228.length : Int) then (some (t215, rd y228 bt231.1, t212, wrap64 ((wrap64 ((t211.length : Int) + t226)) - 1))) else (none)) else (none)))) = some (r1, r2, r3, r4) := H
      have A25 := Aside0.mk A250
      clear A250
      obtain ⟨y228, hy228⟩ : ∃ y_ : List Int, y_ = (([0, 0, 0, 0, 0, (-1), wrap64 ((t215.size : Int) + 1)] : List Int)) := ⟨_, rfl⟩
      replace H : ((spec_l1Rd_pick.f k t208 t227 7).bind fun bt231 => (if 0 ≤ bt231.1 then (if bt231.1 < (y228.length : Int) then (some (t215, rd y228 bt231.1, t212, wrap64 ((wrap64 ((t211.length : Int) + t226)) - 1))) else (none)) else (none))) = some (r1, r2, r3, r4) := by first | (rw [hy228]; with_reducible exact H) | (have H2_ := (Option.bind_some _ _).symm.trans H; rw [hy228]; with_reducible exact H2_) | (have H2_ := (Option.bind_some _ _).symm.trans H; with_reducible exact H2_) | with_reducible exact H | (rw [hy228]; exact H) | exact H
      have Ny228 := Aside0.mk hy228
      clear hy228
      replace H := Option.bind_eq_some_iff.mp H
      obtain ⟨⟨t231, t232⟩, A260, H⟩ := H
      replace H : (if 0 ≤ t231 then (if t231 < (y228.length : Int) then (some (t215, rd y228 t231, t212, wrap64 ((wrap64 ((t211.length : Int) + t226)) - 1))) else (none)) else (none)) = some (r1, r2, r3, r4) := H
      have A26 := Aside0.mk A260
      clear A260
      by_cases c27 : 0 ≤ t231
      · rw [if_pos c27] at H
        have c27b0 : decide (0 ≤ t231) = true := decide_eq_true c27
        clear c27
        by_cases c28 : t231 < (y228.length : Int)
        · rw [if_pos c28] at H
          have c28b0 : decide (t231 < (y228.length : Int)) = true := decide_eq_true c28
          clear c28
          simp only [Option.some.injEq, Prod.mk.injEq] at H
          obtain ⟨rfl, rfl, rfl, rfl⟩ := H
          go_enter Try.func52, Try.ntmps52
          try go_wp2_with (first | ((with_reducible refine gate_callee (f := 68) rfl ?_); refine goesL_ (some 12) rfl rfl Try.func68 (by kernel_rfl) rfl #[.slice A0 l0.length c0] rfl (by (try simp only [List.map_toArray, List.map_cons, List.map_nil]); first | done | rfl | (simp only [List.length_drop, List.length_take]; rfl)) ?_; (with_reducible refine (spec_l1Open.calls _ _ l0 t208 t209 w _ ?side1 ?side2 ?side3 A2.out).mono ?_); (case side1 => repeat (first | (with_reducible first | exact HB.out | apply below_alloc | apply pw_below_drewN | apply below_drew1) | exact HB.out)); (case side2 => exact HR0.out); (case side3 => exact HC0.out); rintro e w29 ⟨g210, rfl, hi, hb, hb2⟩; refine ⟨_, rfl, ?_⟩; have n0_ := Aside0.mk (hb); have n1_ := Aside0.mk (hi); clear HB; have HB := n0_; have HI210 := n1_; clear n0_ n1_; (try clear hb); (try clear hb2); (try clear hk); (try clear hi)) | ((with_reducible refine gate_callee (f := 47) rfl ?_); refine goesL_ (some 15) rfl rfl Try.func47 (by kernel_rfl) rfl #[.slice A0 l0.length c0] rfl (by (try simp only [List.map_toArray, List.map_cons, List.map_nil]); first | done | rfl | (simp only [List.length_drop, List.length_take]; rfl)) ?_; (with_reducible refine (spec_DrawRunPut.calls k _ _ l0 t211 t212 _ ?side1 ?side2 A3.out).mono ?_); (case side1 => repeat (first | exact (Kd.C_below HR0.out HB.out) | (with_reducible refine Kd.C_alloc ?_ _) | (with_reducible refine Kd.C_drewN ?_ _) | (with_reducible refine Kd.C_drew ?_))); (case side2 => exact HC0.out); rintro e w30 ⟨v213, rfl, ho0, hb⟩; refine ⟨_, rfl, ?_⟩; have n0_ := Aside0.mk (Kd.R_lower ho0 (below_size (by repeat (first | (with_reducible first | exact HB.out | apply below_alloc | apply pw_below_drewN | apply below_drew1 | refine below_set ?_ (IsS93.ge HI210.out)) | exact HB.out)))); have n1_ := Aside0.mk (IsS93.below (by repeat (first | (with_reducible first | exact HI210.out | apply IsS93.alloc | apply IsS93.drewN | apply IsS93.drew | apply IsS93.set_1) | exact HI210.out)) hb); have n2_ := Aside0.mk (below_step (by repeat (first | (with_reducible first | exact HB.out | apply below_alloc | apply pw_below_drewN | apply below_drew1 | refine below_set ?_ (IsS93.ge HI210.out)) | exact HB.out)) hb); clear HI210; clear HB; have HO214 := n0_; have HI210 := n1_; have HB := n2_; clear n0_ n1_ n2_; (try clear hb); (try clear hb2); (try clear hk); (try clear hi); (try clear ho0); obtain ⟨Ao31, co31, eo31⟩ := Kd.R_slice HO214.out; subst eo31) | ((with_reducible refine gate_callee (f := 49) rfl ?_); refine goesL_ (some 20) rfl rfl Try.func49 (by kernel_rfl) rfl #[.slice Ao31 t211.length co31, .int .i64 t212] rfl (by (try simp only [List.map_toArray, List.map_cons, List.map_nil]); first | done | rfl | (simp only [List.length_drop, List.length_take]; rfl)) ?_; (with_reducible refine (spec_RunPut.calls k _ _ t211 t212 t215 _ ?side1 ?side2 A4.out).mono ?_); (case side1 => repeat (first | exact (Kd.R_reads' HO214.out).2.2 | (with_reducible refine Kd.C_alloc ?_ _) | (with_reducible refine Kd.C_drewN ?_ _) | (with_reducible refine Kd.C_drew ?_))); (case side2 => exact (Kd.R_reads' HO214.out).2.1); rintro e w32 ⟨rfl, hb⟩; refine ⟨_, rfl, ?_⟩; have n0_ := Aside0.mk (Kd.R_below (by (with_reducible repeat (first | apply Kd.R_alloc | apply Kd.R_drewN | apply Kd.R_drew)); exact HO214.out) hb); have n1_ := Aside0.mk (IsS93.below (by repeat (first | (with_reducible first | exact HI210.out | apply IsS93.alloc | apply IsS93.drewN | apply IsS93.drew | apply IsS93.set_1) | exact HI210.out)) hb); have n2_ := Aside0.mk (below_step (by repeat (first | (with_reducible first | exact HB.out | apply below_alloc | apply pw_below_drewN | apply below_drew1 | refine below_set ?_ (IsS93.ge HI210.out)) | exact HB.out)) hb); clear HO214; clear HI210; clear HB; have HO214 := n0_; have HI210 := n1_; have HB := n2_; clear n0_ n1_ n2_; (try clear hb); (try clear hb2); (try clear hk); (try clear hi)) | ((with_reducible refine gate_callee (f := 69) rfl ?_); refine goesL_ (some 24) rfl rfl Try.func69 (by kernel_rfl) rfl #[.pointer (some ⟨g210, 0, none⟩), .int .i64 6] rfl (by (try simp only [List.map_toArray, List.map_cons, List.map_nil]); first | done | rfl | (simp only [List.length_drop, List.length_take]; rfl)) ?_; (with_reducible refine (spec_l1Rd_pick.calls k g210 t208 t209 6 t216 t217 w _ ?side1 ?side2 A5.out).mono ?_); (case side1 => repeat (first | (with_reducible first | exact HI210.out | apply IsS93.alloc | apply IsS93.drewN | apply IsS93.drew | apply IsS93.set_1) | exact HI210.out)); (case side2 => repeat (first | (with_reducible first | exact HB.out | apply below_alloc | apply pw_below_drewN | apply below_drew1 | refine below_set ?_ (IsS93.ge HI210.out)) | exact HB.out)); rintro e w33 ⟨rfl, hi, hb, hk⟩; refine ⟨_, rfl, ?_⟩; have n0_ := Aside0.mk (Kd.R_mono (Kd.R_keep (IsS93.apart (show IsS93 w _ g210 t208 t209 from by repeat (first | (with_reducible first | exact HI210.out | apply IsS93.alloc | apply IsS93.drewN | apply IsS93.drew | apply IsS93.set_1) | exact HI210.out)) (by (with_reducible repeat (first | apply Kd.R_alloc | apply Kd.R_drewN | apply Kd.R_drew)); exact HO214.out) (by decide)) hk (fun _ h => h.2)) (fun _ h => h.1)); have n1_ := Aside0.mk (hb); have n2_ := Aside0.mk (hi); clear HO214; clear HB; clear HI210; have HO214 := n0_; have HB := n1_; have HI210 := n2_; clear n0_ n1_ n2_; (try clear hb); (try clear hb2); (try clear hk); (try clear hi)) | ((with_reducible refine gate_callee (f := 69) rfl ?_); refine goesL_ (some 34) rfl rfl Try.func69 (by kernel_rfl) rfl #[.pointer (some ⟨g210, 0, none⟩), .int .i64 3] rfl (by (try simp only [List.map_toArray, List.map_cons, List.map_nil]); first | done | rfl | (simp only [List.length_drop, List.length_take]; rfl)) ?_; (with_reducible refine (spec_l1Rd_pick.calls k g210 t208 t217 3 t226 t227 w _ ?side1 ?side2 A25.out).mono ?_); (case side1 => repeat (first | (with_reducible first | exact HI210.out | apply IsS93.alloc | apply IsS93.drewN | apply IsS93.drew | apply IsS93.set_1) | exact HI210.out)); (case side2 => repeat (first | (with_reducible first | exact HB.out | apply below_alloc | apply pw_below_drewN | apply below_drew1 | refine below_set ?_ (IsS93.ge HI210.out)) | exact HB.out)); rintro e w34 ⟨rfl, hi, hb, hk⟩; refine ⟨_, rfl, ?_⟩; have n0_ := Aside0.mk (Kd.R_mono (Kd.R_keep (IsS93.apart (show IsS93 w _ g210 t208 t217 from by repeat (first | (with_reducible first | exact HI210.out | apply IsS93.alloc | apply IsS93.drewN | apply IsS93.drew | apply IsS93.set_1) | exact HI210.out)) (by (with_reducible repeat (first | apply Kd.R_alloc | apply Kd.R_drewN | apply Kd.R_drew)); exact HO214.out) (by decide)) hk (fun _ h => h.2)) (fun _ h => h.1)); have n1_ := Aside0.mk (hb); have n2_ := Aside0.mk (hi); clear HO214; clear HB; clear HI210; have HO214 := n0_; have HB := n1_; have HI210 := n2_; clear n0_ n1_ n2_; (try clear hb); (try clear hb2); (try clear hk); (try clear hi)))
          have pi233 : (0 ≤ (t231 : Int)) = True := eq_true (of_decide_eq_true (by first | (with_reducible assumption) | assumption))
          have qi233 : (t231 < (y228.length : Int)) = True := eq_true (of_decide_eq_true (by first | (with_reducible assumption) | assumption))
          have n0_ := Aside0.mk (Kd.R_drew HO214.out)
          have n1_ := Aside0.mk (IsS93.drew HI210.out)
          have n2_ := Aside0.mk (below_drew1 HB.out)
          clear HO214
          clear HI210
          clear HB
          have HO214 := n0_
          have HI210 := n1_
          have HB := n2_
          clear n0_ n1_ n2_
          refine start_ (n := 15) (S := fun w' => True) (ds := []) #[false, false, false, false, false, false, false, false, false, false, false, false, false, false, false] (by kernel_rfl) rfl rfl trivial (fun hHeld => ?_); refine with_tabW spec_DrawRunGet.tab15 spec_DrawRunGet.bits15 (fun HT_ HW_ => ?_)
          generalize w34.drew = w35 at HO214 HI210 HB hHeld ⊢
          refine pure_ (i := 0) (N := some 53) (v := ?_) (a' := ?_) #[true, false, false, false, false, false, false, false, false, false, false, false, false, false, false] rfl rfl (any_of HT_.out (by kernel_rfl)) (fun _ _ _ h => h) (Or.inl ⟨by rfl, ?_⟩) ?_ ?_
          rotate_left
          · intro w'
            go_simp
            with_reducible rfl
          rotate_left
          · simp only [Act.put, List.setIfInBounds_toArray, List.set_cons_zero, List.set_cons_succ, i64_w, i32_w]
            rfl
          refine pure_ (i := 1) (N := some 54) (v := ?_) (a' := ?_) #[true, true, false, false, false, false, false, false, false, false, false, false, false, false, false] rfl rfl (any_of HT_.out (by kernel_rfl)) (fun _ _ _ h => h) (Or.inl ⟨by rfl, ?_⟩) ?_ ?_
          rotate_left
          · intro w'
            go_simp
            with_reducible rfl
          rotate_left
          · simp only [Act.put, List.setIfInBounds_toArray, List.set_cons_zero, List.set_cons_succ, i64_w, i32_w]
            rfl
          refine pure_ (i := 5) (N := some 58) (v := ?_) (a' := ?_) #[true, true, false, false, false, true, false, false, false, false, false, false, false, false, false] rfl rfl (any_of HT_.out (by kernel_rfl)) (fun _ _ _ h => h) (Or.inl ⟨by rfl, ?_⟩) ?_ ?_
          rotate_left
          · intro w'
            go_simp
            with_reducible rfl
          rotate_left
          · simp only [Act.put, List.setIfInBounds_toArray, List.set_cons_zero, List.set_cons_succ, i64_w, i32_w]
            rfl
          refine pure_ (i := 9) (N := some 62) (v := ?_) (a' := ?_) #[true, true, false, false, false, true, false, false, false, true, false, false, false, false, false] rfl rfl (any_of HT_.out (by kernel_rfl)) (fun _ _ _ h => h) (Or.inl ⟨by rfl, ?_⟩) ?_ ?_
          rotate_left
          · intro w'
            go_simp
            with_reducible rfl
          rotate_left
          · simp only [Act.put, List.setIfInBounds_toArray, List.set_cons_zero, List.set_cons_succ, i64_w, i32_w]
            rfl
          refine pure_ (i := 10) (N := some 63) (v := ?_) (a' := ?_) #[true, true, false, false, false, true, false, false, false, true, true, false, false, false, false] rfl rfl (any_of HT_.out (by kernel_rfl)) (fun _ _ _ h => h) (Or.inl ⟨by rfl, ?_⟩) ?_ ?_
          rotate_left
          · intro w'
            go_simp
            with_reducible rfl
          rotate_left
          · simp only [Act.put, List.setIfInBounds_toArray, List.set_cons_zero, List.set_cons_succ, i64_w, i32_w]
            rfl
          refine inv_at [2, 3, 4, 6, 7, 8, 11, 12, 13, 14] (fun a0_ b a w' => ∃ (v229 : Value) (adz_v229 : Addr) (m7_ : Value), a = putSel a0_ b [(2, 55, .int .i64 (t215.size : Int)), (3, 56, .int .i64 (wrap64 ((t215.size : Int) + 1))), (4, 57, v229), (6, 59, .int .i64 t231), (7, 60, m7_), (8, 61, .int .i64 (rd y228 t231)), (11, 2, .string t215), (12, 3, .int .i64 (rd y228 t231)), (13, 4, .int .i64 t212), (14, 5, .int .i64 (wrap64 ((wrap64 ((t211.length : Int) + t226)) - 1)))] ∧ (Kd.R (Kd.int .i64) 3 w' w.heap.size (fun _ => True) (.slice Ao31 t211.length co31) t211) ∧ (b 6 = false → IsS93 w w' g210 t208 t227) ∧ (Below w.heap.size w w') ∧ (b 4 = true → Kd.R (Kd.int .i64) 3 w' w.heap.size (fun k_ => some k_ ≠ (.slice Ao31 t211.length co31 : Value).ownBlock) v229 y228) ∧ (b 4 = true → ∃ c_, (v229 : Value) = .slice (some adz_v229) y228.length c_) ∧ (b 6 = true → IsS93 w w' g210 t208 t232) ∧ (b 7 = true → (m7_ : Value) = .pointer (some (adz_v229.add (t231).toNat)))) HT_.out HW_.out (by kernel_rfl) (by kernel_rfl) ?_ ?_ ?_
          · exact ⟨.bool false, ⟨0, 0, none⟩, .bool false, by simp only [putSel, Bool.false_eq_true, if_false], HO214.out, fun _ => HI210.out, HB.out, fun h_ => absurd h_ (by decide), fun h_ => absurd h_ (by decide), fun h_ => absurd h_ (by decide), fun h_ => absurd h_ (by decide)⟩
          · skip
            clear HB HI210 HO214
            refine steps_cons ?_ ?_
            · rintro b a w' ⟨v229, adz_v229, m7_, ha, Q_HO214, Q_HI210, Q_HB, Q_HO230, Q_HA_HO230, Q_HI210_e6, Q_X7_⟩ hb_ hon hoff
              refine ⟨_, rfl, fun K hK => ?_⟩
              have e54 : a.tmps[54]? = some (.string t215) := by rw [ha]; exact (putSel_off rfl).trans rfl
              replace ha := Aside0.mk ha
              have HO214 := Aside0.mk Q_HO214
              have HB := Aside0.mk Q_HB
              refine value_ (w1 := w') (v := .int .i64 (t215.size : Int)) (by rfl) rfl ?_ ?_
              · go_simp
                (try simp only [i64_w])
                try rfl
              refine hK.out _ _ ⟨v229, adz_v229, m7_, (by rw [ha.out]; exact putSel_upk 0 hb_ rfl rfl rfl), Q_HO214, Q_HI210, Q_HB, fun h0_ => absurd ((hoff 4 (by kernel_rfl)).symm.trans h0_) (by decide), fun h0_ => absurd ((hoff 4 (by kernel_rfl)).symm.trans h0_) (by decide), Q_HI210_e6, fun h0_ => absurd ((hoff 7 (by kernel_rfl)).symm.trans h0_) (by decide)⟩
            refine steps_cons ?_ ?_
            · rintro b a w' ⟨v229, adz_v229, m7_, ha, Q_HO214, Q_HI210, Q_HB, Q_HO230, Q_HA_HO230, Q_HI210_e6, Q_X7_⟩ hb_ hon hoff
              refine ⟨_, rfl, fun K hK => ?_⟩
              have e55 : a.tmps[55]? = some (.int .i64 (t215.size : Int)) := by rw [ha]; exact putSel_on (e := (2, 55, .int .i64 (t215.size : Int))) 0 rfl rfl (hon 2 (by kernel_rfl)) rfl
              replace ha := Aside0.mk ha
              have HO214 := Aside0.mk Q_HO214
              have HB := Aside0.mk Q_HB
              refine value_ (w1 := w') (v := .int .i64 (wrap64 ((t215.size : Int) + 1))) (by rfl) rfl ?_ ?_
              · go_simp
                (try simp only [i64_w])
                try rfl
              refine hK.out _ _ ⟨v229, adz_v229, m7_, (by rw [ha.out]; exact putSel_upk 1 hb_ rfl rfl rfl), Q_HO214, Q_HI210, Q_HB, fun h0_ => absurd ((hoff 4 (by kernel_rfl)).symm.trans h0_) (by decide), fun h0_ => absurd ((hoff 4 (by kernel_rfl)).symm.trans h0_) (by decide), Q_HI210_e6, fun h0_ => absurd ((hoff 7 (by kernel_rfl)).symm.trans h0_) (by decide)⟩
            refine steps_cons ?_ ?_
            · rintro b a w' ⟨v229, adz_v229, m7_, ha, Q_HO214, Q_HI210, Q_HB, Q_HO230, Q_HA_HO230, Q_HI210_e6, Q_X7_⟩ hb_ hon hoff
              refine ⟨_, rfl, fun K hK => ?_⟩
              have e56 : a.tmps[56]? = some (.int .i64 (wrap64 ((t215.size : Int) + 1))) := by rw [ha]; exact putSel_on (e := (3, 56, .int .i64 (wrap64 ((t215.size : Int) + 1)))) 1 rfl rfl (hon 3 (by kernel_rfl)) rfl
              replace ha := Aside0.mk ha
              have HO214 := Aside0.mk Q_HO214
              have HB := Aside0.mk Q_HB
              refine Kd.R_lit_step (Kd.int .i64) _ 3 ?hg (N := 57) ?hd (xs := ([0, 0, 0, 0, 0, (-1), wrap64 ((t215.size : Int) + 1)] : List Int)) (inner := [.int .i64 0, .int .i64 0, .int .i64 0, .int .i64 0, .int .i64 0, .int .i64 (-1), .int .i64 (wrap64 ((t215.size : Int) + 1))]) (ok := fun _ => True) (okp := fun _ => True) ?hr ?hp (fun _ hk => hk) trivial (Below.refl _ _) (Nat.le_refl _) (by simp) ?_; (case hd => rfl); (case hg => rfl); (case hr => first | (go_simp; done) | (go_simp; rfl)); (case hp => exact (Reps.one (show Kd.M (Kd.int .i64) _ _ _ 0 [.int .i64 0] from rfl) (Reps.one (show Kd.M (Kd.int .i64) _ _ _ 0 [.int .i64 0] from rfl) (Reps.one (show Kd.M (Kd.int .i64) _ _ _ 0 [.int .i64 0] from rfl) (Reps.one (show Kd.M (Kd.int .i64) _ _ _ 0 [.int .i64 0] from rfl) (Reps.one (show Kd.M (Kd.int .i64) _ _ _ 0 [.int .i64 0] from rfl) (Reps.one (show Kd.M (Kd.int .i64) _ _ _ (-1) [.int .i64 (-1)] from rfl) (Reps.one (show Kd.M (Kd.int .i64) _ _ _ (wrap64 ((t215.size : Int) + 1)) [.int .i64 (wrap64 ((t215.size : Int) + 1))] from rfl) (Reps.none _ _)))))))))
              intro v229 w36 ho37 hb hg_ hnew_
              clear hg_ hnew_
              (first | rw [← Ny228.out] at ho37 | (simp only [Int.reduceToNat] at ho37; rw [← Ny228.out] at ho37))
              have n0_ := Aside0.mk (Kd.R_elder' (by (with_reducible repeat (first | apply Kd.R_alloc | apply Kd.R_drewN | apply Kd.R_drew)); exact HO214.out) (Kd.R_base ho37) hb)
              have n1_ := Aside0.mk (Kd.R_lower (Kd.R_new' ho37 (Kd.R_lt (by (with_reducible repeat (first | apply Kd.R_alloc | apply Kd.R_drewN | apply Kd.R_drew)); exact HO214.out))) (below_size (by repeat (first | (with_reducible first | exact HB.out | apply below_alloc | apply pw_below_drewN | apply below_drew1) | exact HB.out))))
              have n3_ := Aside0.mk (below_step (by repeat (first | (with_reducible first | exact HB.out | apply below_alloc | apply pw_below_drewN | apply below_drew1) | exact HB.out)) hb)
              have z_HI210 := fun (h0_ : b 6 = false) => (show IsS93 w w36 g210 t208 t227 from by first | exact (IsS93.below (by repeat (first | (with_reducible first | exact (Q_HI210 h0_) | apply IsS93.alloc | apply IsS93.drewN | apply IsS93.drew | apply IsS93.set_1) | exact (Q_HI210 h0_))) hb))
              have z_HI210_e6 := fun (h0_ : b 6 = true) => (show IsS93 w w36 g210 t208 t232 from by first | exact (IsS93.below (by repeat (first | (with_reducible first | exact (Q_HI210_e6 h0_) | apply IsS93.alloc | apply IsS93.drewN | apply IsS93.drew | apply IsS93.set_1) | exact (Q_HI210_e6 h0_))) hb))
              clear HO214
              clear HB
              have HO214 := n0_
              have HO230 := n1_
              have HB := n3_
              clear n0_ n1_ n3_
              clear hb ho37
              obtain ⟨Ao38, co38, eo38⟩ := Kd.R_slice HO230.out
              subst eo38
              obtain ⟨ado38, fo38, _⟩ := Kd.at_int (Kd.R_reads' HO230.out).2.2 0 (by decide) (by rw [Ny228.out]; simp)
              cases fo38
              refine hK.out _ _ ⟨.slice (some ado38) y228.length co38, ado38, m7_, (by rw [ha.out]; exact putSel_upk 2 hb_ rfl rfl rfl), (by (with_reducible repeat (first | apply Kd.R_alloc | apply Kd.R_drewN | apply Kd.R_drew)); exact Kd.R_mono HO214.out (fun _ hk => by first | exact hk.2 | trivial)), z_HI210, (by repeat (first | (with_reducible first | exact HB.out | apply below_alloc | apply pw_below_drewN | apply below_drew1) | exact HB.out)), fun _ => (by (with_reducible repeat (first | apply Kd.R_alloc | apply Kd.R_drewN | apply Kd.R_drew)); exact Kd.R_mono HO230.out (fun _ hk => by first | exact hk.2 | trivial)), fun _ => ⟨_, rfl⟩, z_HI210_e6, fun h0_ => absurd ((hoff 7 (by kernel_rfl)).symm.trans h0_) (by decide)⟩
            refine steps_cons ?_ ?_
            · rintro b a w' ⟨v229, adz_v229, m7_, ha, Q_HO214, Q_HI210, Q_HB, Q_HO230, Q_HA_HO230, Q_HI210_e6, Q_X7_⟩ hb_ hon hoff
              refine ⟨_, rfl, fun K hK => ?_⟩
              have e58 : a.tmps[58]? = some (.pointer (some ⟨g210, 0, none⟩)) := by rw [ha]; exact (putSel_off rfl).trans rfl
              replace ha := Aside0.mk ha
              have HO214 := Aside0.mk Q_HO214
              have HI210 := Aside0.mk (Q_HI210 hb_)
              have HB := Aside0.mk Q_HB
              refine goes_ Try.func69 (by kernel_rfl) rfl #[.pointer (some ⟨g210, 0, none⟩), .int .i64 7] (by rfl) rfl rfl (by first | (simp only [List.map_toArray, List.map_cons, List.map_nil, Act.eval, Array.getD_eq_getD_getElem?, Option.getD_some, e58]; done) | (simp only [List.map_toArray, List.map_cons, List.map_nil, Act.eval, Array.getD_eq_getD_getElem?, Option.getD_some, e58]; rfl)) ?_
              with_reducible refine (spec_l1Rd_pick.calls k g210 t208 t227 7 t231 t232 w _ ?side1 ?side2 A26.out).mono ?_
              (case side1 => repeat (first | (with_reducible first | exact HI210.out | apply IsS93.alloc | apply IsS93.drewN | apply IsS93.drew | apply IsS93.set_1) | exact HI210.out))
              (case side2 => repeat (first | (with_reducible first | exact HB.out | apply below_alloc | apply pw_below_drewN | apply below_drew1 | refine below_set ?_ (IsS93.ge HI210.out)) | exact HB.out))
              rintro e w36 ⟨rfl, hi, hb, hk⟩
              refine ⟨_, rfl, ?_⟩
              have n0_ := Aside0.mk (Kd.R_mono (Kd.R_keep (IsS93.apart (show IsS93 w _ g210 t208 t227 from by repeat (first | (with_reducible first | exact HI210.out | apply IsS93.alloc | apply IsS93.drewN | apply IsS93.drew | apply IsS93.set_1) | exact HI210.out)) (by (with_reducible repeat (first | apply Kd.R_alloc | apply Kd.R_drewN | apply Kd.R_drew)); exact HO214.out) (by decide)) hk (fun _ h => h.2)) (fun _ h => h.1))
              have n1_ := Aside0.mk (hb)
              have n2_ := Aside0.mk (hi)
              have z_HO230 := fun (h0_ : b 4 = true) => (show Kd.R (Kd.int .i64) 3 w36 w.heap.size (fun k_ => some k_ ≠ (.slice Ao31 t211.length co31 : Value).ownBlock) v229 y228 from by first | exact (Kd.R_mono (Kd.R_keep (IsS93.apart (show IsS93 w _ g210 t208 t227 from by repeat (first | (with_reducible first | exact HI210.out | apply IsS93.alloc | apply IsS93.drewN | apply IsS93.drew | apply IsS93.set_1) | exact HI210.out)) (by (with_reducible repeat (first | apply Kd.R_alloc | apply Kd.R_drewN | apply Kd.R_drew)); exact (Q_HO230 h0_)) (by decide)) hk (fun _ h => h.2)) (fun _ h => h.1)) | exact Kd.R_mono (Kd.R_mono (Kd.R_keep (IsS93.apart (show IsS93 w _ g210 t208 t227 from by repeat (first | (with_reducible first | exact HI210.out | apply IsS93.alloc | apply IsS93.drewN | apply IsS93.drew | apply IsS93.set_1) | exact HI210.out)) (by (with_reducible repeat (first | apply Kd.R_alloc | apply Kd.R_drewN | apply Kd.R_drew)); exact (Q_HO230 h0_)) (by decide)) hk (fun _ h => h.2)) (fun _ h => h.1)) (fun _ h_ => by first | trivial | exact h_ | exact h_.1))
              clear HO214
              clear HB
              clear HI210
              have HO214 := n0_
              have HB := n1_
              have HI210 := n2_
              clear n0_ n1_ n2_
              (try clear hb)
              (try clear hb2)
              (try clear hk)
              (try clear hi)
              refine hK.out _ _ ⟨v229, adz_v229, m7_, (by rw [ha.out]; exact putSel_upk 3 hb_ rfl rfl rfl), (by (with_reducible repeat (first | apply Kd.R_alloc | apply Kd.R_drewN | apply Kd.R_drew)); exact HO214.out), fun h0_ => absurd ((up_self b 6).symm.trans h0_) (by decide), (by repeat (first | (with_reducible first | exact HB.out | apply below_alloc | apply pw_below_drewN | apply below_drew1 | refine below_set ?_ (IsS93.ge HI210.out)) | exact HB.out)), z_HO230, Q_HA_HO230, fun _ => (by repeat (first | (with_reducible first | exact HI210.out | apply IsS93.alloc | apply IsS93.drewN | apply IsS93.drew | apply IsS93.set_1) | exact HI210.out)), fun h0_ => absurd ((hoff 7 (by kernel_rfl)).symm.trans h0_) (by decide)⟩
            refine steps_cons ?_ ?_
            · rintro b a w' ⟨v229, adz_v229, m7_, ha, Q_HO214, Q_HI210, Q_HB, Q_HO230, Q_HA_HO230, Q_HI210_e6, Q_X7_⟩ hb_ hon hoff
              refine ⟨_, rfl, fun K hK => ?_⟩
              have e57 : a.tmps[57]? = some (v229) := by rw [ha]; exact putSel_on (e := (4, 57, v229)) 2 rfl rfl (hon 4 (by kernel_rfl)) rfl
              have e59 : a.tmps[59]? = some (.int .i64 t231) := by rw [ha]; exact putSel_on (e := (6, 59, .int .i64 t231)) 3 rfl rfl (hon 6 (by kernel_rfl)) rfl
              replace ha := Aside0.mk ha
              have HO214 := Aside0.mk Q_HO214
              have HB := Aside0.mk Q_HB
              have HO230 := Aside0.mk (Q_HO230 (hon 4 (by kernel_rfl)))
              have HA_HO230 := Aside0.mk (Q_HA_HO230 (hon 4 (by kernel_rfl)))
              have HI210 := Aside0.mk (Q_HI210_e6 (hon 6 (by kernel_rfl)))
              obtain ⟨c_, hv_⟩ := HA_HO230.out
              rw [hv_] at e57
              refine value_ (w1 := w') (v := .pointer (some (adz_v229.add (t231).toNat))) (by rfl) rfl ?_ ?_
              · go_simp
                (try simp only [i64_w])
                try rfl
              refine hK.out _ _ ⟨v229, adz_v229, (.pointer (some (adz_v229.add (t231).toNat))), (by rw [ha.out]; exact putSel_upk 4 hb_ rfl rfl rfl), Q_HO214, fun h0_ => absurd ((hon 6 (by kernel_rfl)).symm.trans h0_) (by decide), Q_HB, Q_HO230, Q_HA_HO230, Q_HI210_e6, fun _ => rfl⟩
            refine steps_cons ?_ ?_
            · rintro b a w' ⟨v229, adz_v229, m7_, ha, Q_HO214, Q_HI210, Q_HB, Q_HO230, Q_HA_HO230, Q_HI210_e6, Q_X7_⟩ hb_ hon hoff
              refine ⟨_, rfl, fun K hK => ?_⟩
              have e60 : a.tmps[60]? = some (m7_) := by rw [ha]; exact putSel_on (e := (7, 60, m7_)) 4 rfl rfl (hon 7 (by kernel_rfl)) rfl
              rw [Q_X7_ (hon 7 (by kernel_rfl))] at e60
              replace ha := Aside0.mk ha
              have HO214 := Aside0.mk Q_HO214
              have HB := Aside0.mk Q_HB
              have HO230 := Aside0.mk (Q_HO230 (hon 4 (by kernel_rfl)))
              have HA_HO230 := Aside0.mk (Q_HA_HO230 (hon 4 (by kernel_rfl)))
              have HI210 := Aside0.mk (Q_HI210_e6 (hon 6 (by kernel_rfl)))
              obtain ⟨c_, hv_⟩ := HA_HO230.out
              have hF_ := HO230.out
              rw [hv_] at hF_
              obtain ⟨ad_, ea_, hx_⟩ := Kd.at_int (Kd.R_reads' hF_).2.2 t231 (of_eq_true pi233) (of_eq_true qi233)
              cases ea_
              refine value_ (w1 := w') (v := .int .i64 (rd y228 t231)) (by rfl) rfl ?_ ?_
              · go_simp
                (try simp only [i64_w])
                try rfl
              refine hK.out _ _ ⟨v229, adz_v229, m7_, (by rw [ha.out]; exact putSel_upk 5 hb_ rfl rfl rfl), Q_HO214, fun h0_ => absurd ((hon 6 (by kernel_rfl)).symm.trans h0_) (by decide), Q_HB, Q_HO230, Q_HA_HO230, Q_HI210_e6, Q_X7_⟩
            refine steps_cons ?_ ?_
            · rintro b a w' ⟨v229, adz_v229, m7_, ha, Q_HO214, Q_HI210, Q_HB, Q_HO230, Q_HA_HO230, Q_HI210_e6, Q_X7_⟩ hb_ hon hoff
              refine ⟨_, rfl, fun K hK => ?_⟩
              have e53 : a.tmps[53]? = some (.string t215) := by rw [ha]; exact (putSel_off rfl).trans rfl
              replace ha := Aside0.mk ha
              have HO214 := Aside0.mk Q_HO214
              have HB := Aside0.mk Q_HB
              have HI210 := Aside0.mk (Q_HI210_e6 (hon 6 (by kernel_rfl)))
              refine value_ (w1 := w') (v := .string t215) (by rfl) rfl ?_ ?_
              · go_simp
                (try simp only [i64_w])
                try rfl
              refine hK.out _ _ ⟨v229, adz_v229, m7_, (by rw [ha.out]; exact putSel_upk 6 hb_ rfl rfl rfl), Q_HO214, fun h0_ => absurd ((hon 6 (by kernel_rfl)).symm.trans h0_) (by decide), Q_HB, Q_HO230, Q_HA_HO230, Q_HI210_e6, Q_X7_⟩
            refine steps_cons ?_ ?_
            · rintro b a w' ⟨v229, adz_v229, m7_, ha, Q_HO214, Q_HI210, Q_HB, Q_HO230, Q_HA_HO230, Q_HI210_e6, Q_X7_⟩ hb_ hon hoff
              refine ⟨_, rfl, fun K hK => ?_⟩
              have e61 : a.tmps[61]? = some (.int .i64 (rd y228 t231)) := by rw [ha]; exact putSel_on (e := (8, 61, .int .i64 (rd y228 t231))) 5 rfl rfl (hon 8 (by kernel_rfl)) rfl
              replace ha := Aside0.mk ha
              have HO214 := Aside0.mk Q_HO214
              have HB := Aside0.mk Q_HB
              have HO230 := Aside0.mk (Q_HO230 (hon 4 (by kernel_rfl)))
              have HA_HO230 := Aside0.mk (Q_HA_HO230 (hon 4 (by kernel_rfl)))
              have HI210 := Aside0.mk (Q_HI210_e6 (hon 6 (by kernel_rfl)))
              refine value_ (w1 := w') (v := .int .i64 (rd y228 t231)) (by rfl) rfl ?_ ?_
              · go_simp
                (try simp only [i64_w])
                try rfl
              refine hK.out _ _ ⟨v229, adz_v229, m7_, (by rw [ha.out]; exact putSel_upk 7 hb_ rfl rfl rfl), Q_HO214, fun h0_ => absurd ((hon 6 (by kernel_rfl)).symm.trans h0_) (by decide), Q_HB, Q_HO230, Q_HA_HO230, Q_HI210_e6, Q_X7_⟩
            refine steps_cons ?_ ?_
            · rintro b a w' ⟨v229, adz_v229, m7_, ha, Q_HO214, Q_HI210, Q_HB, Q_HO230, Q_HA_HO230, Q_HI210_e6, Q_X7_⟩ hb_ hon hoff
              refine ⟨_, rfl, fun K hK => ?_⟩
              have e62 : a.tmps[62]? = some (.int .i64 t212) := by rw [ha]; exact (putSel_off rfl).trans rfl
              replace ha := Aside0.mk ha
              have HO214 := Aside0.mk Q_HO214
              have HB := Aside0.mk Q_HB
              have HO230 := Aside0.mk (Q_HO230 (hon 4 (by kernel_rfl)))
              have HA_HO230 := Aside0.mk (Q_HA_HO230 (hon 4 (by kernel_rfl)))
              have HI210 := Aside0.mk (Q_HI210_e6 (hon 6 (by kernel_rfl)))
              refine value_ (w1 := w') (v := .int .i64 t212) (by rfl) rfl ?_ ?_
              · go_simp
                (try simp only [i64_w])
                try rfl
              refine hK.out _ _ ⟨v229, adz_v229, m7_, (by rw [ha.out]; exact putSel_upk 8 hb_ rfl rfl rfl), Q_HO214, fun h0_ => absurd ((hon 6 (by kernel_rfl)).symm.trans h0_) (by decide), Q_HB, Q_HO230, Q_HA_HO230, Q_HI210_e6, Q_X7_⟩
            refine steps_cons ?_ ?_
            · rintro b a w' ⟨v229, adz_v229, m7_, ha, Q_HO214, Q_HI210, Q_HB, Q_HO230, Q_HA_HO230, Q_HI210_e6, Q_X7_⟩ hb_ hon hoff
              refine ⟨_, rfl, fun K hK => ?_⟩
              have e63 : a.tmps[63]? = some (.int .i64 (wrap64 ((wrap64 ((t211.length : Int) + t226)) - 1))) := by rw [ha]; exact (putSel_off rfl).trans rfl
              replace ha := Aside0.mk ha
              have HO214 := Aside0.mk Q_HO214
              have HB := Aside0.mk Q_HB
              have HO230 := Aside0.mk (Q_HO230 (hon 4 (by kernel_rfl)))
              have HA_HO230 := Aside0.mk (Q_HA_HO230 (hon 4 (by kernel_rfl)))
              have HI210 := Aside0.mk (Q_HI210_e6 (hon 6 (by kernel_rfl)))
              refine value_ (w1 := w') (v := .int .i64 (wrap64 ((wrap64 ((t211.length : Int) + t226)) - 1))) (by rfl) rfl ?_ ?_
              · go_simp
                (try simp only [i64_w])
                try rfl
              refine hK.out _ _ ⟨v229, adz_v229, m7_, (by rw [ha.out]; exact putSel_upk 9 hb_ rfl rfl rfl), Q_HO214, fun h0_ => absurd ((hon 6 (by kernel_rfl)).symm.trans h0_) (by decide), Q_HB, Q_HO230, Q_HA_HO230, Q_HI210_e6, Q_X7_⟩
            exact steps_nil
          rintro b a w40 hall ⟨v229, adz_v229, m7_, ha, Q_HO214, Q_HI210, Q_HB, Q_HO230, Q_HA_HO230, Q_HI210_e6, Q_X7_⟩
          clear HB HI210 HO214
          have hb2_ := hall 2 (by kernel_rfl)
          have hb3_ := hall 3 (by kernel_rfl)
          have hb4_ := hall 4 (by kernel_rfl)
          have hb6_ := hall 6 (by kernel_rfl)
          have hb7_ := hall 7 (by kernel_rfl)
          have hb8_ := hall 8 (by kernel_rfl)
          have hb11_ := hall 11 (by kernel_rfl)
          have hb12_ := hall 12 (by kernel_rfl)
          have hb13_ := hall 13 (by kernel_rfl)
          have hb14_ := hall 14 (by kernel_rfl)
          subst ha
          obtain rfl := Q_X7_ hb7_
          simp only [putSel, hb2_, hb3_, hb4_, hb6_, hb7_, hb8_, hb11_, hb12_, hb13_, hb14_, if_true, Act.put, List.setIfInBounds_toArray, List.set_cons_zero, List.set_cons_succ]
          have HO214 := Aside0.mk Q_HO214
          clear Q_HO214
          clear Q_HI210
          have HB := Aside0.mk Q_HB
          clear Q_HB
          have HO230 := Aside0.mk (Q_HO230 hb4_)
          clear Q_HO230
          have HA_HO230 := Aside0.mk (Q_HA_HO230 hb4_)
          clear Q_HA_HO230
          have HI210 := Aside0.mk (Q_HI210_e6 hb6_)
          clear Q_HI210_e6
          clear hall hb2_ hb3_ hb4_ hb6_ hb7_ hb8_ hb11_ hb12_ hb13_ hb14_
          obtain ⟨co41, eo41⟩ := HA_HO230.out
          clear HA_HO230
          subst eo41
          try go_wp2
          refine bodyPost_ret (results_list (rs := [.tmp 2, .tmp 3, .tmp 4, .tmp 5]) rfl (by simp) (.tmp (.tmp (.tmp (.tmp .nil))))) rfl ?_
          exact ⟨by first | rfl | (simp [errW_none, errW_some] <;> rfl) | (simp [*, errW_none, errW_some] <;> rfl), by repeat (first | (with_reducible first | exact HB.out | apply below_alloc | apply pw_below_drewN | apply below_drew1 | refine below_set ?_ (IsS93.ge HI210.out)) | exact HB.out)⟩
        · rw [if_neg c28] at H
          exact absurd H (by simp)
      · rw [if_neg c27] at H
        exact absurd H (by simp)
    · rw [if_neg c24] at H
      have c24b0 : (t216 == 1) = false := beq_eq_false_iff_ne.mpr c24
      have c24b1 : (t216 != 1) = true := bne_iff_ne.mpr c24
      by_cases c42 : t216 = 2
      · rw [if_pos c42] at H
        have c42b0 : (t216 == 2) = true := beq_iff_eq.mpr c42
        have c42b1 : (t216 != 2) = false := bne_eq_false_iff_eq.mpr c42
        clear c42
        by_cases c43 : 1 + t215.size ≤ 9223372036854775807
        · rw [if_pos c43] at H
          have c43b0 := eq_true c43
          have c43b1 : decide (1 + t215.size ≤ 9223372036854775807) = true := decide_eq_true c43
          try have c43b2 : (9223372036854775807 < 1 + t215.size) = False := eq_false (Nat.not_lt.2 c43)
          simp only [Option.some.injEq, Prod.mk.injEq] at H
          obtain ⟨rfl, rfl, rfl, rfl⟩ := H
          go_enter Try.func52, Try.ntmps52
          go_wp2_with (first | ((with_reducible refine gate_callee (f := 68) rfl ?_); refine goesL_ (some 12) rfl rfl Try.func68 (by kernel_rfl) rfl #[.slice A0 l0.length c0] rfl (by (try simp only [List.map_toArray, List.map_cons, List.map_nil]); first | done | rfl | (simp only [List.length_drop, List.length_take]; rfl)) ?_; (with_reducible refine (spec_l1Open.calls _ _ l0 t208 t209 w _ ?side1 ?side2 ?side3 A2.out).mono ?_); (case side1 => repeat (first | (with_reducible first | exact HB.out | apply below_alloc | apply pw_below_drewN | apply below_drew1) | exact HB.out)); (case side2 => exact HR0.out); (case side3 => exact HC0.out); rintro e w44 ⟨g210, rfl, hi, hb, hb2⟩; refine ⟨_, rfl, ?_⟩; have n0_ := Aside0.mk (hb); have n1_ := Aside0.mk (hi); clear HB; have HB := n0_; have HI210 := n1_; clear n0_ n1_; (try clear hb); (try clear hb2); (try clear hk); (try clear hi)) | ((with_reducible refine gate_callee (f := 47) rfl ?_); refine goesL_ (some 15) rfl rfl Try.func47 (by kernel_rfl) rfl #[.slice A0 l0.length c0] rfl (by (try simp only [List.map_toArray, List.map_cons, List.map_nil]); first | done | rfl | (simp only [List.length_drop, List.length_take]; rfl)) ?_; (with_reducible refine (spec_DrawRunPut.calls k _ _ l0 t211 t212 _ ?side1 ?side2 A3.out).mono ?_); (case side1 => repeat (first | exact (Kd.C_below HR0.out HB.out) | (with_reducible refine Kd.C_alloc ?_ _) | (with_reducible refine Kd.C_drewN ?_ _) | (with_reducible refine Kd.C_drew ?_))); (case side2 => exact HC0.out); rintro e w45 ⟨v213, rfl, ho0, hb⟩; refine ⟨_, rfl, ?_⟩; have n0_ := Aside0.mk (Kd.R_lower ho0 (below_size (by repeat (first | (with_reducible first | exact HB.out | apply below_alloc | apply pw_below_drewN | apply below_drew1 | refine below_set ?_ (IsS93.ge HI210.out)) | exact HB.out)))); have n1_ := Aside0.mk (IsS93.below (by repeat (first | (with_reducible first | exact HI210.out | apply IsS93.alloc | apply IsS93.drewN | apply IsS93.drew | apply IsS93.set_1) | exact HI210.out)) hb); have n2_ := Aside0.mk (below_step (by repeat (first | (with_reducible first | exact HB.out | apply below_alloc | apply pw_below_drewN | apply below_drew1 | refine below_set ?_ (IsS93.ge HI210.out)) | exact HB.out)) hb); clear HI210; clear HB; have HO214 := n0_; have HI210 := n1_; have HB := n2_; clear n0_ n1_ n2_; (try clear hb); (try clear hb2); (try clear hk); (try clear hi); (try clear ho0); obtain ⟨Ao46, co46, eo46⟩ := Kd.R_slice HO214.out; subst eo46) | ((with_reducible refine gate_callee (f := 49) rfl ?_); refine goesL_ (some 20) rfl rfl Try.func49 (by kernel_rfl) rfl #[.slice Ao46 t211.length co46, .int .i64 t212] rfl (by (try simp only [List.map_toArray, List.map_cons, List.map_nil]); first | done | rfl | (simp only [List.length_drop, List.length_take]; rfl)) ?_; (with_reducible refine (spec_RunPut.calls k _ _ t211 t212 t215 _ ?side1 ?side2 A4.out).mono ?_); (case side1 => repeat (first | exact (Kd.R_reads' HO214.out).2.2 | (with_reducible refine Kd.C_alloc ?_ _) | (with_reducible refine Kd.C_drewN ?_ _) | (with_reducible refine Kd.C_drew ?_))); (case side2 => exact (Kd.R_reads' HO214.out).2.1); rintro e w47 ⟨rfl, hb⟩; refine ⟨_, rfl, ?_⟩; have n0_ := Aside0.mk (Kd.R_below (by (with_reducible repeat (first | apply Kd.R_alloc | apply Kd.R_drewN | apply Kd.R_drew)); exact HO214.out) hb); have n1_ := Aside0.mk (IsS93.below (by repeat (first | (with_reducible first | exact HI210.out | apply IsS93.alloc | apply IsS93.drewN | apply IsS93.drew | apply IsS93.set_1) | exact HI210.out)) hb); have n2_ := Aside0.mk (below_step (by repeat (first | (with_reducible first | exact HB.out | apply below_alloc | apply pw_below_drewN | apply below_drew1 | refine below_set ?_ (IsS93.ge HI210.out)) | exact HB.out)) hb); clear HO214; clear HI210; clear HB; have HO214 := n0_; have HI210 := n1_; have HB := n2_; clear n0_ n1_ n2_; (try clear hb); (try clear hb2); (try clear hk); (try clear hi)) | ((with_reducible refine gate_callee (f := 69) rfl ?_); refine goesL_ (some 24) rfl rfl Try.func69 (by kernel_rfl) rfl #[.pointer (some ⟨g210, 0, none⟩), .int .i64 6] rfl (by (try simp only [List.map_toArray, List.map_cons, List.map_nil]); first | done | rfl | (simp only [List.length_drop, List.length_take]; rfl)) ?_; (with_reducible refine (spec_l1Rd_pick.calls k g210 t208 t209 6 t216 t217 w _ ?side1 ?side2 A5.out).mono ?_); (case side1 => repeat (first | (with_reducible first | exact HI210.out | apply IsS93.alloc | apply IsS93.drewN | apply IsS93.drew | apply IsS93.set_1) | exact HI210.out)); (case side2 => repeat (first | (with_reducible first | exact HB.out | apply below_alloc | apply pw_below_drewN | apply below_drew1 | refine below_set ?_ (IsS93.ge HI210.out)) | exact HB.out)); rintro e w48 ⟨rfl, hi, hb, hk⟩; refine ⟨_, rfl, ?_⟩; have n0_ := Aside0.mk (Kd.R_mono (Kd.R_keep (IsS93.apart (show IsS93 w _ g210 t208 t209 from by repeat (first | (with_reducible first | exact HI210.out | apply IsS93.alloc | apply IsS93.drewN | apply IsS93.drew | apply IsS93.set_1) | exact HI210.out)) (by (with_reducible repeat (first | apply Kd.R_alloc | apply Kd.R_drewN | apply Kd.R_drew)); exact HO214.out) (by decide)) hk (fun _ h => h.2)) (fun _ h => h.1)); have n1_ := Aside0.mk (hb); have n2_ := Aside0.mk (hi); clear HO214; clear HB; clear HI210; have HO214 := n0_; have HB := n1_; have HI210 := n2_; clear n0_ n1_ n2_; (try clear hb); (try clear hb2); (try clear hk); (try clear hi)))
          refine bodyPost_ret (results_list (rs := [.tmp 2, .tmp 3, .tmp 4, .tmp 5]) rfl (by simp) (.tmp (.tmp (.tmp (.tmp .nil))))) rfl ?_
          exact ⟨by first | rfl | (simp [errW_none, errW_some] <;> rfl) | (simp [*, errW_none, errW_some] <;> rfl), by repeat (first | (with_reducible first | exact HB.out | apply below_alloc | apply pw_below_drewN | apply below_drew1 | refine below_set ?_ (IsS93.ge HI210.out)) | exact HB.out)⟩
        · rw [if_neg c43] at H
          exact absurd H (by simp)
      · rw [if_neg c42] at H
        have c42b0 : (t216 == 2) = false := beq_eq_false_iff_ne.mpr c42
        have c42b1 : (t216 != 2) = true := bne_iff_ne.mpr c42
        by_cases c49 : t216 = 3
        · rw [if_pos c49] at H
          have c49b0 : (t216 == 3) = true := beq_iff_eq.mpr c49
          have c49b1 : (t216 != 3) = false := bne_eq_false_iff_eq.mpr c49
          clear c49
          replace H := Option.bind_eq_some_iff.mp H
          obtain ⟨⟨t234, t235⟩, A500, H⟩ := H
          replace H : (if 0 ≤ t234 then (if t234 ≤ (t215.size : Int) then ((some (([0, 0, 0, 0, 0, (-1), wrap64 (((t215.extract 0 (t234 : Int).toNat).size : Int) + 1)] : List Int) : List Int)).bind fun y236 => ((spec_l1Rd_pick.f k t208 t235 7).bind fun bt239 => (if 0 ≤ bt239.1 then (if bt239.1 < (y236.length : Int) then (some (t215.extract 0 (t234 : Int).toNat, rd y236 bt239.1, t212, (t211.length : Int))) else (none)) else (none)))) else (none)) else (none)) = some (r1, r2, r3, r4) := H
          have A50 := Aside0.mk A500
          clear A500
          by_cases c51 : 0 ≤ t234
          · rw [if_pos c51] at H
            have c51b0 := eq_true c51
            have c51b1 : decide (0 ≤ t234) = true := decide_eq_true c51
            clear c51
            by_cases c52 : t234 ≤ (t215.size : Int)
            · rw [if_pos c52] at H
              have c52b0 := eq_true c52
              have c52b1 : decide (t234 ≤ (t215.size : Int)) = true := decide_eq_true c52
              clear c52
              obtain ⟨y236, hy236⟩ : ∃ y_ : List Int, y_ = (([0, 0, 0, 0, 0, (-1), wrap64 (((t215.extract 0 (t234 : Int).toNat).size : Int) + 1)] : List Int)) := ⟨_, rfl⟩
              replace H : ((spec_l1Rd_pick.f k t208 t235 7).bind fun bt239 => (if 0 ≤ bt239.1 then (if bt239.1 < (y236.length : Int) then (some (t215.extract 0 (t234 : Int).toNat, rd y236 bt239.1, t212, (t211.length : Int))) else (none)) else (none))) = some (r1, r2, r3, r4) := by first | (rw [hy236]; with_reducible exact H) | (have H2_ := (Option.bind_some _ _).symm.trans H; rw [hy236]; with_reducible exact H2_) | (have H2_ := (Option.bind_some _ _).symm.trans H; with_reducible exact H2_) | with_reducible exact H | (rw [hy236]; exact H) | exact H
              have Ny236 := Aside0.mk hy236
              clear hy236
              replace H := Option.bind_eq_some_iff.mp H
              obtain ⟨⟨t239, t240⟩, A530, H⟩ := H
              replace H : (if 0 ≤ t239 then (if t239 < (y236.length : Int) then (some (t215.extract 0 (t234 : Int).toNat, rd y236 t239, t212, (t211.length : Int))) else (none)) else (none)) = some (r1, r2, r3, r4) := H
              have A53 := Aside0.mk A530
              clear A530
              by_cases c54 : 0 ≤ t239
              · rw [if_pos c54] at H
                have c54b0 : decide (0 ≤ t239) = true := decide_eq_true c54
                clear c54
                by_cases c55 : t239 < (y236.length : Int)
                · rw [if_pos c55] at H
                  have c55b0 : decide (t239 < (y236.length : Int)) = true := decide_eq_true c55
                  clear c55
                  simp only [Option.some.injEq, Prod.mk.injEq] at H
                  obtain ⟨rfl, rfl, rfl, rfl⟩ := H
                  go_enter Try.func52, Try.ntmps52
                  try go_wp2_with (first | ((with_reducible refine gate_callee (f := 68) rfl ?_); refine goesL_ (some 12) rfl rfl Try.func68 (by kernel_rfl) rfl #[.slice A0 l0.length c0] rfl (by (try simp only [List.map_toArray, List.map_cons, List.map_nil]); first | done | rfl | (simp only [List.length_drop, List.length_take]; rfl)) ?_; (with_reducible refine (spec_l1Open.calls _ _ l0 t208 t209 w _ ?side1 ?side2 ?side3 A2.out).mono ?_); (case side1 => repeat (first | (with_reducible first | exact HB.out | apply below_alloc | apply pw_below_drewN | apply below_drew1) | exact HB.out)); (case side2 => exact HR0.out); (case side3 => exact HC0.out); rintro e w56 ⟨g210, rfl, hi, hb, hb2⟩; refine ⟨_, rfl, ?_⟩; have n0_ := Aside0.mk (hb); have n1_ := Aside0.mk (hi); clear HB; have HB := n0_; have HI210 := n1_; clear n0_ n1_; (try clear hb); (try clear hb2); (try clear hk); (try clear hi)) | ((with_reducible refine gate_callee (f := 47) rfl ?_); refine goesL_ (some 15) rfl rfl Try.func47 (by kernel_rfl) rfl #[.slice A0 l0.length c0] rfl (by (try simp only [List.map_toArray, List.map_cons, List.map_nil]); first | done | rfl | (simp only [List.length_drop, List.length_take]; rfl)) ?_; (with_reducible refine (spec_DrawRunPut.calls k _ _ l0 t211 t212 _ ?side1 ?side2 A3.out).mono ?_); (case side1 => repeat (first | exact (Kd.C_below HR0.out HB.out) | (with_reducible refine Kd.C_alloc ?_ _) | (with_reducible refine Kd.C_drewN ?_ _) | (with_reducible refine Kd.C_drew ?_))); (case side2 => exact HC0.out); rintro e w57 ⟨v213, rfl, ho0, hb⟩; refine ⟨_, rfl, ?_⟩; have n0_ := Aside0.mk (Kd.R_lower ho0 (below_size (by repeat (first | (with_reducible first | exact HB.out | apply below_alloc | apply pw_below_drewN | apply below_drew1 | refine below_set ?_ (IsS93.ge HI210.out)) | exact HB.out)))); have n1_ := Aside0.mk (IsS93.below (by repeat (first | (with_reducible first | exact HI210.out | apply IsS93.alloc | apply IsS93.drewN | apply IsS93.drew | apply IsS93.set_1) | exact HI210.out)) hb); have n2_ := Aside0.mk (below_step (by repeat (first | (with_reducible first | exact HB.out | apply below_alloc | apply pw_below_drewN | apply below_drew1 | refine below_set ?_ (IsS93.ge HI210.out)) | exact HB.out)) hb); clear HI210; clear HB; have HO214 := n0_; have HI210 := n1_; have HB := n2_; clear n0_ n1_ n2_; (try clear hb); (try clear hb2); (try clear hk); (try clear hi); (try clear ho0); obtain ⟨Ao58, co58, eo58⟩ := Kd.R_slice HO214.out; subst eo58) | ((with_reducible refine gate_callee (f := 49) rfl ?_); refine goesL_ (some 20) rfl rfl Try.func49 (by kernel_rfl) rfl #[.slice Ao58 t211.length co58, .int .i64 t212] rfl (by (try simp only [List.map_toArray, List.map_cons, List.map_nil]); first | done | rfl | (simp only [List.length_drop, List.length_take]; rfl)) ?_; (with_reducible refine (spec_RunPut.calls k _ _ t211 t212 t215 _ ?side1 ?side2 A4.out).mono ?_); (case side1 => repeat (first | exact (Kd.R_reads' HO214.out).2.2 | (with_reducible refine Kd.C_alloc ?_ _) | (with_reducible refine Kd.C_drewN ?_ _) | (with_reducible refine Kd.C_drew ?_))); (case side2 => exact (Kd.R_reads' HO214.out).2.1); rintro e w59 ⟨rfl, hb⟩; refine ⟨_, rfl, ?_⟩; have n0_ := Aside0.mk (Kd.R_below (by (with_reducible repeat (first | apply Kd.R_alloc | apply Kd.R_drewN | apply Kd.R_drew)); exact HO214.out) hb); have n1_ := Aside0.mk (IsS93.below (by repeat (first | (with_reducible first | exact HI210.out | apply IsS93.alloc | apply IsS93.drewN | apply IsS93.drew | apply IsS93.set_1) | exact HI210.out)) hb); have n2_ := Aside0.mk (below_step (by repeat (first | (with_reducible first | exact HB.out | apply below_alloc | apply pw_below_drewN | apply below_drew1 | refine below_set ?_ (IsS93.ge HI210.out)) | exact HB.out)) hb); clear HO214; clear HI210; clear HB; have HO214 := n0_; have HI210 := n1_; have HB := n2_; clear n0_ n1_ n2_; (try clear hb); (try clear hb2); (try clear hk); (try clear hi)) | ((with_reducible refine gate_callee (f := 69) rfl ?_); refine goesL_ (some 24) rfl rfl Try.func69 (by kernel_rfl) rfl #[.pointer (some ⟨g210, 0, none⟩), .int .i64 6] rfl (by (try simp only [List.map_toArray, List.map_cons, List.map_nil]); first | done | rfl | (simp only [List.length_drop, List.length_take]; rfl)) ?_; (with_reducible refine (spec_l1Rd_pick.calls k g210 t208 t209 6 t216 t217 w _ ?side1 ?side2 A5.out).mono ?_); (case side1 => repeat (first | (with_reducible first | exact HI210.out | apply IsS93.alloc | apply IsS93.drewN | apply IsS93.drew | apply IsS93.set_1) | exact HI210.out)); (case side2 => repeat (first | (with_reducible first | exact HB.out | apply below_alloc | apply pw_below_drewN | apply below_drew1 | refine below_set ?_ (IsS93.ge HI210.out)) | exact HB.out)); rintro e w60 ⟨rfl, hi, hb, hk⟩; refine ⟨_, rfl, ?_⟩; have n0_ := Aside0.mk (Kd.R_mono (Kd.R_keep (IsS93.apart (show IsS93 w _ g210 t208 t209 from by repeat (first | (with_reducible first | exact HI210.out | apply IsS93.alloc | apply IsS93.drewN | apply IsS93.drew | apply IsS93.set_1) | exact HI210.out)) (by (with_reducible repeat (first | apply Kd.R_alloc | apply Kd.R_drewN | apply Kd.R_drew)); exact HO214.out) (by decide)) hk (fun _ h => h.2)) (fun _ h => h.1)); have n1_ := Aside0.mk (hb); have n2_ := Aside0.mk (hi); clear HO214; clear HB; clear HI210; have HO214 := n0_; have HB := n1_; have HI210 := n2_; clear n0_ n1_ n2_; (try clear hb); (try clear hb2); (try clear hk); (try clear hi)) | ((with_reducible refine gate_callee (f := 69) rfl ?_); refine goesL_ (some 51) rfl rfl Try.func69 (by kernel_rfl) rfl #[.pointer (some ⟨g210, 0, none⟩), .int .i64 (wrap64 ((t215.size : Int) + 1))] rfl (by (try simp only [List.map_toArray, List.map_cons, List.map_nil]); first | done | rfl | (simp only [List.length_drop, List.length_take]; rfl)) ?_; (with_reducible refine (spec_l1Rd_pick.calls k g210 t208 t217 (wrap64 ((t215.size : Int) + 1)) t234 t235 w _ ?side1 ?side2 A50.out).mono ?_); (case side1 => repeat (first | (with_reducible first | exact HI210.out | apply IsS93.alloc | apply IsS93.drewN | apply IsS93.drew | apply IsS93.set_1) | exact HI210.out)); (case side2 => repeat (first | (with_reducible first | exact HB.out | apply below_alloc | apply pw_below_drewN | apply below_drew1 | refine below_set ?_ (IsS93.ge HI210.out)) | exact HB.out)); rintro e w61 ⟨rfl, hi, hb, hk⟩; refine ⟨_, rfl, ?_⟩; have n0_ := Aside0.mk (Kd.R_mono (Kd.R_keep (IsS93.apart (show IsS93 w _ g210 t208 t217 from by repeat (first | (with_reducible first | exact HI210.out | apply IsS93.alloc | apply IsS93.drewN | apply IsS93.drew | apply IsS93.set_1) | exact HI210.out)) (by (with_reducible repeat (first | apply Kd.R_alloc | apply Kd.R_drewN | apply Kd.R_drew)); exact HO214.out) (by decide)) hk (fun _ h => h.2)) (fun _ h => h.1)); have n1_ := Aside0.mk (hb); have n2_ := Aside0.mk (hi); clear HO214; clear HB; clear HI210; have HO214 := n0_; have HB := n1_; have HI210 := n2_; clear n0_ n1_ n2_; (try clear hb); (try clear hb2); (try clear hk); (try clear hi)))
                  have pi241 : (0 ≤ (t239 : Int)) = True := eq_true (of_decide_eq_true (by first | (with_reducible assumption) | assumption))
                  have qi241 : (t239 < (y236.length : Int)) = True := eq_true (of_decide_eq_true (by first | (with_reducible assumption) | assumption))
                  have n0_ := Aside0.mk (Kd.R_drew HO214.out)
                  have n1_ := Aside0.mk (IsS93.drew HI210.out)
                  have n2_ := Aside0.mk (below_drew1 HB.out)
                  clear HO214
                  clear HI210
                  clear HB
                  have HO214 := n0_
                  have HI210 := n1_
                  have HB := n2_
                  clear n0_ n1_ n2_
                  refine start_ (n := 15) (S := fun w' => True) (ds := []) #[false, false, false, false, false, false, false, false, false, false, false, false, false, false, false] (by kernel_rfl) rfl rfl trivial (fun hHeld => ?_); refine with_tabW spec_DrawRunGet.tab15 spec_DrawRunGet.bits15 (fun HT_ HW_ => ?_)
                  generalize w61.drew = w62 at HO214 HI210 HB hHeld ⊢
                  refine pure_ (i := 0) (N := some 53) (v := ?_) (a' := ?_) #[true, false, false, false, false, false, false, false, false, false, false, false, false, false, false] rfl rfl (any_of HT_.out (by kernel_rfl)) (fun _ _ _ h => h) (Or.inl ⟨by rfl, ?_⟩) ?_ ?_
                  rotate_left
                  · intro w'
                    go_simp
                    with_reducible rfl
                  rotate_left
                  · simp only [Act.put, List.setIfInBounds_toArray, List.set_cons_zero, List.set_cons_succ, i64_w, i32_w]
                    rfl
                  refine pure_ (i := 1) (N := some 54) (v := ?_) (a' := ?_) #[true, true, false, false, false, false, false, false, false, false, false, false, false, false, false] rfl rfl (any_of HT_.out (by kernel_rfl)) (fun _ _ _ h => h) (Or.inl ⟨by rfl, ?_⟩) ?_ ?_
                  rotate_left
                  · intro w'
                    go_simp
                    with_reducible rfl
                  rotate_left
                  · simp only [Act.put, List.setIfInBounds_toArray, List.set_cons_zero, List.set_cons_succ, i64_w, i32_w]
                    rfl
                  refine pure_ (i := 5) (N := some 58) (v := ?_) (a' := ?_) #[true, true, false, false, false, true, false, false, false, false, false, false, false, false, false] rfl rfl (any_of HT_.out (by kernel_rfl)) (fun _ _ _ h => h) (Or.inl ⟨by rfl, ?_⟩) ?_ ?_
                  rotate_left
                  · intro w'
                    go_simp
                    with_reducible rfl
                  rotate_left
                  · simp only [Act.put, List.setIfInBounds_toArray, List.set_cons_zero, List.set_cons_succ, i64_w, i32_w]
                    rfl
                  refine pure_ (i := 9) (N := some 62) (v := ?_) (a' := ?_) #[true, true, false, false, false, true, false, false, false, true, false, false, false, false, false] rfl rfl (any_of HT_.out (by kernel_rfl)) (fun _ _ _ h => h) (Or.inl ⟨by rfl, ?_⟩) ?_ ?_
                  rotate_left
                  · intro w'
                    go_simp
                    with_reducible rfl
                  rotate_left
                  · simp only [Act.put, List.setIfInBounds_toArray, List.set_cons_zero, List.set_cons_succ, i64_w, i32_w]
                    rfl
                  refine pure_ (i := 10) (N := some 63) (v := ?_) (a' := ?_) #[true, true, false, false, false, true, false, false, false, true, true, false, false, false, false] rfl rfl (any_of HT_.out (by kernel_rfl)) (fun _ _ _ h => h) (Or.inl ⟨by rfl, ?_⟩) ?_ ?_
                  rotate_left
                  · intro w'
                    go_simp
                    with_reducible rfl
                  rotate_left
                  · simp only [Act.put, List.setIfInBounds_toArray, List.set_cons_zero, List.set_cons_succ, i64_w, i32_w]
                    rfl
                  refine inv_at [2, 3, 4, 6, 7, 8, 11, 12, 13, 14] (fun a0_ b a w' => ∃ (v237 : Value) (adz_v237 : Addr) (m7_ : Value), a = putSel a0_ b [(2, 55, .int .i64 ((t215.extract 0 (t234 : Int).toNat).size : Int)), (3, 56, .int .i64 (wrap64 (((t215.extract 0 (t234 : Int).toNat).size : Int) + 1))), (4, 57, v237), (6, 59, .int .i64 t239), (7, 60, m7_), (8, 61, .int .i64 (rd y236 t239)), (11, 2, .string (t215.extract 0 (t234 : Int).toNat)), (12, 3, .int .i64 (rd y236 t239)), (13, 4, .int .i64 t212), (14, 5, .int .i64 (t211.length : Int))] ∧ (Kd.R (Kd.int .i64) 3 w' w.heap.size (fun _ => True) (.slice Ao58 t211.length co58) t211) ∧ (b 6 = false → IsS93 w w' g210 t208 t235) ∧ (Below w.heap.size w w') ∧ (b 4 = true → Kd.R (Kd.int .i64) 3 w' w.heap.size (fun k_ => some k_ ≠ (.slice Ao58 t211.length co58 : Value).ownBlock) v237 y236) ∧ (b 4 = true → ∃ c_, (v237 : Value) = .slice (some adz_v237) y236.length c_) ∧ (b 6 = true → IsS93 w w' g210 t208 t240) ∧ (b 7 = true → (m7_ : Value) = .pointer (some (adz_v237.add (t239).toNat)))) HT_.out HW_.out (by kernel_rfl) (by kernel_rfl) ?_ ?_ ?_
                  · exact ⟨.bool false, ⟨0, 0, none⟩, .bool false, by simp only [putSel, Bool.false_eq_true, if_false], HO214.out, fun _ => HI210.out, HB.out, fun h_ => absurd h_ (by decide), fun h_ => absurd h_ (by decide), fun h_ => absurd h_ (by decide), fun h_ => absurd h_ (by decide)⟩
                  · skip
                    clear HB HI210 HO214
                    refine steps_cons ?_ ?_
                    · rintro b a w' ⟨v237, adz_v237, m7_, ha, Q_HO214, Q_HI210, Q_HB, Q_HO238, Q_HA_HO238, Q_HI210_e6, Q_X7_⟩ hb_ hon hoff
                      refine ⟨_, rfl, fun K hK => ?_⟩
                      have e54 : a.tmps[54]? = some (.string (t215.extract 0 (t234 : Int).toNat)) := by rw [ha]; exact (putSel_off rfl).trans rfl
                      replace ha := Aside0.mk ha
                      have HO214 := Aside0.mk Q_HO214
                      have HB := Aside0.mk Q_HB
                      refine value_ (w1 := w') (v := .int .i64 ((t215.extract 0 (t234 : Int).toNat).size : Int)) (by rfl) rfl ?_ ?_
                      · go_simp
                        (try simp only [i64_w])
                        try rfl
                      refine hK.out _ _ ⟨v237, adz_v237, m7_, (by rw [ha.out]; exact putSel_upk 0 hb_ rfl rfl rfl), Q_HO214, Q_HI210, Q_HB, fun h0_ => absurd ((hoff 4 (by kernel_rfl)).symm.trans h0_) (by decide), fun h0_ => absurd ((hoff 4 (by kernel_rfl)).symm.trans h0_) (by decide), Q_HI210_e6, fun h0_ => absurd ((hoff 7 (by kernel_rfl)).symm.trans h0_) (by decide)⟩
                    refine steps_cons ?_ ?_
                    · rintro b a w' ⟨v237, adz_v237, m7_, ha, Q_HO214, Q_HI210, Q_HB, Q_HO238, Q_HA_HO238, Q_HI210_e6, Q_X7_⟩ hb_ hon hoff
                      refine ⟨_, rfl, fun K hK => ?_⟩
                      have e55 : a.tmps[55]? = some (.int .i64 ((t215.extract 0 (t234 : Int).toNat).size : Int)) := by rw [ha]; exact putSel_on (e := (2, 55, .int .i64 ((t215.extract 0 (t234 : Int).toNat).size : Int))) 0 rfl rfl (hon 2 (by kernel_rfl)) rfl
                      replace ha := Aside0.mk ha
                      have HO214 := Aside0.mk Q_HO214
                      have HB := Aside0.mk Q_HB
                      refine value_ (w1 := w') (v := .int .i64 (wrap64 (((t215.extract 0 (t234 : Int).toNat).size : Int) + 1))) (by rfl) rfl ?_ ?_
                      · go_simp
                        (try simp only [i64_w])
                        try rfl
                      refine hK.out _ _ ⟨v237, adz_v237, m7_, (by rw [ha.out]; exact putSel_upk 1 hb_ rfl rfl rfl), Q_HO214, Q_HI210, Q_HB, fun h0_ => absurd ((hoff 4 (by kernel_rfl)).symm.trans h0_) (by decide), fun h0_ => absurd ((hoff 4 (by kernel_rfl)).symm.trans h0_) (by decide), Q_HI210_e6, fun h0_ => absurd ((hoff 7 (by kernel_rfl)).symm.trans h0_) (by decide)⟩
                    refine steps_cons ?_ ?_
                    · rintro b a w' ⟨v237, adz_v237, m7_, ha, Q_HO214, Q_HI210, Q_HB, Q_HO238, Q_HA_HO238, Q_HI210_e6, Q_X7_⟩ hb_ hon hoff
                      refine ⟨_, rfl, fun K hK => ?_⟩
                      have e56 : a.tmps[56]? = some (.int .i64 (wrap64 (((t215.extract 0 (t234 : Int).toNat).size : Int) + 1))) := by rw [ha]; exact putSel_on (e := (3, 56, .int .i64 (wrap64 (((t215.extract 0 (t234 : Int).toNat).size : Int) + 1)))) 1 rfl rfl (hon 3 (by kernel_rfl)) rfl
                      replace ha := Aside0.mk ha
                      have HO214 := Aside0.mk Q_HO214
                      have HB := Aside0.mk Q_HB
                      refine Kd.R_lit_step (Kd.int .i64) _ 3 ?hg (N := 57) ?hd (xs := ([0, 0, 0, 0, 0, (-1), wrap64 (((t215.extract 0 (t234 : Int).toNat).size : Int) + 1)] : List Int)) (inner := [.int .i64 0, .int .i64 0, .int .i64 0, .int .i64 0, .int .i64 0, .int .i64 (-1), .int .i64 (wrap64 (((t215.extract 0 (t234 : Int).toNat).size : Int) + 1))]) (ok := fun _ => True) (okp := fun _ => True) ?hr ?hp (fun _ hk => hk) trivial (Below.refl _ _) (Nat.le_refl _) (by simp) ?_; (case hd => rfl); (case hg => rfl); (case hr => first | (go_simp; done) | (go_simp; rfl)); (case hp => exact (Reps.one (show Kd.M (Kd.int .i64) _ _ _ 0 [.int .i64 0] from rfl) (Reps.one (show Kd.M (Kd.int .i64) _ _ _ 0 [.int .i64 0] from rfl) (Reps.one (show Kd.M (Kd.int .i64) _ _ _ 0 [.int .i64 0] from rfl) (Reps.one (show Kd.M (Kd.int .i64) _ _ _ 0 [.int .i64 0] from rfl) (Reps.one (show Kd.M (Kd.int .i64) _ _ _ 0 [.int .i64 0] from rfl) (Reps.one (show Kd.M (Kd.int .i64) _ _ _ (-1) [.int .i64 (-1)] from rfl) (Reps.one (show Kd.M (Kd.int .i64) _ _ _ (wrap64 (((t215.extract 0 (t234 : Int).toNat).size : Int) + 1)) [.int .i64 (wrap64 (((t215.extract 0 (t234 : Int).toNat).size : Int) + 1))] from rfl) (Reps.none _ _)))))))))
                      intro v237 w63 ho64 hb hg_ hnew_
                      clear hg_ hnew_
                      (first | rw [← Ny236.out] at ho64 | (simp only [Int.reduceToNat] at ho64; rw [← Ny236.out] at ho64))
                      have n0_ := Aside0.mk (Kd.R_elder' (by (with_reducible repeat (first | apply Kd.R_alloc | apply Kd.R_drewN | apply Kd.R_drew)); exact HO214.out) (Kd.R_base ho64) hb)
                      have n1_ := Aside0.mk (Kd.R_lower (Kd.R_new' ho64 (Kd.R_lt (by (with_reducible repeat (first | apply Kd.R_alloc | apply Kd.R_drewN | apply Kd.R_drew)); exact HO214.out))) (below_size (by repeat (first | (with_reducible first | exact HB.out | apply below_alloc | apply pw_below_drewN | apply below_drew1) | exact HB.out))))
                      have n3_ := Aside0.mk (below_step (by repeat (first | (with_reducible first | exact HB.out | apply below_alloc | apply pw_below_drewN | apply below_drew1) | exact HB.out)) hb)
                      have z_HI210 := fun (h0_ : b 6 = false) => (show IsS93 w w63 g210 t208 t235 from by first | exact (IsS93.below (by repeat (first | (with_reducible first | exact (Q_HI210 h0_) | apply IsS93.alloc | apply IsS93.drewN | apply IsS93.drew | apply IsS93.set_1) | exact (Q_HI210 h0_))) hb))
                      have z_HI210_e6 := fun (h0_ : b 6 = true) => (show IsS93 w w63 g210 t208 t240 from by first | exact (IsS93.below (by repeat (first | (with_reducible first | exact (Q_HI210_e6 h0_) | apply IsS93.alloc | apply IsS93.drewN | apply IsS93.drew | apply IsS93.set_1) | exact (Q_HI210_e6 h0_))) hb))
                      clear HO214
                      clear HB
                      have HO214 := n0_
                      have HO238 := n1_
                      have HB := n3_
                      clear n0_ n1_ n3_
                      clear hb ho64
                      obtain ⟨Ao65, co65, eo65⟩ := Kd.R_slice HO238.out
                      subst eo65
                      obtain ⟨ado65, fo65, _⟩ := Kd.at_int (Kd.R_reads' HO238.out).2.2 0 (by decide) (by rw [Ny236.out]; simp)
                      cases fo65
                      refine hK.out _ _ ⟨.slice (some ado65) y236.length co65, ado65, m7_, (by rw [ha.out]; exact putSel_upk 2 hb_ rfl rfl rfl), (by (with_reducible repeat (first | apply Kd.R_alloc | apply Kd.R_drewN | apply Kd.R_drew)); exact Kd.R_mono HO214.out (fun _ hk => by first | exact hk.2 | trivial)), z_HI210, (by repeat (first | (with_reducible first | exact HB.out | apply below_alloc | apply pw_below_drewN | apply below_drew1) | exact HB.out)), fun _ => (by (with_reducible repeat (first | apply Kd.R_alloc | apply Kd.R_drewN | apply Kd.R_drew)); exact Kd.R_mono HO238.out (fun _ hk => by first | exact hk.2 | trivial)), fun _ => ⟨_, rfl⟩, z_HI210_e6, fun h0_ => absurd ((hoff 7 (by kernel_rfl)).symm.trans h0_) (by decide)⟩
                    refine steps_cons ?_ ?_
                    · rintro b a w' ⟨v237, adz_v237, m7_, ha, Q_HO214, Q_HI210, Q_HB, Q_HO238, Q_HA_HO238, Q_HI210_e6, Q_X7_⟩ hb_ hon hoff
                      refine ⟨_, rfl, fun K hK => ?_⟩
                      have e58 : a.tmps[58]? = some (.pointer (some ⟨g210, 0, none⟩)) := by rw [ha]; exact (putSel_off rfl).trans rfl
                      replace ha := Aside0.mk ha
                      have HO214 := Aside0.mk Q_HO214
                      have HI210 := Aside0.mk (Q_HI210 hb_)
                      have HB := Aside0.mk Q_HB
                      refine goes_ Try.func69 (by kernel_rfl) rfl #[.pointer (some ⟨g210, 0, none⟩), .int .i64 7] (by rfl) rfl rfl (by first | (simp only [List.map_toArray, List.map_cons, List.map_nil, Act.eval, Array.getD_eq_getD_getElem?, Option.getD_some, e58]; done) | (simp only [List.map_toArray, List.map_cons, List.map_nil, Act.eval, Array.getD_eq_getD_getElem?, Option.getD_some, e58]; rfl)) ?_
                      with_reducible refine (spec_l1Rd_pick.calls k g210 t208 t235 7 t239 t240 w _ ?side1 ?side2 A53.out).mono ?_
                      (case side1 => repeat (first | (with_reducible first | exact HI210.out | apply IsS93.alloc | apply IsS93.drewN | apply IsS93.drew | apply IsS93.set_1) | exact HI210.out))
                      (case side2 => repeat (first | (with_reducible first | exact HB.out | apply below_alloc | apply pw_below_drewN | apply below_drew1 | refine below_set ?_ (IsS93.ge HI210.out)) | exact HB.out))
                      rintro e w63 ⟨rfl, hi, hb, hk⟩
                      refine ⟨_, rfl, ?_⟩
                      have n0_ := Aside0.mk (Kd.R_mono (Kd.R_keep (IsS93.apart (show IsS93 w _ g210 t208 t235 from by repeat (first | (with_reducible first | exact HI210.out | apply IsS93.alloc | apply IsS93.drewN | apply IsS93.drew | apply IsS93.set_1) | exact HI210.out)) (by (with_reducible repeat (first | apply Kd.R_alloc | apply Kd.R_drewN | apply Kd.R_drew)); exact HO214.out) (by decide)) hk (fun _ h => h.2)) (fun _ h => h.1))
                      have n1_ := Aside0.mk (hb)
                      have n2_ := Aside0.mk (hi)
                      have z_HO238 := fun (h0_ : b 4 = true) => (show Kd.R (Kd.int .i64) 3 w63 w.heap.size (fun k_ => some k_ ≠ (.slice Ao58 t211.length co58 : Value).ownBlock) v237 y236 from by first | exact (Kd.R_mono (Kd.R_keep (IsS93.apart (show IsS93 w _ g210 t208 t235 from by repeat (first | (with_reducible first | exact HI210.out | apply IsS93.alloc | apply IsS93.drewN | apply IsS93.drew | apply IsS93.set_1) | exact HI210.out)) (by (with_reducible repeat (first | apply Kd.R_alloc | apply Kd.R_drewN | apply Kd.R_drew)); exact (Q_HO238 h0_)) (by decide)) hk (fun _ h => h.2)) (fun _ h => h.1)) | exact Kd.R_mono (Kd.R_mono (Kd.R_keep (IsS93.apart (show IsS93 w _ g210 t208 t235 from by repeat (first | (with_reducible first | exact HI210.out | apply IsS93.alloc | apply IsS93.drewN | apply IsS93.drew | apply IsS93.set_1) | exact HI210.out)) (by (with_reducible repeat (first | apply Kd.R_alloc | apply Kd.R_drewN | apply Kd.R_drew)); exact (Q_HO238 h0_)) (by decide)) hk (fun _ h => h.2)) (fun _ h => h.1)) (fun _ h_ => by first | trivial | exact h_ | exact h_.1))
                      clear HO214
                      clear HB
                      clear HI210
                      have HO214 := n0_
                      have HB := n1_
                      have HI210 := n2_
                      clear n0_ n1_ n2_
                      (try clear hb)
                      (try clear hb2)
                      (try clear hk)
                      (try clear hi)
                      refine hK.out _ _ ⟨v237, adz_v237, m7_, (by rw [ha.out]; exact putSel_upk 3 hb_ rfl rfl rfl), (by (with_reducible repeat (first | apply Kd.R_alloc | apply Kd.R_drewN | apply Kd.R_drew)); exact HO214.out), fun h0_ => absurd ((up_self b 6).symm.trans h0_) (by decide), (by repeat (first | (with_reducible first | exact HB.out | apply below_alloc | apply pw_below_drewN | apply below_drew1 | refine below_set ?_ (IsS93.ge HI210.out)) | exact HB.out)), z_HO238, Q_HA_HO238, fun _ => (by repeat (first | (with_reducible first | exact HI210.out | apply IsS93.alloc | apply IsS93.drewN | apply IsS93.drew | apply IsS93.set_1) | exact HI210.out)), fun h0_ => absurd ((hoff 7 (by kernel_rfl)).symm.trans h0_) (by decide)⟩
                    refine steps_cons ?_ ?_
                    · rintro b a w' ⟨v237, adz_v237, m7_, ha, Q_HO214, Q_HI210, Q_HB, Q_HO238, Q_HA_HO238, Q_HI210_e6, Q_X7_⟩ hb_ hon hoff
                      refine ⟨_, rfl, fun K hK => ?_⟩
                      have e57 : a.tmps[57]? = some (v237) := by rw [ha]; exact putSel_on (e := (4, 57, v237)) 2 rfl rfl (hon 4 (by kernel_rfl)) rfl
                      have e59 : a.tmps[59]? = some (.int .i64 t239) := by rw [ha]; exact putSel_on (e := (6, 59, .int .i64 t239)) 3 rfl rfl (hon 6 (by kernel_rfl)) rfl
                      replace ha := Aside0.mk ha
                      have HO214 := Aside0.mk Q_HO214
                      have HB := Aside0.mk Q_HB
                      have HO238 := Aside0.mk (Q_HO238 (hon 4 (by kernel_rfl)))
                      have HA_HO238 := Aside0.mk (Q_HA_HO238 (hon 4 (by kernel_rfl)))
                      have HI210 := Aside0.mk (Q_HI210_e6 (hon 6 (by kernel_rfl)))
                      obtain ⟨c_, hv_⟩ := HA_HO238.out
                      rw [hv_] at e57
                      refine value_ (w1 := w') (v := .pointer (some (adz_v237.add (t239).toNat))) (by rfl) rfl ?_ ?_
                      · go_simp
                        (try simp only [i64_w])
                        try rfl
                      refine hK.out _ _ ⟨v237, adz_v237, (.pointer (some (adz_v237.add (t239).toNat))), (by rw [ha.out]; exact putSel_upk 4 hb_ rfl rfl rfl), Q_HO214, fun h0_ => absurd ((hon 6 (by kernel_rfl)).symm.trans h0_) (by decide), Q_HB, Q_HO238, Q_HA_HO238, Q_HI210_e6, fun _ => rfl⟩
                    refine steps_cons ?_ ?_
                    · rintro b a w' ⟨v237, adz_v237, m7_, ha, Q_HO214, Q_HI210, Q_HB, Q_HO238, Q_HA_HO238, Q_HI210_e6, Q_X7_⟩ hb_ hon hoff
                      refine ⟨_, rfl, fun K hK => ?_⟩
                      have e60 : a.tmps[60]? = some (m7_) := by rw [ha]; exact putSel_on (e := (7, 60, m7_)) 4 rfl rfl (hon 7 (by kernel_rfl)) rfl
                      rw [Q_X7_ (hon 7 (by kernel_rfl))] at e60
                      replace ha := Aside0.mk ha
                      have HO214 := Aside0.mk Q_HO214
                      have HB := Aside0.mk Q_HB
                      have HO238 := Aside0.mk (Q_HO238 (hon 4 (by kernel_rfl)))
                      have HA_HO238 := Aside0.mk (Q_HA_HO238 (hon 4 (by kernel_rfl)))
                      have HI210 := Aside0.mk (Q_HI210_e6 (hon 6 (by kernel_rfl)))
                      obtain ⟨c_, hv_⟩ := HA_HO238.out
                      have hF_ := HO238.out
                      rw [hv_] at hF_
                      obtain ⟨ad_, ea_, hx_⟩ := Kd.at_int (Kd.R_reads' hF_).2.2 t239 (of_eq_true pi241) (of_eq_true qi241)
                      cases ea_
                      refine value_ (w1 := w') (v := .int .i64 (rd y236 t239)) (by rfl) rfl ?_ ?_
                      · go_simp
                        (try simp only [i64_w])
                        try rfl
                      refine hK.out _ _ ⟨v237, adz_v237, m7_, (by rw [ha.out]; exact putSel_upk 5 hb_ rfl rfl rfl), Q_HO214, fun h0_ => absurd ((hon 6 (by kernel_rfl)).symm.trans h0_) (by decide), Q_HB, Q_HO238, Q_HA_HO238, Q_HI210_e6, Q_X7_⟩
                    refine steps_cons ?_ ?_
                    · rintro b a w' ⟨v237, adz_v237, m7_, ha, Q_HO214, Q_HI210, Q_HB, Q_HO238, Q_HA_HO238, Q_HI210_e6, Q_X7_⟩ hb_ hon hoff
                      refine ⟨_, rfl, fun K hK => ?_⟩
                      have e53 : a.tmps[53]? = some (.string (t215.extract 0 (t234 : Int).toNat)) := by rw [ha]; exact (putSel_off rfl).trans rfl
                      replace ha := Aside0.mk ha
                      have HO214 := Aside0.mk Q_HO214
                      have HB := Aside0.mk Q_HB
                      have HI210 := Aside0.mk (Q_HI210_e6 (hon 6 (by kernel_rfl)))
                      refine value_ (w1 := w') (v := .string (t215.extract 0 (t234 : Int).toNat)) (by rfl) rfl ?_ ?_
                      · go_simp
                        (try simp only [i64_w])
                        try rfl
                      refine hK.out _ _ ⟨v237, adz_v237, m7_, (by rw [ha.out]; exact putSel_upk 6 hb_ rfl rfl rfl), Q_HO214, fun h0_ => absurd ((hon 6 (by kernel_rfl)).symm.trans h0_) (by decide), Q_HB, Q_HO238, Q_HA_HO238, Q_HI210_e6, Q_X7_⟩
                    refine steps_cons ?_ ?_
                    · rintro b a w' ⟨v237, adz_v237, m7_, ha, Q_HO214, Q_HI210, Q_HB, Q_HO238, Q_HA_HO238, Q_HI210_e6, Q_X7_⟩ hb_ hon hoff
                      refine ⟨_, rfl, fun K hK => ?_⟩
                      have e61 : a.tmps[61]? = some (.int .i64 (rd y236 t239)) := by rw [ha]; exact putSel_on (e := (8, 61, .int .i64 (rd y236 t239))) 5 rfl rfl (hon 8 (by kernel_rfl)) rfl
                      replace ha := Aside0.mk ha
                      have HO214 := Aside0.mk Q_HO214
                      have HB := Aside0.mk Q_HB
                      have HO238 := Aside0.mk (Q_HO238 (hon 4 (by kernel_rfl)))
                      have HA_HO238 := Aside0.mk (Q_HA_HO238 (hon 4 (by kernel_rfl)))
                      have HI210 := Aside0.mk (Q_HI210_e6 (hon 6 (by kernel_rfl)))
                      refine value_ (w1 := w') (v := .int .i64 (rd y236 t239)) (by rfl) rfl ?_ ?_
                      · go_simp
                        (try simp only [i64_w])
                        try rfl
                      refine hK.out _ _ ⟨v237, adz_v237, m7_, (by rw [ha.out]; exact putSel_upk 7 hb_ rfl rfl rfl), Q_HO214, fun h0_ => absurd ((hon 6 (by kernel_rfl)).symm.trans h0_) (by decide), Q_HB, Q_HO238, Q_HA_HO238, Q_HI210_e6, Q_X7_⟩
                    refine steps_cons ?_ ?_
                    · rintro b a w' ⟨v237, adz_v237, m7_, ha, Q_HO214, Q_HI210, Q_HB, Q_HO238, Q_HA_HO238, Q_HI210_e6, Q_X7_⟩ hb_ hon hoff
                      refine ⟨_, rfl, fun K hK => ?_⟩
                      have e62 : a.tmps[62]? = some (.int .i64 t212) := by rw [ha]; exact (putSel_off rfl).trans rfl
                      replace ha := Aside0.mk ha
                      have HO214 := Aside0.mk Q_HO214
                      have HB := Aside0.mk Q_HB
                      have HO238 := Aside0.mk (Q_HO238 (hon 4 (by kernel_rfl)))
                      have HA_HO238 := Aside0.mk (Q_HA_HO238 (hon 4 (by kernel_rfl)))
                      have HI210 := Aside0.mk (Q_HI210_e6 (hon 6 (by kernel_rfl)))
                      refine value_ (w1 := w') (v := .int .i64 t212) (by rfl) rfl ?_ ?_
                      · go_simp
                        (try simp only [i64_w])
                        try rfl
                      refine hK.out _ _ ⟨v237, adz_v237, m7_, (by rw [ha.out]; exact putSel_upk 8 hb_ rfl rfl rfl), Q_HO214, fun h0_ => absurd ((hon 6 (by kernel_rfl)).symm.trans h0_) (by decide), Q_HB, Q_HO238, Q_HA_HO238, Q_HI210_e6, Q_X7_⟩
                    refine steps_cons ?_ ?_
                    · rintro b a w' ⟨v237, adz_v237, m7_, ha, Q_HO214, Q_HI210, Q_HB, Q_HO238, Q_HA_HO238, Q_HI210_e6, Q_X7_⟩ hb_ hon hoff
                      refine ⟨_, rfl, fun K hK => ?_⟩
                      have e63 : a.tmps[63]? = some (.int .i64 (t211.length : Int)) := by rw [ha]; exact (putSel_off rfl).trans rfl
                      replace ha := Aside0.mk ha
                      have HO214 := Aside0.mk Q_HO214
                      have HB := Aside0.mk Q_HB
                      have HO238 := Aside0.mk (Q_HO238 (hon 4 (by kernel_rfl)))
                      have HA_HO238 := Aside0.mk (Q_HA_HO238 (hon 4 (by kernel_rfl)))
                      have HI210 := Aside0.mk (Q_HI210_e6 (hon 6 (by kernel_rfl)))
                      refine value_ (w1 := w') (v := .int .i64 (t211.length : Int)) (by rfl) rfl ?_ ?_
                      · go_simp
                        (try simp only [i64_w])
                        try rfl
                      refine hK.out _ _ ⟨v237, adz_v237, m7_, (by rw [ha.out]; exact putSel_upk 9 hb_ rfl rfl rfl), Q_HO214, fun h0_ => absurd ((hon 6 (by kernel_rfl)).symm.trans h0_) (by decide), Q_HB, Q_HO238, Q_HA_HO238, Q_HI210_e6, Q_X7_⟩
                    exact steps_nil
                  rintro b a w67 hall ⟨v237, adz_v237, m7_, ha, Q_HO214, Q_HI210, Q_HB, Q_HO238, Q_HA_HO238, Q_HI210_e6, Q_X7_⟩
                  clear HB HI210 HO214
                  have hb2_ := hall 2 (by kernel_rfl)
                  have hb3_ := hall 3 (by kernel_rfl)
                  have hb4_ := hall 4 (by kernel_rfl)
                  have hb6_ := hall 6 (by kernel_rfl)
                  have hb7_ := hall 7 (by kernel_rfl)
                  have hb8_ := hall 8 (by kernel_rfl)
                  have hb11_ := hall 11 (by kernel_rfl)
                  have hb12_ := hall 12 (by kernel_rfl)
                  have hb13_ := hall 13 (by kernel_rfl)
                  have hb14_ := hall 14 (by kernel_rfl)
                  subst ha
                  obtain rfl := Q_X7_ hb7_
                  simp only [putSel, hb2_, hb3_, hb4_, hb6_, hb7_, hb8_, hb11_, hb12_, hb13_, hb14_, if_true, Act.put, List.setIfInBounds_toArray, List.set_cons_zero, List.set_cons_succ]
                  have HO214 := Aside0.mk Q_HO214
                  clear Q_HO214
                  clear Q_HI210
                  have HB := Aside0.mk Q_HB
                  clear Q_HB
                  have HO238 := Aside0.mk (Q_HO238 hb4_)
                  clear Q_HO238
                  have HA_HO238 := Aside0.mk (Q_HA_HO238 hb4_)
                  clear Q_HA_HO238
                  have HI210 := Aside0.mk (Q_HI210_e6 hb6_)
                  clear Q_HI210_e6
                  clear hall hb2_ hb3_ hb4_ hb6_ hb7_ hb8_ hb11_ hb12_ hb13_ hb14_
                  obtain ⟨co68, eo68⟩ := HA_HO238.out
                  clear HA_HO238
                  subst eo68
                  try go_wp2
                  refine bodyPost_ret (results_list (rs := [.tmp 2, .tmp 3, .tmp 4, .tmp 5]) rfl (by simp) (.tmp (.tmp (.tmp (.tmp .nil))))) rfl ?_
                  exact ⟨by first | rfl | (simp [errW_none, errW_some] <;> rfl) | (simp [*, errW_none, errW_some] <;> rfl), by repeat (first | (with_reducible first | exact HB.out | apply below_alloc | apply pw_below_drewN | apply below_drew1 | refine below_set ?_ (IsS93.ge HI210.out)) | exact HB.out)⟩
                · rw [if_neg c55] at H
                  exact absurd H (by simp)
              · rw [if_neg c54] at H
                exact absurd H (by simp)
            · rw [if_neg c52] at H
              exact absurd H (by simp)
          · rw [if_neg c51] at H
            exact absurd H (by simp)
        · rw [if_neg c49] at H
          have c49b0 : (t216 == 3) = false := beq_eq_false_iff_ne.mpr c49
          have c49b1 : (t216 != 3) = true := bne_iff_ne.mpr c49
          obtain ⟨y242, hy242⟩ : ∃ y_ : List Int, y_ = (([0, 0, 0, 0, 0, (-1), wrap64 ((t215.size : Int) + 1)] : List Int)) := ⟨_, rfl⟩
          replace H : ((spec_l1Rd_pick.f k t208 t217 7).bind fun bt245 => (if 0 ≤ bt245.1 then (if bt245.1 < (y242.length : Int) then (some (t215, rd y242 bt245.1, t212, (t211.length : Int))) else (none)) else (none))) = some (r1, r2, r3, r4) := by first | (rw [hy242]; with_reducible exact H) | (have H2_ := (Option.bind_some _ _).symm.trans H; rw [hy242]; with_reducible exact H2_) | (have H2_ := (Option.bind_some _ _).symm.trans H; with_reducible exact H2_) | with_reducible exact H | (rw [hy242]; exact H) | exact H
          have Ny242 := Aside0.mk hy242
          clear hy242
          replace H := Option.bind_eq_some_iff.mp H
          obtain ⟨⟨t245, t246⟩, A690, H⟩ := H
          replace H : (if 0 ≤ t245 then (if t245 < (y242.length : Int) then (some (t215, rd y242 t245, t212, (t211.length : Int))) else (none)) else (none)) = some (r1, r2, r3, r4) := H
          have A69 := Aside0.mk A690
          clear A690
          by_cases c70 : 0 ≤ t245
          · rw [if_pos c70] at H
            have c70b0 : decide (0 ≤ t245) = true := decide_eq_true c70
            clear c70
            by_cases c71 : t245 < (y242.length : Int)
            · rw [if_pos c71] at H
              have c71b0 : decide (t245 < (y242.length : Int)) = true := decide_eq_true c71
              clear c71
              simp only [Option.some.injEq, Prod.mk.injEq] at H
              obtain ⟨rfl, rfl, rfl, rfl⟩ := H
              go_enter Try.func52, Try.ntmps52
              try go_wp2_with (first | ((with_reducible refine gate_callee (f := 68) rfl ?_); refine goesL_ (some 12) rfl rfl Try.func68 (by kernel_rfl) rfl #[.slice A0 l0.length c0] rfl (by (try simp only [List.map_toArray, List.map_cons, List.map_nil]); first | done | rfl | (simp only [List.length_drop, List.length_take]; rfl)) ?_; (with_reducible refine (spec_l1Open.calls _ _ l0 t208 t209 w _ ?side1 ?side2 ?side3 A2.out).mono ?_); (case side1 => repeat (first | (with_reducible first | exact HB.out | apply below_alloc | apply pw_below_drewN | apply below_drew1) | exact HB.out)); (case side2 => exact HR0.out); (case side3 => exact HC0.out); rintro e w72 ⟨g210, rfl, hi, hb, hb2⟩; refine ⟨_, rfl, ?_⟩; have n0_ := Aside0.mk (hb); have n1_ := Aside0.mk (hi); clear HB; have HB := n0_; have HI210 := n1_; clear n0_ n1_; (try clear hb); (try clear hb2); (try clear hk); (try clear hi)) | ((with_reducible refine gate_callee (f := 47) rfl ?_); refine goesL_ (some 15) rfl rfl Try.func47 (by kernel_rfl) rfl #[.slice A0 l0.length c0] rfl (by (try simp only [List.map_toArray, List.map_cons, List.map_nil]); first | done | rfl | (simp only [List.length_drop, List.length_take]; rfl)) ?_; (with_reducible refine (spec_DrawRunPut.calls k _ _ l0 t211 t212 _ ?side1 ?side2 A3.out).mono ?_); (case side1 => repeat (first | exact (Kd.C_below HR0.out HB.out) | (with_reducible refine Kd.C_alloc ?_ _) | (with_reducible refine Kd.C_drewN ?_ _) | (with_reducible refine Kd.C_drew ?_))); (case side2 => exact HC0.out); rintro e w73 ⟨v213, rfl, ho0, hb⟩; refine ⟨_, rfl, ?_⟩; have n0_ := Aside0.mk (Kd.R_lower ho0 (below_size (by repeat (first | (with_reducible first | exact HB.out | apply below_alloc | apply pw_below_drewN | apply below_drew1 | refine below_set ?_ (IsS93.ge HI210.out)) | exact HB.out)))); have n1_ := Aside0.mk (IsS93.below (by repeat (first | (with_reducible first | exact HI210.out | apply IsS93.alloc | apply IsS93.drewN | apply IsS93.drew | apply IsS93.set_1) | exact HI210.out)) hb); have n2_ := Aside0.mk (below_step (by repeat (first | (with_reducible first | exact HB.out | apply below_alloc | apply pw_below_drewN | apply below_drew1 | refine below_set ?_ (IsS93.ge HI210.out)) | exact HB.out)) hb); clear HI210; clear HB; have HO214 := n0_; have HI210 := n1_; have HB := n2_; clear n0_ n1_ n2_; (try clear hb); (try clear hb2); (try clear hk); (try clear hi); (try clear ho0); obtain ⟨Ao74, co74, eo74⟩ := Kd.R_slice HO214.out; subst eo74) | ((with_reducible refine gate_callee (f := 49) rfl ?_); refine goesL_ (some 20) rfl rfl Try.func49 (by kernel_rfl) rfl #[.slice Ao74 t211.length co74, .int .i64 t212] rfl (by (try simp only [List.map_toArray, List.map_cons, List.map_nil]); first | done | rfl | (simp only [List.length_drop, List.length_take]; rfl)) ?_; (with_reducible refine (spec_RunPut.calls k _ _ t211 t212 t215 _ ?side1 ?side2 A4.out).mono ?_); (case side1 => repeat (first | exact (Kd.R_reads' HO214.out).2.2 | (with_reducible refine Kd.C_alloc ?_ _) | (with_reducible refine Kd.C_drewN ?_ _) | (with_reducible refine Kd.C_drew ?_))); (case side2 => exact (Kd.R_reads' HO214.out).2.1); rintro e w75 ⟨rfl, hb⟩; refine ⟨_, rfl, ?_⟩; have n0_ := Aside0.mk (Kd.R_below (by (with_reducible repeat (first | apply Kd.R_alloc | apply Kd.R_drewN | apply Kd.R_drew)); exact HO214.out) hb); have n1_ := Aside0.mk (IsS93.below (by repeat (first | (with_reducible first | exact HI210.out | apply IsS93.alloc | apply IsS93.drewN | apply IsS93.drew | apply IsS93.set_1) | exact HI210.out)) hb); have n2_ := Aside0.mk (below_step (by repeat (first | (with_reducible first | exact HB.out | apply below_alloc | apply pw_below_drewN | apply below_drew1 | refine below_set ?_ (IsS93.ge HI210.out)) | exact HB.out)) hb); clear HO214; clear HI210; clear HB; have HO214 := n0_; have HI210 := n1_; have HB := n2_; clear n0_ n1_ n2_; (try clear hb); (try clear hb2); (try clear hk); (try clear hi)) | ((with_reducible refine gate_callee (f := 69) rfl ?_); refine goesL_ (some 24) rfl rfl Try.func69 (by kernel_rfl) rfl #[.pointer (some ⟨g210, 0, none⟩), .int .i64 6] rfl (by (try simp only [List.map_toArray, List.map_cons, List.map_nil]); first | done | rfl | (simp only [List.length_drop, List.length_take]; rfl)) ?_; (with_reducible refine (spec_l1Rd_pick.calls k g210 t208 t209 6 t216 t217 w _ ?side1 ?side2 A5.out).mono ?_); (case side1 => repeat (first | (with_reducible first | exact HI210.out | apply IsS93.alloc | apply IsS93.drewN | apply IsS93.drew | apply IsS93.set_1) | exact HI210.out)); (case side2 => repeat (first | (with_reducible first | exact HB.out | apply below_alloc | apply pw_below_drewN | apply below_drew1 | refine below_set ?_ (IsS93.ge HI210.out)) | exact HB.out)); rintro e w76 ⟨rfl, hi, hb, hk⟩; refine ⟨_, rfl, ?_⟩; have n0_ := Aside0.mk (Kd.R_mono (Kd.R_keep (IsS93.apart (show IsS93 w _ g210 t208 t209 from by repeat (first | (with_reducible first | exact HI210.out | apply IsS93.alloc | apply IsS93.drewN | apply IsS93.drew | apply IsS93.set_1) | exact HI210.out)) (by (with_reducible repeat (first | apply Kd.R_alloc | apply Kd.R_drewN | apply Kd.R_drew)); exact HO214.out) (by decide)) hk (fun _ h => h.2)) (fun _ h => h.1)); have n1_ := Aside0.mk (hb); have n2_ := Aside0.mk (hi); clear HO214; clear HB; clear HI210; have HO214 := n0_; have HB := n1_; have HI210 := n2_; clear n0_ n1_ n2_; (try clear hb); (try clear hb2); (try clear hk); (try clear hi)))
              have pi247 : (0 ≤ (t245 : Int)) = True := eq_true (of_decide_eq_true (by first | (with_reducible assumption) | assumption))
              have qi247 : (t245 < (y242.length : Int)) = True := eq_true (of_decide_eq_true (by first | (with_reducible assumption) | assumption))
              have n0_ := Aside0.mk (Kd.R_drew HO214.out)
              have n1_ := Aside0.mk (IsS93.drew HI210.out)
              have n2_ := Aside0.mk (below_drew1 HB.out)
              clear HO214
              clear HI210
              clear HB
              have HO214 := n0_
              have HI210 := n1_
              have HB := n2_
              clear n0_ n1_ n2_
              refine start_ (n := 15) (S := fun w' => True) (ds := []) #[false, false, false, false, false, false, false, false, false, false, false, false, false, false, false] (by kernel_rfl) rfl rfl trivial (fun hHeld => ?_); refine with_tabW spec_DrawRunGet.tab15 spec_DrawRunGet.bits15 (fun HT_ HW_ => ?_)
              generalize w76.drew = w77 at HO214 HI210 HB hHeld ⊢
              refine pure_ (i := 0) (N := some 53) (v := ?_) (a' := ?_) #[true, false, false, false, false, false, false, false, false, false, false, false, false, false, false] rfl rfl (any_of HT_.out (by kernel_rfl)) (fun _ _ _ h => h) (Or.inl ⟨by rfl, ?_⟩) ?_ ?_
              rotate_left
              · intro w'
                go_simp
                with_reducible rfl
              rotate_left
              · simp only [Act.put, List.setIfInBounds_toArray, List.set_cons_zero, List.set_cons_succ, i64_w, i32_w]
                rfl
              refine pure_ (i := 1) (N := some 54) (v := ?_) (a' := ?_) #[true, true, false, false, false, false, false, false, false, false, false, false, false, false, false] rfl rfl (any_of HT_.out (by kernel_rfl)) (fun _ _ _ h => h) (Or.inl ⟨by rfl, ?_⟩) ?_ ?_
              rotate_left
              · intro w'
                go_simp
                with_reducible rfl
              rotate_left
              · simp only [Act.put, List.setIfInBounds_toArray, List.set_cons_zero, List.set_cons_succ, i64_w, i32_w]
                rfl
              refine pure_ (i := 5) (N := some 58) (v := ?_) (a' := ?_) #[true, true, false, false, false, true, false, false, false, false, false, false, false, false, false] rfl rfl (any_of HT_.out (by kernel_rfl)) (fun _ _ _ h => h) (Or.inl ⟨by rfl, ?_⟩) ?_ ?_
              rotate_left
              · intro w'
                go_simp
                with_reducible rfl
              rotate_left
              · simp only [Act.put, List.setIfInBounds_toArray, List.set_cons_zero, List.set_cons_succ, i64_w, i32_w]
                rfl
              refine pure_ (i := 9) (N := some 62) (v := ?_) (a' := ?_) #[true, true, false, false, false, true, false, false, false, true, false, false, false, false, false] rfl rfl (any_of HT_.out (by kernel_rfl)) (fun _ _ _ h => h) (Or.inl ⟨by rfl, ?_⟩) ?_ ?_
              rotate_left
              · intro w'
                go_simp
                with_reducible rfl
              rotate_left
              · simp only [Act.put, List.setIfInBounds_toArray, List.set_cons_zero, List.set_cons_succ, i64_w, i32_w]
                rfl
              refine pure_ (i := 10) (N := some 63) (v := ?_) (a' := ?_) #[true, true, false, false, false, true, false, false, false, true, true, false, false, false, false] rfl rfl (any_of HT_.out (by kernel_rfl)) (fun _ _ _ h => h) (Or.inl ⟨by rfl, ?_⟩) ?_ ?_
              rotate_left
              · intro w'
                go_simp
                with_reducible rfl
              rotate_left
              · simp only [Act.put, List.setIfInBounds_toArray, List.set_cons_zero, List.set_cons_succ, i64_w, i32_w]
                rfl
              refine inv_at [2, 3, 4, 6, 7, 8, 11, 12, 13, 14] (fun a0_ b a w' => ∃ (v243 : Value) (adz_v243 : Addr) (m7_ : Value), a = putSel a0_ b [(2, 55, .int .i64 (t215.size : Int)), (3, 56, .int .i64 (wrap64 ((t215.size : Int) + 1))), (4, 57, v243), (6, 59, .int .i64 t245), (7, 60, m7_), (8, 61, .int .i64 (rd y242 t245)), (11, 2, .string t215), (12, 3, .int .i64 (rd y242 t245)), (13, 4, .int .i64 t212), (14, 5, .int .i64 (t211.length : Int))] ∧ (Kd.R (Kd.int .i64) 3 w' w.heap.size (fun _ => True) (.slice Ao74 t211.length co74) t211) ∧ (b 6 = false → IsS93 w w' g210 t208 t217) ∧ (Below w.heap.size w w') ∧ (b 4 = true → Kd.R (Kd.int .i64) 3 w' w.heap.size (fun k_ => some k_ ≠ (.slice Ao74 t211.length co74 : Value).ownBlock) v243 y242) ∧ (b 4 = true → ∃ c_, (v243 : Value) = .slice (some adz_v243) y242.length c_) ∧ (b 6 = true → IsS93 w w' g210 t208 t246) ∧ (b 7 = true → (m7_ : Value) = .pointer (some (adz_v243.add (t245).toNat)))) HT_.out HW_.out (by kernel_rfl) (by kernel_rfl) ?_ ?_ ?_
              · exact ⟨.bool false, ⟨0, 0, none⟩, .bool false, by simp only [putSel, Bool.false_eq_true, if_false], HO214.out, fun _ => HI210.out, HB.out, fun h_ => absurd h_ (by decide), fun h_ => absurd h_ (by decide), fun h_ => absurd h_ (by decide), fun h_ => absurd h_ (by decide)⟩
              · skip
                clear HB HI210 HO214
                refine steps_cons ?_ ?_
                · rintro b a w' ⟨v243, adz_v243, m7_, ha, Q_HO214, Q_HI210, Q_HB, Q_HO244, Q_HA_HO244, Q_HI210_e6, Q_X7_⟩ hb_ hon hoff
                  refine ⟨_, rfl, fun K hK => ?_⟩
                  have e54 : a.tmps[54]? = some (.string t215) := by rw [ha]; exact (putSel_off rfl).trans rfl
                  replace ha := Aside0.mk ha
                  have HO214 := Aside0.mk Q_HO214
                  have HB := Aside0.mk Q_HB
                  refine value_ (w1 := w') (v := .int .i64 (t215.size : Int)) (by rfl) rfl ?_ ?_
                  · go_simp
                    (try simp only [i64_w])
                    try rfl
                  refine hK.out _ _ ⟨v243, adz_v243, m7_, (by rw [ha.out]; exact putSel_upk 0 hb_ rfl rfl rfl), Q_HO214, Q_HI210, Q_HB, fun h0_ => absurd ((hoff 4 (by kernel_rfl)).symm.trans h0_) (by decide), fun h0_ => absurd ((hoff 4 (by kernel_rfl)).symm.trans h0_) (by decide), Q_HI210_e6, fun h0_ => absurd ((hoff 7 (by kernel_rfl)).symm.trans h0_) (by decide)⟩
                refine steps_cons ?_ ?_
                · rintro b a w' ⟨v243, adz_v243, m7_, ha, Q_HO214, Q_HI210, Q_HB, Q_HO244, Q_HA_HO244, Q_HI210_e6, Q_X7_⟩ hb_ hon hoff
                  refine ⟨_, rfl, fun K hK => ?_⟩
                  have e55 : a.tmps[55]? = some (.int .i64 (t215.size : Int)) := by rw [ha]; exact putSel_on (e := (2, 55, .int .i64 (t215.size : Int))) 0 rfl rfl (hon 2 (by kernel_rfl)) rfl
                  replace ha := Aside0.mk ha
                  have HO214 := Aside0.mk Q_HO214
                  have HB := Aside0.mk Q_HB
                  refine value_ (w1 := w') (v := .int .i64 (wrap64 ((t215.size : Int) + 1))) (by rfl) rfl ?_ ?_
                  · go_simp
                    (try simp only [i64_w])
                    try rfl
                  refine hK.out _ _ ⟨v243, adz_v243, m7_, (by rw [ha.out]; exact putSel_upk 1 hb_ rfl rfl rfl), Q_HO214, Q_HI210, Q_HB, fun h0_ => absurd ((hoff 4 (by kernel_rfl)).symm.trans h0_) (by decide), fun h0_ => absurd ((hoff 4 (by kernel_rfl)).symm.trans h0_) (by decide), Q_HI210_e6, fun h0_ => absurd ((hoff 7 (by kernel_rfl)).symm.trans h0_) (by decide)⟩
                refine steps_cons ?_ ?_
                · rintro b a w' ⟨v243, adz_v243, m7_, ha, Q_HO214, Q_HI210, Q_HB, Q_HO244, Q_HA_HO244, Q_HI210_e6, Q_X7_⟩ hb_ hon hoff
                  refine ⟨_, rfl, fun K hK => ?_⟩
                  have e56 : a.tmps[56]? = some (.int .i64 (wrap64 ((t215.size : Int) + 1))) := by rw [ha]; exact putSel_on (e := (3, 56, .int .i64 (wrap64 ((t215.size : Int) + 1)))) 1 rfl rfl (hon 3 (by kernel_rfl)) rfl
                  replace ha := Aside0.mk ha
                  have HO214 := Aside0.mk Q_HO214
                  have HB := Aside0.mk Q_HB
                  refine Kd.R_lit_step (Kd.int .i64) _ 3 ?hg (N := 57) ?hd (xs := ([0, 0, 0, 0, 0, (-1), wrap64 ((t215.size : Int) + 1)] : List Int)) (inner := [.int .i64 0, .int .i64 0, .int .i64 0, .int .i64 0, .int .i64 0, .int .i64 (-1), .int .i64 (wrap64 ((t215.size : Int) + 1))]) (ok := fun _ => True) (okp := fun _ => True) ?hr ?hp (fun _ hk => hk) trivial (Below.refl _ _) (Nat.le_refl _) (by simp) ?_; (case hd => rfl); (case hg => rfl); (case hr => first | (go_simp; done) | (go_simp; rfl)); (case hp => exact (Reps.one (show Kd.M (Kd.int .i64) _ _ _ 0 [.int .i64 0] from rfl) (Reps.one (show Kd.M (Kd.int .i64) _ _ _ 0 [.int .i64 0] from rfl) (Reps.one (show Kd.M (Kd.int .i64) _ _ _ 0 [.int .i64 0] from rfl) (Reps.one (show Kd.M (Kd.int .i64) _ _ _ 0 [.int .i64 0] from rfl) (Reps.one (show Kd.M (Kd.int .i64) _ _ _ 0 [.int .i64 0] from rfl) (Reps.one (show Kd.M (Kd.int .i64) _ _ _ (-1) [.int .i64 (-1)] from rfl) (Reps.one (show Kd.M (Kd.int .i64) _ _ _ (wrap64 ((t215.size : Int) + 1)) [.int .i64 (wrap64 ((t215.size : Int) + 1))] from rfl) (Reps.none _ _)))))))))
                  intro v243 w78 ho79 hb hg_ hnew_
                  clear hg_ hnew_
                  (first | rw [← Ny242.out] at ho79 | (simp only [Int.reduceToNat] at ho79; rw [← Ny242.out] at ho79))
                  have n0_ := Aside0.mk (Kd.R_elder' (by (with_reducible repeat (first | apply Kd.R_alloc | apply Kd.R_drewN | apply Kd.R_drew)); exact HO214.out) (Kd.R_base ho79) hb)
                  have n1_ := Aside0.mk (Kd.R_lower (Kd.R_new' ho79 (Kd.R_lt (by (with_reducible repeat (first | apply Kd.R_alloc | apply Kd.R_drewN | apply Kd.R_drew)); exact HO214.out))) (below_size (by repeat (first | (with_reducible first | exact HB.out | apply below_alloc | apply pw_below_drewN | apply below_drew1) | exact HB.out))))
                  have n3_ := Aside0.mk (below_step (by repeat (first | (with_reducible first | exact HB.out | apply below_alloc | apply pw_below_drewN | apply below_drew1) | exact HB.out)) hb)
                  have z_HI210 := fun (h0_ : b 6 = false) => (show IsS93 w w78 g210 t208 t217 from by first | exact (IsS93.below (by repeat (first | (with_reducible first | exact (Q_HI210 h0_) | apply IsS93.alloc | apply IsS93.drewN | apply IsS93.drew | apply IsS93.set_1) | exact (Q_HI210 h0_))) hb))
                  have z_HI210_e6 := fun (h0_ : b 6 = true) => (show IsS93 w w78 g210 t208 t246 from by first | exact (IsS93.below (by repeat (first | (with_reducible first | exact (Q_HI210_e6 h0_) | apply IsS93.alloc | apply IsS93.drewN | apply IsS93.drew | apply IsS93.set_1) | exact (Q_HI210_e6 h0_))) hb))
                  clear HO214
                  clear HB
                  have HO214 := n0_
                  have HO244 := n1_
                  have HB := n3_
                  clear n0_ n1_ n3_
                  clear hb ho79
                  obtain ⟨Ao80, co80, eo80⟩ := Kd.R_slice HO244.out
                  subst eo80
                  obtain ⟨ado80, fo80, _⟩ := Kd.at_int (Kd.R_reads' HO244.out).2.2 0 (by decide) (by rw [Ny242.out]; simp)
                  cases fo80
                  refine hK.out _ _ ⟨.slice (some ado80) y242.length co80, ado80, m7_, (by rw [ha.out]; exact putSel_upk 2 hb_ rfl rfl rfl), (by (with_reducible repeat (first | apply Kd.R_alloc | apply Kd.R_drewN | apply Kd.R_drew)); exact Kd.R_mono HO214.out (fun _ hk => by first | exact hk.2 | trivial)), z_HI210, (by repeat (first | (with_reducible first | exact HB.out | apply below_alloc | apply pw_below_drewN | apply below_drew1) | exact HB.out)), fun _ => (by (with_reducible repeat (first | apply Kd.R_alloc | apply Kd.R_drewN | apply Kd.R_drew)); exact Kd.R_mono HO244.out (fun _ hk => by first | exact hk.2 | trivial)), fun _ => ⟨_, rfl⟩, z_HI210_e6, fun h0_ => absurd ((hoff 7 (by kernel_rfl)).symm.trans h0_) (by decide)⟩
                refine steps_cons ?_ ?_
                · rintro b a w' ⟨v243, adz_v243, m7_, ha, Q_HO214, Q_HI210, Q_HB, Q_HO244, Q_HA_HO244, Q_HI210_e6, Q_X7_⟩ hb_ hon hoff
                  refine ⟨_, rfl, fun K hK => ?_⟩
                  have e58 : a.tmps[58]? = some (.pointer (some ⟨g210, 0, none⟩)) := by rw [ha]; exact (putSel_off rfl).trans rfl
                  replace ha := Aside0.mk ha
                  have HO214 := Aside0.mk Q_HO214
                  have HI210 := Aside0.mk (Q_HI210 hb_)
                  have HB := Aside0.mk Q_HB
                  refine goes_ Try.func69 (by kernel_rfl) rfl #[.pointer (some ⟨g210, 0, none⟩), .int .i64 7] (by rfl) rfl rfl (by first | (simp only [List.map_toArray, List.map_cons, List.map_nil, Act.eval, Array.getD_eq_getD_getElem?, Option.getD_some, e58]; done) | (simp only [List.map_toArray, List.map_cons, List.map_nil, Act.eval, Array.getD_eq_getD_getElem?, Option.getD_some, e58]; rfl)) ?_
                  with_reducible refine (spec_l1Rd_pick.calls k g210 t208 t217 7 t245 t246 w _ ?side1 ?side2 A69.out).mono ?_
                  (case side1 => repeat (first | (with_reducible first | exact HI210.out | apply IsS93.alloc | apply IsS93.drewN | apply IsS93.drew | apply IsS93.set_1) | exact HI210.out))
                  (case side2 => repeat (first | (with_reducible first | exact HB.out | apply below_alloc | apply pw_below_drewN | apply below_drew1 | refine below_set ?_ (IsS93.ge HI210.out)) | exact HB.out))
                  rintro e w78 ⟨rfl, hi, hb, hk⟩
                  refine ⟨_, rfl, ?_⟩
                  have n0_ := Aside0.mk (Kd.R_mono (Kd.R_keep (IsS93.apart (show IsS93 w _ g210 t208 t217 from by repeat (first | (with_reducible first | exact HI210.out | apply IsS93.alloc | apply IsS93.drewN | apply IsS93.drew | apply IsS93.set_1) | exact HI210.out)) (by (with_reducible repeat (first | apply Kd.R_alloc | apply Kd.R_drewN | apply Kd.R_drew)); exact HO214.out) (by decide)) hk (fun _ h => h.2)) (fun _ h => h.1))
                  have n1_ := Aside0.mk (hb)
                  have n2_ := Aside0.mk (hi)
                  have z_HO244 := fun (h0_ : b 4 = true) => (show Kd.R (Kd.int .i64) 3 w78 w.heap.size (fun k_ => some k_ ≠ (.slice Ao74 t211.length co74 : Value).ownBlock) v243 y242 from by first | exact (Kd.R_mono (Kd.R_keep (IsS93.apart (show IsS93 w _ g210 t208 t217 from by repeat (first | (with_reducible first | exact HI210.out | apply IsS93.alloc | apply IsS93.drewN | apply IsS93.drew | apply IsS93.set_1) | exact HI210.out)) (by (with_reducible repeat (first | apply Kd.R_alloc | apply Kd.R_drewN | apply Kd.R_drew)); exact (Q_HO244 h0_)) (by decide)) hk (fun _ h => h.2)) (fun _ h => h.1)) | exact Kd.R_mono (Kd.R_mono (Kd.R_keep (IsS93.apart (show IsS93 w _ g210 t208 t217 from by repeat (first | (with_reducible first | exact HI210.out | apply IsS93.alloc | apply IsS93.drewN | apply IsS93.drew | apply IsS93.set_1) | exact HI210.out)) (by (with_reducible repeat (first | apply Kd.R_alloc | apply Kd.R_drewN | apply Kd.R_drew)); exact (Q_HO244 h0_)) (by decide)) hk (fun _ h => h.2)) (fun _ h => h.1)) (fun _ h_ => by first | trivial | exact h_ | exact h_.1))
                  clear HO214
                  clear HB
                  clear HI210
                  have HO214 := n0_
                  have HB := n1_
                  have HI210 := n2_
                  clear n0_ n1_ n2_
                  (try clear hb)
                  (try clear hb2)
                  (try clear hk)
                  (try clear hi)
                  refine hK.out _ _ ⟨v243, adz_v243, m7_, (by rw [ha.out]; exact putSel_upk 3 hb_ rfl rfl rfl), (by (with_reducible repeat (first | apply Kd.R_alloc | apply Kd.R_drewN | apply Kd.R_drew)); exact HO214.out), fun h0_ => absurd ((up_self b 6).symm.trans h0_) (by decide), (by repeat (first | (with_reducible first | exact HB.out | apply below_alloc | apply pw_below_drewN | apply below_drew1 | refine below_set ?_ (IsS93.ge HI210.out)) | exact HB.out)), z_HO244, Q_HA_HO244, fun _ => (by repeat (first | (with_reducible first | exact HI210.out | apply IsS93.alloc | apply IsS93.drewN | apply IsS93.drew | apply IsS93.set_1) | exact HI210.out)), fun h0_ => absurd ((hoff 7 (by kernel_rfl)).symm.trans h0_) (by decide)⟩
                refine steps_cons ?_ ?_
                · rintro b a w' ⟨v243, adz_v243, m7_, ha, Q_HO214, Q_HI210, Q_HB, Q_HO244, Q_HA_HO244, Q_HI210_e6, Q_X7_⟩ hb_ hon hoff
                  refine ⟨_, rfl, fun K hK => ?_⟩
                  have e57 : a.tmps[57]? = some (v243) := by rw [ha]; exact putSel_on (e := (4, 57, v243)) 2 rfl rfl (hon 4 (by kernel_rfl)) rfl
                  have e59 : a.tmps[59]? = some (.int .i64 t245) := by rw [ha]; exact putSel_on (e := (6, 59, .int .i64 t245)) 3 rfl rfl (hon 6 (by kernel_rfl)) rfl
                  replace ha := Aside0.mk ha
                  have HO214 := Aside0.mk Q_HO214
                  have HB := Aside0.mk Q_HB
                  have HO244 := Aside0.mk (Q_HO244 (hon 4 (by kernel_rfl)))
                  have HA_HO244 := Aside0.mk (Q_HA_HO244 (hon 4 (by kernel_rfl)))
                  have HI210 := Aside0.mk (Q_HI210_e6 (hon 6 (by kernel_rfl)))
                  obtain ⟨c_, hv_⟩ := HA_HO244.out
                  rw [hv_] at e57
                  refine value_ (w1 := w') (v := .pointer (some (adz_v243.add (t245).toNat))) (by rfl) rfl ?_ ?_
                  · go_simp
                    (try simp only [i64_w])
                    try rfl
                  refine hK.out _ _ ⟨v243, adz_v243, (.pointer (some (adz_v243.add (t245).toNat))), (by rw [ha.out]; exact putSel_upk 4 hb_ rfl rfl rfl), Q_HO214, fun h0_ => absurd ((hon 6 (by kernel_rfl)).symm.trans h0_) (by decide), Q_HB, Q_HO244, Q_HA_HO244, Q_HI210_e6, fun _ => rfl⟩
                refine steps_cons ?_ ?_
                · rintro b a w' ⟨v243, adz_v243, m7_, ha, Q_HO214, Q_HI210, Q_HB, Q_HO244, Q_HA_HO244, Q_HI210_e6, Q_X7_⟩ hb_ hon hoff
                  refine ⟨_, rfl, fun K hK => ?_⟩
                  have e60 : a.tmps[60]? = some (m7_) := by rw [ha]; exact putSel_on (e := (7, 60, m7_)) 4 rfl rfl (hon 7 (by kernel_rfl)) rfl
                  rw [Q_X7_ (hon 7 (by kernel_rfl))] at e60
                  replace ha := Aside0.mk ha
                  have HO214 := Aside0.mk Q_HO214
                  have HB := Aside0.mk Q_HB
                  have HO244 := Aside0.mk (Q_HO244 (hon 4 (by kernel_rfl)))
                  have HA_HO244 := Aside0.mk (Q_HA_HO244 (hon 4 (by kernel_rfl)))
                  have HI210 := Aside0.mk (Q_HI210_e6 (hon 6 (by kernel_rfl)))
                  obtain ⟨c_, hv_⟩ := HA_HO244.out
                  have hF_ := HO244.out
                  rw [hv_] at hF_
                  obtain ⟨ad_, ea_, hx_⟩ := Kd.at_int (Kd.R_reads' hF_).2.2 t245 (of_eq_true pi247) (of_eq_true qi247)
                  cases ea_
                  refine value_ (w1 := w') (v := .int .i64 (rd y242 t245)) (by rfl) rfl ?_ ?_
                  · go_simp
                    (try simp only [i64_w])
                    try rfl
                  refine hK.out _ _ ⟨v243, adz_v243, m7_, (by rw [ha.out]; exact putSel_upk 5 hb_ rfl rfl rfl), Q_HO214, fun h0_ => absurd ((hon 6 (by kernel_rfl)).symm.trans h0_) (by decide), Q_HB, Q_HO244, Q_HA_HO244, Q_HI210_e6, Q_X7_⟩
                refine steps_cons ?_ ?_
                · rintro b a w' ⟨v243, adz_v243, m7_, ha, Q_HO214, Q_HI210, Q_HB, Q_HO244, Q_HA_HO244, Q_HI210_e6, Q_X7_⟩ hb_ hon hoff
                  refine ⟨_, rfl, fun K hK => ?_⟩
                  have e53 : a.tmps[53]? = some (.string t215) := by rw [ha]; exact (putSel_off rfl).trans rfl
                  replace ha := Aside0.mk ha
                  have HO214 := Aside0.mk Q_HO214
                  have HB := Aside0.mk Q_HB
                  have HI210 := Aside0.mk (Q_HI210_e6 (hon 6 (by kernel_rfl)))
                  refine value_ (w1 := w') (v := .string t215) (by rfl) rfl ?_ ?_
                  · go_simp
                    (try simp only [i64_w])
                    try rfl
                  refine hK.out _ _ ⟨v243, adz_v243, m7_, (by rw [ha.out]; exact putSel_upk 6 hb_ rfl rfl rfl), Q_HO214, fun h0_ => absurd ((hon 6 (by kernel_rfl)).symm.trans h0_) (by decide), Q_HB, Q_HO244, Q_HA_HO244, Q_HI210_e6, Q_X7_⟩
                refine steps_cons ?_ ?_
                · rintro b a w' ⟨v243, adz_v243, m7_, ha, Q_HO214, Q_HI210, Q_HB, Q_HO244, Q_HA_HO244, Q_HI210_e6, Q_X7_⟩ hb_ hon hoff
                  refine ⟨_, rfl, fun K hK => ?_⟩
                  have e61 : a.tmps[61]? = some (.int .i64 (rd y242 t245)) := by rw [ha]; exact putSel_on (e := (8, 61, .int .i64 (rd y242 t245))) 5 rfl rfl (hon 8 (by kernel_rfl)) rfl
                  replace ha := Aside0.mk ha
                  have HO214 := Aside0.mk Q_HO214
                  have HB := Aside0.mk Q_HB
                  have HO244 := Aside0.mk (Q_HO244 (hon 4 (by kernel_rfl)))
                  have HA_HO244 := Aside0.mk (Q_HA_HO244 (hon 4 (by kernel_rfl)))
                  have HI210 := Aside0.mk (Q_HI210_e6 (hon 6 (by kernel_rfl)))
                  refine value_ (w1 := w') (v := .int .i64 (rd y242 t245)) (by rfl) rfl ?_ ?_
                  · go_simp
                    (try simp only [i64_w])
                    try rfl
                  refine hK.out _ _ ⟨v243, adz_v243, m7_, (by rw [ha.out]; exact putSel_upk 7 hb_ rfl rfl rfl), Q_HO214, fun h0_ => absurd ((hon 6 (by kernel_rfl)).symm.trans h0_) (by decide), Q_HB, Q_HO244, Q_HA_HO244, Q_HI210_e6, Q_X7_⟩
                refine steps_cons ?_ ?_
                · rintro b a w' ⟨v243, adz_v243, m7_, ha, Q_HO214, Q_HI210, Q_HB, Q_HO244, Q_HA_HO244, Q_HI210_e6, Q_X7_⟩ hb_ hon hoff
                  refine ⟨_, rfl, fun K hK => ?_⟩
                  have e62 : a.tmps[62]? = some (.int .i64 t212) := by rw [ha]; exact (putSel_off rfl).trans rfl
                  replace ha := Aside0.mk ha
                  have HO214 := Aside0.mk Q_HO214
                  have HB := Aside0.mk Q_HB
                  have HO244 := Aside0.mk (Q_HO244 (hon 4 (by kernel_rfl)))
                  have HA_HO244 := Aside0.mk (Q_HA_HO244 (hon 4 (by kernel_rfl)))
                  have HI210 := Aside0.mk (Q_HI210_e6 (hon 6 (by kernel_rfl)))
                  refine value_ (w1 := w') (v := .int .i64 t212) (by rfl) rfl ?_ ?_
                  · go_simp
                    (try simp only [i64_w])
                    try rfl
                  refine hK.out _ _ ⟨v243, adz_v243, m7_, (by rw [ha.out]; exact putSel_upk 8 hb_ rfl rfl rfl), Q_HO214, fun h0_ => absurd ((hon 6 (by kernel_rfl)).symm.trans h0_) (by decide), Q_HB, Q_HO244, Q_HA_HO244, Q_HI210_e6, Q_X7_⟩
                refine steps_cons ?_ ?_
                · rintro b a w' ⟨v243, adz_v243, m7_, ha, Q_HO214, Q_HI210, Q_HB, Q_HO244, Q_HA_HO244, Q_HI210_e6, Q_X7_⟩ hb_ hon hoff
                  refine ⟨_, rfl, fun K hK => ?_⟩
                  have e63 : a.tmps[63]? = some (.int .i64 (t211.length : Int)) := by rw [ha]; exact (putSel_off rfl).trans rfl
                  replace ha := Aside0.mk ha
                  have HO214 := Aside0.mk Q_HO214
                  have HB := Aside0.mk Q_HB
                  have HO244 := Aside0.mk (Q_HO244 (hon 4 (by kernel_rfl)))
                  have HA_HO244 := Aside0.mk (Q_HA_HO244 (hon 4 (by kernel_rfl)))
                  have HI210 := Aside0.mk (Q_HI210_e6 (hon 6 (by kernel_rfl)))
                  refine value_ (w1 := w') (v := .int .i64 (t211.length : Int)) (by rfl) rfl ?_ ?_
                  · go_simp
                    (try simp only [i64_w])
                    try rfl
                  refine hK.out _ _ ⟨v243, adz_v243, m7_, (by rw [ha.out]; exact putSel_upk 9 hb_ rfl rfl rfl), Q_HO214, fun h0_ => absurd ((hon 6 (by kernel_rfl)).symm.trans h0_) (by decide), Q_HB, Q_HO244, Q_HA_HO244, Q_HI210_e6, Q_X7_⟩
                exact steps_nil
              rintro b a w82 hall ⟨v243, adz_v243, m7_, ha, Q_HO214, Q_HI210, Q_HB, Q_HO244, Q_HA_HO244, Q_HI210_e6, Q_X7_⟩
              clear HB HI210 HO214
              have hb2_ := hall 2 (by kernel_rfl)
              have hb3_ := hall 3 (by kernel_rfl)
              have hb4_ := hall 4 (by kernel_rfl)
              have hb6_ := hall 6 (by kernel_rfl)
              have hb7_ := hall 7 (by kernel_rfl)
              have hb8_ := hall 8 (by kernel_rfl)
              have hb11_ := hall 11 (by kernel_rfl)
              have hb12_ := hall 12 (by kernel_rfl)
              have hb13_ := hall 13 (by kernel_rfl)
              have hb14_ := hall 14 (by kernel_rfl)
              subst ha
              obtain rfl := Q_X7_ hb7_
              simp only [putSel, hb2_, hb3_, hb4_, hb6_, hb7_, hb8_, hb11_, hb12_, hb13_, hb14_, if_true, Act.put, List.setIfInBounds_toArray, List.set_cons_zero, List.set_cons_succ]
              have HO214 := Aside0.mk Q_HO214
              clear Q_HO214
              clear Q_HI210
              have HB := Aside0.mk Q_HB
              clear Q_HB
              have HO244 := Aside0.mk (Q_HO244 hb4_)
              clear Q_HO244
              have HA_HO244 := Aside0.mk (Q_HA_HO244 hb4_)
              clear Q_HA_HO244
              have HI210 := Aside0.mk (Q_HI210_e6 hb6_)
              clear Q_HI210_e6
              clear hall hb2_ hb3_ hb4_ hb6_ hb7_ hb8_ hb11_ hb12_ hb13_ hb14_
              obtain ⟨co83, eo83⟩ := HA_HO244.out
              clear HA_HO244
              subst eo83
              try go_wp2
              refine bodyPost_ret (results_list (rs := [.tmp 2, .tmp 3, .tmp 4, .tmp 5]) rfl (by simp) (.tmp (.tmp (.tmp (.tmp .nil))))) rfl ?_
              exact ⟨by first | rfl | (simp [errW_none, errW_some] <;> rfl) | (simp [*, errW_none, errW_some] <;> rfl), by repeat (first | (with_reducible first | exact HB.out | apply below_alloc | apply pw_below_drewN | apply below_drew1 | refine below_set ?_ (IsS93.ge HI210.out)) | exact HB.out)⟩
            · rw [if_neg c71] at H
              exact absurd H (by simp)
          · rw [if_neg c70] at H
            exact absurd H (by simp)

end Go.Proofs.Ytfladcffgblfdaa.PFnRunGet
