/- What the functions that the law comes to compute, as plain functions, and that the machine's calls come to just that: written by a program for this claim, and turned where Lean did not take it. No condition. -/
import Derived.Test.YtabjhgimeldpeaaHFnImageRgbx0
import Derived.Test.YtabjhgimeldpeaaHFnImageRgbx3
import Derived.Test.YtabjhgimeldpeaaHFnImageRgbx5
namespace Go.Proofs.Ytabjhgimeldpeaa.PFnImageRgb
open Go.RowKit Go.Proofs.YtabjhgimeldpeaaW.PrintWords Go.Proofs.YtabjhgimeldpeaaW.PrintLast Go.Proofs.YtabjhgimeldpeaaW.PrintMore
attribute [local go_sem] max2_int min2_int max_two min_two max_three min_three max_four min_four   -- for this text's walks alone
set_option linter.unusedVariables false
set_option linter.unusedSimpArgs false

/-! ### spec_l14Spoil: function 108 -/
def spec_l14Spoil.l0 : Nat → Int → List Int → Int → Int → Int → Int → Int → List Int → List Int → Option (Int × Int × Int × Int × List Int × List Int × Int)
 | 0, _, _, _, _, _, _, _, _, _ => none
 | k + 1, x6, x1000, x1001, x207000, x207001, x207002, x207003, x207004, x207005 => if x6 < 257 then (if x207004.length < 17592186044416 then (spec_l14Spoil.l0 k (wrap64 (x6 + 1)) x1000 x1001 x207000 x207001 x207002 x207003 (x207004 ++ [7]) x207005) else (none)) else (some (x207000, x207001, x207002, x207003, x207004, x207005, x1001))
def spec_l14Spoil.f (k : Nat) (s0_0 : List Int) (s0_1 : Int) (a1_0 : Int) (a1_1 : Int) (a1_2 : Int) (a1_3 : Int) (l1_4 : List Int) (l1_5 : List Int) : Option (Int × Int × Int × Int × List Int × List Int × Int) := (spec_l14Copy.f a1_0 a1_1 a1_2 a1_3 l1_4 l1_5).bind fun bt196 => ((spec_l1Rd_pick.f k s0_0 s0_1 8).bind fun bt207 => (if bt207.1 = 0 then ((some (([0, 5, wrap64 (1 + (Int.tmod bt196.1 4))] : List Int) : List Int)).bind fun y209 => ((spec_l1Rd_pick.f k s0_0 bt207.2 3).bind fun bt212 => (if 0 ≤ bt212.1 then (if bt212.1 < (y209.length : Int) then (some (rd y209 bt212.1, bt196.2.1, bt196.2.2.1, bt196.2.2.2.1, bt196.2.2.2.2.1, bt196.2.2.2.2.2, bt212.2)) else (none)) else (none)))) else (if bt207.1 = 1 then ((some (([0, 3, 16] : List Int) : List Int)).bind fun y215 => ((spec_l1Rd_pick.f k s0_0 bt207.2 3).bind fun bt218 => (if 0 ≤ bt218.1 then (if bt218.1 < (y215.length : Int) then (some (bt196.1, rd y215 bt218.1, bt196.2.2.1, bt196.2.2.2.1, bt196.2.2.2.2.1, bt196.2.2.2.2.2, bt218.2)) else (none)) else (none)))) else (if bt207.1 = 2 then ((some (([0, wrap64 (bt196.2.2.1 + 1), 21] : List Int) : List Int)).bind fun y221 => ((spec_l1Rd_pick.f k s0_0 bt207.2 3).bind fun bt224 => (if 0 ≤ bt224.1 then (if bt224.1 < (y221.length : Int) then (some (bt196.1, bt196.2.1, rd y221 bt224.1, bt196.2.2.2.1, bt196.2.2.2.2.1, bt196.2.2.2.2.2, bt224.2)) else (none)) else (none)))) else (if bt207.1 = 3 then (if 1 ≤ (bt196.2.2.2.2.2.length : Int) then (some (bt196.1, bt196.2.1, bt196.2.2.1, bt196.2.2.2.1, bt196.2.2.2.2.1, (bt196.2.2.2.2.2.drop (1 : Int).toNat), bt207.2)) else (none)) else (if bt207.1 = 4 then ((spec_l1Rd_pick.f k s0_0 bt207.2 (bt196.2.2.2.2.2.length : Int)).bind fun bt230 => ((some (([(-1), 4294967296] : List Int) : List Int)).bind fun y232 => ((spec_l1Rd_pick.f k s0_0 bt230.2 2).bind fun bt235 => (if 0 ≤ bt235.1 then (if bt235.1 < (y232.length : Int) then (if 0 ≤ bt230.1 then (if bt230.1 < (bt196.2.2.2.2.2.length : Int) then (some (bt196.1, bt196.2.1, bt196.2.2.1, bt196.2.2.2.1, bt196.2.2.2.2.1, (bt196.2.2.2.2.2.set (bt230.1 : Int).toNat (rd y232 bt235.1)), bt235.2)) else (none)) else (none)) else (none)) else (none))))) else (if bt207.1 = 5 then ((some (([(-1), 16777216, 5] : List Int) : List Int)).bind fun y239 => ((spec_l1Rd_pick.f k s0_0 bt207.2 3).bind fun bt242 => (if 0 ≤ bt242.1 then (if bt242.1 < (y239.length : Int) then (if bt196.2.2.2.2.1.length < 17592186044416 then (some (bt196.1, bt196.2.1, bt196.2.2.1, bt196.2.2.2.1, (bt196.2.2.2.2.1 ++ [rd y239 bt242.1]), bt196.2.2.2.2.2, bt242.2)) else (none)) else (none)) else (none)))) else (if bt207.1 = 6 then (spec_l14Spoil.l0 k 0 s0_0 bt207.2 bt196.1 bt196.2.1 bt196.2.2.1 bt196.2.2.2.1 bt196.2.2.2.2.1 bt196.2.2.2.2.2) else (some (bt196.1, bt196.2.1, bt196.2.2.1, 0, bt196.2.2.2.2.1, bt196.2.2.2.2.2, bt207.2))))))))))
theorem spec_l14Spoil.mono_l : ∀ k, (∀ y0 y1 y2 y3 y4 y5 y6 y7 y8, LeO (spec_l14Spoil.l0 k y0 y1 y2 y3 y4 y5 y6 y7 y8) (spec_l14Spoil.l0 (k + 1) y0 y1 y2 y3 y4 y5 y6 y7 y8))
 | 0 => fun _ _ _ _ _ _ _ _ _ r h => by simp [spec_l14Spoil.l0] at h
 | k + 1 => by
  have ih0 := spec_l14Spoil.mono_l k
  ·intro y0 y1 y2 y3 y4 y5 y6 y7 y8
   unfold spec_l14Spoil.l0
   repeat' first
   | (with_reducible exact ih0 _ _ _ _ _ _ _ _ _)
   | (with_reducible exact spec_l1Rd_pick.mono _ _ _ _)
   | (with_reducible exact LeO.refl _)
   | (with_reducible exact LeO.none _)
   | (with_reducible refine LeO.ite ?_ ?_)
   | (with_reducible refine LeO.bind ?_ (fun _ => ?_))
theorem spec_l14Spoil.mono : ∀ a0 a1 a2 a3 a4 a5 a6 a7 k, LeO (spec_l14Spoil.f k a0 a1 a2 a3 a4 a5 a6 a7) (spec_l14Spoil.f (k + 1) a0 a1 a2 a3 a4 a5 a6 a7) := by
 intro a0 a1 a2 a3 a4 a5 a6 a7 k
 have ih0 := spec_l14Spoil.mono_l k
 unfold spec_l14Spoil.f
 repeat' first
   | (with_reducible exact ih0 _ _ _ _ _ _ _ _ _)
   | (with_reducible exact spec_l1Rd_pick.mono _ _ _ _)
   | (with_reducible exact LeO.refl _)
   | (with_reducible exact LeO.none _)
   | (with_reducible refine LeO.ite ?_ ?_)
   | (with_reducible refine LeO.bind ?_ (fun _ => ?_))
def spec_l14Spoil.T5 : Bool × List (List Nat × List Nat) := (true, [([], []), ([0], [0]), ([1], [1]), ([2], [2]), ([3], [3]), ([], []), ([5], [5]), ([4, 6], [4, 6]), ([7], [7]), ([0, 1, 2, 3, 4, 5, 6, 7, 8], []), ([9, 8, 6, 0, 1, 2, 3, 4, 5, 6, 7, 8], [8, 9])])
def spec_l14Spoil.B5 : List Nat := [0, 1, 3, 7, 15, 0, 32, 127, 255, 511, 1023]
theorem spec_l14Spoil.tab5 : rtab .any (opsOf Try.f108 5) = spec_l14Spoil.T5 := by kernel_rfl
theorem spec_l14Spoil.bits5 : waitsOk spec_l14Spoil.T5.2 spec_l14Spoil.B5 = true := by kernel_rfl
def spec_l14Spoil.T9 : Bool × List (List Nat × List Nat) := (true, [([], []), ([0], [0]), ([1], [1]), ([2], [2]), ([], []), ([4], [4]), ([3, 5], [3, 5]), ([6], [6]), ([0, 1, 2, 3, 4, 5, 6, 7], []), ([8, 7, 5, 0, 1, 2, 3, 4, 5, 6, 7], [7, 8])])
def spec_l14Spoil.B9 : List Nat := [0, 1, 3, 7, 0, 16, 63, 127, 255, 511]
theorem spec_l14Spoil.tab9 : rtab .any (opsOf Try.f108 9) = spec_l14Spoil.T9 := by kernel_rfl
theorem spec_l14Spoil.bits9 : waitsOk spec_l14Spoil.T9.2 spec_l14Spoil.B9 = true := by kernel_rfl
def spec_l14Spoil.T13 : Bool × List (List Nat × List Nat) := (true, [([], []), ([0], [0]), ([], []), ([], []), ([3], [3]), ([4], [4]), ([2, 5], [2, 5]), ([], []), ([], []), ([8, 6], [8]), ([7, 9], [7, 9]), ([10], [10]), ([1, 6, 0, 1, 2, 3, 4, 5, 6, 7, 8, 9, 10, 11], [1, 6]), ([12, 11, 9, 0, 1, 2, 3, 4, 5, 6, 7, 8, 9, 10, 11], [11, 12])])
def spec_l14Spoil.B13 : List Nat := [0, 1, 0, 0, 8, 24, 60, 0, 0, 380, 1020, 2044, 4095, 8191]
theorem spec_l14Spoil.tab13 : rtab .any (opsOf Try.f108 13) = spec_l14Spoil.T13 := by kernel_rfl
theorem spec_l14Spoil.bits13 : waitsOk spec_l14Spoil.T13.2 spec_l14Spoil.B13 = true := by kernel_rfl
def spec_l14Spoil.T15 : Bool × List (List Nat × List Nat) := (true, [([], []), ([0], [0]), ([], []), ([], []), ([3], [3]), ([2, 4], [2, 4]), ([5], [5]), ([6], [6]), ([1, 7, 4], [1, 7]), ([0, 1, 2, 3, 4, 5, 6, 7, 8], []), ([9, 8, 8, 0, 1, 2, 3, 4, 5, 6, 7, 8], [8, 9])])
def spec_l14Spoil.B15 : List Nat := [0, 1, 0, 0, 8, 28, 60, 124, 255, 511, 1023]
theorem spec_l14Spoil.tab15 : rtab .any (opsOf Try.f108 15) = spec_l14Spoil.T15 := by kernel_rfl
theorem spec_l14Spoil.bits15 : waitsOk spec_l14Spoil.T15.2 spec_l14Spoil.B15 = true := by kernel_rfl
set_option maxHeartbeats 8000000 in
set_option maxRecDepth 100000 in
theorem spec_l14Spoil.calls (k : Nat) (g : Nat) (s0_0 : List Int) (s0_1 : Int) (a1_0 : Int) (a1_1 : Int) (a1_2 : Int) (a1_3 : Int) (A1_4 : Option Addr) (c1_4 : Nat) (l1_4 : List Int) (A1_5 : Option Addr) (c1_5 : Nat) (l1_5 : List Int) (r1 : Int) (r2 : Int) (r3 : Int) (r4 : Int) (r5 : List Int) (r6 : List Int) (r7 : Int) (w0 w : World) (hI : IsS111 w0 w g s0_0 s0_1) (hB : Below w0.heap.size w0 w) (hr1_4 : Kd.C (Kd.int .i64) w A1_4 l1_4.length l1_4) (hc1_4 : l1_4.length ≤ c1_4) (hf1_4 : ∀ ad, A1_4 = some ad → 0 < l1_4.length → ad.block ≠ g) (hr1_5 : Kd.C (Kd.int .i64) w A1_5 l1_5.length l1_5) (hc1_5 : l1_5.length ≤ c1_5) (hf1_5 : ∀ ad, A1_5 = some ad → 0 < l1_5.length → ad.block ≠ g) (h : spec_l14Spoil.f k s0_0 s0_1 a1_0 a1_1 a1_2 a1_3 l1_4 l1_5 = some (r1, r2, r3, r4, r5, r6, r7)) :
  Calls Try.prog 108 #[.pointer (some ⟨g, 0, none⟩), .agg #[.int .i64 a1_0, .int .i64 a1_1, .int .i64 a1_2, .int .i64 a1_3, .slice A1_4 l1_4.length c1_4, .slice A1_5 l1_5.length c1_5]] w fun e w' => ∃ v4_ v5_ : Value, e = .returned (.agg #[.int .i64 r1, .int .i64 r2, .int .i64 r3, .int .i64 r4, v4_, v5_]) ∧ Kd.R (Kd.int .i64) 3 w' w.heap.size (fun k_ => some k_ ≠ (v5_ : Value).ownBlock) v4_ r5 ∧ Kd.Q (Kd.int .i64) 3 w' w.heap.size (fun k_ => some k_ ≠ (v4_ : Value).ownBlock) v5_ r6 ∧ IsS111 w0 w' g s0_0 r7 ∧ Below w0.heap.size w0 w' ∧ KeepBut w w' g none := by
 have hu25 := Try.underlying25
 have HR1_4 := aM_ hr1_4
 have HC1_4 := aM_ hc1_4
 clear hr1_4 hc1_4
 have HR1_5 := aM_ hr1_5
 have HC1_5 := aM_ hc1_5
 clear hr1_5 hc1_5
 have HI0 := aM_ hI
 have HK := aM_ (KeepBut.refl w g none)
 have HL := aM_ hB.size
 clear hI
 have HW0 := aM_ hB.size
 have HB := aM_ hB
 clear hB
 have H : ((spec_l14Copy.f a1_0 a1_1 a1_2 a1_3 l1_4 l1_5).bind fun bt196 => ((spec_l1Rd_pick.f k s0_0 s0_1 8).bind fun bt207 => (if bt207.1 = 0 then ((some (([0, 5, wrap64 (1 + (Int.tmod bt196.1 4))] : List Int) : List Int)).bind fun y209 => ((spec_l1Rd_pick.f k s0_0 bt207.2 3).bind fun bt212 => (if 0 ≤ bt212.1 then (if bt212.1 < (y209.length : Int) then (some (rd y209 bt212.1, bt196.2.1, bt196.2.2.1, bt196.2.2.2.1, bt196.2.2.2.2.1, bt196.2.2.2.2.2, bt212.2)) else (none)) else (none)))) else (if bt207.1 = 1 then ((some (([0, 3, 16] : List Int) : List Int)).bind fun y215 => ((spec_l1Rd_pick.f k s0_0 bt207.2 3).bind fun bt218 => (if 0 ≤ bt218.1 then (if bt218.1 < (y215.length : Int) then (some (bt196.1, rd y215 bt218.1, bt196.2.2.1, bt196.2.2.2.1, bt196.2.2.2.2.1, bt196.2.2.2.2.2, bt218.2)) else (none)) else (none)))) else (if bt207.1 = 2 then ((some (([0, wrap64 (bt196.2.2.1 + 1), 21] : List Int) : List Int)).bind fun y221 => ((spec_l1Rd_pick.f k s0_0 bt207.2 3).bind fun bt224 => (if 0 ≤ bt224.1 then (if bt224.1 < (y221.length : Int) then (some (bt196.1, bt196.2.1, rd y221 bt224.1, bt196.2.2.2.1, bt196.2.2.2.2.1, bt196.2.2.2.2.2, bt224.2)) else (none)) else (none)))) else (if bt207.1 = 3 then (if 1 ≤ (bt196.2.2.2.2.2.length : Int) then (some (bt196.1, bt196.2.1, bt196.2.2.1, bt196.2.2.2.1, bt196.2.2.2.2.1, (bt196.2.2.2.2.2.drop (1 : Int).toNat), bt207.2)) else (none)) else (if bt207.1 = 4 then ((spec_l1Rd_pick.f k s0_0 bt207.2 (bt196.2.2.2.2.2.length : Int)).bind fun bt230 => ((some (([(-1), 4294967296] : List Int) : List Int)).bind fun y232 => ((spec_l1Rd_pick.f k s0_0 bt230.2 2).bind fun bt235 => (if 0 ≤ bt235.1 then (if bt235.1 < (y232.length : Int) then (if 0 ≤ bt230.1 then (if bt230.1 < (bt196.2.2.2.2.2.length : Int) then (some (bt196.1, bt196.2.1, bt196.2.2.1, bt196.2.2.2.1, bt196.2.2.2.2.1, (bt196.2.2.2.2.2.set (bt230.1 : Int).toNat (rd y232 bt235.1)), bt235.2)) else (none)) else (none)) else (none)) else (none))))) else (if bt207.1 = 5 then ((some (([(-1), 16777216, 5] : List Int) : List Int)).bind fun y239 => ((spec_l1Rd_pick.f k s0_0 bt207.2 3).bind fun bt242 => (if 0 ≤ bt242.1 then (if bt242.1 < (y239.length : Int) then (if bt196.2.2.2.2.1.length < 17592186044416 then (some (bt196.1, bt196.2.1, bt196.2.2.1, bt196.2.2.2.1, (bt196.2.2.2.2.1 ++ [rd y239 bt242.1]), bt196.2.2.2.2.2, bt242.2)) else (none)) else (none)) else (none)))) else (if bt207.1 = 6 then (spec_l14Spoil.l0 k 0 s0_0 bt207.2 bt196.1 bt196.2.1 bt196.2.2.1 bt196.2.2.2.1 bt196.2.2.2.2.1 bt196.2.2.2.2.2) else (some (bt196.1, bt196.2.1, bt196.2.2.1, 0, bt196.2.2.2.2.1, bt196.2.2.2.2.2, bt207.2))))))))))) = some (r1, r2, r3, r4, r5, r6, r7) := h
 clear h
 replace H := Option.bind_eq_some_iff.mp H
 obtain ⟨⟨t196, t197, t198, t199, t200, t203⟩, A30, H⟩ := H
 replace H : ((spec_l1Rd_pick.f k s0_0 s0_1 8).bind fun bt207 => (if bt207.1 = 0 then ((some (([0, 5, wrap64 (1 + (Int.tmod t196 4))] : List Int) : List Int)).bind fun y209 => ((spec_l1Rd_pick.f k s0_0 bt207.2 3).bind fun bt212 => (if 0 ≤ bt212.1 then (if bt212.1 < (y209.length : Int) then (some (rd y209 bt212.1, t197, t198, t199, t200, t203, bt212.2)) else (none)) else (none)))) else (if bt207.1 = 1 then ((some (([0, 3, 16] : List Int) : List Int)).bind fun y215 => ((spec_l1Rd_pick.f k s0_0 bt207.2 3).bind fun bt218 => (if 0 ≤ bt218.1 then (if bt218.1 < (y215.length : Int) then (some (t196, rd y215 bt218.1, t198, t199, t200, t203, bt218.2)) else (none)) else (none)))) else (if bt207.1 = 2 then ((some (([0, wrap64 (t198 + 1), 21] : List Int) : List Int)).bind fun y221 => ((spec_l1Rd_pick.f k s0_0 bt207.2 3).bind fun bt224 => (if 0 ≤ bt224.1 then (if bt224.1 < (y221.length : Int) then (some (t196, t197, rd y221 bt224.1, t199, t200, t203, bt224.2)) else (none)) else (none)))) else (if bt207.1 = 3 then (if 1 ≤ (t203.length : Int) then (some (t196, t197, t198, t199, t200, (t203.drop (1 : Int).toNat), bt207.2)) else (none)) else (if bt207.1 = 4 then ((spec_l1Rd_pick.f k s0_0 bt207.2 (t203.length : Int)).bind fun bt230 => ((some (([(-1), 4294967296] : List Int) : List Int)).bind fun y232 => ((spec_l1Rd_pick.f k s0_0 bt230.2 2).bind fun bt235 => (if 0 ≤ bt235.1 then (if bt235.1 < (y232.length : Int) then (if 0 ≤ bt230.1 then (if bt230.1 < (t203.length : Int) then (some (t196, t197, t198, t199, t200, (t203.set (bt230.1 : Int).toNat (rd y232 bt235.1)), bt235.2)) else (none)) else (none)) else (none)) else (none))))) else (if bt207.1 = 5 then ((some (([(-1), 16777216, 5] : List Int) : List Int)).bind fun y239 => ((spec_l1Rd_pick.f k s0_0 bt207.2 3).bind fun bt242 => (if 0 ≤ bt242.1 then (if bt242.1 < (y239.length : Int) then (if t200.length < 17592186044416 then (some (t196, t197, t198, t199, (t200 ++ [rd y239 bt242.1]), t203, bt242.2)) else (none)) else (none)) else (none)))) else (if bt207.1 = 6 then (spec_l14Spoil.l0 k 0 s0_0 bt207.2 t196 t197 t198 t199 t200 t203) else (some (t196, t197, t198, 0, t200, t203, bt207.2)))))))))) = some (r1, r2, r3, r4, r5, r6, r7) := H
 have A3 := aM_ A30
 clear A30
 replace H := Option.bind_eq_some_iff.mp H
 obtain ⟨⟨t207, t208⟩, A40, H⟩ := H
 replace H : (if t207 = 0 then ((some (([0, 5, wrap64 (1 + (Int.tmod t196 4))] : List Int) : List Int)).bind fun y209 => ((spec_l1Rd_pick.f k s0_0 t208 3).bind fun bt212 => (if 0 ≤ bt212.1 then (if bt212.1 < (y209.length : Int) then (some (rd y209 bt212.1, t197, t198, t199, t200, t203, bt212.2)) else (none)) else (none)))) else (if t207 = 1 then ((some (([0, 3, 16] : List Int) : List Int)).bind fun y215 => ((spec_l1Rd_pick.f k s0_0 t208 3).bind fun bt218 => (if 0 ≤ bt218.1 then (if bt218.1 < (y215.length : Int) then (some (t196, rd y215 bt218.1, t198, t199, t200, t203, bt218.2)) else (none)) else (none)))) else (if t207 = 2 then ((some (([0, wrap64 (t198 + 1), 21] : List Int) : List Int)).bind fun y221 => ((spec_l1Rd_pick.f k s0_0 t208 3).bind fun bt224 => (if 0 ≤ bt224.1 then (if bt224.1 < (y221.length : Int) then (some (t196, t197, rd y221 bt224.1, t199, t200, t203, bt224.2)) else (none)) else (none)))) else (if t207 = 3 then (if 1 ≤ (t203.length : Int) then (some (t196, t197, t198, t199, t200, (t203.drop (1 : Int).toNat), t208)) else (none)) else (if t207 = 4 then ((spec_l1Rd_pick.f k s0_0 t208 (t203.length : Int)).bind fun bt230 => ((some (([(-1), 4294967296] : List Int) : List Int)).bind fun y232 => ((spec_l1Rd_pick.f k s0_0 bt230.2 2).bind fun bt235 => (if 0 ≤ bt235.1 then (if bt235.1 < (y232.length : Int) then (if 0 ≤ bt230.1 then (if bt230.1 < (t203.length : Int) then (some (t196, t197, t198, t199, t200, (t203.set (bt230.1 : Int).toNat (rd y232 bt235.1)), bt235.2)) else (none)) else (none)) else (none)) else (none))))) else (if t207 = 5 then ((some (([(-1), 16777216, 5] : List Int) : List Int)).bind fun y239 => ((spec_l1Rd_pick.f k s0_0 t208 3).bind fun bt242 => (if 0 ≤ bt242.1 then (if bt242.1 < (y239.length : Int) then (if t200.length < 17592186044416 then (some (t196, t197, t198, t199, (t200 ++ [rd y239 bt242.1]), t203, bt242.2)) else (none)) else (none)) else (none)))) else (if t207 = 6 then (spec_l14Spoil.l0 k 0 s0_0 t208 t196 t197 t198 t199 t200 t203) else (some (t196, t197, t198, 0, t200, t203, t208))))))))) = some (r1, r2, r3, r4, r5, r6, r7) := H
 have A4 := aM_ A40
 clear A40
 have HC5 := aM_ H
 clear H
 go_enter Try.func108, Try.ntmps108
 go_upto_if 12 with (first | ((with_reducible refine gate_dst (N := 3) rfl ?_); refine box_event ?hg (N := 3) ?hd (cs := #[.int .i64 a1_0, .int .i64 a1_1, .int .i64 a1_2, .int .i64 a1_3, .slice A1_4 l1_4.length c1_4, .slice A1_5 l1_5.length c1_5]) (t := 25) ?hr ?_; (case hd => rfl); (case hg => rfl); (case hr => first | (go_simp; done) | (go_simp; rfl)); intro gb194 hg w6 hbox hb; have n0_ := aM_ (IsS111.below (by repeat (first | (with_reducible first | exact HI0.out | apply IsS111.alloc | apply IsS111.drewN | apply IsS111.drew | apply IsS111.set_1) | exact HI0.out)) hb); have n1_ := aM_ (KeepBut.trans (by repeat (first | (with_reducible first | exact HK.out | apply pS_ | apply pN_ | apply pD_ | apply pA_) | exact HK.out)) (KeepBut.of_below hb g none) (.inl rfl)); have n2_ := aM_ (below_step (by repeat (first | (with_reducible first | exact HB.out | apply wA_ | apply wN_ | apply wD_ | refine below_set ?_ (IsS111.ge HI0.out)) | exact HB.out)) hb); have n3_ := aM_ (hbox); have n4_ := aM_ ((by rw [hg]; exact (keep_size (w := w) (g := g) (row := none) (by repeat (first | (with_reducible first | exact HK.out | apply pS_ | apply pN_ | apply pD_ | apply pA_) | exact HK.out))) : w.heap.size ≤ gb194)); have n5_ := aM_ ((Nat.le_trans HW0.out (by rw [hg]; exact (keep_size (w := w) (g := g) (row := none) (by repeat (first | (with_reducible first | exact HK.out | apply pS_ | apply pN_ | apply pD_ | apply pA_) | exact HK.out))) : w.heap.size ≤ gb194) : w0.heap.size ≤ gb194)); have n6_ := aM_ ((by rw [hg]; exact Nat.ne_of_lt (IsS111.lt (show IsS111 w0 _ g s0_0 s0_1 from by repeat (first | (with_reducible first | exact HI0.out | apply IsS111.alloc | apply IsS111.drewN | apply IsS111.drew | apply IsS111.set_1) | exact HI0.out))) : g ≠ gb194)); have n7_ := aM_ n6_.out.symm; clear HI0; clear HK; clear HB; have HI0 := n0_; have HK := n1_; have HB := n2_; have BK194 := n3_; have GW194 := n4_; have GE194 := n5_; have NB0_194 := n6_; have NB194_0 := n7_; clear n0_ n1_ n2_ n3_ n4_ n5_ n6_ n7_; clear hb hbox hg) | ((with_reducible refine gate_dst (N := 4) rfl ?_); refine box_event ?hg (N := 4) ?hd (cs := #[.int .i64 0, .int .i64 0, .int .i64 0, .int .i64 0, .slice none 0 0, .slice none 0 0]) (t := 25) ?hr ?_; (case hd => rfl); (case hg => rfl); (case hr => first | (go_simp; done) | (go_simp; rfl)); intro gb195 hg w7 hbox hb; have n0_ := aM_ (IsS111.below (by repeat (first | (with_reducible first | exact HI0.out | apply IsS111.alloc | apply IsS111.drewN | apply IsS111.drew | apply IsS111.set_1 | refine IsS111.far ?_ NB0_194.out _) | exact HI0.out)) hb); have n1_ := aM_ (blk_below (g := gb194) (by (with_reducible repeat (first | apply kN_ | apply kD_ | apply kA_)); exact BK194.out) hb); have n2_ := aM_ (KeepBut.trans (by repeat (first | (with_reducible first | exact HK.out | apply pS_ | apply pN_ | apply pD_ | apply pA_ | refine keep_far ?_ GW194.out _) | exact HK.out)) (KeepBut.of_below hb g none) (.inl rfl)); have n3_ := aM_ (below_step (by repeat (first | (with_reducible first | exact HB.out | apply wA_ | apply wN_ | apply wD_ | refine below_set ?_ (IsS111.ge HI0.out) | refine below_set ?_ GE194.out) | exact HB.out)) hb); have n4_ := aM_ (hbox); have n5_ := aM_ ((by rw [hg]; exact (keep_size (w := w) (g := g) (row := none) (by repeat (first | (with_reducible first | exact HK.out | apply pS_ | apply pN_ | apply pD_ | apply pA_ | refine keep_far ?_ GW194.out _) | exact HK.out))) : w.heap.size ≤ gb195)); have n6_ := aM_ ((Nat.le_trans HW0.out (by rw [hg]; exact (keep_size (w := w) (g := g) (row := none) (by repeat (first | (with_reducible first | exact HK.out | apply pS_ | apply pN_ | apply pD_ | apply pA_ | refine keep_far ?_ GW194.out _) | exact HK.out))) : w.heap.size ≤ gb195) : w0.heap.size ≤ gb195)); have n7_ := aM_ ((by rw [hg]; exact Nat.ne_of_lt (blk_lt (g := gb194) (by (with_reducible repeat (first | apply kN_ | apply kD_ | apply kA_)); exact BK194.out)) : gb194 ≠ gb195)); have n8_ := aM_ n7_.out.symm; have n9_ := aM_ ((by rw [hg]; exact Nat.ne_of_lt (IsS111.lt (show IsS111 w0 _ g s0_0 s0_1 from by repeat (first | (with_reducible first | exact HI0.out | apply IsS111.alloc | apply IsS111.drewN | apply IsS111.drew | apply IsS111.set_1 | refine IsS111.far ?_ NB0_194.out _) | exact HI0.out))) : g ≠ gb195)); have n10_ := aM_ n9_.out.symm; clear HI0; clear BK194; clear HK; clear HB; have HI0 := n0_; have BK194 := n1_; have HK := n2_; have HB := n3_; have BK195 := n4_; have GW195 := n5_; have GE195 := n6_; have NB194_195 := n7_; have NB195_194 := n8_; have NB0_195 := n9_; have NB195_0 := n10_; clear n0_ n1_ n2_ n3_ n4_ n5_ n6_ n7_ n8_ n9_ n10_; clear hb hbox hg; have hnb8 := NB194_195.out; have hnc8 := NB195_194.out; have hnb9 := NB194_0.out; have hnc9 := NB0_194.out; obtain ⟨hcz10_0, hcz10_1, hcz10_2, hcz10_3, hcz10_4, hcz10_5⟩ := bc6 BK194.out; obtain ⟨hfz10_0, hfz10_1, hfz10_2, hfz10_3, hfz10_4, hfz10_5⟩ := bf6 BK194.out) | ((with_reducible refine gate_callee (f := 132) rfl ?_); refine goesL_ (some 8) rfl rfl Try.func132 (by kernel_rfl) rfl #[.agg #[.int .i64 a1_0, .int .i64 a1_1, .int .i64 a1_2, .int .i64 a1_3, .slice A1_4 l1_4.length c1_4, .slice A1_5 l1_5.length c1_5]] rfl (by (try simp only [List.map_toArray, List.map_cons, List.map_nil]); first | done | rfl | (simp only [List.length_drop, List.length_take]; rfl)) ?_; (with_reducible refine (spec_l14Copy.calls a1_0 a1_1 a1_2 a1_3 _ _ l1_4 _ _ l1_5 t196 t197 t198 t199 t200 t203 _ ?side1 ?side2 ?side3 ?side4 A3.out).mono ?_); (case side1 => exact Kd.C_keep 0 HR1_4.out (by repeat (first | (with_reducible first | exact HK.out | apply pS_ | apply pN_ | apply pD_ | apply pA_ | refine keep_far ?_ GW194.out _ | refine keep_far ?_ GW195.out _) | exact HK.out)) hf1_4); (case side2 => exact HC1_4.out); (case side3 => exact Kd.C_keep 0 HR1_5.out (by repeat (first | (with_reducible first | exact HK.out | apply pS_ | apply pN_ | apply pD_ | apply pA_ | refine keep_far ?_ GW194.out _ | refine keep_far ?_ GW195.out _) | exact HK.out)) hf1_5); (case side4 => exact HC1_5.out); rintro e w11 ⟨v201, v204, rfl, ho0, ho1, hb⟩; refine ⟨_, rfl, ?_⟩; have n0_ := aM_ (Kd.R_lower ho0 (keep_size (w := w) (g := g) (row := none) (by repeat (first | (with_reducible first | exact HK.out | apply pS_ | apply pN_ | apply pD_ | apply pA_ | refine keep_far ?_ GW194.out _ | refine keep_far ?_ GW195.out _) | exact HK.out)))); have n1_ := aM_ (Kd.R_lower ho1 (keep_size (w := w) (g := g) (row := none) (by repeat (first | (with_reducible first | exact HK.out | apply pS_ | apply pN_ | apply pD_ | apply pA_ | refine keep_far ?_ GW194.out _ | refine keep_far ?_ GW195.out _) | exact HK.out)))); have n2_ := aM_ (IsS111.below (by repeat (first | (with_reducible first | exact HI0.out | apply IsS111.alloc | apply IsS111.drewN | apply IsS111.drew | apply IsS111.set_1 | refine IsS111.far ?_ NB0_194.out _ | refine IsS111.far ?_ NB0_195.out _) | exact HI0.out)) hb); have n3_ := aM_ (blk_below (g := gb194) (by (with_reducible repeat (first | apply kN_ | apply kD_ | apply kA_)); exact BK194.out) hb); have n4_ := aM_ (blk_below (g := gb195) (by (with_reducible repeat (first | apply kN_ | apply kD_ | apply kA_)); exact BK195.out) hb); have n5_ := aM_ (KeepBut.trans (by repeat (first | (with_reducible first | exact HK.out | apply pS_ | apply pN_ | apply pD_ | apply pA_ | refine keep_far ?_ GW194.out _ | refine keep_far ?_ GW195.out _) | exact HK.out)) (KeepBut.of_below hb g none) (.inl rfl)); have n6_ := aM_ (below_step (by repeat (first | (with_reducible first | exact HB.out | apply wA_ | apply wN_ | apply wD_ | refine below_set ?_ (IsS111.ge HI0.out) | refine below_set ?_ GE194.out | refine below_set ?_ GE195.out) | exact HB.out)) hb); clear HI0; clear BK194; clear BK195; clear HK; clear HB; have HO202 := n0_; have HO205 := n1_; have HI0 := n2_; have BK194 := n3_; have BK195 := n4_; have HK := n5_; have HB := n6_; clear n0_ n1_ n2_ n3_ n4_ n5_ n6_; (try clear hb); (try clear hb2); (try clear hk); (try clear hi); (try clear ho0); (try clear ho1)) | ((with_reducible refine gate_dst (N := 5) rfl ?_); refine box_event ?hg (N := 5) ?hd (cs := #[.int .i64 0, .int .i64 0, .int .i64 0, .int .i64 0, .slice none 0 0, .slice none 0 0]) (t := 25) ?hr ?_; (case hd => rfl); (case hg => rfl); (case hr => first | (go_simp; done) | (go_simp; rfl)); intro gb206 hg w12 hbox hb; have n0_ := aM_ (Kd.R_below (by (with_reducible repeat (first | apply rA_ | apply rN_ | apply rD_)); exact HO202.out) hb); have n1_ := aM_ (Kd.R_below (by (with_reducible repeat (first | apply rA_ | apply rN_ | apply rD_)); exact HO205.out) hb); have n2_ := aM_ (IsS111.below (by repeat (first | (with_reducible first | exact HI0.out | apply IsS111.alloc | apply IsS111.drewN | apply IsS111.drew | apply IsS111.set_1 | refine IsS111.far ?_ NB0_194.out _ | refine IsS111.far ?_ NB0_195.out _) | exact HI0.out)) hb); have n3_ := aM_ (blk_below (g := gb194) (by (with_reducible repeat (first | apply kN_ | apply kD_ | apply kA_)); exact BK194.out) hb); have n4_ := aM_ (blk_below (g := gb195) (by (with_reducible repeat (first | apply kN_ | apply kD_ | apply kA_)); exact BK195.out) hb); have n5_ := aM_ (KeepBut.trans (by repeat (first | (with_reducible first | exact HK.out | apply pS_ | apply pN_ | apply pD_ | apply pA_ | refine keep_far ?_ GW194.out _ | refine keep_far ?_ GW195.out _) | exact HK.out)) (KeepBut.of_below hb g none) (.inl rfl)); have n6_ := aM_ (below_step (by repeat (first | (with_reducible first | exact HB.out | apply wA_ | apply wN_ | apply wD_ | refine below_set ?_ (IsS111.ge HI0.out) | refine below_set ?_ GE194.out | refine below_set ?_ GE195.out) | exact HB.out)) hb); have n7_ := aM_ (hbox); have n8_ := aM_ ((by rw [hg]; exact (keep_size (w := w) (g := g) (row := none) (by repeat (first | (with_reducible first | exact HK.out | apply pS_ | apply pN_ | apply pD_ | apply pA_ | refine keep_far ?_ GW194.out _ | refine keep_far ?_ GW195.out _) | exact HK.out))) : w.heap.size ≤ gb206)); have n9_ := aM_ ((Nat.le_trans HW0.out (by rw [hg]; exact (keep_size (w := w) (g := g) (row := none) (by repeat (first | (with_reducible first | exact HK.out | apply pS_ | apply pN_ | apply pD_ | apply pA_ | refine keep_far ?_ GW194.out _ | refine keep_far ?_ GW195.out _) | exact HK.out))) : w.heap.size ≤ gb206) : w0.heap.size ≤ gb206)); have n10_ := aM_ ((by rw [hg]; exact Nat.ne_of_lt (blk_lt (g := gb194) (by (with_reducible repeat (first | apply kN_ | apply kD_ | apply kA_)); exact BK194.out)) : gb194 ≠ gb206)); have n11_ := aM_ n10_.out.symm; have n12_ := aM_ ((by rw [hg]; exact Nat.ne_of_lt (blk_lt (g := gb195) (by (with_reducible repeat (first | apply kN_ | apply kD_ | apply kA_)); exact BK195.out)) : gb195 ≠ gb206)); have n13_ := aM_ n12_.out.symm; have n14_ := aM_ ((by rw [hg]; exact Nat.ne_of_lt (IsS111.lt (show IsS111 w0 _ g s0_0 s0_1 from by repeat (first | (with_reducible first | exact HI0.out | apply IsS111.alloc | apply IsS111.drewN | apply IsS111.drew | apply IsS111.set_1 | refine IsS111.far ?_ NB0_194.out _ | refine IsS111.far ?_ NB0_195.out _) | exact HI0.out))) : g ≠ gb206)); have n15_ := aM_ n14_.out.symm; clear HO202; clear HO205; clear HI0; clear BK194; clear BK195; clear HK; clear HB; have HO202 := n0_; have HO205 := n1_; have HI0 := n2_; have BK194 := n3_; have BK195 := n4_; have HK := n5_; have HB := n6_; have BK206 := n7_; have GW206 := n8_; have GE206 := n9_; have NB194_206 := n10_; have NB206_194 := n11_; have NB195_206 := n12_; have NB206_195 := n13_; have NB0_206 := n14_; have NB206_0 := n15_; clear n0_ n1_ n2_ n3_ n4_ n5_ n6_ n7_ n8_ n9_ n10_ n11_ n12_ n13_ n14_ n15_; clear hb hbox hg; have hnb13 := NB206_194.out; have hnc13 := NB194_206.out; have hnb14 := NB206_195.out; have hnc14 := NB195_206.out; have hnb15 := NB206_0.out; have hnc15 := NB0_206.out; obtain ⟨hcz16_0, hcz16_1, hcz16_2, hcz16_3, hcz16_4, hcz16_5⟩ := bc6 BK206.out; obtain ⟨hfz16_0, hfz16_1, hfz16_2, hfz16_3, hfz16_4, hfz16_5⟩ := bf6 BK206.out; obtain ⟨Ao17, co17, eo17⟩ := Kd.R_slice HO202.out; subst eo17; obtain ⟨Ao18, co18, eo18⟩ := Kd.R_slice HO205.out; subst eo18) | ((with_reducible refine gate_callee (f := 80) rfl ?_); refine goesL_ (some 10) rfl rfl Try.func80 (by kernel_rfl) rfl #[.pointer (some ⟨g, 0, none⟩), .int .i64 8] rfl (by (try simp only [List.map_toArray, List.map_cons, List.map_nil]); first | done | rfl | (simp only [List.length_drop, List.length_take]; rfl)) ?_; (with_reducible refine (spec_l1Rd_pick.calls k g s0_0 s0_1 8 t207 t208 w0 _ ?side1 ?side2 A4.out).mono ?_); (case side1 => repeat (first | (with_reducible first | exact HI0.out | apply IsS111.alloc | apply IsS111.drewN | apply IsS111.drew | apply IsS111.set_1 | refine IsS111.far ?_ NB0_194.out _ | refine IsS111.far ?_ NB0_195.out _ | refine IsS111.far ?_ NB0_206.out _) | exact HI0.out)); (case side2 => repeat (first | (with_reducible first | exact HB.out | apply wA_ | apply wN_ | apply wD_ | refine below_set ?_ (IsS111.ge HI0.out) | refine below_set ?_ GE194.out | refine below_set ?_ GE195.out | refine below_set ?_ GE206.out) | exact HB.out)); rintro e w19 ⟨rfl, hi, hb, hk⟩; refine ⟨_, rfl, ?_⟩; have n0_ := aM_ (KeepBut.blk hk (g' := gb194) (o := .cells #[.int .i64 a1_0, .int .i64 a1_1, .int .i64 a1_2, .int .i64 a1_3, .slice A1_4 l1_4.length c1_4, .slice A1_5 l1_5.length c1_5] 25 (0, 0)) (by (with_reducible repeat (first | apply kN_ | apply kD_ | apply kA_)); refine blk_far ?_ NB194_206.out _; (with_reducible repeat (first | apply kN_ | apply kD_ | apply kA_)); refine blk_far ?_ NB194_206.out _; (with_reducible repeat (first | apply kN_ | apply kD_ | apply kA_)); refine blk_far ?_ NB194_206.out _; (with_reducible repeat (first | apply kN_ | apply kD_ | apply kA_)); refine blk_far ?_ NB194_206.out _; (with_reducible repeat (first | apply kN_ | apply kD_ | apply kA_)); refine blk_far ?_ NB194_206.out _; (with_reducible repeat (first | apply kN_ | apply kD_ | apply kA_)); refine blk_far ?_ NB194_206.out _; (with_reducible repeat (first | apply kN_ | apply kD_ | apply kA_)); exact BK194.out) NB194_0.out (by simp)); have n1_ := aM_ (KeepBut.blk hk (g' := gb195) (o := .cells #[.int .i64 0, .int .i64 0, .int .i64 0, .int .i64 0, .slice none 0 0, .slice none 0 0] 25 (0, 0)) (by (with_reducible repeat (first | apply kN_ | apply kD_ | apply kA_)); refine blk_far ?_ NB195_206.out _; (with_reducible repeat (first | apply kN_ | apply kD_ | apply kA_)); refine blk_far ?_ NB195_206.out _; (with_reducible repeat (first | apply kN_ | apply kD_ | apply kA_)); refine blk_far ?_ NB195_206.out _; (with_reducible repeat (first | apply kN_ | apply kD_ | apply kA_)); refine blk_far ?_ NB195_206.out _; (with_reducible repeat (first | apply kN_ | apply kD_ | apply kA_)); refine blk_far ?_ NB195_206.out _; (with_reducible repeat (first | apply kN_ | apply kD_ | apply kA_)); refine blk_far ?_ NB195_206.out _; (with_reducible repeat (first | apply kN_ | apply kD_ | apply kA_)); exact BK195.out) NB195_0.out (by simp)); have n2_ := aM_ (Kd.R_mono (Kd.R_keep (IsS111.apart (show IsS111 w0 _ g s0_0 s0_1 from by repeat (first | (with_reducible first | exact HI0.out | apply IsS111.alloc | apply IsS111.drewN | apply IsS111.drew | apply IsS111.set_1 | refine IsS111.far ?_ NB0_194.out _ | refine IsS111.far ?_ NB0_195.out _ | refine IsS111.far ?_ NB0_206.out _) | exact HI0.out)) (by (with_reducible repeat (first | apply rA_ | apply rN_ | apply rD_)); exact (Kd.R_mono (Kd.R_far (Kd.R_far (Kd.R_far (Kd.R_far (Kd.R_far (Kd.R_far (Kd.R_types HO202.out BK206.out (by decide)) (fun _ hk => hk.2) (.int .i64 t196)) (fun _ hk => hk.2) (.int .i64 t197)) (fun _ hk => hk.2) (.int .i64 t198)) (fun _ hk => hk.2) (.int .i64 t199)) (fun _ hk => hk.2) (.slice Ao17 t200.length co17)) (fun _ hk => hk.2) (.slice Ao18 t203.length co18)) (fun _ h_ => h_.1))) (by decide)) hk (fun _ h => h.2)) (fun _ h => h.1)); have n3_ := aM_ (Kd.R_mono (Kd.R_keep (IsS111.apart (show IsS111 w0 _ g s0_0 s0_1 from by repeat (first | (with_reducible first | exact HI0.out | apply IsS111.alloc | apply IsS111.drewN | apply IsS111.drew | apply IsS111.set_1 | refine IsS111.far ?_ NB0_194.out _ | refine IsS111.far ?_ NB0_195.out _ | refine IsS111.far ?_ NB0_206.out _) | exact HI0.out)) (by (with_reducible repeat (first | apply rA_ | apply rN_ | apply rD_)); exact (Kd.R_mono (Kd.R_far (Kd.R_far (Kd.R_far (Kd.R_far (Kd.R_far (Kd.R_far (Kd.R_types HO205.out BK206.out (by decide)) (fun _ hk => hk.2) (.int .i64 t196)) (fun _ hk => hk.2) (.int .i64 t197)) (fun _ hk => hk.2) (.int .i64 t198)) (fun _ hk => hk.2) (.int .i64 t199)) (fun _ hk => hk.2) (.slice Ao17 t200.length co17)) (fun _ hk => hk.2) (.slice Ao18 t203.length co18)) (fun _ h_ => h_.1))) (by decide)) hk (fun _ h => h.2)) (fun _ h => h.1)); have n4_ := aM_ (KeepBut.blk hk (g' := gb206) (o := .cells #[.int .i64 t196, .int .i64 t197, .int .i64 t198, .int .i64 t199, .slice Ao17 t200.length co17, .slice Ao18 t203.length co18] 25 (0, 0)) (by (with_reducible repeat (first | apply kN_ | apply kD_ | apply kA_)); refine blk_put (cs := #[.int .i64 t196, .int .i64 t197, .int .i64 t198, .int .i64 t199, .slice Ao17 t200.length co17, .slice none 0 0]) ?_ 5 _ rfl; (with_reducible repeat (first | apply kN_ | apply kD_ | apply kA_)); refine blk_put (cs := #[.int .i64 t196, .int .i64 t197, .int .i64 t198, .int .i64 t199, .slice none 0 0, .slice none 0 0]) ?_ 4 _ rfl; (with_reducible repeat (first | apply kN_ | apply kD_ | apply kA_)); refine blk_put (cs := #[.int .i64 t196, .int .i64 t197, .int .i64 t198, .int .i64 0, .slice none 0 0, .slice none 0 0]) ?_ 3 _ rfl; (with_reducible repeat (first | apply kN_ | apply kD_ | apply kA_)); refine blk_put (cs := #[.int .i64 t196, .int .i64 t197, .int .i64 0, .int .i64 0, .slice none 0 0, .slice none 0 0]) ?_ 2 _ rfl; (with_reducible repeat (first | apply kN_ | apply kD_ | apply kA_)); refine blk_put (cs := #[.int .i64 t196, .int .i64 0, .int .i64 0, .int .i64 0, .slice none 0 0, .slice none 0 0]) ?_ 1 _ rfl; (with_reducible repeat (first | apply kN_ | apply kD_ | apply kA_)); refine blk_put (cs := #[.int .i64 0, .int .i64 0, .int .i64 0, .int .i64 0, .slice none 0 0, .slice none 0 0]) ?_ 0 _ rfl; (with_reducible repeat (first | apply kN_ | apply kD_ | apply kA_)); exact BK206.out) NB206_0.out (by simp)); have n5_ := aM_ (KeepBut.trans (by repeat (first | (with_reducible first | exact HK.out | apply pS_ | apply pN_ | apply pD_ | apply pA_ | refine keep_far ?_ GW194.out _ | refine keep_far ?_ GW195.out _ | refine keep_far ?_ GW206.out _) | exact HK.out)) hk (.inl rfl)); have n6_ := aM_ (hb); have n7_ := aM_ (hi); clear BK194; clear BK195; clear HO202; clear HO205; clear BK206; clear HK; clear HB; clear HI0; have BK194 := n0_; have BK195 := n1_; have HO202 := n2_; have HO205 := n3_; have BK206 := n4_; have HK := n5_; have HB := n6_; have HI0 := n7_; clear n0_ n1_ n2_ n3_ n4_ n5_ n6_ n7_; (try clear hb); (try clear hb2); (try clear hk); (try clear hi)))
 (try simp only [Act.put, sA_, s0_, s1_])
 have H := HC5.out
 clear HC5
 by_cases c20 : t207 = 0
 ·rw [if_pos c20] at H
  have c20b0 : (t207 == 0) = true := beq_iff_eq.mpr c20
  have c20b1 : (t207 != 0) = false := bne_eq_false_iff_eq.mpr c20
  clear c20
  (first | rw [c20b0] | (simp only [i64_w, i32_w]; rw [c20b0]) | skip)
  obtain ⟨y209, hy209⟩ : ∃ y_ : List Int, y_ = (([0, 5, wrap64 (1 + (Int.tmod t196 4))] : List Int)) := ⟨_, rfl⟩
  replace H : ((spec_l1Rd_pick.f k s0_0 t208 3).bind fun bt212 => (if 0 ≤ bt212.1 then (if bt212.1 < (y209.length : Int) then (some (rd y209 bt212.1, t197, t198, t199, t200, t203, bt212.2)) else (none)) else (none))) = some (r1, r2, r3, r4, r5, r6, r7) := by first | (rw [hy209]; with_reducible exact H) | (have H2_ := (Option.bind_some _ _).symm.trans H; rw [hy209]; with_reducible exact H2_) | (have H2_ := (Option.bind_some _ _).symm.trans H; with_reducible exact H2_) | with_reducible exact H | (rw [hy209]; exact H) | exact H
  have Ny209 := aM_ hy209
  clear hy209
  replace H := Option.bind_eq_some_iff.mp H
  obtain ⟨⟨t212, t213⟩, A210, H⟩ := H
  replace H : (if 0 ≤ t212 then (if t212 < (y209.length : Int) then (some (rd y209 t212, t197, t198, t199, t200, t203, t213)) else (none)) else (none)) = some (r1, r2, r3, r4, r5, r6, r7) := H
  have A21 := aM_ A210
  clear A210
  by_cases c22 : 0 ≤ t212
  ·rw [if_pos c22] at H
   have c22b0 : decide (0 ≤ t212) = true := decide_eq_true c22
   clear c22
   by_cases c23 : t212 < (y209.length : Int)
   ·rw [if_pos c23] at H
    have c23b0 : decide (t212 < (y209.length : Int)) = true := decide_eq_true c23
    clear c23
    simp only [Option.some.injEq, Prod.mk.injEq] at H
    obtain ⟨rfl, rfl, rfl, rfl, rfl, rfl, rfl⟩ := H
    try go_wp2
    have pi214 : (0 ≤ (t212 : Int)) = True := eq_true (of_decide_eq_true (by first | (with_reducible assumption) | assumption))
    have qi214 : (t212 < (y209.length : Int)) = True := eq_true (of_decide_eq_true (by first | (with_reducible assumption) | assumption))
    have n0_ := aM_ (rD_ HO202.out)
    have n1_ := aM_ (rD_ HO205.out)
    have n2_ := aM_ (kD_ BK194.out)
    have n3_ := aM_ (kD_ BK195.out)
    have n4_ := aM_ (kD_ BK206.out)
    have n5_ := aM_ (IsS111.drew HI0.out)
    have n6_ := aM_ (pD_ HK.out)
    have n7_ := aM_ (wD_ HB.out)
    clear HO202
    clear HO205
    clear BK194
    clear BK195
    clear BK206
    clear HI0
    clear HK
    clear HB
    have HO202 := n0_
    have HO205 := n1_
    have BK194 := n2_
    have BK195 := n3_
    have BK206 := n4_
    have HI0 := n5_
    have HK := n6_
    have HB := n7_
    clear n0_ n1_ n2_ n3_ n4_ n5_ n6_ n7_
    refine start_ (n := 11) (S := fun w' => w'.cell? ⟨gb206, 0, none⟩ = some (.int .i64 t196) ∧ w'.cell? ⟨gb206, 1, none⟩ = some (.int .i64 t197) ∧ w'.cell? ⟨gb206, 2, none⟩ = some (.int .i64 t198) ∧ w'.cell? ⟨gb206, 3, none⟩ = some (.int .i64 t199) ∧ w'.cell? ⟨gb206, 4, none⟩ = some (.slice Ao17 t200.length co17) ∧ w'.cell? ⟨gb206, 5, none⟩ = some (.slice Ao18 t203.length co18)) (ds := [10]) #[false, false, false, false, false, false, false, false, false, false, false] (by kernel_rfl) rfl rfl (bc6 BK206.out) (fun hHeld => ?_); refine with_tabW spec_l14Spoil.tab5 spec_l14Spoil.bits5 (fun HT_ HW_ => ?_)
    generalize w19.drew = w24 at HO202 HO205 BK194 BK195 BK206 HI0 HK HB hHeld ⊢
    refine pure_ (i := 0) (N := some 14) (v := ?_) (a' := ?_) #[true, false, false, false, false, false, false, false, false, false, false] rfl rfl (any_of HT_.out (by kernel_rfl)) (fun _ _ _ h => h) (Or.inl ⟨by rfl, ?_⟩) ?_ ?_
    rotate_left
    ·intro w'
     go_simp
     with_reducible rfl
    rotate_left
    ·simp only [Act.put, sA_, s0_, s1_, i64_w, i32_w]
     rfl
    refine pure_ (i := 5) (N := some 19) (v := ?_) (a' := ?_) #[true, false, false, false, false, true, false, false, false, false, false] rfl rfl (any_of HT_.out (by kernel_rfl)) (fun _ _ _ h => h) (Or.inl ⟨by rfl, ?_⟩) ?_ ?_
    rotate_left
    ·intro w'
     go_simp
     with_reducible rfl
    rotate_left
    ·simp only [Act.put, sA_, s0_, s1_, i64_w, i32_w]
     rfl
    refine take_ (i := 1) (N := some 15) (v := ?_) (a' := ?_) #[true, true, false, false, false, true, false, false, false, false, false] rfl rfl (take_ofW HT_.out HW_.out (by kernel_rfl)) (fun _ _ _ h => h) (Or.inl ⟨by rfl, ?_⟩) hHeld ?_ ?_
    rotate_left
    ·rintro w' ⟨s0, s1, s2, s3, s4, s5⟩
     go_simp
     with_reducible rfl
    rotate_left
    ·simp only [Act.put, sA_, s0_, s1_, i64_w, i32_w]
     rfl
    refine pure_ (i := 2) (N := some 16) (v := ?_) (a' := ?_) #[true, true, true, false, false, true, false, false, false, false, false] rfl rfl (any_of HT_.out (by kernel_rfl)) (fun _ _ _ h => h) (Or.inl ⟨by rfl, ?_⟩) ?_ ?_
    rotate_left
    ·intro w'
     go_simp
     with_reducible rfl
    rotate_left
    ·simp only [Act.put, sA_, s0_, s1_, i64_w, i32_w]
     rfl
    refine pure_ (i := 3) (N := some 17) (v := ?_) (a' := ?_) #[true, true, true, true, false, true, false, false, false, false, false] rfl rfl (any_of HT_.out (by kernel_rfl)) (fun _ _ _ h => h) (Or.inl ⟨by rfl, ?_⟩) ?_ ?_
    rotate_left
    ·intro w'
     go_simp
     with_reducible rfl
    rotate_left
    ·simp only [Act.put, sA_, s0_, s1_, i64_w, i32_w]
     rfl
    refine join_ (σ := Value × Addr) 4 #[true, true, true, true, true, true, true, false, false, false, false] (fun s_ => [(18, s_.1), (20, .int .i64 t212)]) (fun s_ w' => (w'.cell? ⟨gb206, 0, none⟩ = some (.int .i64 t196) ∧ w'.cell? ⟨gb206, 1, none⟩ = some (.int .i64 t197) ∧ w'.cell? ⟨gb206, 2, none⟩ = some (.int .i64 t198) ∧ w'.cell? ⟨gb206, 3, none⟩ = some (.int .i64 t199) ∧ w'.cell? ⟨gb206, 4, none⟩ = some (.slice Ao17 t200.length co17) ∧ w'.cell? ⟨gb206, 5, none⟩ = some (.slice Ao18 t203.length co18)) ∧ (Kd.R (Kd.int .i64) 3 w' w.heap.size (fun k_ => some k_ ≠ (.slice Ao18 t203.length co18 : Value).ownBlock ∧ some k_ ≠ (s_.1 : Value).ownBlock) (.slice Ao17 t200.length co17) t200) ∧ (Kd.R (Kd.int .i64) 3 w' w.heap.size (fun k_ => some k_ ≠ (.slice Ao17 t200.length co17 : Value).ownBlock ∧ some k_ ≠ (s_.1 : Value).ownBlock) (.slice Ao18 t203.length co18) t203) ∧ (Kd.R (Kd.int .i64) 3 w' w.heap.size (fun k_ => some k_ ≠ (.slice Ao17 t200.length co17 : Value).ownBlock ∧ some k_ ≠ (.slice Ao18 t203.length co18 : Value).ownBlock) s_.1 y209) ∧ (∃ c_, (s_.1 : Value) = .slice (some s_.2) y209.length c_) ∧ (w'.heap[gb194]? = some (.cells #[.int .i64 a1_0, .int .i64 a1_1, .int .i64 a1_2, .int .i64 a1_3, .slice A1_4 l1_4.length c1_4, .slice A1_5 l1_5.length c1_5] 25 (0, 0))) ∧ (w'.heap[gb195]? = some (.cells #[.int .i64 0, .int .i64 0, .int .i64 0, .int .i64 0, .slice none 0 0, .slice none 0 0] 25 (0, 0))) ∧ (w'.heap[gb206]? = some (.cells #[.int .i64 t196, .int .i64 t197, .int .i64 t198, .int .i64 t199, .slice Ao17 t200.length co17, .slice Ao18 t203.length co18] 25 (0, 0))) ∧ (IsS111 w0 w' g s0_0 t213) ∧ (KeepBut w w' g none) ∧ (Below w0.heap.size w0 w')) ?_ ?_
    rotate_left
    ·intro hCont
     refine two_ (i := 4) (j := 6) (Ni := some 18) (Nj := some 20) #[true, true, true, true, true, true, false, false, false, false, false] #[true, true, true, true, false, true, true, false, false, false, false] rfl rfl rfl rfl (two_of HT_.out (by kernel_rfl)) (by decide) (by decide) (fun K hK => ?_) (fun K hK => ?_)
     ·skip
      refine Kd.R_lit_step (Kd.int .i64) _ 3 ?hg (N := 18) ?hd (xs := ([0, 5, wrap64 (1 + (Int.tmod t196 4))] : List Int)) (inner := [.int .i64 0, .int .i64 5, .int .i64 (wrap64 (1 + (Int.tmod t196 4)))]) (ok := fun _ => True) (okp := fun _ => True) ?hr ?hp (fun _ hk => hk) trivial (Below.refl _ _) (Nat.le_refl _) (by simp) ?_; (case hd => rfl); (case hg => rfl); (case hr => first | (go_simp; done) | (go_simp; rfl)); (case hp => exact (Reps.one (show Kd.M (Kd.int .i64) _ _ _ 0 [.int .i64 0] from rfl) (Reps.one (show Kd.M (Kd.int .i64) _ _ _ 5 [.int .i64 5] from rfl) (Reps.one (show Kd.M (Kd.int .i64) _ _ _ (wrap64 (1 + (Int.tmod t196 4))) [.int .i64 (wrap64 (1 + (Int.tmod t196 4)))] from rfl) (Reps.none _ _)))))
      intro v210 w25 ho26 hb hg_ hnew_
      clear hg_ hnew_
      (first | rw [← Ny209.out] at ho26 | (simp only [Int.reduceToNat] at ho26; rw [← Ny209.out] at ho26))
      have n0_ := aM_ (Kd.R_elder' (by (with_reducible repeat (first | apply rA_ | apply rN_ | apply rD_)); exact HO202.out) (Kd.R_base ho26) hb)
      have n1_ := aM_ (Kd.R_elder' (by (with_reducible repeat (first | apply rA_ | apply rN_ | apply rD_)); exact HO205.out) (Kd.R_base ho26) hb)
      have n2_ := aM_ (Kd.R_lower (Kd.R_new' (Kd.R_new' ho26 (Kd.R_lt (by (with_reducible repeat (first | apply rA_ | apply rN_ | apply rD_)); exact HO202.out))) (Kd.R_lt (by (with_reducible repeat (first | apply rA_ | apply rN_ | apply rD_)); exact HO205.out))) (keep_size (w := w) (g := g) (row := none) (by repeat (first | (with_reducible first | exact HK.out | apply pS_ | apply pN_ | apply pD_ | apply pA_ | refine keep_far ?_ GW194.out _ | refine keep_far ?_ GW195.out _ | refine keep_far ?_ GW206.out _) | exact HK.out))))
      have n3_ := aM_ (IsS111.below (by repeat (first | (with_reducible first | exact HI0.out | apply IsS111.alloc | apply IsS111.drewN | apply IsS111.drew | apply IsS111.set_1 | refine IsS111.far ?_ NB0_194.out _ | refine IsS111.far ?_ NB0_195.out _ | refine IsS111.far ?_ NB0_206.out _) | exact HI0.out)) hb)
      have n4_ := aM_ (blk_below (g := gb194) (by (with_reducible repeat (first | apply kN_ | apply kD_ | apply kA_)); exact BK194.out) hb)
      have n5_ := aM_ (blk_below (g := gb195) (by (with_reducible repeat (first | apply kN_ | apply kD_ | apply kA_)); exact BK195.out) hb)
      have n6_ := aM_ (blk_below (g := gb206) (by (with_reducible repeat (first | apply kN_ | apply kD_ | apply kA_)); exact BK206.out) hb)
      have n7_ := aM_ (KeepBut.trans (by repeat (first | (with_reducible first | exact HK.out | apply pS_ | apply pN_ | apply pD_ | apply pA_ | refine keep_far ?_ GW194.out _ | refine keep_far ?_ GW195.out _ | refine keep_far ?_ GW206.out _) | exact HK.out)) (KeepBut.of_below hb g none) (.inl rfl))
      have n8_ := aM_ (below_step (by repeat (first | (with_reducible first | exact HB.out | apply wA_ | apply wN_ | apply wD_ | refine below_set ?_ (IsS111.ge HI0.out) | refine below_set ?_ GE194.out | refine below_set ?_ GE195.out | refine below_set ?_ GE206.out) | exact HB.out)) hb)
      clear HO202
      clear HO205
      clear HI0
      clear BK194
      clear BK195
      clear BK206
      clear HK
      clear HB
      have HO202 := n0_
      have HO205 := n1_
      have HO211 := n2_
      have HI0 := n3_
      have BK194 := n4_
      have BK195 := n5_
      have BK206 := n6_
      have HK := n7_
      have HB := n8_
      clear n0_ n1_ n2_ n3_ n4_ n5_ n6_ n7_ n8_
      clear hb ho26
      obtain ⟨Ao27, co27, eo27⟩ := Kd.R_slice HO211.out
      subst eo27
      obtain ⟨ado27, fo27, _⟩ := Kd.at_int (Kd.R_reads' HO211.out).2.2 0 (by decide) (by rw [Ny209.out]; simp)
      cases fo27
      refine hK.out _ _ (bc6 BK206.out) (fun hHeld => ?_)
      clear hK K
      refine norm_ (a' := ?_) ?_ ?_
      rotate_left
      ·show Act.put _ (some 18) _ = _
       simp only [Act.put, sA_, s0_, s1_, i64_w, i32_w]
       rfl
      refine one_ (i := 6) (N := some 20) #[true, true, true, true, true, true, true, false, false, false, false] rfl rfl (one_of HT_.out (by kernel_rfl)) (by decide) (fun K hK => ?_)
      refine goes_ Try.func80 (by kernel_rfl) rfl #[.pointer (some ⟨g, 0, none⟩), .int .i64 3] (by rfl) rfl rfl (by (try simp only [List.map_toArray, List.map_cons, List.map_nil]); first | done | rfl | (simp only [List.length_drop, List.length_take]; rfl)) ?_
      with_reducible refine (spec_l1Rd_pick.calls k g s0_0 t208 3 t212 t213 w0 _ ?side1 ?side2 A21.out).mono ?_
      (case side1 => repeat (first | (with_reducible first | exact HI0.out | apply IsS111.alloc | apply IsS111.drewN | apply IsS111.drew | apply IsS111.set_1 | refine IsS111.far ?_ NB0_194.out _ | refine IsS111.far ?_ NB0_195.out _ | refine IsS111.far ?_ NB0_206.out _) | exact HI0.out))
      (case side2 => repeat (first | (with_reducible first | exact HB.out | apply wA_ | apply wN_ | apply wD_ | refine below_set ?_ (IsS111.ge HI0.out) | refine below_set ?_ GE194.out | refine below_set ?_ GE195.out | refine below_set ?_ GE206.out) | exact HB.out))
      rintro e w28 ⟨rfl, hi, hb, hk⟩
      refine ⟨_, rfl, ?_⟩
      have n0_ := aM_ (KeepBut.blk hk (g' := gb194) (o := .cells #[.int .i64 a1_0, .int .i64 a1_1, .int .i64 a1_2, .int .i64 a1_3, .slice A1_4 l1_4.length c1_4, .slice A1_5 l1_5.length c1_5] 25 (0, 0)) (by (with_reducible repeat (first | apply kN_ | apply kD_ | apply kA_)); exact BK194.out) NB194_0.out (by simp))
      have n1_ := aM_ (KeepBut.blk hk (g' := gb195) (o := .cells #[.int .i64 0, .int .i64 0, .int .i64 0, .int .i64 0, .slice none 0 0, .slice none 0 0] 25 (0, 0)) (by (with_reducible repeat (first | apply kN_ | apply kD_ | apply kA_)); exact BK195.out) NB195_0.out (by simp))
      have n2_ := aM_ (Kd.R_mono (Kd.R_keep (IsS111.apart (show IsS111 w0 _ g s0_0 t208 from by repeat (first | (with_reducible first | exact HI0.out | apply IsS111.alloc | apply IsS111.drewN | apply IsS111.drew | apply IsS111.set_1 | refine IsS111.far ?_ NB0_194.out _ | refine IsS111.far ?_ NB0_195.out _ | refine IsS111.far ?_ NB0_206.out _) | exact HI0.out)) (by (with_reducible repeat (first | apply rA_ | apply rN_ | apply rD_)); exact HO202.out) (by decide)) hk (fun _ h => h.2)) (fun _ h => h.1))
      have n3_ := aM_ (Kd.R_mono (Kd.R_keep (IsS111.apart (show IsS111 w0 _ g s0_0 t208 from by repeat (first | (with_reducible first | exact HI0.out | apply IsS111.alloc | apply IsS111.drewN | apply IsS111.drew | apply IsS111.set_1 | refine IsS111.far ?_ NB0_194.out _ | refine IsS111.far ?_ NB0_195.out _ | refine IsS111.far ?_ NB0_206.out _) | exact HI0.out)) (by (with_reducible repeat (first | apply rA_ | apply rN_ | apply rD_)); exact HO205.out) (by decide)) hk (fun _ h => h.2)) (fun _ h => h.1))
      have n4_ := aM_ (KeepBut.blk hk (g' := gb206) (o := .cells #[.int .i64 t196, .int .i64 t197, .int .i64 t198, .int .i64 t199, .slice Ao17 t200.length co17, .slice Ao18 t203.length co18] 25 (0, 0)) (by (with_reducible repeat (first | apply kN_ | apply kD_ | apply kA_)); exact BK206.out) NB206_0.out (by simp))
      have n5_ := aM_ (Kd.R_mono (Kd.R_keep (IsS111.apart (show IsS111 w0 _ g s0_0 t208 from by repeat (first | (with_reducible first | exact HI0.out | apply IsS111.alloc | apply IsS111.drewN | apply IsS111.drew | apply IsS111.set_1 | refine IsS111.far ?_ NB0_194.out _ | refine IsS111.far ?_ NB0_195.out _ | refine IsS111.far ?_ NB0_206.out _) | exact HI0.out)) (by (with_reducible repeat (first | apply rA_ | apply rN_ | apply rD_)); exact HO211.out) (by decide)) hk (fun _ h => h.2)) (fun _ h => h.1))
      have n6_ := aM_ (KeepBut.trans (by repeat (first | (with_reducible first | exact HK.out | apply pS_ | apply pN_ | apply pD_ | apply pA_ | refine keep_far ?_ GW194.out _ | refine keep_far ?_ GW195.out _ | refine keep_far ?_ GW206.out _) | exact HK.out)) hk (.inl rfl))
      have n7_ := aM_ (hb)
      have n8_ := aM_ (hi)
      clear BK194
      clear BK195
      clear HO202
      clear HO205
      clear BK206
      clear HO211
      clear HK
      clear HB
      clear HI0
      have BK194 := n0_
      have BK195 := n1_
      have HO202 := n2_
      have HO205 := n3_
      have BK206 := n4_
      have HO211 := n5_
      have HK := n6_
      have HB := n7_
      have HI0 := n8_
      clear n0_ n1_ n2_ n3_ n4_ n5_ n6_ n7_ n8_
      (try clear hb)
      (try clear hb2)
      (try clear hk)
      (try clear hi)
      refine hK.out _ _ (bc6 BK206.out) (fun hHeld => ?_)
      clear hK K
      refine norm_ (a' := ?_) ?_ ?_
      rotate_left
      ·show Act.put _ (some 20) _ = _
       simp only [Act.put, sA_, s0_, s1_, i64_w, i32_w]
       rfl
      exact norm_ (by simp only [putAll, Act.put, sA_, s0_, s1_]) (hCont (.slice (some ado27) y209.length co27, ado27) _ ⟨hHeld, (by (with_reducible repeat (first | apply rA_ | apply rN_ | apply rD_)); exact HO202.out), (by (with_reducible repeat (first | apply rA_ | apply rN_ | apply rD_)); exact HO205.out), (by (with_reducible repeat (first | apply rA_ | apply rN_ | apply rD_)); exact Kd.R_mono HO211.out (fun _ hk => ⟨hk.1.2, hk.2⟩)), ⟨_, rfl⟩, (by (with_reducible repeat (first | apply kN_ | apply kD_ | apply kA_)); exact BK194.out), (by (with_reducible repeat (first | apply kN_ | apply kD_ | apply kA_)); exact BK195.out), (by (with_reducible repeat (first | apply kN_ | apply kD_ | apply kA_)); exact BK206.out), (by repeat (first | (with_reducible first | exact HI0.out | apply IsS111.alloc | apply IsS111.drewN | apply IsS111.drew | apply IsS111.set_1 | refine IsS111.far ?_ NB0_194.out _ | refine IsS111.far ?_ NB0_195.out _ | refine IsS111.far ?_ NB0_206.out _) | exact HI0.out)), (by repeat (first | (with_reducible first | exact HK.out | apply pS_ | apply pN_ | apply pD_ | apply pA_ | refine keep_far ?_ GW194.out _ | refine keep_far ?_ GW195.out _ | refine keep_far ?_ GW206.out _) | exact HK.out)), (by repeat (first | (with_reducible first | exact HB.out | apply wA_ | apply wN_ | apply wD_ | refine below_set ?_ (IsS111.ge HI0.out) | refine below_set ?_ GE194.out | refine below_set ?_ GE195.out | refine below_set ?_ GE206.out) | exact HB.out))⟩)
     ·skip
      refine goes_ Try.func80 (by kernel_rfl) rfl #[.pointer (some ⟨g, 0, none⟩), .int .i64 3] (by rfl) rfl rfl (by (try simp only [List.map_toArray, List.map_cons, List.map_nil]); first | done | rfl | (simp only [List.length_drop, List.length_take]; rfl)) ?_
      with_reducible refine (spec_l1Rd_pick.calls k g s0_0 t208 3 t212 t213 w0 _ ?side1 ?side2 A21.out).mono ?_
      (case side1 => repeat (first | (with_reducible first | exact HI0.out | apply IsS111.alloc | apply IsS111.drewN | apply IsS111.drew | apply IsS111.set_1 | refine IsS111.far ?_ NB0_194.out _ | refine IsS111.far ?_ NB0_195.out _ | refine IsS111.far ?_ NB0_206.out _) | exact HI0.out))
      (case side2 => repeat (first | (with_reducible first | exact HB.out | apply wA_ | apply wN_ | apply wD_ | refine below_set ?_ (IsS111.ge HI0.out) | refine below_set ?_ GE194.out | refine below_set ?_ GE195.out | refine below_set ?_ GE206.out) | exact HB.out))
      rintro e w25 ⟨rfl, hi, hb, hk⟩
      refine ⟨_, rfl, ?_⟩
      have n0_ := aM_ (KeepBut.blk hk (g' := gb194) (o := .cells #[.int .i64 a1_0, .int .i64 a1_1, .int .i64 a1_2, .int .i64 a1_3, .slice A1_4 l1_4.length c1_4, .slice A1_5 l1_5.length c1_5] 25 (0, 0)) (by (with_reducible repeat (first | apply kN_ | apply kD_ | apply kA_)); exact BK194.out) NB194_0.out (by simp))
      have n1_ := aM_ (KeepBut.blk hk (g' := gb195) (o := .cells #[.int .i64 0, .int .i64 0, .int .i64 0, .int .i64 0, .slice none 0 0, .slice none 0 0] 25 (0, 0)) (by (with_reducible repeat (first | apply kN_ | apply kD_ | apply kA_)); exact BK195.out) NB195_0.out (by simp))
      have n2_ := aM_ (Kd.R_mono (Kd.R_keep (IsS111.apart (show IsS111 w0 _ g s0_0 t208 from by repeat (first | (with_reducible first | exact HI0.out | apply IsS111.alloc | apply IsS111.drewN | apply IsS111.drew | apply IsS111.set_1 | refine IsS111.far ?_ NB0_194.out _ | refine IsS111.far ?_ NB0_195.out _ | refine IsS111.far ?_ NB0_206.out _) | exact HI0.out)) (by (with_reducible repeat (first | apply rA_ | apply rN_ | apply rD_)); exact HO202.out) (by decide)) hk (fun _ h => h.2)) (fun _ h => h.1))
      have n3_ := aM_ (Kd.R_mono (Kd.R_keep (IsS111.apart (show IsS111 w0 _ g s0_0 t208 from by repeat (first | (with_reducible first | exact HI0.out | apply IsS111.alloc | apply IsS111.drewN | apply IsS111.drew | apply IsS111.set_1 | refine IsS111.far ?_ NB0_194.out _ | refine IsS111.far ?_ NB0_195.out _ | refine IsS111.far ?_ NB0_206.out _) | exact HI0.out)) (by (with_reducible repeat (first | apply rA_ | apply rN_ | apply rD_)); exact HO205.out) (by decide)) hk (fun _ h => h.2)) (fun _ h => h.1))
      have n4_ := aM_ (KeepBut.blk hk (g' := gb206) (o := .cells #[.int .i64 t196, .int .i64 t197, .int .i64 t198, .int .i64 t199, .slice Ao17 t200.length co17, .slice Ao18 t203.length co18] 25 (0, 0)) (by (with_reducible repeat (first | apply kN_ | apply kD_ | apply kA_)); exact BK206.out) NB206_0.out (by simp))
      have n5_ := aM_ (KeepBut.trans (by repeat (first | (with_reducible first | exact HK.out | apply pS_ | apply pN_ | apply pD_ | apply pA_ | refine keep_far ?_ GW194.out _ | refine keep_far ?_ GW195.out _ | refine keep_far ?_ GW206.out _) | exact HK.out)) hk (.inl rfl))
      have n6_ := aM_ (hb)
      have n7_ := aM_ (hi)
      clear BK194
      clear BK195
      clear HO202
      clear HO205
      clear BK206
      clear HK
      clear HB
      clear HI0
      have BK194 := n0_
      have BK195 := n1_
      have HO202 := n2_
      have HO205 := n3_
      have BK206 := n4_
      have HK := n5_
      have HB := n6_
      have HI0 := n7_
      clear n0_ n1_ n2_ n3_ n4_ n5_ n6_ n7_
      (try clear hb)
      (try clear hb2)
      (try clear hk)
      (try clear hi)
      refine hK.out _ _ (bc6 BK206.out) (fun hHeld => ?_)
      clear hK K
      refine norm_ (a' := ?_) ?_ ?_
      rotate_left
      ·show Act.put _ (some 20) _ = _
       simp only [Act.put, sA_, s0_, s1_, i64_w, i32_w]
       rfl
      refine one_ (i := 4) (N := some 18) #[true, true, true, true, true, true, true, false, false, false, false] rfl rfl (one_of HT_.out (by kernel_rfl)) (by decide) (fun K hK => ?_)
      refine Kd.R_lit_step (Kd.int .i64) _ 3 ?hg (N := 18) ?hd (xs := ([0, 5, wrap64 (1 + (Int.tmod t196 4))] : List Int)) (inner := [.int .i64 0, .int .i64 5, .int .i64 (wrap64 (1 + (Int.tmod t196 4)))]) (ok := fun _ => True) (okp := fun _ => True) ?hr ?hp (fun _ hk => hk) trivial (Below.refl _ _) (Nat.le_refl _) (by simp) ?_; (case hd => rfl); (case hg => rfl); (case hr => first | (go_simp; done) | (go_simp; rfl)); (case hp => exact (Reps.one (show Kd.M (Kd.int .i64) _ _ _ 0 [.int .i64 0] from rfl) (Reps.one (show Kd.M (Kd.int .i64) _ _ _ 5 [.int .i64 5] from rfl) (Reps.one (show Kd.M (Kd.int .i64) _ _ _ (wrap64 (1 + (Int.tmod t196 4))) [.int .i64 (wrap64 (1 + (Int.tmod t196 4)))] from rfl) (Reps.none _ _)))))
      intro v210 w26 ho27 hb hg_ hnew_
      clear hg_ hnew_
      (first | rw [← Ny209.out] at ho27 | (simp only [Int.reduceToNat] at ho27; rw [← Ny209.out] at ho27))
      have n0_ := aM_ (Kd.R_elder' (by (with_reducible repeat (first | apply rA_ | apply rN_ | apply rD_)); exact HO202.out) (Kd.R_base ho27) hb)
      have n1_ := aM_ (Kd.R_elder' (by (with_reducible repeat (first | apply rA_ | apply rN_ | apply rD_)); exact HO205.out) (Kd.R_base ho27) hb)
      have n2_ := aM_ (Kd.R_lower (Kd.R_new' (Kd.R_new' ho27 (Kd.R_lt (by (with_reducible repeat (first | apply rA_ | apply rN_ | apply rD_)); exact HO202.out))) (Kd.R_lt (by (with_reducible repeat (first | apply rA_ | apply rN_ | apply rD_)); exact HO205.out))) (keep_size (w := w) (g := g) (row := none) (by repeat (first | (with_reducible first | exact HK.out | apply pS_ | apply pN_ | apply pD_ | apply pA_ | refine keep_far ?_ GW194.out _ | refine keep_far ?_ GW195.out _ | refine keep_far ?_ GW206.out _) | exact HK.out))))
      have n3_ := aM_ (IsS111.below (by repeat (first | (with_reducible first | exact HI0.out | apply IsS111.alloc | apply IsS111.drewN | apply IsS111.drew | apply IsS111.set_1 | refine IsS111.far ?_ NB0_194.out _ | refine IsS111.far ?_ NB0_195.out _ | refine IsS111.far ?_ NB0_206.out _) | exact HI0.out)) hb)
      have n4_ := aM_ (blk_below (g := gb194) (by (with_reducible repeat (first | apply kN_ | apply kD_ | apply kA_)); exact BK194.out) hb)
      have n5_ := aM_ (blk_below (g := gb195) (by (with_reducible repeat (first | apply kN_ | apply kD_ | apply kA_)); exact BK195.out) hb)
      have n6_ := aM_ (blk_below (g := gb206) (by (with_reducible repeat (first | apply kN_ | apply kD_ | apply kA_)); exact BK206.out) hb)
      have n7_ := aM_ (KeepBut.trans (by repeat (first | (with_reducible first | exact HK.out | apply pS_ | apply pN_ | apply pD_ | apply pA_ | refine keep_far ?_ GW194.out _ | refine keep_far ?_ GW195.out _ | refine keep_far ?_ GW206.out _) | exact HK.out)) (KeepBut.of_below hb g none) (.inl rfl))
      have n8_ := aM_ (below_step (by repeat (first | (with_reducible first | exact HB.out | apply wA_ | apply wN_ | apply wD_ | refine below_set ?_ (IsS111.ge HI0.out) | refine below_set ?_ GE194.out | refine below_set ?_ GE195.out | refine below_set ?_ GE206.out) | exact HB.out)) hb)
      clear HO202
      clear HO205
      clear HI0
      clear BK194
      clear BK195
      clear BK206
      clear HK
      clear HB
      have HO202 := n0_
      have HO205 := n1_
      have HO211 := n2_
      have HI0 := n3_
      have BK194 := n4_
      have BK195 := n5_
      have BK206 := n6_
      have HK := n7_
      have HB := n8_
      clear n0_ n1_ n2_ n3_ n4_ n5_ n6_ n7_ n8_
      clear hb ho27
      obtain ⟨Ao28, co28, eo28⟩ := Kd.R_slice HO211.out
      subst eo28
      obtain ⟨ado28, fo28, _⟩ := Kd.at_int (Kd.R_reads' HO211.out).2.2 0 (by decide) (by rw [Ny209.out]; simp)
      cases fo28
      refine hK.out _ _ (bc6 BK206.out) (fun hHeld => ?_)
      clear hK K
      refine norm_ (a' := ?_) ?_ ?_
      rotate_left
      ·show Act.put _ (some 18) _ = _
       simp only [Act.put, sA_, s0_, s1_, i64_w, i32_w]
       rfl
      exact norm_ (by simp only [putAll, Act.put, sA_, s0_, s1_]) (hCont (.slice (some ado28) y209.length co28, ado28) _ ⟨hHeld, (by (with_reducible repeat (first | apply rA_ | apply rN_ | apply rD_)); exact HO202.out), (by (with_reducible repeat (first | apply rA_ | apply rN_ | apply rD_)); exact HO205.out), (by (with_reducible repeat (first | apply rA_ | apply rN_ | apply rD_)); exact Kd.R_mono HO211.out (fun _ hk => ⟨hk.1.2, hk.2⟩)), ⟨_, rfl⟩, (by (with_reducible repeat (first | apply kN_ | apply kD_ | apply kA_)); exact BK194.out), (by (with_reducible repeat (first | apply kN_ | apply kD_ | apply kA_)); exact BK195.out), (by (with_reducible repeat (first | apply kN_ | apply kD_ | apply kA_)); exact BK206.out), (by repeat (first | (with_reducible first | exact HI0.out | apply IsS111.alloc | apply IsS111.drewN | apply IsS111.drew | apply IsS111.set_1 | refine IsS111.far ?_ NB0_194.out _ | refine IsS111.far ?_ NB0_195.out _ | refine IsS111.far ?_ NB0_206.out _) | exact HI0.out)), (by repeat (first | (with_reducible first | exact HK.out | apply pS_ | apply pN_ | apply pD_ | apply pA_ | refine keep_far ?_ GW194.out _ | refine keep_far ?_ GW195.out _ | refine keep_far ?_ GW206.out _) | exact HK.out)), (by repeat (first | (with_reducible first | exact HB.out | apply wA_ | apply wN_ | apply wD_ | refine below_set ?_ (IsS111.ge HI0.out) | refine below_set ?_ GE194.out | refine below_set ?_ GE195.out | refine below_set ?_ GE206.out) | exact HB.out))⟩)
    rintro ⟨v210, adz_v210⟩ w29 ⟨hS_, h0_, h1_, h2_, h3_, h4_, h5_, h6_, h7_, h8_, h9_⟩
    have n0_ : Aside0 (Kd.R (Kd.int .i64) 3 w29 w.heap.size (fun k_ => some k_ ≠ (.slice Ao18 t203.length co18 : Value).ownBlock ∧ some k_ ≠ (v210 : Value).ownBlock) (.slice Ao17 t200.length co17) t200) := ⟨h0_⟩
    have n1_ : Aside0 (Kd.R (Kd.int .i64) 3 w29 w.heap.size (fun k_ => some k_ ≠ (.slice Ao17 t200.length co17 : Value).ownBlock ∧ some k_ ≠ (v210 : Value).ownBlock) (.slice Ao18 t203.length co18) t203) := ⟨h1_⟩
    have n2_ : Aside0 (Kd.R (Kd.int .i64) 3 w29 w.heap.size (fun k_ => some k_ ≠ (.slice Ao17 t200.length co17 : Value).ownBlock ∧ some k_ ≠ (.slice Ao18 t203.length co18 : Value).ownBlock) v210 y209) := ⟨h2_⟩
    have n3_ : Aside0 (∃ c_, (v210 : Value) = .slice (some adz_v210) y209.length c_) := ⟨h3_⟩
    have n4_ : Aside0 (w29.heap[gb194]? = some (.cells #[.int .i64 a1_0, .int .i64 a1_1, .int .i64 a1_2, .int .i64 a1_3, .slice A1_4 l1_4.length c1_4, .slice A1_5 l1_5.length c1_5] 25 (0, 0))) := ⟨h4_⟩
    have n5_ : Aside0 (w29.heap[gb195]? = some (.cells #[.int .i64 0, .int .i64 0, .int .i64 0, .int .i64 0, .slice none 0 0, .slice none 0 0] 25 (0, 0))) := ⟨h5_⟩
    have n6_ : Aside0 (w29.heap[gb206]? = some (.cells #[.int .i64 t196, .int .i64 t197, .int .i64 t198, .int .i64 t199, .slice Ao17 t200.length co17, .slice Ao18 t203.length co18] 25 (0, 0))) := ⟨h6_⟩
    have n7_ : Aside0 (IsS111 w0 w29 g s0_0 t213) := ⟨h7_⟩
    have n8_ : Aside0 (KeepBut w w29 g none) := ⟨h8_⟩
    have n9_ : Aside0 (Below w0.heap.size w0 w29) := ⟨h9_⟩
    clear HO202
    clear HO205
    clear BK194
    clear BK195
    clear BK206
    clear HI0
    clear HK
    clear HB
    clear h0_ h1_ h2_ h3_ h4_ h5_ h6_ h7_ h8_ h9_
    have HO202 := n0_
    have HO205 := n1_
    have HO211 := n2_
    have HA_HO211 := n3_
    have BK194 := n4_
    have BK195 := n5_
    have BK206 := n6_
    have HI0 := n7_
    have HK := n8_
    have HB := n9_
    clear n0_ n1_ n2_ n3_ n4_ n5_ n6_ n7_ n8_ n9_
    have hHeld : w29.cell? ⟨gb206, 0, none⟩ = some (.int .i64 t196) ∧ w29.cell? ⟨gb206, 1, none⟩ = some (.int .i64 t197) ∧ w29.cell? ⟨gb206, 2, none⟩ = some (.int .i64 t198) ∧ w29.cell? ⟨gb206, 3, none⟩ = some (.int .i64 t199) ∧ w29.cell? ⟨gb206, 4, none⟩ = some (.slice Ao17 t200.length co17) ∧ w29.cell? ⟨gb206, 5, none⟩ = some (.slice Ao18 t203.length co18) := hS_
    obtain ⟨co30, eo30⟩ := HA_HO211.out
    clear HA_HO211
    subst eo30
    refine norm_ (a' := ?_) ?_ ?_
    rotate_left
    ·simp only [putAll, Act.put, sA_, s0_, s1_]
     rfl
    refine pure_ (i := 7) (N := some 21) (v := ?_) (a' := ?_) #[true, true, true, true, true, true, true, true, false, false, false] rfl rfl (any_of HT_.out (by kernel_rfl)) (fun _ _ _ h => h) (Or.inl ⟨by rfl, ?_⟩) ?_ ?_
    rotate_left
    ·intro w'
     go_simp
     with_reducible rfl
    rotate_left
    ·simp only [Act.put, sA_, s0_, s1_, i64_w, i32_w]
     rfl
    refine one_ (i := 8) (N := some 22) #[true, true, true, true, true, true, true, true, true, false, false] rfl rfl (one_of HT_.out (by kernel_rfl)) (by decide) (fun K hK => ?_)
    (have p214 : 0 ≤ (t212 : Int) := of_decide_eq_true (by first | (with_reducible assumption) | assumption); have q214 : t212 < (y209.length : Int) := of_decide_eq_true (by first | (with_reducible assumption) | assumption); obtain ⟨ad214, e214, hx214_0⟩ := Kd.at_int (Kd.R_reads' HO211.out).2.2 t212 p214 q214; obtain rfl : adz_v210 = ad214 := (by injection e214))
    refine value_ (w1 := ?_) (v := ?_) (by rfl) rfl ?_ ?_
    rotate_left 2
    ·go_simp
     constructor
     ·rfl
     ·rfl
    clear hx214_0
    refine hK.out _ _ (bc6 BK206.out) (fun hHeld => ?_)
    clear hK K
    refine norm_ (a' := ?_) ?_ ?_
    rotate_left
    ·show Act.put _ (some 22) _ = _
     simp only [Act.put, sA_, s0_, s1_, i64_w, i32_w]
     rfl
    refine pure_ (i := 9) (N := some 23) (v := ?_) (a' := ?_) #[true, true, true, true, true, true, true, true, true, true, false] rfl rfl (any_of HT_.out (by kernel_rfl)) (fun _ _ _ h => h) (Or.inl ⟨by rfl, ?_⟩) ?_ ?_
    rotate_left
    ·intro w'
     go_simp
     with_reducible rfl
    rotate_left
    ·simp only [Act.put, sA_, s0_, s1_, i64_w, i32_w]
     rfl
    refine last_ (i := 10) (N := none) #[true, true, true, true, true, true, true, true, true, true, true] rfl rfl (one_of HT_.out (by kernel_rfl)) (by decide) (fun K hK => ?_)
    have hs31 : w29.cell? ⟨gb206, 0, none⟩ = some (.int .i64 t196) := (blk_cell BK206.out 0).trans rfl
    have hfs31 := blk_frozen BK206.out 0
    have hns31_0 := NB194_206.out
    have hns31_1 := NB195_206.out
    have hms31_0 := NB206_194.out
    have hms31_1 := NB206_195.out
    refine skip_ (w1 := ?_) (by rfl) rfl ?_ ?_
    rotate_left
    ·go_simp
     rfl
    refine hK.out _ _ ?_
    clear hK K
    refine done_ (done_of HT_.out (by kernel_rfl)) ?_
    have hnb32 := NB206_194.out
    have hnc32 := NB194_206.out
    have hnb33 := NB206_195.out
    have hnc33 := NB195_206.out
    have hnb34 := NB206_0.out
    have hnc34 := NB0_206.out
    obtain ⟨hcz35_0, hcz35_1, hcz35_2, hcz35_3, hcz35_4, hcz35_5⟩ := bc6 BK206.out
    obtain ⟨hfz35_0, hfz35_1, hfz35_2, hfz35_3, hfz35_4, hfz35_5⟩ := bf6 BK206.out
    have hnb36 := NB195_194.out
    have hnc36 := NB194_195.out
    have hnb37 := NB195_0.out
    have hnc37 := NB0_195.out
    obtain ⟨hcz38_0, hcz38_1, hcz38_2, hcz38_3, hcz38_4, hcz38_5⟩ := bc6 BK195.out
    obtain ⟨hfz38_0, hfz38_1, hfz38_2, hfz38_3, hfz38_4, hfz38_5⟩ := bf6 BK195.out
    try go_wp2
    refine bodyPost_ret (results_cell_row rfl _ _ gb195 25 #[.int .i64 (rd y209 t212), .int .i64 t197, .int .i64 t198, .int .i64 t199, .slice Ao17 t200.length co17, .slice Ao18 t203.length co18] (0, 0) _ rfl (by (with_reducible repeat (first | apply kN_ | apply kD_ | apply kA_)); refine blk_put (cs := #[.int .i64 (rd y209 t212), .int .i64 t197, .int .i64 t198, .int .i64 t199, .slice Ao17 t200.length co17, .slice none 0 0]) ?_ 5 _ rfl; (with_reducible repeat (first | apply kN_ | apply kD_ | apply kA_)); refine blk_put (cs := #[.int .i64 (rd y209 t212), .int .i64 t197, .int .i64 t198, .int .i64 t199, .slice none 0 0, .slice none 0 0]) ?_ 4 _ rfl; (with_reducible repeat (first | apply kN_ | apply kD_ | apply kA_)); refine blk_put (cs := #[.int .i64 (rd y209 t212), .int .i64 t197, .int .i64 t198, .int .i64 0, .slice none 0 0, .slice none 0 0]) ?_ 3 _ rfl; (with_reducible repeat (first | apply kN_ | apply kD_ | apply kA_)); refine blk_put (cs := #[.int .i64 (rd y209 t212), .int .i64 t197, .int .i64 0, .int .i64 0, .slice none 0 0, .slice none 0 0]) ?_ 2 _ rfl; (with_reducible repeat (first | apply kN_ | apply kD_ | apply kA_)); refine blk_put (cs := #[.int .i64 (rd y209 t212), .int .i64 0, .int .i64 0, .int .i64 0, .slice none 0 0, .slice none 0 0]) ?_ 1 _ rfl; (with_reducible repeat (first | apply kN_ | apply kD_ | apply kA_)); refine blk_put (cs := #[.int .i64 0, .int .i64 0, .int .i64 0, .int .i64 0, .slice none 0 0, .slice none 0 0]) ?_ 0 _ rfl; (with_reducible repeat (first | apply kN_ | apply kD_ | apply kA_)); refine blk_far ?_ NB195_206.out _; (with_reducible repeat (first | apply kN_ | apply kD_ | apply kA_)); exact BK195.out) Try.underlying25 rfl (by kernel_rfl)) rfl ?_
    exact ⟨_, _, by first | rfl | (simp [errW_none, errW_some] <;> rfl) | (simp [*, errW_none, errW_some] <;> rfl), by (with_reducible repeat (first | apply rA_ | apply rN_ | apply rD_)); exact Kd.R_mono (Kd.R_far (Kd.R_far (Kd.R_far (Kd.R_far (Kd.R_far (Kd.R_far (Kd.R_far (Kd.R_types (Kd.R_types HO202.out BK206.out (by decide)) BK195.out (by decide)) (fun _ hk => hk.1.2) (.int .i64 (rd y209 t212))) (fun _ hk => hk.2) (.int .i64 (rd y209 t212))) (fun _ hk => hk.2) (.int .i64 t197)) (fun _ hk => hk.2) (.int .i64 t198)) (fun _ hk => hk.2) (.int .i64 t199)) (fun _ hk => hk.2) (.slice Ao17 t200.length co17)) (fun _ hk => hk.2) (.slice Ao18 t203.length co18)) (fun _ hk => hk.1.1.1), Kd.Q_of_R (by (with_reducible repeat (first | apply rA_ | apply rN_ | apply rD_)); exact Kd.R_mono (Kd.R_far (Kd.R_far (Kd.R_far (Kd.R_far (Kd.R_far (Kd.R_far (Kd.R_far (Kd.R_types (Kd.R_types HO205.out BK206.out (by decide)) BK195.out (by decide)) (fun _ hk => hk.1.2) (.int .i64 (rd y209 t212))) (fun _ hk => hk.2) (.int .i64 (rd y209 t212))) (fun _ hk => hk.2) (.int .i64 t197)) (fun _ hk => hk.2) (.int .i64 t198)) (fun _ hk => hk.2) (.int .i64 t199)) (fun _ hk => hk.2) (.slice Ao17 t200.length co17)) (fun _ hk => hk.2) (.slice Ao18 t203.length co18)) (fun _ hk => hk.1.1.1)), by repeat (first | (with_reducible first | exact HI0.out | apply IsS111.alloc | apply IsS111.drewN | apply IsS111.drew | apply IsS111.set_1 | refine IsS111.far ?_ NB0_194.out _ | refine IsS111.far ?_ NB0_195.out _ | refine IsS111.far ?_ NB0_206.out _) | exact HI0.out), by repeat (first | (with_reducible first | exact HB.out | apply wA_ | apply wN_ | apply wD_ | refine below_set ?_ (IsS111.ge HI0.out) | refine below_set ?_ GE194.out | refine below_set ?_ GE195.out | refine below_set ?_ GE206.out) | exact HB.out), by repeat (first | (with_reducible first | exact HK.out | apply pS_ | apply pN_ | apply pD_ | apply pA_ | refine keep_far ?_ GW194.out _ | refine keep_far ?_ GW195.out _ | refine keep_far ?_ GW206.out _) | exact HK.out)⟩
   ·rw [if_neg c23] at H
    exact absurd H (by simp)
  ·rw [if_neg c22] at H
   exact absurd H (by simp)
 ·rw [if_neg c20] at H
  have c20b0 : (t207 == 0) = false := beq_eq_false_iff_ne.mpr c20
  have c20b1 : (t207 != 0) = true := bne_iff_ne.mpr c20
  (first | rw [c20b0] | (simp only [i64_w, i32_w]; rw [c20b0]) | skip)
  by_cases c39 : t207 = 1
  ·rw [if_pos c39] at H
   have c39b0 : (t207 == 1) = true := beq_iff_eq.mpr c39
   have c39b1 : (t207 != 1) = false := bne_eq_false_iff_eq.mpr c39
   clear c39
   obtain ⟨y215, hy215⟩ : ∃ y_ : List Int, y_ = (([0, 3, 16] : List Int)) := ⟨_, rfl⟩
   replace H : ((spec_l1Rd_pick.f k s0_0 t208 3).bind fun bt218 => (if 0 ≤ bt218.1 then (if bt218.1 < (y215.length : Int) then (some (t196, rd y215 bt218.1, t198, t199, t200, t203, bt218.2)) else (none)) else (none))) = some (r1, r2, r3, r4, r5, r6, r7) := by first | (rw [hy215]; with_reducible exact H) | (have H2_ := (Option.bind_some _ _).symm.trans H; rw [hy215]; with_reducible exact H2_) | (have H2_ := (Option.bind_some _ _).symm.trans H; with_reducible exact H2_) | with_reducible exact H | (rw [hy215]; exact H) | exact H
   have Ny215 := aM_ hy215
   clear hy215
   replace H := Option.bind_eq_some_iff.mp H
   obtain ⟨⟨t218, t219⟩, A400, H⟩ := H
   replace H : (if 0 ≤ t218 then (if t218 < (y215.length : Int) then (some (t196, rd y215 t218, t198, t199, t200, t203, t219)) else (none)) else (none)) = some (r1, r2, r3, r4, r5, r6, r7) := H
   have A40 := aM_ A400
   clear A400
   by_cases c41 : 0 ≤ t218
   ·rw [if_pos c41] at H
    have c41b0 : decide (0 ≤ t218) = true := decide_eq_true c41
    clear c41
    by_cases c42 : t218 < (y215.length : Int)
    ·rw [if_pos c42] at H
     have c42b0 : decide (t218 < (y215.length : Int)) = true := decide_eq_true c42
     clear c42
     simp only [Option.some.injEq, Prod.mk.injEq] at H
     obtain ⟨rfl, rfl, rfl, rfl, rfl, rfl, rfl⟩ := H
     go_wp2_with (first | ((with_reducible refine gate_dst (N := 26) rfl ?_); refine Kd.R_lit (Kd.int .i64) _ 3 ?hg (N := 26) ?hd (xs := ([0, 3, 16] : List Int)) (inner := [.int .i64 0, .int .i64 3, .int .i64 16]) (ok := fun _ => True) (okp := fun _ => True) ?hr ?hp (fun _ hk => hk) trivial (Below.refl _ _) (Nat.le_refl _) (by simp) ?_; (case hd => rfl); (case hg => rfl); (case hr => first | (go_simp; done) | (go_simp; rfl)); (case hp => exact (Reps.one (show Kd.M (Kd.int .i64) _ _ _ 0 [.int .i64 0] from rfl) (Reps.one (show Kd.M (Kd.int .i64) _ _ _ 3 [.int .i64 3] from rfl) (Reps.one (show Kd.M (Kd.int .i64) _ _ _ 16 [.int .i64 16] from rfl) (Reps.none _ _))))); intro v216 w43 ho44 hb hg_ hnew_; clear hg_ hnew_; (first | rw [← Ny215.out] at ho44 | (simp only [Int.reduceToNat] at ho44; rw [← Ny215.out] at ho44)); have n0_ := aM_ (Kd.R_elder' (by (with_reducible repeat (first | apply rA_ | apply rN_ | apply rD_)); exact HO202.out) (Kd.R_base ho44) hb); have n1_ := aM_ (Kd.R_elder' (by (with_reducible repeat (first | apply rA_ | apply rN_ | apply rD_)); exact HO205.out) (Kd.R_base ho44) hb); have n2_ := aM_ (Kd.R_lower (Kd.R_new' (Kd.R_new' ho44 (Kd.R_lt (by (with_reducible repeat (first | apply rA_ | apply rN_ | apply rD_)); exact HO202.out))) (Kd.R_lt (by (with_reducible repeat (first | apply rA_ | apply rN_ | apply rD_)); exact HO205.out))) (keep_size (w := w) (g := g) (row := none) (by repeat (first | (with_reducible first | exact HK.out | apply pS_ | apply pN_ | apply pD_ | apply pA_ | refine keep_far ?_ GW194.out _ | refine keep_far ?_ GW195.out _ | refine keep_far ?_ GW206.out _) | exact HK.out)))); have n3_ := aM_ (IsS111.below (by repeat (first | (with_reducible first | exact HI0.out | apply IsS111.alloc | apply IsS111.drewN | apply IsS111.drew | apply IsS111.set_1 | refine IsS111.far ?_ NB0_194.out _ | refine IsS111.far ?_ NB0_195.out _ | refine IsS111.far ?_ NB0_206.out _) | exact HI0.out)) hb); have n4_ := aM_ (blk_below (g := gb194) (by (with_reducible repeat (first | apply kN_ | apply kD_ | apply kA_)); exact BK194.out) hb); have n5_ := aM_ (blk_below (g := gb195) (by (with_reducible repeat (first | apply kN_ | apply kD_ | apply kA_)); exact BK195.out) hb); have n6_ := aM_ (blk_below (g := gb206) (by (with_reducible repeat (first | apply kN_ | apply kD_ | apply kA_)); exact BK206.out) hb); have n7_ := aM_ (KeepBut.trans (by repeat (first | (with_reducible first | exact HK.out | apply pS_ | apply pN_ | apply pD_ | apply pA_ | refine keep_far ?_ GW194.out _ | refine keep_far ?_ GW195.out _ | refine keep_far ?_ GW206.out _) | exact HK.out)) (KeepBut.of_below hb g none) (.inl rfl)); have n8_ := aM_ (below_step (by repeat (first | (with_reducible first | exact HB.out | apply wA_ | apply wN_ | apply wD_ | refine below_set ?_ (IsS111.ge HI0.out) | refine below_set ?_ GE194.out | refine below_set ?_ GE195.out | refine below_set ?_ GE206.out) | exact HB.out)) hb); clear HO202; clear HO205; clear HI0; clear BK194; clear BK195; clear BK206; clear HK; clear HB; have HO202 := n0_; have HO205 := n1_; have HO217 := n2_; have HI0 := n3_; have BK194 := n4_; have BK195 := n5_; have BK206 := n6_; have HK := n7_; have HB := n8_; clear n0_ n1_ n2_ n3_ n4_ n5_ n6_ n7_ n8_; clear hb ho44) | ((with_reducible refine gate_callee (f := 80) rfl ?_); refine goesL_ (some 28) rfl rfl Try.func80 (by kernel_rfl) rfl #[.pointer (some ⟨g, 0, none⟩), .int .i64 3] rfl (by (try simp only [List.map_toArray, List.map_cons, List.map_nil]); first | done | rfl | (simp only [List.length_drop, List.length_take]; rfl)) ?_; (with_reducible refine (spec_l1Rd_pick.calls k g s0_0 t208 3 t218 t219 w0 _ ?side1 ?side2 A40.out).mono ?_); (case side1 => repeat (first | (with_reducible first | exact HI0.out | apply IsS111.alloc | apply IsS111.drewN | apply IsS111.drew | apply IsS111.set_1 | refine IsS111.far ?_ NB0_194.out _ | refine IsS111.far ?_ NB0_195.out _ | refine IsS111.far ?_ NB0_206.out _) | exact HI0.out)); (case side2 => repeat (first | (with_reducible first | exact HB.out | apply wA_ | apply wN_ | apply wD_ | refine below_set ?_ (IsS111.ge HI0.out) | refine below_set ?_ GE194.out | refine below_set ?_ GE195.out | refine below_set ?_ GE206.out) | exact HB.out)); rintro e w45 ⟨rfl, hi, hb, hk⟩; refine ⟨_, rfl, ?_⟩; have n0_ := aM_ (KeepBut.blk hk (g' := gb194) (o := .cells #[.int .i64 a1_0, .int .i64 a1_1, .int .i64 a1_2, .int .i64 a1_3, .slice A1_4 l1_4.length c1_4, .slice A1_5 l1_5.length c1_5] 25 (0, 0)) (by (with_reducible repeat (first | apply kN_ | apply kD_ | apply kA_)); exact BK194.out) NB194_0.out (by simp)); have n1_ := aM_ (KeepBut.blk hk (g' := gb195) (o := .cells #[.int .i64 0, .int .i64 0, .int .i64 0, .int .i64 0, .slice none 0 0, .slice none 0 0] 25 (0, 0)) (by (with_reducible repeat (first | apply kN_ | apply kD_ | apply kA_)); exact BK195.out) NB195_0.out (by simp)); have n2_ := aM_ (Kd.R_mono (Kd.R_keep (IsS111.apart (show IsS111 w0 _ g s0_0 t208 from by repeat (first | (with_reducible first | exact HI0.out | apply IsS111.alloc | apply IsS111.drewN | apply IsS111.drew | apply IsS111.set_1 | refine IsS111.far ?_ NB0_194.out _ | refine IsS111.far ?_ NB0_195.out _ | refine IsS111.far ?_ NB0_206.out _) | exact HI0.out)) (by (with_reducible repeat (first | apply rA_ | apply rN_ | apply rD_)); exact HO202.out) (by decide)) hk (fun _ h => h.2)) (fun _ h => h.1)); have n3_ := aM_ (Kd.R_mono (Kd.R_keep (IsS111.apart (show IsS111 w0 _ g s0_0 t208 from by repeat (first | (with_reducible first | exact HI0.out | apply IsS111.alloc | apply IsS111.drewN | apply IsS111.drew | apply IsS111.set_1 | refine IsS111.far ?_ NB0_194.out _ | refine IsS111.far ?_ NB0_195.out _ | refine IsS111.far ?_ NB0_206.out _) | exact HI0.out)) (by (with_reducible repeat (first | apply rA_ | apply rN_ | apply rD_)); exact HO205.out) (by decide)) hk (fun _ h => h.2)) (fun _ h => h.1)); have n4_ := aM_ (KeepBut.blk hk (g' := gb206) (o := .cells #[.int .i64 t196, .int .i64 t197, .int .i64 t198, .int .i64 t199, .slice Ao17 t200.length co17, .slice Ao18 t203.length co18] 25 (0, 0)) (by (with_reducible repeat (first | apply kN_ | apply kD_ | apply kA_)); exact BK206.out) NB206_0.out (by simp)); have n5_ := aM_ (Kd.R_mono (Kd.R_keep (IsS111.apart (show IsS111 w0 _ g s0_0 t208 from by repeat (first | (with_reducible first | exact HI0.out | apply IsS111.alloc | apply IsS111.drewN | apply IsS111.drew | apply IsS111.set_1 | refine IsS111.far ?_ NB0_194.out _ | refine IsS111.far ?_ NB0_195.out _ | refine IsS111.far ?_ NB0_206.out _) | exact HI0.out)) (by (with_reducible repeat (first | apply rA_ | apply rN_ | apply rD_)); exact HO217.out) (by decide)) hk (fun _ h => h.2)) (fun _ h => h.1)); have n6_ := aM_ (KeepBut.trans (by repeat (first | (with_reducible first | exact HK.out | apply pS_ | apply pN_ | apply pD_ | apply pA_ | refine keep_far ?_ GW194.out _ | refine keep_far ?_ GW195.out _ | refine keep_far ?_ GW206.out _) | exact HK.out)) hk (.inl rfl)); have n7_ := aM_ (hb); have n8_ := aM_ (hi); clear BK194; clear BK195; clear HO202; clear HO205; clear BK206; clear HO217; clear HK; clear HB; clear HI0; have BK194 := n0_; have BK195 := n1_; have HO202 := n2_; have HO205 := n3_; have BK206 := n4_; have HO217 := n5_; have HK := n6_; have HB := n7_; have HI0 := n8_; clear n0_ n1_ n2_ n3_ n4_ n5_ n6_ n7_ n8_; (try clear hb); (try clear hb2); (try clear hk); (try clear hi); obtain ⟨Ao46, co46, eo46⟩ := Kd.R_slice HO217.out; subst eo46; have p220 : 0 ≤ (t218 : Int) := of_decide_eq_true (by first | (with_reducible assumption) | assumption); have q220 : t218 < (y215.length : Int) := of_decide_eq_true (by first | (with_reducible assumption) | assumption); obtain ⟨ad220, e220, hx220_0⟩ := Kd.at_int (Kd.R_reads' HO217.out).2.2 t218 p220 q220; cases e220; replace p220 := eq_true p220; replace q220 := eq_true q220; have hnb47 := NB206_194.out; have hnc47 := NB194_206.out; have hnb48 := NB206_195.out; have hnc48 := NB195_206.out; have hnb49 := NB206_0.out; have hnc49 := NB0_206.out; obtain ⟨hcz50_0, hcz50_1, hcz50_2, hcz50_3, hcz50_4, hcz50_5⟩ := bc6 BK206.out; obtain ⟨hfz50_0, hfz50_1, hfz50_2, hfz50_3, hfz50_4, hfz50_5⟩ := bf6 BK206.out; have hnb51 := NB195_194.out; have hnc51 := NB194_195.out; have hnb52 := NB195_0.out; have hnc52 := NB0_195.out; obtain ⟨hcz53_0, hcz53_1, hcz53_2, hcz53_3, hcz53_4, hcz53_5⟩ := bc6 BK195.out; obtain ⟨hfz53_0, hfz53_1, hfz53_2, hfz53_3, hfz53_4, hfz53_5⟩ := bf6 BK195.out))
     refine bodyPost_ret (results_cell_row rfl _ _ gb195 25 #[.int .i64 t196, .int .i64 (rd y215 t218), .int .i64 t198, .int .i64 t199, .slice Ao17 t200.length co17, .slice Ao18 t203.length co18] (0, 0) _ rfl (by (with_reducible repeat (first | apply kN_ | apply kD_ | apply kA_)); refine blk_put (cs := #[.int .i64 t196, .int .i64 (rd y215 t218), .int .i64 t198, .int .i64 t199, .slice Ao17 t200.length co17, .slice none 0 0]) ?_ 5 _ rfl; (with_reducible repeat (first | apply kN_ | apply kD_ | apply kA_)); refine blk_put (cs := #[.int .i64 t196, .int .i64 (rd y215 t218), .int .i64 t198, .int .i64 t199, .slice none 0 0, .slice none 0 0]) ?_ 4 _ rfl; (with_reducible repeat (first | apply kN_ | apply kD_ | apply kA_)); refine blk_put (cs := #[.int .i64 t196, .int .i64 (rd y215 t218), .int .i64 t198, .int .i64 0, .slice none 0 0, .slice none 0 0]) ?_ 3 _ rfl; (with_reducible repeat (first | apply kN_ | apply kD_ | apply kA_)); refine blk_put (cs := #[.int .i64 t196, .int .i64 (rd y215 t218), .int .i64 0, .int .i64 0, .slice none 0 0, .slice none 0 0]) ?_ 2 _ rfl; (with_reducible repeat (first | apply kN_ | apply kD_ | apply kA_)); refine blk_put (cs := #[.int .i64 t196, .int .i64 0, .int .i64 0, .int .i64 0, .slice none 0 0, .slice none 0 0]) ?_ 1 _ rfl; (with_reducible repeat (first | apply kN_ | apply kD_ | apply kA_)); refine blk_put (cs := #[.int .i64 0, .int .i64 0, .int .i64 0, .int .i64 0, .slice none 0 0, .slice none 0 0]) ?_ 0 _ rfl; (with_reducible repeat (first | apply kN_ | apply kD_ | apply kA_)); refine blk_far ?_ NB195_206.out _; (with_reducible repeat (first | apply kN_ | apply kD_ | apply kA_)); exact BK195.out) Try.underlying25 rfl (by kernel_rfl)) rfl ?_
     exact ⟨_, _, by first | rfl | (simp [errW_none, errW_some] <;> rfl) | (simp [*, errW_none, errW_some] <;> rfl), by (with_reducible repeat (first | apply rA_ | apply rN_ | apply rD_)); exact Kd.R_mono (Kd.R_far (Kd.R_far (Kd.R_far (Kd.R_far (Kd.R_far (Kd.R_far (Kd.R_far (Kd.R_types (Kd.R_types HO202.out BK206.out (by decide)) BK195.out (by decide)) (fun _ hk => hk.1.2) (.int .i64 (rd y215 t218))) (fun _ hk => hk.2) (.int .i64 t196)) (fun _ hk => hk.2) (.int .i64 (rd y215 t218))) (fun _ hk => hk.2) (.int .i64 t198)) (fun _ hk => hk.2) (.int .i64 t199)) (fun _ hk => hk.2) (.slice Ao17 t200.length co17)) (fun _ hk => hk.2) (.slice Ao18 t203.length co18)) (fun _ hk => hk.1.1.1), Kd.Q_of_R (by (with_reducible repeat (first | apply rA_ | apply rN_ | apply rD_)); exact Kd.R_mono (Kd.R_far (Kd.R_far (Kd.R_far (Kd.R_far (Kd.R_far (Kd.R_far (Kd.R_far (Kd.R_types (Kd.R_types HO205.out BK206.out (by decide)) BK195.out (by decide)) (fun _ hk => hk.1.2) (.int .i64 (rd y215 t218))) (fun _ hk => hk.2) (.int .i64 t196)) (fun _ hk => hk.2) (.int .i64 (rd y215 t218))) (fun _ hk => hk.2) (.int .i64 t198)) (fun _ hk => hk.2) (.int .i64 t199)) (fun _ hk => hk.2) (.slice Ao17 t200.length co17)) (fun _ hk => hk.2) (.slice Ao18 t203.length co18)) (fun _ hk => hk.1.1.1)), by repeat (first | (with_reducible first | exact HI0.out | apply IsS111.alloc | apply IsS111.drewN | apply IsS111.drew | apply IsS111.set_1 | refine IsS111.far ?_ NB0_194.out _ | refine IsS111.far ?_ NB0_195.out _ | refine IsS111.far ?_ NB0_206.out _) | exact HI0.out), by repeat (first | (with_reducible first | exact HB.out | apply wA_ | apply wN_ | apply wD_ | refine below_set ?_ (IsS111.ge HI0.out) | refine below_set ?_ GE194.out | refine below_set ?_ GE195.out | refine below_set ?_ GE206.out) | exact HB.out), by repeat (first | (with_reducible first | exact HK.out | apply pS_ | apply pN_ | apply pD_ | apply pA_ | refine keep_far ?_ GW194.out _ | refine keep_far ?_ GW195.out _ | refine keep_far ?_ GW206.out _) | exact HK.out)⟩
    ·rw [if_neg c42] at H
     exact absurd H (by simp)
   ·rw [if_neg c41] at H
    exact absurd H (by simp)
  ·rw [if_neg c39] at H
   have c39b0 : (t207 == 1) = false := beq_eq_false_iff_ne.mpr c39
   have c39b1 : (t207 != 1) = true := bne_iff_ne.mpr c39
   by_cases c54 : t207 = 2
   ·rw [if_pos c54] at H
    have c54b0 : (t207 == 2) = true := beq_iff_eq.mpr c54
    have c54b1 : (t207 != 2) = false := bne_eq_false_iff_eq.mpr c54
    clear c54
    obtain ⟨y221, hy221⟩ : ∃ y_ : List Int, y_ = (([0, wrap64 (t198 + 1), 21] : List Int)) := ⟨_, rfl⟩
    replace H : ((spec_l1Rd_pick.f k s0_0 t208 3).bind fun bt224 => (if 0 ≤ bt224.1 then (if bt224.1 < (y221.length : Int) then (some (t196, t197, rd y221 bt224.1, t199, t200, t203, bt224.2)) else (none)) else (none))) = some (r1, r2, r3, r4, r5, r6, r7) := by first | (rw [hy221]; with_reducible exact H) | (have H2_ := (Option.bind_some _ _).symm.trans H; rw [hy221]; with_reducible exact H2_) | (have H2_ := (Option.bind_some _ _).symm.trans H; with_reducible exact H2_) | with_reducible exact H | (rw [hy221]; exact H) | exact H
    have Ny221 := aM_ hy221
    clear hy221
    replace H := Option.bind_eq_some_iff.mp H
    obtain ⟨⟨t224, t225⟩, A550, H⟩ := H
    replace H : (if 0 ≤ t224 then (if t224 < (y221.length : Int) then (some (t196, t197, rd y221 t224, t199, t200, t203, t225)) else (none)) else (none)) = some (r1, r2, r3, r4, r5, r6, r7) := H
    have A55 := aM_ A550
    clear A550
    by_cases c56 : 0 ≤ t224
    ·rw [if_pos c56] at H
     have c56b0 : decide (0 ≤ t224) = true := decide_eq_true c56
     clear c56
     by_cases c57 : t224 < (y221.length : Int)
     ·rw [if_pos c57] at H
      have c57b0 : decide (t224 < (y221.length : Int)) = true := decide_eq_true c57
      clear c57
      simp only [Option.some.injEq, Prod.mk.injEq] at H
      obtain ⟨rfl, rfl, rfl, rfl, rfl, rfl, rfl⟩ := H
      try go_wp2
      have pi226 : (0 ≤ (t224 : Int)) = True := eq_true (of_decide_eq_true (by first | (with_reducible assumption) | assumption))
      have qi226 : (t224 < (y221.length : Int)) = True := eq_true (of_decide_eq_true (by first | (with_reducible assumption) | assumption))
      have n0_ := aM_ (rD_ HO202.out)
      have n1_ := aM_ (rD_ HO205.out)
      have n2_ := aM_ (kD_ BK194.out)
      have n3_ := aM_ (kD_ BK195.out)
      have n4_ := aM_ (kD_ BK206.out)
      have n5_ := aM_ (IsS111.drew HI0.out)
      have n6_ := aM_ (pD_ HK.out)
      have n7_ := aM_ (wD_ HB.out)
      clear HO202
      clear HO205
      clear BK194
      clear BK195
      clear BK206
      clear HI0
      clear HK
      clear HB
      have HO202 := n0_
      have HO205 := n1_
      have BK194 := n2_
      have BK195 := n3_
      have BK206 := n4_
      have HI0 := n5_
      have HK := n6_
      have HB := n7_
      clear n0_ n1_ n2_ n3_ n4_ n5_ n6_ n7_
      refine start_ (n := 10) (S := fun w' => w'.cell? ⟨gb206, 0, none⟩ = some (.int .i64 t196) ∧ w'.cell? ⟨gb206, 1, none⟩ = some (.int .i64 t197) ∧ w'.cell? ⟨gb206, 2, none⟩ = some (.int .i64 t198) ∧ w'.cell? ⟨gb206, 3, none⟩ = some (.int .i64 t199) ∧ w'.cell? ⟨gb206, 4, none⟩ = some (.slice Ao17 t200.length co17) ∧ w'.cell? ⟨gb206, 5, none⟩ = some (.slice Ao18 t203.length co18)) (ds := [9]) #[false, false, false, false, false, false, false, false, false, false] (by kernel_rfl) rfl rfl (bc6 BK206.out) (fun hHeld => ?_); refine with_tabW spec_l14Spoil.tab9 spec_l14Spoil.bits9 (fun HT_ HW_ => ?_)
      generalize w19.drew = w58 at HO202 HO205 BK194 BK195 BK206 HI0 HK HB hHeld ⊢
      refine pure_ (i := 0) (N := some 34) (v := ?_) (a' := ?_) #[true, false, false, false, false, false, false, false, false, false] rfl rfl (any_of HT_.out (by kernel_rfl)) (fun _ _ _ h => h) (Or.inl ⟨by rfl, ?_⟩) ?_ ?_
      rotate_left
      ·intro w'
       go_simp
       with_reducible rfl
      rotate_left
      ·simp only [Act.put, sA_, s0_, s1_, i64_w, i32_w]
       rfl
      refine pure_ (i := 4) (N := some 38) (v := ?_) (a' := ?_) #[true, false, false, false, true, false, false, false, false, false] rfl rfl (any_of HT_.out (by kernel_rfl)) (fun _ _ _ h => h) (Or.inl ⟨by rfl, ?_⟩) ?_ ?_
      rotate_left
      ·intro w'
       go_simp
       with_reducible rfl
      rotate_left
      ·simp only [Act.put, sA_, s0_, s1_, i64_w, i32_w]
       rfl
      refine take_ (i := 1) (N := some 35) (v := ?_) (a' := ?_) #[true, true, false, false, true, false, false, false, false, false] rfl rfl (take_ofW HT_.out HW_.out (by kernel_rfl)) (fun _ _ _ h => h) (Or.inl ⟨by rfl, ?_⟩) hHeld ?_ ?_
      rotate_left
      ·rintro w' ⟨s0, s1, s2, s3, s4, s5⟩
       go_simp
       with_reducible rfl
      rotate_left
      ·simp only [Act.put, sA_, s0_, s1_, i64_w, i32_w]
       rfl
      refine pure_ (i := 2) (N := some 36) (v := ?_) (a' := ?_) #[true, true, true, false, true, false, false, false, false, false] rfl rfl (any_of HT_.out (by kernel_rfl)) (fun _ _ _ h => h) (Or.inl ⟨by rfl, ?_⟩) ?_ ?_
      rotate_left
      ·intro w'
       go_simp
       with_reducible rfl
      rotate_left
      ·simp only [Act.put, sA_, s0_, s1_, i64_w, i32_w]
       rfl
      refine join_ (σ := Value × Addr) 4 #[true, true, true, true, true, true, false, false, false, false] (fun s_ => [(37, s_.1), (39, .int .i64 t224)]) (fun s_ w' => (w'.cell? ⟨gb206, 0, none⟩ = some (.int .i64 t196) ∧ w'.cell? ⟨gb206, 1, none⟩ = some (.int .i64 t197) ∧ w'.cell? ⟨gb206, 2, none⟩ = some (.int .i64 t198) ∧ w'.cell? ⟨gb206, 3, none⟩ = some (.int .i64 t199) ∧ w'.cell? ⟨gb206, 4, none⟩ = some (.slice Ao17 t200.length co17) ∧ w'.cell? ⟨gb206, 5, none⟩ = some (.slice Ao18 t203.length co18)) ∧ (Kd.R (Kd.int .i64) 3 w' w.heap.size (fun k_ => some k_ ≠ (.slice Ao18 t203.length co18 : Value).ownBlock ∧ some k_ ≠ (s_.1 : Value).ownBlock) (.slice Ao17 t200.length co17) t200) ∧ (Kd.R (Kd.int .i64) 3 w' w.heap.size (fun k_ => some k_ ≠ (.slice Ao17 t200.length co17 : Value).ownBlock ∧ some k_ ≠ (s_.1 : Value).ownBlock) (.slice Ao18 t203.length co18) t203) ∧ (Kd.R (Kd.int .i64) 3 w' w.heap.size (fun k_ => some k_ ≠ (.slice Ao17 t200.length co17 : Value).ownBlock ∧ some k_ ≠ (.slice Ao18 t203.length co18 : Value).ownBlock) s_.1 y221) ∧ (∃ c_, (s_.1 : Value) = .slice (some s_.2) y221.length c_) ∧ (w'.heap[gb194]? = some (.cells #[.int .i64 a1_0, .int .i64 a1_1, .int .i64 a1_2, .int .i64 a1_3, .slice A1_4 l1_4.length c1_4, .slice A1_5 l1_5.length c1_5] 25 (0, 0))) ∧ (w'.heap[gb195]? = some (.cells #[.int .i64 0, .int .i64 0, .int .i64 0, .int .i64 0, .slice none 0 0, .slice none 0 0] 25 (0, 0))) ∧ (w'.heap[gb206]? = some (.cells #[.int .i64 t196, .int .i64 t197, .int .i64 t198, .int .i64 t199, .slice Ao17 t200.length co17, .slice Ao18 t203.length co18] 25 (0, 0))) ∧ (IsS111 w0 w' g s0_0 t225) ∧ (KeepBut w w' g none) ∧ (Below w0.heap.size w0 w')) ?_ ?_
      rotate_left
      ·intro hCont
       refine two_ (i := 3) (j := 5) (Ni := some 37) (Nj := some 39) #[true, true, true, true, true, false, false, false, false, false] #[true, true, true, false, true, true, false, false, false, false] rfl rfl rfl rfl (two_of HT_.out (by kernel_rfl)) (by decide) (by decide) (fun K hK => ?_) (fun K hK => ?_)
       ·skip
        refine Kd.R_lit_step (Kd.int .i64) _ 3 ?hg (N := 37) ?hd (xs := ([0, wrap64 (t198 + 1), 21] : List Int)) (inner := [.int .i64 0, .int .i64 (wrap64 (t198 + 1)), .int .i64 21]) (ok := fun _ => True) (okp := fun _ => True) ?hr ?hp (fun _ hk => hk) trivial (Below.refl _ _) (Nat.le_refl _) (by simp) ?_; (case hd => rfl); (case hg => rfl); (case hr => first | (go_simp; done) | (go_simp; rfl)); (case hp => exact (Reps.one (show Kd.M (Kd.int .i64) _ _ _ 0 [.int .i64 0] from rfl) (Reps.one (show Kd.M (Kd.int .i64) _ _ _ (wrap64 (t198 + 1)) [.int .i64 (wrap64 (t198 + 1))] from rfl) (Reps.one (show Kd.M (Kd.int .i64) _ _ _ 21 [.int .i64 21] from rfl) (Reps.none _ _)))))
        intro v222 w59 ho60 hb hg_ hnew_
        clear hg_ hnew_
        (first | rw [← Ny221.out] at ho60 | (simp only [Int.reduceToNat] at ho60; rw [← Ny221.out] at ho60))
        have n0_ := aM_ (Kd.R_elder' (by (with_reducible repeat (first | apply rA_ | apply rN_ | apply rD_)); exact HO202.out) (Kd.R_base ho60) hb)
        have n1_ := aM_ (Kd.R_elder' (by (with_reducible repeat (first | apply rA_ | apply rN_ | apply rD_)); exact HO205.out) (Kd.R_base ho60) hb)
        have n2_ := aM_ (Kd.R_lower (Kd.R_new' (Kd.R_new' ho60 (Kd.R_lt (by (with_reducible repeat (first | apply rA_ | apply rN_ | apply rD_)); exact HO202.out))) (Kd.R_lt (by (with_reducible repeat (first | apply rA_ | apply rN_ | apply rD_)); exact HO205.out))) (keep_size (w := w) (g := g) (row := none) (by repeat (first | (with_reducible first | exact HK.out | apply pS_ | apply pN_ | apply pD_ | apply pA_ | refine keep_far ?_ GW194.out _ | refine keep_far ?_ GW195.out _ | refine keep_far ?_ GW206.out _) | exact HK.out))))
        have n3_ := aM_ (IsS111.below (by repeat (first | (with_reducible first | exact HI0.out | apply IsS111.alloc | apply IsS111.drewN | apply IsS111.drew | apply IsS111.set_1 | refine IsS111.far ?_ NB0_194.out _ | refine IsS111.far ?_ NB0_195.out _ | refine IsS111.far ?_ NB0_206.out _) | exact HI0.out)) hb)
        have n4_ := aM_ (blk_below (g := gb194) (by (with_reducible repeat (first | apply kN_ | apply kD_ | apply kA_)); exact BK194.out) hb)
        have n5_ := aM_ (blk_below (g := gb195) (by (with_reducible repeat (first | apply kN_ | apply kD_ | apply kA_)); exact BK195.out) hb)
        have n6_ := aM_ (blk_below (g := gb206) (by (with_reducible repeat (first | apply kN_ | apply kD_ | apply kA_)); exact BK206.out) hb)
        have n7_ := aM_ (KeepBut.trans (by repeat (first | (with_reducible first | exact HK.out | apply pS_ | apply pN_ | apply pD_ | apply pA_ | refine keep_far ?_ GW194.out _ | refine keep_far ?_ GW195.out _ | refine keep_far ?_ GW206.out _) | exact HK.out)) (KeepBut.of_below hb g none) (.inl rfl))
        have n8_ := aM_ (below_step (by repeat (first | (with_reducible first | exact HB.out | apply wA_ | apply wN_ | apply wD_ | refine below_set ?_ (IsS111.ge HI0.out) | refine below_set ?_ GE194.out | refine below_set ?_ GE195.out | refine below_set ?_ GE206.out) | exact HB.out)) hb)
        clear HO202
        clear HO205
        clear HI0
        clear BK194
        clear BK195
        clear BK206
        clear HK
        clear HB
        have HO202 := n0_
        have HO205 := n1_
        have HO223 := n2_
        have HI0 := n3_
        have BK194 := n4_
        have BK195 := n5_
        have BK206 := n6_
        have HK := n7_
        have HB := n8_
        clear n0_ n1_ n2_ n3_ n4_ n5_ n6_ n7_ n8_
        clear hb ho60
        obtain ⟨Ao61, co61, eo61⟩ := Kd.R_slice HO223.out
        subst eo61
        obtain ⟨ado61, fo61, _⟩ := Kd.at_int (Kd.R_reads' HO223.out).2.2 0 (by decide) (by rw [Ny221.out]; simp)
        cases fo61
        refine hK.out _ _ (bc6 BK206.out) (fun hHeld => ?_)
        clear hK K
        refine norm_ (a' := ?_) ?_ ?_
        rotate_left
        ·show Act.put _ (some 37) _ = _
         simp only [Act.put, sA_, s0_, s1_, i64_w, i32_w]
         rfl
        refine one_ (i := 5) (N := some 39) #[true, true, true, true, true, true, false, false, false, false] rfl rfl (one_of HT_.out (by kernel_rfl)) (by decide) (fun K hK => ?_)
        refine goes_ Try.func80 (by kernel_rfl) rfl #[.pointer (some ⟨g, 0, none⟩), .int .i64 3] (by rfl) rfl rfl (by (try simp only [List.map_toArray, List.map_cons, List.map_nil]); first | done | rfl | (simp only [List.length_drop, List.length_take]; rfl)) ?_
        with_reducible refine (spec_l1Rd_pick.calls k g s0_0 t208 3 t224 t225 w0 _ ?side1 ?side2 A55.out).mono ?_
        (case side1 => repeat (first | (with_reducible first | exact HI0.out | apply IsS111.alloc | apply IsS111.drewN | apply IsS111.drew | apply IsS111.set_1 | refine IsS111.far ?_ NB0_194.out _ | refine IsS111.far ?_ NB0_195.out _ | refine IsS111.far ?_ NB0_206.out _) | exact HI0.out))
        (case side2 => repeat (first | (with_reducible first | exact HB.out | apply wA_ | apply wN_ | apply wD_ | refine below_set ?_ (IsS111.ge HI0.out) | refine below_set ?_ GE194.out | refine below_set ?_ GE195.out | refine below_set ?_ GE206.out) | exact HB.out))
        rintro e w62 ⟨rfl, hi, hb, hk⟩
        refine ⟨_, rfl, ?_⟩
        have n0_ := aM_ (KeepBut.blk hk (g' := gb194) (o := .cells #[.int .i64 a1_0, .int .i64 a1_1, .int .i64 a1_2, .int .i64 a1_3, .slice A1_4 l1_4.length c1_4, .slice A1_5 l1_5.length c1_5] 25 (0, 0)) (by (with_reducible repeat (first | apply kN_ | apply kD_ | apply kA_)); exact BK194.out) NB194_0.out (by simp))
        have n1_ := aM_ (KeepBut.blk hk (g' := gb195) (o := .cells #[.int .i64 0, .int .i64 0, .int .i64 0, .int .i64 0, .slice none 0 0, .slice none 0 0] 25 (0, 0)) (by (with_reducible repeat (first | apply kN_ | apply kD_ | apply kA_)); exact BK195.out) NB195_0.out (by simp))
        have n2_ := aM_ (Kd.R_mono (Kd.R_keep (IsS111.apart (show IsS111 w0 _ g s0_0 t208 from by repeat (first | (with_reducible first | exact HI0.out | apply IsS111.alloc | apply IsS111.drewN | apply IsS111.drew | apply IsS111.set_1 | refine IsS111.far ?_ NB0_194.out _ | refine IsS111.far ?_ NB0_195.out _ | refine IsS111.far ?_ NB0_206.out _) | exact HI0.out)) (by (with_reducible repeat (first | apply rA_ | apply rN_ | apply rD_)); exact HO202.out) (by decide)) hk (fun _ h => h.2)) (fun _ h => h.1))
        have n3_ := aM_ (Kd.R_mono (Kd.R_keep (IsS111.apart (show IsS111 w0 _ g s0_0 t208 from by repeat (first | (with_reducible first | exact HI0.out | apply IsS111.alloc | apply IsS111.drewN | apply IsS111.drew | apply IsS111.set_1 | refine IsS111.far ?_ NB0_194.out _ | refine IsS111.far ?_ NB0_195.out _ | refine IsS111.far ?_ NB0_206.out _) | exact HI0.out)) (by (with_reducible repeat (first | apply rA_ | apply rN_ | apply rD_)); exact HO205.out) (by decide)) hk (fun _ h => h.2)) (fun _ h => h.1))
        have n4_ := aM_ (KeepBut.blk hk (g' := gb206) (o := .cells #[.int .i64 t196, .int .i64 t197, .int .i64 t198, .int .i64 t199, .slice Ao17 t200.length co17, .slice Ao18 t203.length co18] 25 (0, 0)) (by (with_reducible repeat (first | apply kN_ | apply kD_ | apply kA_)); exact BK206.out) NB206_0.out (by simp))
        have n5_ := aM_ (Kd.R_mono (Kd.R_keep (IsS111.apart (show IsS111 w0 _ g s0_0 t208 from by repeat (first | (with_reducible first | exact HI0.out | apply IsS111.alloc | apply IsS111.drewN | apply IsS111.drew | apply IsS111.set_1 | refine IsS111.far ?_ NB0_194.out _ | refine IsS111.far ?_ NB0_195.out _ | refine IsS111.far ?_ NB0_206.out _) | exact HI0.out)) (by (with_reducible repeat (first | apply rA_ | apply rN_ | apply rD_)); exact HO223.out) (by decide)) hk (fun _ h => h.2)) (fun _ h => h.1))
        have n6_ := aM_ (KeepBut.trans (by repeat (first | (with_reducible first | exact HK.out | apply pS_ | apply pN_ | apply pD_ | apply pA_ | refine keep_far ?_ GW194.out _ | refine keep_far ?_ GW195.out _ | refine keep_far ?_ GW206.out _) | exact HK.out)) hk (.inl rfl))
        have n7_ := aM_ (hb)
        have n8_ := aM_ (hi)
        clear BK194
        clear BK195
        clear HO202
        clear HO205
        clear BK206
        clear HO223
        clear HK
        clear HB
        clear HI0
        have BK194 := n0_
        have BK195 := n1_
        have HO202 := n2_
        have HO205 := n3_
        have BK206 := n4_
        have HO223 := n5_
        have HK := n6_
        have HB := n7_
        have HI0 := n8_
        clear n0_ n1_ n2_ n3_ n4_ n5_ n6_ n7_ n8_
        (try clear hb)
        (try clear hb2)
        (try clear hk)
        (try clear hi)
        refine hK.out _ _ (bc6 BK206.out) (fun hHeld => ?_)
        clear hK K
        refine norm_ (a' := ?_) ?_ ?_
        rotate_left
        ·show Act.put _ (some 39) _ = _
         simp only [Act.put, sA_, s0_, s1_, i64_w, i32_w]
         rfl
        exact norm_ (by simp only [putAll, Act.put, sA_, s0_, s1_]) (hCont (.slice (some ado61) y221.length co61, ado61) _ ⟨hHeld, (by (with_reducible repeat (first | apply rA_ | apply rN_ | apply rD_)); exact HO202.out), (by (with_reducible repeat (first | apply rA_ | apply rN_ | apply rD_)); exact HO205.out), (by (with_reducible repeat (first | apply rA_ | apply rN_ | apply rD_)); exact Kd.R_mono HO223.out (fun _ hk => ⟨hk.1.2, hk.2⟩)), ⟨_, rfl⟩, (by (with_reducible repeat (first | apply kN_ | apply kD_ | apply kA_)); exact BK194.out), (by (with_reducible repeat (first | apply kN_ | apply kD_ | apply kA_)); exact BK195.out), (by (with_reducible repeat (first | apply kN_ | apply kD_ | apply kA_)); exact BK206.out), (by repeat (first | (with_reducible first | exact HI0.out | apply IsS111.alloc | apply IsS111.drewN | apply IsS111.drew | apply IsS111.set_1 | refine IsS111.far ?_ NB0_194.out _ | refine IsS111.far ?_ NB0_195.out _ | refine IsS111.far ?_ NB0_206.out _) | exact HI0.out)), (by repeat (first | (with_reducible first | exact HK.out | apply pS_ | apply pN_ | apply pD_ | apply pA_ | refine keep_far ?_ GW194.out _ | refine keep_far ?_ GW195.out _ | refine keep_far ?_ GW206.out _) | exact HK.out)), (by repeat (first | (with_reducible first | exact HB.out | apply wA_ | apply wN_ | apply wD_ | refine below_set ?_ (IsS111.ge HI0.out) | refine below_set ?_ GE194.out | refine below_set ?_ GE195.out | refine below_set ?_ GE206.out) | exact HB.out))⟩)
       ·skip
        refine goes_ Try.func80 (by kernel_rfl) rfl #[.pointer (some ⟨g, 0, none⟩), .int .i64 3] (by rfl) rfl rfl (by (try simp only [List.map_toArray, List.map_cons, List.map_nil]); first | done | rfl | (simp only [List.length_drop, List.length_take]; rfl)) ?_
        with_reducible refine (spec_l1Rd_pick.calls k g s0_0 t208 3 t224 t225 w0 _ ?side1 ?side2 A55.out).mono ?_
        (case side1 => repeat (first | (with_reducible first | exact HI0.out | apply IsS111.alloc | apply IsS111.drewN | apply IsS111.drew | apply IsS111.set_1 | refine IsS111.far ?_ NB0_194.out _ | refine IsS111.far ?_ NB0_195.out _ | refine IsS111.far ?_ NB0_206.out _) | exact HI0.out))
        (case side2 => repeat (first | (with_reducible first | exact HB.out | apply wA_ | apply wN_ | apply wD_ | refine below_set ?_ (IsS111.ge HI0.out) | refine below_set ?_ GE194.out | refine below_set ?_ GE195.out | refine below_set ?_ GE206.out) | exact HB.out))
        rintro e w59 ⟨rfl, hi, hb, hk⟩
        refine ⟨_, rfl, ?_⟩
        have n0_ := aM_ (KeepBut.blk hk (g' := gb194) (o := .cells #[.int .i64 a1_0, .int .i64 a1_1, .int .i64 a1_2, .int .i64 a1_3, .slice A1_4 l1_4.length c1_4, .slice A1_5 l1_5.length c1_5] 25 (0, 0)) (by (with_reducible repeat (first | apply kN_ | apply kD_ | apply kA_)); exact BK194.out) NB194_0.out (by simp))
        have n1_ := aM_ (KeepBut.blk hk (g' := gb195) (o := .cells #[.int .i64 0, .int .i64 0, .int .i64 0, .int .i64 0, .slice none 0 0, .slice none 0 0] 25 (0, 0)) (by (with_reducible repeat (first | apply kN_ | apply kD_ | apply kA_)); exact BK195.out) NB195_0.out (by simp))
        have n2_ := aM_ (Kd.R_mono (Kd.R_keep (IsS111.apart (show IsS111 w0 _ g s0_0 t208 from by repeat (first | (with_reducible first | exact HI0.out | apply IsS111.alloc | apply IsS111.drewN | apply IsS111.drew | apply IsS111.set_1 | refine IsS111.far ?_ NB0_194.out _ | refine IsS111.far ?_ NB0_195.out _ | refine IsS111.far ?_ NB0_206.out _) | exact HI0.out)) (by (with_reducible repeat (first | apply rA_ | apply rN_ | apply rD_)); exact HO202.out) (by decide)) hk (fun _ h => h.2)) (fun _ h => h.1))
        have n3_ := aM_ (Kd.R_mono (Kd.R_keep (IsS111.apart (show IsS111 w0 _ g s0_0 t208 from by repeat (first | (with_reducible first | exact HI0.out | apply IsS111.alloc | apply IsS111.drewN | apply IsS111.drew | apply IsS111.set_1 | refine IsS111.far ?_ NB0_194.out _ | refine IsS111.far ?_ NB0_195.out _ | refine IsS111.far ?_ NB0_206.out _) | exact HI0.out)) (by (with_reducible repeat (first | apply rA_ | apply rN_ | apply rD_)); exact HO205.out) (by decide)) hk (fun _ h => h.2)) (fun _ h => h.1))
        have n4_ := aM_ (KeepBut.blk hk (g' := gb206) (o := .cells #[.int .i64 t196, .int .i64 t197, .int .i64 t198, .int .i64 t199, .slice Ao17 t200.length co17, .slice Ao18 t203.length co18] 25 (0, 0)) (by (with_reducible repeat (first | apply kN_ | apply kD_ | apply kA_)); exact BK206.out) NB206_0.out (by simp))
        have n5_ := aM_ (KeepBut.trans (by repeat (first | (with_reducible first | exact HK.out | apply pS_ | apply pN_ | apply pD_ | apply pA_ | refine keep_far ?_ GW194.out _ | refine keep_far ?_ GW195.out _ | refine keep_far ?_ GW206.out _) | exact HK.out)) hk (.inl rfl))
        have n6_ := aM_ (hb)
        have n7_ := aM_ (hi)
        clear BK194
        clear BK195
        clear HO202
        clear HO205
        clear BK206
        clear HK
        clear HB
        clear HI0
        have BK194 := n0_
        have BK195 := n1_
        have HO202 := n2_
        have HO205 := n3_
        have BK206 := n4_
        have HK := n5_
        have HB := n6_
        have HI0 := n7_
        clear n0_ n1_ n2_ n3_ n4_ n5_ n6_ n7_
        (try clear hb)
        (try clear hb2)
        (try clear hk)
        (try clear hi)
        refine hK.out _ _ (bc6 BK206.out) (fun hHeld => ?_)
        clear hK K
        refine norm_ (a' := ?_) ?_ ?_
        rotate_left
        ·show Act.put _ (some 39) _ = _
         simp only [Act.put, sA_, s0_, s1_, i64_w, i32_w]
         rfl
        refine one_ (i := 3) (N := some 37) #[true, true, true, true, true, true, false, false, false, false] rfl rfl (one_of HT_.out (by kernel_rfl)) (by decide) (fun K hK => ?_)
        refine Kd.R_lit_step (Kd.int .i64) _ 3 ?hg (N := 37) ?hd (xs := ([0, wrap64 (t198 + 1), 21] : List Int)) (inner := [.int .i64 0, .int .i64 (wrap64 (t198 + 1)), .int .i64 21]) (ok := fun _ => True) (okp := fun _ => True) ?hr ?hp (fun _ hk => hk) trivial (Below.refl _ _) (Nat.le_refl _) (by simp) ?_; (case hd => rfl); (case hg => rfl); (case hr => first | (go_simp; done) | (go_simp; rfl)); (case hp => exact (Reps.one (show Kd.M (Kd.int .i64) _ _ _ 0 [.int .i64 0] from rfl) (Reps.one (show Kd.M (Kd.int .i64) _ _ _ (wrap64 (t198 + 1)) [.int .i64 (wrap64 (t198 + 1))] from rfl) (Reps.one (show Kd.M (Kd.int .i64) _ _ _ 21 [.int .i64 21] from rfl) (Reps.none _ _)))))
        intro v222 w60 ho61 hb hg_ hnew_
        clear hg_ hnew_
        (first | rw [← Ny221.out] at ho61 | (simp only [Int.reduceToNat] at ho61; rw [← Ny221.out] at ho61))
        have n0_ := aM_ (Kd.R_elder' (by (with_reducible repeat (first | apply rA_ | apply rN_ | apply rD_)); exact HO202.out) (Kd.R_base ho61) hb)
        have n1_ := aM_ (Kd.R_elder' (by (with_reducible repeat (first | apply rA_ | apply rN_ | apply rD_)); exact HO205.out) (Kd.R_base ho61) hb)
        have n2_ := aM_ (Kd.R_lower (Kd.R_new' (Kd.R_new' ho61 (Kd.R_lt (by (with_reducible repeat (first | apply rA_ | apply rN_ | apply rD_)); exact HO202.out))) (Kd.R_lt (by (with_reducible repeat (first | apply rA_ | apply rN_ | apply rD_)); exact HO205.out))) (keep_size (w := w) (g := g) (row := none) (by repeat (first | (with_reducible first | exact HK.out | apply pS_ | apply pN_ | apply pD_ | apply pA_ | refine keep_far ?_ GW194.out _ | refine keep_far ?_ GW195.out _ | refine keep_far ?_ GW206.out _) | exact HK.out))))
        have n3_ := aM_ (IsS111.below (by repeat (first | (with_reducible first | exact HI0.out | apply IsS111.alloc | apply IsS111.drewN | apply IsS111.drew | apply IsS111.set_1 | refine IsS111.far ?_ NB0_194.out _ | refine IsS111.far ?_ NB0_195.out _ | refine IsS111.far ?_ NB0_206.out _) | exact HI0.out)) hb)
        have n4_ := aM_ (blk_below (g := gb194) (by (with_reducible repeat (first | apply kN_ | apply kD_ | apply kA_)); exact BK194.out) hb)
        have n5_ := aM_ (blk_below (g := gb195) (by (with_reducible repeat (first | apply kN_ | apply kD_ | apply kA_)); exact BK195.out) hb)
        have n6_ := aM_ (blk_below (g := gb206) (by (with_reducible repeat (first | apply kN_ | apply kD_ | apply kA_)); exact BK206.out) hb)
        have n7_ := aM_ (KeepBut.trans (by repeat (first | (with_reducible first | exact HK.out | apply pS_ | apply pN_ | apply pD_ | apply pA_ | refine keep_far ?_ GW194.out _ | refine keep_far ?_ GW195.out _ | refine keep_far ?_ GW206.out _) | exact HK.out)) (KeepBut.of_below hb g none) (.inl rfl))
        have n8_ := aM_ (below_step (by repeat (first | (with_reducible first | exact HB.out | apply wA_ | apply wN_ | apply wD_ | refine below_set ?_ (IsS111.ge HI0.out) | refine below_set ?_ GE194.out | refine below_set ?_ GE195.out | refine below_set ?_ GE206.out) | exact HB.out)) hb)
        clear HO202
        clear HO205
        clear HI0
        clear BK194
        clear BK195
        clear BK206
        clear HK
        clear HB
        have HO202 := n0_
        have HO205 := n1_
        have HO223 := n2_
        have HI0 := n3_
        have BK194 := n4_
        have BK195 := n5_
        have BK206 := n6_
        have HK := n7_
        have HB := n8_
        clear n0_ n1_ n2_ n3_ n4_ n5_ n6_ n7_ n8_
        clear hb ho61
        obtain ⟨Ao62, co62, eo62⟩ := Kd.R_slice HO223.out
        subst eo62
        obtain ⟨ado62, fo62, _⟩ := Kd.at_int (Kd.R_reads' HO223.out).2.2 0 (by decide) (by rw [Ny221.out]; simp)
        cases fo62
        refine hK.out _ _ (bc6 BK206.out) (fun hHeld => ?_)
        clear hK K
        refine norm_ (a' := ?_) ?_ ?_
        rotate_left
        ·show Act.put _ (some 37) _ = _
         simp only [Act.put, sA_, s0_, s1_, i64_w, i32_w]
         rfl
        exact norm_ (by simp only [putAll, Act.put, sA_, s0_, s1_]) (hCont (.slice (some ado62) y221.length co62, ado62) _ ⟨hHeld, (by (with_reducible repeat (first | apply rA_ | apply rN_ | apply rD_)); exact HO202.out), (by (with_reducible repeat (first | apply rA_ | apply rN_ | apply rD_)); exact HO205.out), (by (with_reducible repeat (first | apply rA_ | apply rN_ | apply rD_)); exact Kd.R_mono HO223.out (fun _ hk => ⟨hk.1.2, hk.2⟩)), ⟨_, rfl⟩, (by (with_reducible repeat (first | apply kN_ | apply kD_ | apply kA_)); exact BK194.out), (by (with_reducible repeat (first | apply kN_ | apply kD_ | apply kA_)); exact BK195.out), (by (with_reducible repeat (first | apply kN_ | apply kD_ | apply kA_)); exact BK206.out), (by repeat (first | (with_reducible first | exact HI0.out | apply IsS111.alloc | apply IsS111.drewN | apply IsS111.drew | apply IsS111.set_1 | refine IsS111.far ?_ NB0_194.out _ | refine IsS111.far ?_ NB0_195.out _ | refine IsS111.far ?_ NB0_206.out _) | exact HI0.out)), (by repeat (first | (with_reducible first | exact HK.out | apply pS_ | apply pN_ | apply pD_ | apply pA_ | refine keep_far ?_ GW194.out _ | refine keep_far ?_ GW195.out _ | refine keep_far ?_ GW206.out _) | exact HK.out)), (by repeat (first | (with_reducible first | exact HB.out | apply wA_ | apply wN_ | apply wD_ | refine below_set ?_ (IsS111.ge HI0.out) | refine below_set ?_ GE194.out | refine below_set ?_ GE195.out | refine below_set ?_ GE206.out) | exact HB.out))⟩)
      rintro ⟨v222, adz_v222⟩ w63 ⟨hS_, h0_, h1_, h2_, h3_, h4_, h5_, h6_, h7_, h8_, h9_⟩
      have n0_ : Aside0 (Kd.R (Kd.int .i64) 3 w63 w.heap.size (fun k_ => some k_ ≠ (.slice Ao18 t203.length co18 : Value).ownBlock ∧ some k_ ≠ (v222 : Value).ownBlock) (.slice Ao17 t200.length co17) t200) := ⟨h0_⟩
      have n1_ : Aside0 (Kd.R (Kd.int .i64) 3 w63 w.heap.size (fun k_ => some k_ ≠ (.slice Ao17 t200.length co17 : Value).ownBlock ∧ some k_ ≠ (v222 : Value).ownBlock) (.slice Ao18 t203.length co18) t203) := ⟨h1_⟩
      have n2_ : Aside0 (Kd.R (Kd.int .i64) 3 w63 w.heap.size (fun k_ => some k_ ≠ (.slice Ao17 t200.length co17 : Value).ownBlock ∧ some k_ ≠ (.slice Ao18 t203.length co18 : Value).ownBlock) v222 y221) := ⟨h2_⟩
      have n3_ : Aside0 (∃ c_, (v222 : Value) = .slice (some adz_v222) y221.length c_) := ⟨h3_⟩
      have n4_ : Aside0 (w63.heap[gb194]? = some (.cells #[.int .i64 a1_0, .int .i64 a1_1, .int .i64 a1_2, .int .i64 a1_3, .slice A1_4 l1_4.length c1_4, .slice A1_5 l1_5.length c1_5] 25 (0, 0))) := ⟨h4_⟩
      have n5_ : Aside0 (w63.heap[gb195]? = some (.cells #[.int .i64 0, .int .i64 0, .int .i64 0, .int .i64 0, .slice none 0 0, .slice none 0 0] 25 (0, 0))) := ⟨h5_⟩
      have n6_ : Aside0 (w63.heap[gb206]? = some (.cells #[.int .i64 t196, .int .i64 t197, .int .i64 t198, .int .i64 t199, .slice Ao17 t200.length co17, .slice Ao18 t203.length co18] 25 (0, 0))) := ⟨h6_⟩
      have n7_ : Aside0 (IsS111 w0 w63 g s0_0 t225) := ⟨h7_⟩
      have n8_ : Aside0 (KeepBut w w63 g none) := ⟨h8_⟩
      have n9_ : Aside0 (Below w0.heap.size w0 w63) := ⟨h9_⟩
      clear HO202
      clear HO205
      clear BK194
      clear BK195
      clear BK206
      clear HI0
      clear HK
      clear HB
      clear h0_ h1_ h2_ h3_ h4_ h5_ h6_ h7_ h8_ h9_
      have HO202 := n0_
      have HO205 := n1_
      have HO223 := n2_
      have HA_HO223 := n3_
      have BK194 := n4_
      have BK195 := n5_
      have BK206 := n6_
      have HI0 := n7_
      have HK := n8_
      have HB := n9_
      clear n0_ n1_ n2_ n3_ n4_ n5_ n6_ n7_ n8_ n9_
      have hHeld : w63.cell? ⟨gb206, 0, none⟩ = some (.int .i64 t196) ∧ w63.cell? ⟨gb206, 1, none⟩ = some (.int .i64 t197) ∧ w63.cell? ⟨gb206, 2, none⟩ = some (.int .i64 t198) ∧ w63.cell? ⟨gb206, 3, none⟩ = some (.int .i64 t199) ∧ w63.cell? ⟨gb206, 4, none⟩ = some (.slice Ao17 t200.length co17) ∧ w63.cell? ⟨gb206, 5, none⟩ = some (.slice Ao18 t203.length co18) := hS_
      obtain ⟨co64, eo64⟩ := HA_HO223.out
      clear HA_HO223
      subst eo64
      refine norm_ (a' := ?_) ?_ ?_
      rotate_left
      ·simp only [putAll, Act.put, sA_, s0_, s1_]
       rfl
      refine pure_ (i := 6) (N := some 40) (v := ?_) (a' := ?_) #[true, true, true, true, true, true, true, false, false, false] rfl rfl (any_of HT_.out (by kernel_rfl)) (fun _ _ _ h => h) (Or.inl ⟨by rfl, ?_⟩) ?_ ?_
      rotate_left
      ·intro w'
       go_simp
       with_reducible rfl
      rotate_left
      ·simp only [Act.put, sA_, s0_, s1_, i64_w, i32_w]
       rfl
      refine one_ (i := 7) (N := some 41) #[true, true, true, true, true, true, true, true, false, false] rfl rfl (one_of HT_.out (by kernel_rfl)) (by decide) (fun K hK => ?_)
      (have p226 : 0 ≤ (t224 : Int) := of_decide_eq_true (by first | (with_reducible assumption) | assumption); have q226 : t224 < (y221.length : Int) := of_decide_eq_true (by first | (with_reducible assumption) | assumption); obtain ⟨ad226, e226, hx226_0⟩ := Kd.at_int (Kd.R_reads' HO223.out).2.2 t224 p226 q226; obtain rfl : adz_v222 = ad226 := (by injection e226))
      refine value_ (w1 := ?_) (v := ?_) (by rfl) rfl ?_ ?_
      rotate_left 2
      ·go_simp
       constructor
       ·rfl
       ·rfl
      clear hx226_0
      refine hK.out _ _ (bc6 BK206.out) (fun hHeld => ?_)
      clear hK K
      refine norm_ (a' := ?_) ?_ ?_
      rotate_left
      ·show Act.put _ (some 41) _ = _
       simp only [Act.put, sA_, s0_, s1_, i64_w, i32_w]
       rfl
      refine pure_ (i := 8) (N := some 42) (v := ?_) (a' := ?_) #[true, true, true, true, true, true, true, true, true, false] rfl rfl (any_of HT_.out (by kernel_rfl)) (fun _ _ _ h => h) (Or.inl ⟨by rfl, ?_⟩) ?_ ?_
      rotate_left
      ·intro w'
       go_simp
       with_reducible rfl
      rotate_left
      ·simp only [Act.put, sA_, s0_, s1_, i64_w, i32_w]
       rfl
      refine last_ (i := 9) (N := none) #[true, true, true, true, true, true, true, true, true, true] rfl rfl (one_of HT_.out (by kernel_rfl)) (by decide) (fun K hK => ?_)
      have hs65 : w63.cell? ⟨gb206, 2, none⟩ = some (.int .i64 t198) := (blk_cell BK206.out 2).trans rfl
      have hfs65 := blk_frozen BK206.out 2
      have hns65_0 := NB194_206.out
      have hns65_1 := NB195_206.out
      have hms65_0 := NB206_194.out
      have hms65_1 := NB206_195.out
      refine skip_ (w1 := ?_) (by rfl) rfl ?_ ?_
      rotate_left
      ·go_simp
       rfl
      refine hK.out _ _ ?_
      clear hK K
      refine done_ (done_of HT_.out (by kernel_rfl)) ?_
      have hnb66 := NB206_194.out
      have hnc66 := NB194_206.out
      have hnb67 := NB206_195.out
      have hnc67 := NB195_206.out
      have hnb68 := NB206_0.out
      have hnc68 := NB0_206.out
      obtain ⟨hcz69_0, hcz69_1, hcz69_2, hcz69_3, hcz69_4, hcz69_5⟩ := bc6 BK206.out
      obtain ⟨hfz69_0, hfz69_1, hfz69_2, hfz69_3, hfz69_4, hfz69_5⟩ := bf6 BK206.out
      have hnb70 := NB195_194.out
      have hnc70 := NB194_195.out
      have hnb71 := NB195_0.out
      have hnc71 := NB0_195.out
      obtain ⟨hcz72_0, hcz72_1, hcz72_2, hcz72_3, hcz72_4, hcz72_5⟩ := bc6 BK195.out
      obtain ⟨hfz72_0, hfz72_1, hfz72_2, hfz72_3, hfz72_4, hfz72_5⟩ := bf6 BK195.out
      try go_wp2
      refine bodyPost_ret (results_cell_row rfl _ _ gb195 25 #[.int .i64 t196, .int .i64 t197, .int .i64 (rd y221 t224), .int .i64 t199, .slice Ao17 t200.length co17, .slice Ao18 t203.length co18] (0, 0) _ rfl (by (with_reducible repeat (first | apply kN_ | apply kD_ | apply kA_)); refine blk_put (cs := #[.int .i64 t196, .int .i64 t197, .int .i64 (rd y221 t224), .int .i64 t199, .slice Ao17 t200.length co17, .slice none 0 0]) ?_ 5 _ rfl; (with_reducible repeat (first | apply kN_ | apply kD_ | apply kA_)); refine blk_put (cs := #[.int .i64 t196, .int .i64 t197, .int .i64 (rd y221 t224), .int .i64 t199, .slice none 0 0, .slice none 0 0]) ?_ 4 _ rfl; (with_reducible repeat (first | apply kN_ | apply kD_ | apply kA_)); refine blk_put (cs := #[.int .i64 t196, .int .i64 t197, .int .i64 (rd y221 t224), .int .i64 0, .slice none 0 0, .slice none 0 0]) ?_ 3 _ rfl; (with_reducible repeat (first | apply kN_ | apply kD_ | apply kA_)); refine blk_put (cs := #[.int .i64 t196, .int .i64 t197, .int .i64 0, .int .i64 0, .slice none 0 0, .slice none 0 0]) ?_ 2 _ rfl; (with_reducible repeat (first | apply kN_ | apply kD_ | apply kA_)); refine blk_put (cs := #[.int .i64 t196, .int .i64 0, .int .i64 0, .int .i64 0, .slice none 0 0, .slice none 0 0]) ?_ 1 _ rfl; (with_reducible repeat (first | apply kN_ | apply kD_ | apply kA_)); refine blk_put (cs := #[.int .i64 0, .int .i64 0, .int .i64 0, .int .i64 0, .slice none 0 0, .slice none 0 0]) ?_ 0 _ rfl; (with_reducible repeat (first | apply kN_ | apply kD_ | apply kA_)); refine blk_far ?_ NB195_206.out _; (with_reducible repeat (first | apply kN_ | apply kD_ | apply kA_)); exact BK195.out) Try.underlying25 rfl (by kernel_rfl)) rfl ?_
      exact ⟨_, _, by first | rfl | (simp [errW_none, errW_some] <;> rfl) | (simp [*, errW_none, errW_some] <;> rfl), by (with_reducible repeat (first | apply rA_ | apply rN_ | apply rD_)); exact Kd.R_mono (Kd.R_far (Kd.R_far (Kd.R_far (Kd.R_far (Kd.R_far (Kd.R_far (Kd.R_far (Kd.R_types (Kd.R_types HO202.out BK206.out (by decide)) BK195.out (by decide)) (fun _ hk => hk.1.2) (.int .i64 (rd y221 t224))) (fun _ hk => hk.2) (.int .i64 t196)) (fun _ hk => hk.2) (.int .i64 t197)) (fun _ hk => hk.2) (.int .i64 (rd y221 t224))) (fun _ hk => hk.2) (.int .i64 t199)) (fun _ hk => hk.2) (.slice Ao17 t200.length co17)) (fun _ hk => hk.2) (.slice Ao18 t203.length co18)) (fun _ hk => hk.1.1.1), Kd.Q_of_R (by (with_reducible repeat (first | apply rA_ | apply rN_ | apply rD_)); exact Kd.R_mono (Kd.R_far (Kd.R_far (Kd.R_far (Kd.R_far (Kd.R_far (Kd.R_far (Kd.R_far (Kd.R_types (Kd.R_types HO205.out BK206.out (by decide)) BK195.out (by decide)) (fun _ hk => hk.1.2) (.int .i64 (rd y221 t224))) (fun _ hk => hk.2) (.int .i64 t196)) (fun _ hk => hk.2) (.int .i64 t197)) (fun _ hk => hk.2) (.int .i64 (rd y221 t224))) (fun _ hk => hk.2) (.int .i64 t199)) (fun _ hk => hk.2) (.slice Ao17 t200.length co17)) (fun _ hk => hk.2) (.slice Ao18 t203.length co18)) (fun _ hk => hk.1.1.1)), by repeat (first | (with_reducible first | exact HI0.out | apply IsS111.alloc | apply IsS111.drewN | apply IsS111.drew | apply IsS111.set_1 | refine IsS111.far ?_ NB0_194.out _ | refine IsS111.far ?_ NB0_195.out _ | refine IsS111.far ?_ NB0_206.out _) | exact HI0.out), by repeat (first | (with_reducible first | exact HB.out | apply wA_ | apply wN_ | apply wD_ | refine below_set ?_ (IsS111.ge HI0.out) | refine below_set ?_ GE194.out | refine below_set ?_ GE195.out | refine below_set ?_ GE206.out) | exact HB.out), by repeat (first | (with_reducible first | exact HK.out | apply pS_ | apply pN_ | apply pD_ | apply pA_ | refine keep_far ?_ GW194.out _ | refine keep_far ?_ GW195.out _ | refine keep_far ?_ GW206.out _) | exact HK.out)⟩
     ·rw [if_neg c57] at H
      exact absurd H (by simp)
    ·rw [if_neg c56] at H
     exact absurd H (by simp)
   ·rw [if_neg c54] at H
    have c54b0 : (t207 == 2) = false := beq_eq_false_iff_ne.mpr c54
    have c54b1 : (t207 != 2) = true := bne_iff_ne.mpr c54
    by_cases c73 : t207 = 3
    ·rw [if_pos c73] at H
     have c73b0 : (t207 == 3) = true := beq_iff_eq.mpr c73
     have c73b1 : (t207 != 3) = false := bne_eq_false_iff_eq.mpr c73
     clear c73
     by_cases c74 : 1 ≤ (t203.length : Int)
     ·rw [if_pos c74] at H
      have c74b0 := eq_true c74
      have c74b1 : decide (1 ≤ (t203.length : Int)) = true := decide_eq_true c74
      clear c74
      obtain ⟨y227, hy227⟩ : ∃ y_ : List Int, y_ = (t203.drop (1 : Int).toNat) := ⟨_, rfl⟩
      replace H : (some (t196, t197, t198, t199, t200, y227, t208)) = some (r1, r2, r3, r4, r5, r6, r7) := by first | (rw [hy227]; with_reducible exact H) | (have H2_ := (Option.bind_some _ _).symm.trans H; rw [hy227]; with_reducible exact H2_) | (have H2_ := (Option.bind_some _ _).symm.trans H; with_reducible exact H2_) | with_reducible exact H | (rw [hy227]; exact H) | exact H
      have Ny227 := aM_ hy227
      clear hy227
      simp only [Option.some.injEq, Prod.mk.injEq] at H
      obtain ⟨rfl, rfl, rfl, rfl, rfl, rfl, rfl⟩ := H
      have hnb75 := NB206_194.out
      have hnc75 := NB194_206.out
      have hnb76 := NB206_195.out
      have hnc76 := NB195_206.out
      have hnb77 := NB206_0.out
      have hnc77 := NB0_206.out
      obtain ⟨hcz78_0, hcz78_1, hcz78_2, hcz78_3, hcz78_4, hcz78_5⟩ := bc6 BK206.out
      obtain ⟨hfz78_0, hfz78_1, hfz78_2, hfz78_3, hfz78_4, hfz78_5⟩ := bf6 BK206.out
      have q79 : (1 : Int) ≤ ((t203.length : Int) : Int) := of_decide_eq_true (by first | (with_reducible assumption) | assumption)
      obtain ⟨i079, hi079, _, hsz79, _⟩ := info_parts info3
      have hcut79 := cut_from (P := Try.prog) 23 3 .i64 Try.underlying23 hi079 1 hsz79 Ao18 t203.length co18 1 (by omega) q79
      have hr79 := Kd.Q_drop (k := (1 : Int).toNat) (Kd.Q_of_R HO205.out) (by omega)
      obtain ⟨A79, hA79⟩ : ∃ A1, A1 = (if co18 = (1 : Int).toNat then Ao18 else (Ao18 : Option Addr).map (·.add ((1 : Int).toNat * 1))) := ⟨_, rfl⟩
      obtain ⟨c79, hc79⟩ : ∃ c1, c1 = co18 - (1 : Int).toNat := ⟨_, rfl⟩
      have hy79 : y227.length = t203.length - (1 : Int).toNat := (by rw [Ny227.out, List.length_drop])
      rw [← Ny227.out] at hr79
      rw [← hy79, ← hA79, ← hc79] at hcut79
      replace hr79 : Kd.Q (Kd.int .i64) 3 w19 w.heap.size (fun k_ => some k_ ≠ (.slice Ao17 t200.length co17 : Value).ownBlock) (.slice A79 y227.length c79) y227 := (by rw [hA79, hc79, hy79]; exact hr79)
      have HE79 : Aside0 ((Value.slice A79 y227.length c79).ownBlock = (.slice Ao18 t203.length co18 : Value).ownBlock) := ⟨by rw [hA79]; split <;> (cases (Ao18 : Option Addr) <;> rfl)⟩
      clear hy79 hi079 hsz79 HO205 hA79 hc79
      have HO229 := aM_ hr79
      clear hr79
      replace q79 := eq_true q79
      have n_ := aM_ (Kd.R_mono (ok' := fun k_ => some k_ ≠ (.slice A79 y227.length c79 : Value).ownBlock) HO202.out (fun k_ hk => (by rw [HE79.out]; exact hk)))
      clear HO202
      have HO202 := n_
      clear n_
      have hnb80 := NB195_194.out
      have hnc80 := NB194_195.out
      have hnb81 := NB195_0.out
      have hnc81 := NB0_195.out
      obtain ⟨hcz82_0, hcz82_1, hcz82_2, hcz82_3, hcz82_4, hcz82_5⟩ := bc6 BK195.out
      obtain ⟨hfz82_0, hfz82_1, hfz82_2, hfz82_3, hfz82_4, hfz82_5⟩ := bf6 BK195.out
      go_wp2
      refine bodyPost_ret (results_cell_row rfl _ _ gb195 25 #[.int .i64 t196, .int .i64 t197, .int .i64 t198, .int .i64 t199, .slice Ao17 t200.length co17, .slice A79 y227.length c79] (0, 0) _ rfl (by (with_reducible repeat (first | apply kN_ | apply kD_ | apply kA_)); refine blk_put (cs := #[.int .i64 t196, .int .i64 t197, .int .i64 t198, .int .i64 t199, .slice Ao17 t200.length co17, .slice none 0 0]) ?_ 5 _ rfl; (with_reducible repeat (first | apply kN_ | apply kD_ | apply kA_)); refine blk_put (cs := #[.int .i64 t196, .int .i64 t197, .int .i64 t198, .int .i64 t199, .slice none 0 0, .slice none 0 0]) ?_ 4 _ rfl; (with_reducible repeat (first | apply kN_ | apply kD_ | apply kA_)); refine blk_put (cs := #[.int .i64 t196, .int .i64 t197, .int .i64 t198, .int .i64 0, .slice none 0 0, .slice none 0 0]) ?_ 3 _ rfl; (with_reducible repeat (first | apply kN_ | apply kD_ | apply kA_)); refine blk_put (cs := #[.int .i64 t196, .int .i64 t197, .int .i64 0, .int .i64 0, .slice none 0 0, .slice none 0 0]) ?_ 2 _ rfl; (with_reducible repeat (first | apply kN_ | apply kD_ | apply kA_)); refine blk_put (cs := #[.int .i64 t196, .int .i64 0, .int .i64 0, .int .i64 0, .slice none 0 0, .slice none 0 0]) ?_ 1 _ rfl; (with_reducible repeat (first | apply kN_ | apply kD_ | apply kA_)); refine blk_put (cs := #[.int .i64 0, .int .i64 0, .int .i64 0, .int .i64 0, .slice none 0 0, .slice none 0 0]) ?_ 0 _ rfl; (with_reducible repeat (first | apply kN_ | apply kD_ | apply kA_)); refine blk_far ?_ NB195_206.out _; (with_reducible repeat (first | apply kN_ | apply kD_ | apply kA_)); exact BK195.out) Try.underlying25 rfl (by kernel_rfl)) rfl ?_
      exact ⟨_, _, by first | rfl | (simp [errW_none, errW_some] <;> rfl) | (simp [*, errW_none, errW_some] <;> rfl), by (with_reducible repeat (first | apply rA_ | apply rN_ | apply rD_)); exact Kd.R_mono (Kd.R_far (Kd.R_far (Kd.R_far (Kd.R_far (Kd.R_far (Kd.R_far (Kd.R_far (Kd.R_types (Kd.R_types HO202.out BK206.out (by decide)) BK195.out (by decide)) (fun _ hk => hk.1.2) (.slice A79 y227.length c79)) (fun _ hk => hk.2) (.int .i64 t196)) (fun _ hk => hk.2) (.int .i64 t197)) (fun _ hk => hk.2) (.int .i64 t198)) (fun _ hk => hk.2) (.int .i64 t199)) (fun _ hk => hk.2) (.slice Ao17 t200.length co17)) (fun _ hk => hk.2) (.slice A79 y227.length c79)) (fun _ hk => hk.1.1), by (with_reducible repeat (first | apply Kd.Q_alloc | apply Kd.Q_drewN | apply Kd.Q_drew)); exact Kd.Q_mono (Kd.Q_far (Kd.Q_far (Kd.Q_far (Kd.Q_far (Kd.Q_far (Kd.Q_far (Kd.Q_far (Kd.Q_types (Kd.Q_types HO229.out BK206.out (by decide)) BK195.out (by decide)) (fun _ hk => hk.1.2) (.slice A79 y227.length c79)) (fun _ hk => hk.2) (.int .i64 t196)) (fun _ hk => hk.2) (.int .i64 t197)) (fun _ hk => hk.2) (.int .i64 t198)) (fun _ hk => hk.2) (.int .i64 t199)) (fun _ hk => hk.2) (.slice Ao17 t200.length co17)) (fun _ hk => hk.2) (.slice A79 y227.length c79)) (fun _ hk => hk.1.1), by repeat (first | (with_reducible first | exact HI0.out | apply IsS111.alloc | apply IsS111.drewN | apply IsS111.drew | apply IsS111.set_1 | refine IsS111.far ?_ NB0_194.out _ | refine IsS111.far ?_ NB0_195.out _ | refine IsS111.far ?_ NB0_206.out _) | exact HI0.out), by repeat (first | (with_reducible first | exact HB.out | apply wA_ | apply wN_ | apply wD_ | refine below_set ?_ (IsS111.ge HI0.out) | refine below_set ?_ GE194.out | refine below_set ?_ GE195.out | refine below_set ?_ GE206.out) | exact HB.out), by repeat (first | (with_reducible first | exact HK.out | apply pS_ | apply pN_ | apply pD_ | apply pA_ | refine keep_far ?_ GW194.out _ | refine keep_far ?_ GW195.out _ | refine keep_far ?_ GW206.out _) | exact HK.out)⟩
     ·rw [if_neg c74] at H
      exact absurd H (by simp)
    ·rw [if_neg c73] at H
     have c73b0 : (t207 == 3) = false := beq_eq_false_iff_ne.mpr c73
     have c73b1 : (t207 != 3) = true := bne_iff_ne.mpr c73
     by_cases c83 : t207 = 4
     ·rw [if_pos c83] at H
      have c83b0 : (t207 == 4) = true := beq_iff_eq.mpr c83
      have c83b1 : (t207 != 4) = false := bne_eq_false_iff_eq.mpr c83
      clear c83
      replace H := Option.bind_eq_some_iff.mp H
      obtain ⟨⟨t230, t231⟩, A840, H⟩ := H
      replace H : ((some (([(-1), 4294967296] : List Int) : List Int)).bind fun y232 => ((spec_l1Rd_pick.f k s0_0 t231 2).bind fun bt235 => (if 0 ≤ bt235.1 then (if bt235.1 < (y232.length : Int) then (if 0 ≤ t230 then (if t230 < (t203.length : Int) then (some (t196, t197, t198, t199, t200, (t203.set (t230 : Int).toNat (rd y232 bt235.1)), bt235.2)) else (none)) else (none)) else (none)) else (none)))) = some (r1, r2, r3, r4, r5, r6, r7) := H
      have A84 := aM_ A840
      clear A840
      obtain ⟨y232, hy232⟩ : ∃ y_ : List Int, y_ = (([(-1), 4294967296] : List Int)) := ⟨_, rfl⟩
      replace H : ((spec_l1Rd_pick.f k s0_0 t231 2).bind fun bt235 => (if 0 ≤ bt235.1 then (if bt235.1 < (y232.length : Int) then (if 0 ≤ t230 then (if t230 < (t203.length : Int) then (some (t196, t197, t198, t199, t200, (t203.set (t230 : Int).toNat (rd y232 bt235.1)), bt235.2)) else (none)) else (none)) else (none)) else (none))) = some (r1, r2, r3, r4, r5, r6, r7) := by first | (rw [hy232]; with_reducible exact H) | (have H2_ := (Option.bind_some _ _).symm.trans H; rw [hy232]; with_reducible exact H2_) | (have H2_ := (Option.bind_some _ _).symm.trans H; with_reducible exact H2_) | with_reducible exact H | (rw [hy232]; exact H) | exact H
      have Ny232 := aM_ hy232
      clear hy232
      replace H := Option.bind_eq_some_iff.mp H
      obtain ⟨⟨t235, t236⟩, A850, H⟩ := H
      replace H : (if 0 ≤ t235 then (if t235 < (y232.length : Int) then (if 0 ≤ t230 then (if t230 < (t203.length : Int) then (some (t196, t197, t198, t199, t200, (t203.set (t230 : Int).toNat (rd y232 t235)), t236)) else (none)) else (none)) else (none)) else (none)) = some (r1, r2, r3, r4, r5, r6, r7) := H
      have A85 := aM_ A850
      clear A850
      by_cases c86 : 0 ≤ t235
      ·rw [if_pos c86] at H
       have c86b0 : decide (0 ≤ t235) = true := decide_eq_true c86
       clear c86
       by_cases c87 : t235 < (y232.length : Int)
       ·rw [if_pos c87] at H
        have c87b0 : decide (t235 < (y232.length : Int)) = true := decide_eq_true c87
        clear c87
        by_cases c88 : 0 ≤ t230
        ·rw [if_pos c88] at H
         have c88b0 : decide (0 ≤ t230) = true := decide_eq_true c88
         clear c88
         by_cases c89 : t230 < (t203.length : Int)
         ·rw [if_pos c89] at H
          have c89b0 : decide (t230 < (t203.length : Int)) = true := decide_eq_true c89
          clear c89
          obtain ⟨y238, hy238⟩ : ∃ y_ : List Int, y_ = (t203.set (t230 : Int).toNat (rd y232 t235)) := ⟨_, rfl⟩
          replace H : (some (t196, t197, t198, t199, t200, y238, t236)) = some (r1, r2, r3, r4, r5, r6, r7) := by first | (rw [hy238]; with_reducible exact H) | (have H2_ := (Option.bind_some _ _).symm.trans H; rw [hy238]; with_reducible exact H2_) | (have H2_ := (Option.bind_some _ _).symm.trans H; with_reducible exact H2_) | with_reducible exact H | (rw [hy238]; exact H) | exact H
          have Ny238 := aM_ hy238
          clear hy238
          simp only [Option.some.injEq, Prod.mk.injEq] at H
          obtain ⟨rfl, rfl, rfl, rfl, rfl, rfl, rfl⟩ := H
          try go_wp2
          have pi237 : (0 ≤ (t235 : Int)) = True := eq_true (of_decide_eq_true (by first | (with_reducible assumption) | assumption))
          have qi237 : (t235 < (y232.length : Int)) = True := eq_true (of_decide_eq_true (by first | (with_reducible assumption) | assumption))
          have n0_ := aM_ (rD_ HO202.out)
          have n1_ := aM_ (rD_ HO205.out)
          have n2_ := aM_ (kD_ BK194.out)
          have n3_ := aM_ (kD_ BK195.out)
          have n4_ := aM_ (kD_ BK206.out)
          have n5_ := aM_ (IsS111.drew HI0.out)
          have n6_ := aM_ (pD_ HK.out)
          have n7_ := aM_ (wD_ HB.out)
          clear HO202
          clear HO205
          clear BK194
          clear BK195
          clear BK206
          clear HI0
          clear HK
          clear HB
          have HO202 := n0_
          have HO205 := n1_
          have BK194 := n2_
          have BK195 := n3_
          have BK206 := n4_
          have HI0 := n5_
          have HK := n6_
          have HB := n7_
          clear n0_ n1_ n2_ n3_ n4_ n5_ n6_ n7_
          refine start_ (n := 14) (S := fun w' => w'.cell? ⟨gb206, 0, none⟩ = some (.int .i64 t196) ∧ w'.cell? ⟨gb206, 1, none⟩ = some (.int .i64 t197) ∧ w'.cell? ⟨gb206, 2, none⟩ = some (.int .i64 t198) ∧ w'.cell? ⟨gb206, 3, none⟩ = some (.int .i64 t199) ∧ w'.cell? ⟨gb206, 4, none⟩ = some (.slice Ao17 t200.length co17) ∧ w'.cell? ⟨gb206, 5, none⟩ = some (.slice Ao18 t203.length co18)) (ds := [13]) #[false, false, false, false, false, false, false, false, false, false, false, false, false, false] (by kernel_rfl) rfl rfl (bc6 BK206.out) (fun hHeld => ?_); refine with_tabW spec_l14Spoil.tab13 spec_l14Spoil.bits13 (fun HT_ HW_ => ?_)
          generalize w19.drew = w91 at HO202 HO205 BK194 BK195 BK206 HI0 HK HB hHeld ⊢
          refine pure_ (i := 0) (N := some 51) (v := ?_) (a' := ?_) #[true, false, false, false, false, false, false, false, false, false, false, false, false, false] rfl rfl (any_of HT_.out (by kernel_rfl)) (fun _ _ _ h => h) (Or.inl ⟨by rfl, ?_⟩) ?_ ?_
          rotate_left
          ·intro w'
           go_simp
           with_reducible rfl
          rotate_left
          ·simp only [Act.put, sA_, s0_, s1_, i64_w, i32_w]
           rfl
          refine pure_ (i := 2) (N := some 53) (v := ?_) (a' := ?_) #[true, false, true, false, false, false, false, false, false, false, false, false, false, false] rfl rfl (any_of HT_.out (by kernel_rfl)) (fun _ _ _ h => h) (Or.inl ⟨by rfl, ?_⟩) ?_ ?_
          rotate_left
          ·intro w'
           go_simp
           with_reducible rfl
          rotate_left
          ·simp only [Act.put, sA_, s0_, s1_, i64_w, i32_w]
           rfl
          refine pure_ (i := 3) (N := some 54) (v := ?_) (a' := ?_) #[true, false, true, true, false, false, false, false, false, false, false, false, false, false] rfl rfl (any_of HT_.out (by kernel_rfl)) (fun _ _ _ h => h) (Or.inl ⟨by rfl, ?_⟩) ?_ ?_
          rotate_left
          ·intro w'
           go_simp
           with_reducible rfl
          rotate_left
          ·simp only [Act.put, sA_, s0_, s1_, i64_w, i32_w]
           rfl
          refine pure_ (i := 8) (N := some 59) (v := ?_) (a' := ?_) #[true, false, true, true, false, false, false, false, true, false, false, false, false, false] rfl rfl (any_of HT_.out (by kernel_rfl)) (fun _ _ _ h => h) (Or.inl ⟨by rfl, ?_⟩) ?_ ?_
          rotate_left
          ·intro w'
           go_simp
           with_reducible rfl
          rotate_left
          ·simp only [Act.put, sA_, s0_, s1_, i64_w, i32_w]
           rfl
          refine take_ (i := 1) (N := some 52) (v := ?_) (a' := ?_) #[true, true, true, true, false, false, false, false, true, false, false, false, false, false] rfl rfl (take_ofW HT_.out HW_.out (by kernel_rfl)) (fun _ _ _ h => h) (Or.inl ⟨by rfl, ?_⟩) hHeld ?_ ?_
          rotate_left
          ·rintro w' ⟨s0, s1, s2, s3, s4, s5⟩
           go_simp
           with_reducible rfl
          rotate_left
          ·simp only [Act.put, sA_, s0_, s1_, i64_w, i32_w]
           rfl
          refine take_ (i := 4) (N := some 55) (v := ?_) (a' := ?_) #[true, true, true, true, true, false, false, false, true, false, false, false, false, false] rfl rfl (take_ofW HT_.out HW_.out (by kernel_rfl)) (fun _ _ _ h => h) (Or.inl ⟨by rfl, ?_⟩) hHeld ?_ ?_
          rotate_left
          ·rintro w' ⟨s0, s1, s2, s3, s4, s5⟩
           go_simp
           with_reducible rfl
          rotate_left
          ·simp only [Act.put, sA_, s0_, s1_, i64_w, i32_w]
           rfl
          refine pure_ (i := 5) (N := some 56) (v := ?_) (a' := ?_) #[true, true, true, true, true, true, false, false, true, false, false, false, false, false] rfl rfl (any_of HT_.out (by kernel_rfl)) (fun _ _ _ h => h) (Or.inl ⟨by rfl, ?_⟩) ?_ ?_
          rotate_left
          ·intro w'
           go_simp
           with_reducible rfl
          rotate_left
          ·simp only [Act.put, sA_, s0_, s1_, i64_w, i32_w]
           rfl
          refine join_ (σ := Value × Addr) 4 #[true, true, true, true, true, true, true, true, true, true, false, false, false, false] (fun s_ => [(57, .int .i64 t230), (58, s_.1), (60, .int .i64 t235)]) (fun s_ w' => (w'.cell? ⟨gb206, 0, none⟩ = some (.int .i64 t196) ∧ w'.cell? ⟨gb206, 1, none⟩ = some (.int .i64 t197) ∧ w'.cell? ⟨gb206, 2, none⟩ = some (.int .i64 t198) ∧ w'.cell? ⟨gb206, 3, none⟩ = some (.int .i64 t199) ∧ w'.cell? ⟨gb206, 4, none⟩ = some (.slice Ao17 t200.length co17) ∧ w'.cell? ⟨gb206, 5, none⟩ = some (.slice Ao18 t203.length co18)) ∧ (Kd.R (Kd.int .i64) 3 w' w.heap.size (fun k_ => some k_ ≠ (.slice Ao18 t203.length co18 : Value).ownBlock ∧ some k_ ≠ (s_.1 : Value).ownBlock) (.slice Ao17 t200.length co17) t200) ∧ (Kd.R (Kd.int .i64) 3 w' w.heap.size (fun k_ => some k_ ≠ (.slice Ao17 t200.length co17 : Value).ownBlock ∧ some k_ ≠ (s_.1 : Value).ownBlock) (.slice Ao18 t203.length co18) t203) ∧ (Kd.R (Kd.int .i64) 3 w' w.heap.size (fun k_ => some k_ ≠ (.slice Ao17 t200.length co17 : Value).ownBlock ∧ some k_ ≠ (.slice Ao18 t203.length co18 : Value).ownBlock) s_.1 y232) ∧ (∃ c_, (s_.1 : Value) = .slice (some s_.2) y232.length c_) ∧ (w'.heap[gb194]? = some (.cells #[.int .i64 a1_0, .int .i64 a1_1, .int .i64 a1_2, .int .i64 a1_3, .slice A1_4 l1_4.length c1_4, .slice A1_5 l1_5.length c1_5] 25 (0, 0))) ∧ (w'.heap[gb195]? = some (.cells #[.int .i64 0, .int .i64 0, .int .i64 0, .int .i64 0, .slice none 0 0, .slice none 0 0] 25 (0, 0))) ∧ (w'.heap[gb206]? = some (.cells #[.int .i64 t196, .int .i64 t197, .int .i64 t198, .int .i64 t199, .slice Ao17 t200.length co17, .slice Ao18 t203.length co18] 25 (0, 0))) ∧ (IsS111 w0 w' g s0_0 t236) ∧ (KeepBut w w' g none) ∧ (Below w0.heap.size w0 w')) ?_ ?_
          rotate_left
          ·intro hCont
           refine two_ (i := 6) (j := 7) (Ni := some 57) (Nj := some 58) #[true, true, true, true, true, true, true, false, true, false, false, false, false, false] #[true, true, true, true, true, true, false, true, true, false, false, false, false, false] rfl rfl rfl rfl (two_of HT_.out (by kernel_rfl)) (by decide) (by decide) (fun K hK => ?_) (fun K hK => ?_)
           ·skip
            refine goes_ Try.func80 (by kernel_rfl) rfl #[.pointer (some ⟨g, 0, none⟩), .int .i64 (t203.length : Int)] (by rfl) rfl rfl (by (try simp only [List.map_toArray, List.map_cons, List.map_nil]); first | done | rfl | (simp only [List.length_drop, List.length_take]; rfl)) ?_
            with_reducible refine (spec_l1Rd_pick.calls k g s0_0 t208 (t203.length : Int) t230 t231 w0 _ ?side1 ?side2 A84.out).mono ?_
            (case side1 => repeat (first | (with_reducible first | exact HI0.out | apply IsS111.alloc | apply IsS111.drewN | apply IsS111.drew | apply IsS111.set_1 | refine IsS111.far ?_ NB0_194.out _ | refine IsS111.far ?_ NB0_195.out _ | refine IsS111.far ?_ NB0_206.out _) | exact HI0.out))
            (case side2 => repeat (first | (with_reducible first | exact HB.out | apply wA_ | apply wN_ | apply wD_ | refine below_set ?_ (IsS111.ge HI0.out) | refine below_set ?_ GE194.out | refine below_set ?_ GE195.out | refine below_set ?_ GE206.out) | exact HB.out))
            rintro e w92 ⟨rfl, hi, hb, hk⟩
            refine ⟨_, rfl, ?_⟩
            have n0_ := aM_ (KeepBut.blk hk (g' := gb194) (o := .cells #[.int .i64 a1_0, .int .i64 a1_1, .int .i64 a1_2, .int .i64 a1_3, .slice A1_4 l1_4.length c1_4, .slice A1_5 l1_5.length c1_5] 25 (0, 0)) (by (with_reducible repeat (first | apply kN_ | apply kD_ | apply kA_)); exact BK194.out) NB194_0.out (by simp))
            have n1_ := aM_ (KeepBut.blk hk (g' := gb195) (o := .cells #[.int .i64 0, .int .i64 0, .int .i64 0, .int .i64 0, .slice none 0 0, .slice none 0 0] 25 (0, 0)) (by (with_reducible repeat (first | apply kN_ | apply kD_ | apply kA_)); exact BK195.out) NB195_0.out (by simp))
            have n2_ := aM_ (Kd.R_mono (Kd.R_keep (IsS111.apart (show IsS111 w0 _ g s0_0 t208 from by repeat (first | (with_reducible first | exact HI0.out | apply IsS111.alloc | apply IsS111.drewN | apply IsS111.drew | apply IsS111.set_1 | refine IsS111.far ?_ NB0_194.out _ | refine IsS111.far ?_ NB0_195.out _ | refine IsS111.far ?_ NB0_206.out _) | exact HI0.out)) (by (with_reducible repeat (first | apply rA_ | apply rN_ | apply rD_)); exact HO202.out) (by decide)) hk (fun _ h => h.2)) (fun _ h => h.1))
            have n3_ := aM_ (Kd.R_mono (Kd.R_keep (IsS111.apart (show IsS111 w0 _ g s0_0 t208 from by repeat (first | (with_reducible first | exact HI0.out | apply IsS111.alloc | apply IsS111.drewN | apply IsS111.drew | apply IsS111.set_1 | refine IsS111.far ?_ NB0_194.out _ | refine IsS111.far ?_ NB0_195.out _ | refine IsS111.far ?_ NB0_206.out _) | exact HI0.out)) (by (with_reducible repeat (first | apply rA_ | apply rN_ | apply rD_)); exact HO205.out) (by decide)) hk (fun _ h => h.2)) (fun _ h => h.1))
            have n4_ := aM_ (KeepBut.blk hk (g' := gb206) (o := .cells #[.int .i64 t196, .int .i64 t197, .int .i64 t198, .int .i64 t199, .slice Ao17 t200.length co17, .slice Ao18 t203.length co18] 25 (0, 0)) (by (with_reducible repeat (first | apply kN_ | apply kD_ | apply kA_)); exact BK206.out) NB206_0.out (by simp))
            have n5_ := aM_ (KeepBut.trans (by repeat (first | (with_reducible first | exact HK.out | apply pS_ | apply pN_ | apply pD_ | apply pA_ | refine keep_far ?_ GW194.out _ | refine keep_far ?_ GW195.out _ | refine keep_far ?_ GW206.out _) | exact HK.out)) hk (.inl rfl))
            have n6_ := aM_ (hb)
            have n7_ := aM_ (hi)
            clear BK194
            clear BK195
            clear HO202
            clear HO205
            clear BK206
            clear HK
            clear HB
            clear HI0
            have BK194 := n0_
            have BK195 := n1_
            have HO202 := n2_
            have HO205 := n3_
            have BK206 := n4_
            have HK := n5_
            have HB := n6_
            have HI0 := n7_
            clear n0_ n1_ n2_ n3_ n4_ n5_ n6_ n7_
            (try clear hb)
            (try clear hb2)
            (try clear hk)
            (try clear hi)
            refine hK.out _ _ (bc6 BK206.out) (fun hHeld => ?_)
            clear hK K
            refine norm_ (a' := ?_) ?_ ?_
            rotate_left
            ·show Act.put _ (some 57) _ = _
             simp only [Act.put, sA_, s0_, s1_, i64_w, i32_w]
             rfl
            refine two_ (i := 7) (j := 9) (Ni := some 58) (Nj := some 60) #[true, true, true, true, true, true, true, true, true, false, false, false, false, false] #[true, true, true, true, true, true, true, false, true, true, false, false, false, false] rfl rfl rfl rfl (two_of HT_.out (by kernel_rfl)) (by decide) (by decide) (fun K hK => ?_) (fun K hK => ?_)
            ·skip
             refine Kd.R_lit_step (Kd.int .i64) _ 3 ?hg (N := 58) ?hd (xs := ([(-1), 4294967296] : List Int)) (inner := [.int .i64 (-1), .int .i64 4294967296]) (ok := fun _ => True) (okp := fun _ => True) ?hr ?hp (fun _ hk => hk) trivial (Below.refl _ _) (Nat.le_refl _) (by simp) ?_; (case hd => rfl); (case hg => rfl); (case hr => first | (go_simp; done) | (go_simp; rfl)); (case hp => exact (Reps.one (show Kd.M (Kd.int .i64) _ _ _ (-1) [.int .i64 (-1)] from rfl) (Reps.one (show Kd.M (Kd.int .i64) _ _ _ 4294967296 [.int .i64 4294967296] from rfl) (Reps.none _ _))))
             intro v233 w93 ho94 hb hg_ hnew_
             clear hg_ hnew_
             (first | rw [← Ny232.out] at ho94 | (simp only [Int.reduceToNat] at ho94; rw [← Ny232.out] at ho94))
             have n0_ := aM_ (Kd.R_elder' (by (with_reducible repeat (first | apply rA_ | apply rN_ | apply rD_)); exact HO202.out) (Kd.R_base ho94) hb)
             have n1_ := aM_ (Kd.R_elder' (by (with_reducible repeat (first | apply rA_ | apply rN_ | apply rD_)); exact HO205.out) (Kd.R_base ho94) hb)
             have n2_ := aM_ (Kd.R_lower (Kd.R_new' (Kd.R_new' ho94 (Kd.R_lt (by (with_reducible repeat (first | apply rA_ | apply rN_ | apply rD_)); exact HO202.out))) (Kd.R_lt (by (with_reducible repeat (first | apply rA_ | apply rN_ | apply rD_)); exact HO205.out))) (keep_size (w := w) (g := g) (row := none) (by repeat (first | (with_reducible first | exact HK.out | apply pS_ | apply pN_ | apply pD_ | apply pA_ | refine keep_far ?_ GW194.out _ | refine keep_far ?_ GW195.out _ | refine keep_far ?_ GW206.out _) | exact HK.out))))
             have n3_ := aM_ (IsS111.below (by repeat (first | (with_reducible first | exact HI0.out | apply IsS111.alloc | apply IsS111.drewN | apply IsS111.drew | apply IsS111.set_1 | refine IsS111.far ?_ NB0_194.out _ | refine IsS111.far ?_ NB0_195.out _ | refine IsS111.far ?_ NB0_206.out _) | exact HI0.out)) hb)
             have n4_ := aM_ (blk_below (g := gb194) (by (with_reducible repeat (first | apply kN_ | apply kD_ | apply kA_)); exact BK194.out) hb)
             have n5_ := aM_ (blk_below (g := gb195) (by (with_reducible repeat (first | apply kN_ | apply kD_ | apply kA_)); exact BK195.out) hb)
             have n6_ := aM_ (blk_below (g := gb206) (by (with_reducible repeat (first | apply kN_ | apply kD_ | apply kA_)); exact BK206.out) hb)
             have n7_ := aM_ (KeepBut.trans (by repeat (first | (with_reducible first | exact HK.out | apply pS_ | apply pN_ | apply pD_ | apply pA_ | refine keep_far ?_ GW194.out _ | refine keep_far ?_ GW195.out _ | refine keep_far ?_ GW206.out _) | exact HK.out)) (KeepBut.of_below hb g none) (.inl rfl))
             have n8_ := aM_ (below_step (by repeat (first | (with_reducible first | exact HB.out | apply wA_ | apply wN_ | apply wD_ | refine below_set ?_ (IsS111.ge HI0.out) | refine below_set ?_ GE194.out | refine below_set ?_ GE195.out | refine below_set ?_ GE206.out) | exact HB.out)) hb)
             clear HO202
             clear HO205
             clear HI0
             clear BK194
             clear BK195
             clear BK206
             clear HK
             clear HB
             have HO202 := n0_
             have HO205 := n1_
             have HO234 := n2_
             have HI0 := n3_
             have BK194 := n4_
             have BK195 := n5_
             have BK206 := n6_
             have HK := n7_
             have HB := n8_
             clear n0_ n1_ n2_ n3_ n4_ n5_ n6_ n7_ n8_
             clear hb ho94
             obtain ⟨Ao95, co95, eo95⟩ := Kd.R_slice HO234.out
             subst eo95
             obtain ⟨ado95, fo95, _⟩ := Kd.at_int (Kd.R_reads' HO234.out).2.2 0 (by decide) (by rw [Ny232.out]; simp)
             cases fo95
             refine hK.out _ _ (bc6 BK206.out) (fun hHeld => ?_)
             clear hK K
             refine norm_ (a' := ?_) ?_ ?_
             rotate_left
             ·show Act.put _ (some 58) _ = _
              simp only [Act.put, sA_, s0_, s1_, i64_w, i32_w]
              rfl
             refine one_ (i := 9) (N := some 60) #[true, true, true, true, true, true, true, true, true, true, false, false, false, false] rfl rfl (one_of HT_.out (by kernel_rfl)) (by decide) (fun K hK => ?_)
             refine goes_ Try.func80 (by kernel_rfl) rfl #[.pointer (some ⟨g, 0, none⟩), .int .i64 2] (by rfl) rfl rfl (by (try simp only [List.map_toArray, List.map_cons, List.map_nil]); first | done | rfl | (simp only [List.length_drop, List.length_take]; rfl)) ?_
             with_reducible refine (spec_l1Rd_pick.calls k g s0_0 t231 2 t235 t236 w0 _ ?side1 ?side2 A85.out).mono ?_
             (case side1 => repeat (first | (with_reducible first | exact HI0.out | apply IsS111.alloc | apply IsS111.drewN | apply IsS111.drew | apply IsS111.set_1 | refine IsS111.far ?_ NB0_194.out _ | refine IsS111.far ?_ NB0_195.out _ | refine IsS111.far ?_ NB0_206.out _) | exact HI0.out))
             (case side2 => repeat (first | (with_reducible first | exact HB.out | apply wA_ | apply wN_ | apply wD_ | refine below_set ?_ (IsS111.ge HI0.out) | refine below_set ?_ GE194.out | refine below_set ?_ GE195.out | refine below_set ?_ GE206.out) | exact HB.out))
             rintro e w96 ⟨rfl, hi, hb, hk⟩
             refine ⟨_, rfl, ?_⟩
             have n0_ := aM_ (KeepBut.blk hk (g' := gb194) (o := .cells #[.int .i64 a1_0, .int .i64 a1_1, .int .i64 a1_2, .int .i64 a1_3, .slice A1_4 l1_4.length c1_4, .slice A1_5 l1_5.length c1_5] 25 (0, 0)) (by (with_reducible repeat (first | apply kN_ | apply kD_ | apply kA_)); exact BK194.out) NB194_0.out (by simp))
             have n1_ := aM_ (KeepBut.blk hk (g' := gb195) (o := .cells #[.int .i64 0, .int .i64 0, .int .i64 0, .int .i64 0, .slice none 0 0, .slice none 0 0] 25 (0, 0)) (by (with_reducible repeat (first | apply kN_ | apply kD_ | apply kA_)); exact BK195.out) NB195_0.out (by simp))
             have n2_ := aM_ (Kd.R_mono (Kd.R_keep (IsS111.apart (show IsS111 w0 _ g s0_0 t231 from by repeat (first | (with_reducible first | exact HI0.out | apply IsS111.alloc | apply IsS111.drewN | apply IsS111.drew | apply IsS111.set_1 | refine IsS111.far ?_ NB0_194.out _ | refine IsS111.far ?_ NB0_195.out _ | refine IsS111.far ?_ NB0_206.out _) | exact HI0.out)) (by (with_reducible repeat (first | apply rA_ | apply rN_ | apply rD_)); exact HO202.out) (by decide)) hk (fun _ h => h.2)) (fun _ h => h.1))
             have n3_ := aM_ (Kd.R_mono (Kd.R_keep (IsS111.apart (show IsS111 w0 _ g s0_0 t231 from by repeat (first | (with_reducible first | exact HI0.out | apply IsS111.alloc | apply IsS111.drewN | apply IsS111.drew | apply IsS111.set_1 | refine IsS111.far ?_ NB0_194.out _ | refine IsS111.far ?_ NB0_195.out _ | refine IsS111.far ?_ NB0_206.out _) | exact HI0.out)) (by (with_reducible repeat (first | apply rA_ | apply rN_ | apply rD_)); exact HO205.out) (by decide)) hk (fun _ h => h.2)) (fun _ h => h.1))
             have n4_ := aM_ (KeepBut.blk hk (g' := gb206) (o := .cells #[.int .i64 t196, .int .i64 t197, .int .i64 t198, .int .i64 t199, .slice Ao17 t200.length co17, .slice Ao18 t203.length co18] 25 (0, 0)) (by (with_reducible repeat (first | apply kN_ | apply kD_ | apply kA_)); exact BK206.out) NB206_0.out (by simp))
             have n5_ := aM_ (Kd.R_mono (Kd.R_keep (IsS111.apart (show IsS111 w0 _ g s0_0 t231 from by repeat (first | (with_reducible first | exact HI0.out | apply IsS111.alloc | apply IsS111.drewN | apply IsS111.drew | apply IsS111.set_1 | refine IsS111.far ?_ NB0_194.out _ | refine IsS111.far ?_ NB0_195.out _ | refine IsS111.far ?_ NB0_206.out _) | exact HI0.out)) (by (with_reducible repeat (first | apply rA_ | apply rN_ | apply rD_)); exact HO234.out) (by decide)) hk (fun _ h => h.2)) (fun _ h => h.1))
             have n6_ := aM_ (KeepBut.trans (by repeat (first | (with_reducible first | exact HK.out | apply pS_ | apply pN_ | apply pD_ | apply pA_ | refine keep_far ?_ GW194.out _ | refine keep_far ?_ GW195.out _ | refine keep_far ?_ GW206.out _) | exact HK.out)) hk (.inl rfl))
             have n7_ := aM_ (hb)
             have n8_ := aM_ (hi)
             clear BK194
             clear BK195
             clear HO202
             clear HO205
             clear BK206
             clear HO234
             clear HK
             clear HB
             clear HI0
             have BK194 := n0_
             have BK195 := n1_
             have HO202 := n2_
             have HO205 := n3_
             have BK206 := n4_
             have HO234 := n5_
             have HK := n6_
             have HB := n7_
             have HI0 := n8_
             clear n0_ n1_ n2_ n3_ n4_ n5_ n6_ n7_ n8_
             (try clear hb)
             (try clear hb2)
             (try clear hk)
             (try clear hi)
             refine hK.out _ _ (bc6 BK206.out) (fun hHeld => ?_)
             clear hK K
             refine norm_ (a' := ?_) ?_ ?_
             rotate_left
             ·show Act.put _ (some 60) _ = _
              simp only [Act.put, sA_, s0_, s1_, i64_w, i32_w]
              rfl
             exact norm_ (by simp only [putAll, Act.put, sA_, s0_, s1_]) (hCont (.slice (some ado95) y232.length co95, ado95) _ ⟨hHeld, (by (with_reducible repeat (first | apply rA_ | apply rN_ | apply rD_)); exact HO202.out), (by (with_reducible repeat (first | apply rA_ | apply rN_ | apply rD_)); exact HO205.out), (by (with_reducible repeat (first | apply rA_ | apply rN_ | apply rD_)); exact Kd.R_mono HO234.out (fun _ hk => ⟨hk.1.2, hk.2⟩)), ⟨_, rfl⟩, (by (with_reducible repeat (first | apply kN_ | apply kD_ | apply kA_)); exact BK194.out), (by (with_reducible repeat (first | apply kN_ | apply kD_ | apply kA_)); exact BK195.out), (by (with_reducible repeat (first | apply kN_ | apply kD_ | apply kA_)); exact BK206.out), (by repeat (first | (with_reducible first | exact HI0.out | apply IsS111.alloc | apply IsS111.drewN | apply IsS111.drew | apply IsS111.set_1 | refine IsS111.far ?_ NB0_194.out _ | refine IsS111.far ?_ NB0_195.out _ | refine IsS111.far ?_ NB0_206.out _) | exact HI0.out)), (by repeat (first | (with_reducible first | exact HK.out | apply pS_ | apply pN_ | apply pD_ | apply pA_ | refine keep_far ?_ GW194.out _ | refine keep_far ?_ GW195.out _ | refine keep_far ?_ GW206.out _) | exact HK.out)), (by repeat (first | (with_reducible first | exact HB.out | apply wA_ | apply wN_ | apply wD_ | refine below_set ?_ (IsS111.ge HI0.out) | refine below_set ?_ GE194.out | refine below_set ?_ GE195.out | refine below_set ?_ GE206.out) | exact HB.out))⟩)
            ·skip
             refine goes_ Try.func80 (by kernel_rfl) rfl #[.pointer (some ⟨g, 0, none⟩), .int .i64 2] (by rfl) rfl rfl (by (try simp only [List.map_toArray, List.map_cons, List.map_nil]); first | done | rfl | (simp only [List.length_drop, List.length_take]; rfl)) ?_
             with_reducible refine (spec_l1Rd_pick.calls k g s0_0 t231 2 t235 t236 w0 _ ?side1 ?side2 A85.out).mono ?_
             (case side1 => repeat (first | (with_reducible first | exact HI0.out | apply IsS111.alloc | apply IsS111.drewN | apply IsS111.drew | apply IsS111.set_1 | refine IsS111.far ?_ NB0_194.out _ | refine IsS111.far ?_ NB0_195.out _ | refine IsS111.far ?_ NB0_206.out _) | exact HI0.out))
             (case side2 => repeat (first | (with_reducible first | exact HB.out | apply wA_ | apply wN_ | apply wD_ | refine below_set ?_ (IsS111.ge HI0.out) | refine below_set ?_ GE194.out | refine below_set ?_ GE195.out | refine below_set ?_ GE206.out) | exact HB.out))
             rintro e w93 ⟨rfl, hi, hb, hk⟩
             refine ⟨_, rfl, ?_⟩
             have n0_ := aM_ (KeepBut.blk hk (g' := gb194) (o := .cells #[.int .i64 a1_0, .int .i64 a1_1, .int .i64 a1_2, .int .i64 a1_3, .slice A1_4 l1_4.length c1_4, .slice A1_5 l1_5.length c1_5] 25 (0, 0)) (by (with_reducible repeat (first | apply kN_ | apply kD_ | apply kA_)); exact BK194.out) NB194_0.out (by simp))
             have n1_ := aM_ (KeepBut.blk hk (g' := gb195) (o := .cells #[.int .i64 0, .int .i64 0, .int .i64 0, .int .i64 0, .slice none 0 0, .slice none 0 0] 25 (0, 0)) (by (with_reducible repeat (first | apply kN_ | apply kD_ | apply kA_)); exact BK195.out) NB195_0.out (by simp))
             have n2_ := aM_ (Kd.R_mono (Kd.R_keep (IsS111.apart (show IsS111 w0 _ g s0_0 t231 from by repeat (first | (with_reducible first | exact HI0.out | apply IsS111.alloc | apply IsS111.drewN | apply IsS111.drew | apply IsS111.set_1 | refine IsS111.far ?_ NB0_194.out _ | refine IsS111.far ?_ NB0_195.out _ | refine IsS111.far ?_ NB0_206.out _) | exact HI0.out)) (by (with_reducible repeat (first | apply rA_ | apply rN_ | apply rD_)); exact HO202.out) (by decide)) hk (fun _ h => h.2)) (fun _ h => h.1))
             have n3_ := aM_ (Kd.R_mono (Kd.R_keep (IsS111.apart (show IsS111 w0 _ g s0_0 t231 from by repeat (first | (with_reducible first | exact HI0.out | apply IsS111.alloc | apply IsS111.drewN | apply IsS111.drew | apply IsS111.set_1 | refine IsS111.far ?_ NB0_194.out _ | refine IsS111.far ?_ NB0_195.out _ | refine IsS111.far ?_ NB0_206.out _) | exact HI0.out)) (by (with_reducible repeat (first | apply rA_ | apply rN_ | apply rD_)); exact HO205.out) (by decide)) hk (fun _ h => h.2)) (fun _ h => h.1))
             have n4_ := aM_ (KeepBut.blk hk (g' := gb206) (o := .cells #[.int .i64 t196, .int .i64 t197, .int .i64 t198, .int .i64 t199, .slice Ao17 t200.length co17, .slice Ao18 t203.length co18] 25 (0, 0)) (by (with_reducible repeat (first | apply kN_ | apply kD_ | apply kA_)); exact BK206.out) NB206_0.out (by simp))
             have n5_ := aM_ (KeepBut.trans (by repeat (first | (with_reducible first | exact HK.out | apply pS_ | apply pN_ | apply pD_ | apply pA_ | refine keep_far ?_ GW194.out _ | refine keep_far ?_ GW195.out _ | refine keep_far ?_ GW206.out _) | exact HK.out)) hk (.inl rfl))
             have n6_ := aM_ (hb)
             have n7_ := aM_ (hi)
             clear BK194
             clear BK195
             clear HO202
             clear HO205
             clear BK206
             clear HK
             clear HB
             clear HI0
             have BK194 := n0_
             have BK195 := n1_
             have HO202 := n2_
             have HO205 := n3_
             have BK206 := n4_
             have HK := n5_
             have HB := n6_
             have HI0 := n7_
             clear n0_ n1_ n2_ n3_ n4_ n5_ n6_ n7_
             (try clear hb)
             (try clear hb2)
             (try clear hk)
             (try clear hi)
             refine hK.out _ _ (bc6 BK206.out) (fun hHeld => ?_)
             clear hK K
             refine norm_ (a' := ?_) ?_ ?_
             rotate_left
             ·show Act.put _ (some 60) _ = _
              simp only [Act.put, sA_, s0_, s1_, i64_w, i32_w]
              rfl
             refine one_ (i := 7) (N := some 58) #[true, true, true, true, true, true, true, true, true, true, false, false, false, false] rfl rfl (one_of HT_.out (by kernel_rfl)) (by decide) (fun K hK => ?_)
             refine Kd.R_lit_step (Kd.int .i64) _ 3 ?hg (N := 58) ?hd (xs := ([(-1), 4294967296] : List Int)) (inner := [.int .i64 (-1), .int .i64 4294967296]) (ok := fun _ => True) (okp := fun _ => True) ?hr ?hp (fun _ hk => hk) trivial (Below.refl _ _) (Nat.le_refl _) (by simp) ?_; (case hd => rfl); (case hg => rfl); (case hr => first | (go_simp; done) | (go_simp; rfl)); (case hp => exact (Reps.one (show Kd.M (Kd.int .i64) _ _ _ (-1) [.int .i64 (-1)] from rfl) (Reps.one (show Kd.M (Kd.int .i64) _ _ _ 4294967296 [.int .i64 4294967296] from rfl) (Reps.none _ _))))
             intro v233 w94 ho95 hb hg_ hnew_
             clear hg_ hnew_
             (first | rw [← Ny232.out] at ho95 | (simp only [Int.reduceToNat] at ho95; rw [← Ny232.out] at ho95))
             have n0_ := aM_ (Kd.R_elder' (by (with_reducible repeat (first | apply rA_ | apply rN_ | apply rD_)); exact HO202.out) (Kd.R_base ho95) hb)
             have n1_ := aM_ (Kd.R_elder' (by (with_reducible repeat (first | apply rA_ | apply rN_ | apply rD_)); exact HO205.out) (Kd.R_base ho95) hb)
             have n2_ := aM_ (Kd.R_lower (Kd.R_new' (Kd.R_new' ho95 (Kd.R_lt (by (with_reducible repeat (first | apply rA_ | apply rN_ | apply rD_)); exact HO202.out))) (Kd.R_lt (by (with_reducible repeat (first | apply rA_ | apply rN_ | apply rD_)); exact HO205.out))) (keep_size (w := w) (g := g) (row := none) (by repeat (first | (with_reducible first | exact HK.out | apply pS_ | apply pN_ | apply pD_ | apply pA_ | refine keep_far ?_ GW194.out _ | refine keep_far ?_ GW195.out _ | refine keep_far ?_ GW206.out _) | exact HK.out))))
             have n3_ := aM_ (IsS111.below (by repeat (first | (with_reducible first | exact HI0.out | apply IsS111.alloc | apply IsS111.drewN | apply IsS111.drew | apply IsS111.set_1 | refine IsS111.far ?_ NB0_194.out _ | refine IsS111.far ?_ NB0_195.out _ | refine IsS111.far ?_ NB0_206.out _) | exact HI0.out)) hb)
             have n4_ := aM_ (blk_below (g := gb194) (by (with_reducible repeat (first | apply kN_ | apply kD_ | apply kA_)); exact BK194.out) hb)
             have n5_ := aM_ (blk_below (g := gb195) (by (with_reducible repeat (first | apply kN_ | apply kD_ | apply kA_)); exact BK195.out) hb)
             have n6_ := aM_ (blk_below (g := gb206) (by (with_reducible repeat (first | apply kN_ | apply kD_ | apply kA_)); exact BK206.out) hb)
             have n7_ := aM_ (KeepBut.trans (by repeat (first | (with_reducible first | exact HK.out | apply pS_ | apply pN_ | apply pD_ | apply pA_ | refine keep_far ?_ GW194.out _ | refine keep_far ?_ GW195.out _ | refine keep_far ?_ GW206.out _) | exact HK.out)) (KeepBut.of_below hb g none) (.inl rfl))
             have n8_ := aM_ (below_step (by repeat (first | (with_reducible first | exact HB.out | apply wA_ | apply wN_ | apply wD_ | refine below_set ?_ (IsS111.ge HI0.out) | refine below_set ?_ GE194.out | refine below_set ?_ GE195.out | refine below_set ?_ GE206.out) | exact HB.out)) hb)
             clear HO202
             clear HO205
             clear HI0
             clear BK194
             clear BK195
             clear BK206
             clear HK
             clear HB
             have HO202 := n0_
             have HO205 := n1_
             have HO234 := n2_
             have HI0 := n3_
             have BK194 := n4_
             have BK195 := n5_
             have BK206 := n6_
             have HK := n7_
             have HB := n8_
             clear n0_ n1_ n2_ n3_ n4_ n5_ n6_ n7_ n8_
             clear hb ho95
             obtain ⟨Ao96, co96, eo96⟩ := Kd.R_slice HO234.out
             subst eo96
             obtain ⟨ado96, fo96, _⟩ := Kd.at_int (Kd.R_reads' HO234.out).2.2 0 (by decide) (by rw [Ny232.out]; simp)
             cases fo96
             refine hK.out _ _ (bc6 BK206.out) (fun hHeld => ?_)
             clear hK K
             refine norm_ (a' := ?_) ?_ ?_
             rotate_left
             ·show Act.put _ (some 58) _ = _
              simp only [Act.put, sA_, s0_, s1_, i64_w, i32_w]
              rfl
             exact norm_ (by simp only [putAll, Act.put, sA_, s0_, s1_]) (hCont (.slice (some ado96) y232.length co96, ado96) _ ⟨hHeld, (by (with_reducible repeat (first | apply rA_ | apply rN_ | apply rD_)); exact HO202.out), (by (with_reducible repeat (first | apply rA_ | apply rN_ | apply rD_)); exact HO205.out), (by (with_reducible repeat (first | apply rA_ | apply rN_ | apply rD_)); exact Kd.R_mono HO234.out (fun _ hk => ⟨hk.1.2, hk.2⟩)), ⟨_, rfl⟩, (by (with_reducible repeat (first | apply kN_ | apply kD_ | apply kA_)); exact BK194.out), (by (with_reducible repeat (first | apply kN_ | apply kD_ | apply kA_)); exact BK195.out), (by (with_reducible repeat (first | apply kN_ | apply kD_ | apply kA_)); exact BK206.out), (by repeat (first | (with_reducible first | exact HI0.out | apply IsS111.alloc | apply IsS111.drewN | apply IsS111.drew | apply IsS111.set_1 | refine IsS111.far ?_ NB0_194.out _ | refine IsS111.far ?_ NB0_195.out _ | refine IsS111.far ?_ NB0_206.out _) | exact HI0.out)), (by repeat (first | (with_reducible first | exact HK.out | apply pS_ | apply pN_ | apply pD_ | apply pA_ | refine keep_far ?_ GW194.out _ | refine keep_far ?_ GW195.out _ | refine keep_far ?_ GW206.out _) | exact HK.out)), (by repeat (first | (with_reducible first | exact HB.out | apply wA_ | apply wN_ | apply wD_ | refine below_set ?_ (IsS111.ge HI0.out) | refine below_set ?_ GE194.out | refine below_set ?_ GE195.out | refine below_set ?_ GE206.out) | exact HB.out))⟩)
           ·skip
            refine Kd.R_lit_step (Kd.int .i64) _ 3 ?hg (N := 58) ?hd (xs := ([(-1), 4294967296] : List Int)) (inner := [.int .i64 (-1), .int .i64 4294967296]) (ok := fun _ => True) (okp := fun _ => True) ?hr ?hp (fun _ hk => hk) trivial (Below.refl _ _) (Nat.le_refl _) (by simp) ?_; (case hd => rfl); (case hg => rfl); (case hr => first | (go_simp; done) | (go_simp; rfl)); (case hp => exact (Reps.one (show Kd.M (Kd.int .i64) _ _ _ (-1) [.int .i64 (-1)] from rfl) (Reps.one (show Kd.M (Kd.int .i64) _ _ _ 4294967296 [.int .i64 4294967296] from rfl) (Reps.none _ _))))
            intro v233 w92 ho93 hb hg_ hnew_
            clear hg_ hnew_
            (first | rw [← Ny232.out] at ho93 | (simp only [Int.reduceToNat] at ho93; rw [← Ny232.out] at ho93))
            have n0_ := aM_ (Kd.R_elder' (by (with_reducible repeat (first | apply rA_ | apply rN_ | apply rD_)); exact HO202.out) (Kd.R_base ho93) hb)
            have n1_ := aM_ (Kd.R_elder' (by (with_reducible repeat (first | apply rA_ | apply rN_ | apply rD_)); exact HO205.out) (Kd.R_base ho93) hb)
            have n2_ := aM_ (Kd.R_lower (Kd.R_new' (Kd.R_new' ho93 (Kd.R_lt (by (with_reducible repeat (first | apply rA_ | apply rN_ | apply rD_)); exact HO202.out))) (Kd.R_lt (by (with_reducible repeat (first | apply rA_ | apply rN_ | apply rD_)); exact HO205.out))) (keep_size (w := w) (g := g) (row := none) (by repeat (first | (with_reducible first | exact HK.out | apply pS_ | apply pN_ | apply pD_ | apply pA_ | refine keep_far ?_ GW194.out _ | refine keep_far ?_ GW195.out _ | refine keep_far ?_ GW206.out _) | exact HK.out))))
            have n3_ := aM_ (IsS111.below (by repeat (first | (with_reducible first | exact HI0.out | apply IsS111.alloc | apply IsS111.drewN | apply IsS111.drew | apply IsS111.set_1 | refine IsS111.far ?_ NB0_194.out _ | refine IsS111.far ?_ NB0_195.out _ | refine IsS111.far ?_ NB0_206.out _) | exact HI0.out)) hb)
            have n4_ := aM_ (blk_below (g := gb194) (by (with_reducible repeat (first | apply kN_ | apply kD_ | apply kA_)); exact BK194.out) hb)
            have n5_ := aM_ (blk_below (g := gb195) (by (with_reducible repeat (first | apply kN_ | apply kD_ | apply kA_)); exact BK195.out) hb)
            have n6_ := aM_ (blk_below (g := gb206) (by (with_reducible repeat (first | apply kN_ | apply kD_ | apply kA_)); exact BK206.out) hb)
            have n7_ := aM_ (KeepBut.trans (by repeat (first | (with_reducible first | exact HK.out | apply pS_ | apply pN_ | apply pD_ | apply pA_ | refine keep_far ?_ GW194.out _ | refine keep_far ?_ GW195.out _ | refine keep_far ?_ GW206.out _) | exact HK.out)) (KeepBut.of_below hb g none) (.inl rfl))
            have n8_ := aM_ (below_step (by repeat (first | (with_reducible first | exact HB.out | apply wA_ | apply wN_ | apply wD_ | refine below_set ?_ (IsS111.ge HI0.out) | refine below_set ?_ GE194.out | refine below_set ?_ GE195.out | refine below_set ?_ GE206.out) | exact HB.out)) hb)
            clear HO202
            clear HO205
            clear HI0
            clear BK194
            clear BK195
            clear BK206
            clear HK
            clear HB
            have HO202 := n0_
            have HO205 := n1_
            have HO234 := n2_
            have HI0 := n3_
            have BK194 := n4_
            have BK195 := n5_
            have BK206 := n6_
            have HK := n7_
            have HB := n8_
            clear n0_ n1_ n2_ n3_ n4_ n5_ n6_ n7_ n8_
            clear hb ho93
            obtain ⟨Ao94, co94, eo94⟩ := Kd.R_slice HO234.out
            subst eo94
            obtain ⟨ado94, fo94, _⟩ := Kd.at_int (Kd.R_reads' HO234.out).2.2 0 (by decide) (by rw [Ny232.out]; simp)
            cases fo94
            refine hK.out _ _ (bc6 BK206.out) (fun hHeld => ?_)
            clear hK K
            refine norm_ (a' := ?_) ?_ ?_
            rotate_left
            ·show Act.put _ (some 58) _ = _
             simp only [Act.put, sA_, s0_, s1_, i64_w, i32_w]
             rfl
            refine one_ (i := 6) (N := some 57) #[true, true, true, true, true, true, true, true, true, false, false, false, false, false] rfl rfl (one_of HT_.out (by kernel_rfl)) (by decide) (fun K hK => ?_)
            refine goes_ Try.func80 (by kernel_rfl) rfl #[.pointer (some ⟨g, 0, none⟩), .int .i64 (t203.length : Int)] (by rfl) rfl rfl (by (try simp only [List.map_toArray, List.map_cons, List.map_nil]); first | done | rfl | (simp only [List.length_drop, List.length_take]; rfl)) ?_
            with_reducible refine (spec_l1Rd_pick.calls k g s0_0 t208 (t203.length : Int) t230 t231 w0 _ ?side1 ?side2 A84.out).mono ?_
            (case side1 => repeat (first | (with_reducible first | exact HI0.out | apply IsS111.alloc | apply IsS111.drewN | apply IsS111.drew | apply IsS111.set_1 | refine IsS111.far ?_ NB0_194.out _ | refine IsS111.far ?_ NB0_195.out _ | refine IsS111.far ?_ NB0_206.out _) | exact HI0.out))
            (case side2 => repeat (first | (with_reducible first | exact HB.out | apply wA_ | apply wN_ | apply wD_ | refine below_set ?_ (IsS111.ge HI0.out) | refine below_set ?_ GE194.out | refine below_set ?_ GE195.out | refine below_set ?_ GE206.out) | exact HB.out))
            rintro e w95 ⟨rfl, hi, hb, hk⟩
            refine ⟨_, rfl, ?_⟩
            have n0_ := aM_ (KeepBut.blk hk (g' := gb194) (o := .cells #[.int .i64 a1_0, .int .i64 a1_1, .int .i64 a1_2, .int .i64 a1_3, .slice A1_4 l1_4.length c1_4, .slice A1_5 l1_5.length c1_5] 25 (0, 0)) (by (with_reducible repeat (first | apply kN_ | apply kD_ | apply kA_)); exact BK194.out) NB194_0.out (by simp))
            have n1_ := aM_ (KeepBut.blk hk (g' := gb195) (o := .cells #[.int .i64 0, .int .i64 0, .int .i64 0, .int .i64 0, .slice none 0 0, .slice none 0 0] 25 (0, 0)) (by (with_reducible repeat (first | apply kN_ | apply kD_ | apply kA_)); exact BK195.out) NB195_0.out (by simp))
            have n2_ := aM_ (Kd.R_mono (Kd.R_keep (IsS111.apart (show IsS111 w0 _ g s0_0 t208 from by repeat (first | (with_reducible first | exact HI0.out | apply IsS111.alloc | apply IsS111.drewN | apply IsS111.drew | apply IsS111.set_1 | refine IsS111.far ?_ NB0_194.out _ | refine IsS111.far ?_ NB0_195.out _ | refine IsS111.far ?_ NB0_206.out _) | exact HI0.out)) (by (with_reducible repeat (first | apply rA_ | apply rN_ | apply rD_)); exact HO202.out) (by decide)) hk (fun _ h => h.2)) (fun _ h => h.1))
            have n3_ := aM_ (Kd.R_mono (Kd.R_keep (IsS111.apart (show IsS111 w0 _ g s0_0 t208 from by repeat (first | (with_reducible first | exact HI0.out | apply IsS111.alloc | apply IsS111.drewN | apply IsS111.drew | apply IsS111.set_1 | refine IsS111.far ?_ NB0_194.out _ | refine IsS111.far ?_ NB0_195.out _ | refine IsS111.far ?_ NB0_206.out _) | exact HI0.out)) (by (with_reducible repeat (first | apply rA_ | apply rN_ | apply rD_)); exact HO205.out) (by decide)) hk (fun _ h => h.2)) (fun _ h => h.1))
            have n4_ := aM_ (KeepBut.blk hk (g' := gb206) (o := .cells #[.int .i64 t196, .int .i64 t197, .int .i64 t198, .int .i64 t199, .slice Ao17 t200.length co17, .slice Ao18 t203.length co18] 25 (0, 0)) (by (with_reducible repeat (first | apply kN_ | apply kD_ | apply kA_)); exact BK206.out) NB206_0.out (by simp))
            have n5_ := aM_ (Kd.R_mono (Kd.R_keep (IsS111.apart (show IsS111 w0 _ g s0_0 t208 from by repeat (first | (with_reducible first | exact HI0.out | apply IsS111.alloc | apply IsS111.drewN | apply IsS111.drew | apply IsS111.set_1 | refine IsS111.far ?_ NB0_194.out _ | refine IsS111.far ?_ NB0_195.out _ | refine IsS111.far ?_ NB0_206.out _) | exact HI0.out)) (by (with_reducible repeat (first | apply rA_ | apply rN_ | apply rD_)); exact HO234.out) (by decide)) hk (fun _ h => h.2)) (fun _ h => h.1))
            have n6_ := aM_ (KeepBut.trans (by repeat (first | (with_reducible first | exact HK.out | apply pS_ | apply pN_ | apply pD_ | apply pA_ | refine keep_far ?_ GW194.out _ | refine keep_far ?_ GW195.out _ | refine keep_far ?_ GW206.out _) | exact HK.out)) hk (.inl rfl))
            have n7_ := aM_ (hb)
            have n8_ := aM_ (hi)
            clear BK194
            clear BK195
            clear HO202
            clear HO205
            clear BK206
            clear HO234
            clear HK
            clear HB
            clear HI0
            have BK194 := n0_
            have BK195 := n1_
            have HO202 := n2_
            have HO205 := n3_
            have BK206 := n4_
            have HO234 := n5_
            have HK := n6_
            have HB := n7_
            have HI0 := n8_
            clear n0_ n1_ n2_ n3_ n4_ n5_ n6_ n7_ n8_
            (try clear hb)
            (try clear hb2)
            (try clear hk)
            (try clear hi)
            refine hK.out _ _ (bc6 BK206.out) (fun hHeld => ?_)
            clear hK K
            refine norm_ (a' := ?_) ?_ ?_
            rotate_left
            ·show Act.put _ (some 57) _ = _
             simp only [Act.put, sA_, s0_, s1_, i64_w, i32_w]
             rfl
            refine one_ (i := 9) (N := some 60) #[true, true, true, true, true, true, true, true, true, true, false, false, false, false] rfl rfl (one_of HT_.out (by kernel_rfl)) (by decide) (fun K hK => ?_)
            refine goes_ Try.func80 (by kernel_rfl) rfl #[.pointer (some ⟨g, 0, none⟩), .int .i64 2] (by rfl) rfl rfl (by (try simp only [List.map_toArray, List.map_cons, List.map_nil]); first | done | rfl | (simp only [List.length_drop, List.length_take]; rfl)) ?_
            with_reducible refine (spec_l1Rd_pick.calls k g s0_0 t231 2 t235 t236 w0 _ ?side1 ?side2 A85.out).mono ?_
            (case side1 => repeat (first | (with_reducible first | exact HI0.out | apply IsS111.alloc | apply IsS111.drewN | apply IsS111.drew | apply IsS111.set_1 | refine IsS111.far ?_ NB0_194.out _ | refine IsS111.far ?_ NB0_195.out _ | refine IsS111.far ?_ NB0_206.out _) | exact HI0.out))
            (case side2 => repeat (first | (with_reducible first | exact HB.out | apply wA_ | apply wN_ | apply wD_ | refine below_set ?_ (IsS111.ge HI0.out) | refine below_set ?_ GE194.out | refine below_set ?_ GE195.out | refine below_set ?_ GE206.out) | exact HB.out))
            rintro e w96 ⟨rfl, hi, hb, hk⟩
            refine ⟨_, rfl, ?_⟩
            have n0_ := aM_ (KeepBut.blk hk (g' := gb194) (o := .cells #[.int .i64 a1_0, .int .i64 a1_1, .int .i64 a1_2, .int .i64 a1_3, .slice A1_4 l1_4.length c1_4, .slice A1_5 l1_5.length c1_5] 25 (0, 0)) (by (with_reducible repeat (first | apply kN_ | apply kD_ | apply kA_)); exact BK194.out) NB194_0.out (by simp))
            have n1_ := aM_ (KeepBut.blk hk (g' := gb195) (o := .cells #[.int .i64 0, .int .i64 0, .int .i64 0, .int .i64 0, .slice none 0 0, .slice none 0 0] 25 (0, 0)) (by (with_reducible repeat (first | apply kN_ | apply kD_ | apply kA_)); exact BK195.out) NB195_0.out (by simp))
            have n2_ := aM_ (Kd.R_mono (Kd.R_keep (IsS111.apart (show IsS111 w0 _ g s0_0 t231 from by repeat (first | (with_reducible first | exact HI0.out | apply IsS111.alloc | apply IsS111.drewN | apply IsS111.drew | apply IsS111.set_1 | refine IsS111.far ?_ NB0_194.out _ | refine IsS111.far ?_ NB0_195.out _ | refine IsS111.far ?_ NB0_206.out _) | exact HI0.out)) (by (with_reducible repeat (first | apply rA_ | apply rN_ | apply rD_)); exact HO202.out) (by decide)) hk (fun _ h => h.2)) (fun _ h => h.1))
            have n3_ := aM_ (Kd.R_mono (Kd.R_keep (IsS111.apart (show IsS111 w0 _ g s0_0 t231 from by repeat (first | (with_reducible first | exact HI0.out | apply IsS111.alloc | apply IsS111.drewN | apply IsS111.drew | apply IsS111.set_1 | refine IsS111.far ?_ NB0_194.out _ | refine IsS111.far ?_ NB0_195.out _ | refine IsS111.far ?_ NB0_206.out _) | exact HI0.out)) (by (with_reducible repeat (first | apply rA_ | apply rN_ | apply rD_)); exact HO205.out) (by decide)) hk (fun _ h => h.2)) (fun _ h => h.1))
            have n4_ := aM_ (KeepBut.blk hk (g' := gb206) (o := .cells #[.int .i64 t196, .int .i64 t197, .int .i64 t198, .int .i64 t199, .slice Ao17 t200.length co17, .slice Ao18 t203.length co18] 25 (0, 0)) (by (with_reducible repeat (first | apply kN_ | apply kD_ | apply kA_)); exact BK206.out) NB206_0.out (by simp))
            have n5_ := aM_ (Kd.R_mono (Kd.R_keep (IsS111.apart (show IsS111 w0 _ g s0_0 t231 from by repeat (first | (with_reducible first | exact HI0.out | apply IsS111.alloc | apply IsS111.drewN | apply IsS111.drew | apply IsS111.set_1 | refine IsS111.far ?_ NB0_194.out _ | refine IsS111.far ?_ NB0_195.out _ | refine IsS111.far ?_ NB0_206.out _) | exact HI0.out)) (by (with_reducible repeat (first | apply rA_ | apply rN_ | apply rD_)); exact HO234.out) (by decide)) hk (fun _ h => h.2)) (fun _ h => h.1))
            have n6_ := aM_ (KeepBut.trans (by repeat (first | (with_reducible first | exact HK.out | apply pS_ | apply pN_ | apply pD_ | apply pA_ | refine keep_far ?_ GW194.out _ | refine keep_far ?_ GW195.out _ | refine keep_far ?_ GW206.out _) | exact HK.out)) hk (.inl rfl))
            have n7_ := aM_ (hb)
            have n8_ := aM_ (hi)
            clear BK194
            clear BK195
            clear HO202
            clear HO205
            clear BK206
            clear HO234
            clear HK
            clear HB
            clear HI0
            have BK194 := n0_
            have BK195 := n1_
            have HO202 := n2_
            have HO205 := n3_
            have BK206 := n4_
            have HO234 := n5_
            have HK := n6_
            have HB := n7_
            have HI0 := n8_
            clear n0_ n1_ n2_ n3_ n4_ n5_ n6_ n7_ n8_
            (try clear hb)
            (try clear hb2)
            (try clear hk)
            (try clear hi)
            refine hK.out _ _ (bc6 BK206.out) (fun hHeld => ?_)
            clear hK K
            refine norm_ (a' := ?_) ?_ ?_
            rotate_left
            ·show Act.put _ (some 60) _ = _
             simp only [Act.put, sA_, s0_, s1_, i64_w, i32_w]
             rfl
            exact norm_ (by simp only [putAll, Act.put, sA_, s0_, s1_]) (hCont (.slice (some ado94) y232.length co94, ado94) _ ⟨hHeld, (by (with_reducible repeat (first | apply rA_ | apply rN_ | apply rD_)); exact HO202.out), (by (with_reducible repeat (first | apply rA_ | apply rN_ | apply rD_)); exact HO205.out), (by (with_reducible repeat (first | apply rA_ | apply rN_ | apply rD_)); exact Kd.R_mono HO234.out (fun _ hk => ⟨hk.1.2, hk.2⟩)), ⟨_, rfl⟩, (by (with_reducible repeat (first | apply kN_ | apply kD_ | apply kA_)); exact BK194.out), (by (with_reducible repeat (first | apply kN_ | apply kD_ | apply kA_)); exact BK195.out), (by (with_reducible repeat (first | apply kN_ | apply kD_ | apply kA_)); exact BK206.out), (by repeat (first | (with_reducible first | exact HI0.out | apply IsS111.alloc | apply IsS111.drewN | apply IsS111.drew | apply IsS111.set_1 | refine IsS111.far ?_ NB0_194.out _ | refine IsS111.far ?_ NB0_195.out _ | refine IsS111.far ?_ NB0_206.out _) | exact HI0.out)), (by repeat (first | (with_reducible first | exact HK.out | apply pS_ | apply pN_ | apply pD_ | apply pA_ | refine keep_far ?_ GW194.out _ | refine keep_far ?_ GW195.out _ | refine keep_far ?_ GW206.out _) | exact HK.out)), (by repeat (first | (with_reducible first | exact HB.out | apply wA_ | apply wN_ | apply wD_ | refine below_set ?_ (IsS111.ge HI0.out) | refine below_set ?_ GE194.out | refine below_set ?_ GE195.out | refine below_set ?_ GE206.out) | exact HB.out))⟩)
          rintro ⟨v233, adz_v233⟩ w97 ⟨hS_, h0_, h1_, h2_, h3_, h4_, h5_, h6_, h7_, h8_, h9_⟩
          have n0_ : Aside0 (Kd.R (Kd.int .i64) 3 w97 w.heap.size (fun k_ => some k_ ≠ (.slice Ao18 t203.length co18 : Value).ownBlock ∧ some k_ ≠ (v233 : Value).ownBlock) (.slice Ao17 t200.length co17) t200) := ⟨h0_⟩
          have n1_ : Aside0 (Kd.R (Kd.int .i64) 3 w97 w.heap.size (fun k_ => some k_ ≠ (.slice Ao17 t200.length co17 : Value).ownBlock ∧ some k_ ≠ (v233 : Value).ownBlock) (.slice Ao18 t203.length co18) t203) := ⟨h1_⟩
          have n2_ : Aside0 (Kd.R (Kd.int .i64) 3 w97 w.heap.size (fun k_ => some k_ ≠ (.slice Ao17 t200.length co17 : Value).ownBlock ∧ some k_ ≠ (.slice Ao18 t203.length co18 : Value).ownBlock) v233 y232) := ⟨h2_⟩
          have n3_ : Aside0 (∃ c_, (v233 : Value) = .slice (some adz_v233) y232.length c_) := ⟨h3_⟩
          have n4_ : Aside0 (w97.heap[gb194]? = some (.cells #[.int .i64 a1_0, .int .i64 a1_1, .int .i64 a1_2, .int .i64 a1_3, .slice A1_4 l1_4.length c1_4, .slice A1_5 l1_5.length c1_5] 25 (0, 0))) := ⟨h4_⟩
          have n5_ : Aside0 (w97.heap[gb195]? = some (.cells #[.int .i64 0, .int .i64 0, .int .i64 0, .int .i64 0, .slice none 0 0, .slice none 0 0] 25 (0, 0))) := ⟨h5_⟩
          have n6_ : Aside0 (w97.heap[gb206]? = some (.cells #[.int .i64 t196, .int .i64 t197, .int .i64 t198, .int .i64 t199, .slice Ao17 t200.length co17, .slice Ao18 t203.length co18] 25 (0, 0))) := ⟨h6_⟩
          have n7_ : Aside0 (IsS111 w0 w97 g s0_0 t236) := ⟨h7_⟩
          have n8_ : Aside0 (KeepBut w w97 g none) := ⟨h8_⟩
          have n9_ : Aside0 (Below w0.heap.size w0 w97) := ⟨h9_⟩
          clear HO202
          clear HO205
          clear BK194
          clear BK195
          clear BK206
          clear HI0
          clear HK
          clear HB
          clear h0_ h1_ h2_ h3_ h4_ h5_ h6_ h7_ h8_ h9_
          have HO202 := n0_
          have HO205 := n1_
          have HO234 := n2_
          have HA_HO234 := n3_
          have BK194 := n4_
          have BK195 := n5_
          have BK206 := n6_
          have HI0 := n7_
          have HK := n8_
          have HB := n9_
          clear n0_ n1_ n2_ n3_ n4_ n5_ n6_ n7_ n8_ n9_
          have hHeld : w97.cell? ⟨gb206, 0, none⟩ = some (.int .i64 t196) ∧ w97.cell? ⟨gb206, 1, none⟩ = some (.int .i64 t197) ∧ w97.cell? ⟨gb206, 2, none⟩ = some (.int .i64 t198) ∧ w97.cell? ⟨gb206, 3, none⟩ = some (.int .i64 t199) ∧ w97.cell? ⟨gb206, 4, none⟩ = some (.slice Ao17 t200.length co17) ∧ w97.cell? ⟨gb206, 5, none⟩ = some (.slice Ao18 t203.length co18) := hS_
          obtain ⟨co98, eo98⟩ := HA_HO234.out
          clear HA_HO234
          subst eo98
          have p90 : 0 ≤ (t230 : Int) := of_decide_eq_true (by first | (with_reducible assumption) | assumption)
          have q90 : (t230 : Int) < ((t203.length : Int) : Int) := of_decide_eq_true (by first | (with_reducible assumption) | assumption)
          obtain ⟨go90, co90, eo90, gb90, gl90, cl90, HG90⟩ := Kd.R_form HO205.out (by omega)
          (first | cases eo90 | (injection eo90 with ea_ en_ ec_; (first | subst ea_ | (injection ea_ with ea_; subst ea_)); subst ec_; clear en_))
          have GB90 := aM_ gb90
          have GG90 := aM_ HG90
          clear gb90 gl90 HG90
          obtain ⟨hx90_0, hf90_0⟩ := Kd.R_celln 0 HO205.out (t230 : Int) p90 q90
          replace p90 := eq_true p90
          replace q90 := eq_true q90
          have HN0_go90 := aM_ (show g ≠ go90 from by have h_ := IsS111.own_ne HI0.out HO205.out (by decide); intro e_; exact h_ (by rw [e_]; rfl))
          have HP99 := Kd.R_putn HO205.out (t230 : Int) (rd y232 t235)
          rw [← Ny238.out] at HP99
          have HQ99 := aM_ HP99
          clear HP99
          refine norm_ (a' := ?_) ?_ ?_
          rotate_left
          ·simp only [putAll, Act.put, sA_, s0_, s1_]
           rfl
          refine pure_ (i := 10) (N := some 61) (v := ?_) (a' := ?_) #[true, true, true, true, true, true, true, true, true, true, true, false, false, false] rfl rfl (any_of HT_.out (by kernel_rfl)) (fun _ _ _ h => h) (Or.inl ⟨by rfl, ?_⟩) ?_ ?_
          rotate_left
          ·intro w'
           go_simp
           with_reducible rfl
          rotate_left
          ·simp only [Act.put, sA_, s0_, s1_, i64_w, i32_w]
           rfl
          refine one_ (i := 11) (N := some 62) #[true, true, true, true, true, true, true, true, true, true, true, true, false, false] rfl rfl (one_of HT_.out (by kernel_rfl)) (by decide) (fun K hK => ?_)
          (have p237 : 0 ≤ (t235 : Int) := of_decide_eq_true (by first | (with_reducible assumption) | assumption); have q237 : t235 < (y232.length : Int) := of_decide_eq_true (by first | (with_reducible assumption) | assumption); obtain ⟨ad237, e237, hx237_0⟩ := Kd.at_int (Kd.R_reads' HO234.out).2.2 t235 p237 q237; obtain rfl : adz_v233 = ad237 := (by injection e237))
          refine value_ (w1 := ?_) (v := ?_) (by rfl) rfl ?_ ?_
          rotate_left 2
          ·go_simp
           constructor
           ·rfl
           ·rfl
          clear hx237_0
          refine hK.out _ _ (bc6 BK206.out) (fun hHeld => ?_)
          clear hK K
          refine norm_ (a' := ?_) ?_ ?_
          rotate_left
          ·show Act.put _ (some 62) _ = _
           simp only [Act.put, sA_, s0_, s1_, i64_w, i32_w]
           rfl
          refine pure_ (i := 12) (N := some 63) (v := ?_) (a' := ?_) #[true, true, true, true, true, true, true, true, true, true, true, true, true, false] rfl rfl (any_of HT_.out (by kernel_rfl)) (fun _ _ _ h => h) (Or.inl ⟨by rfl, ?_⟩) ?_ ?_
          rotate_left
          ·intro w'
           go_simp
           with_reducible rfl
          rotate_left
          ·simp only [Act.put, sA_, s0_, s1_, i64_w, i32_w]
           rfl
          refine last_ (i := 13) (N := none) #[true, true, true, true, true, true, true, true, true, true, true, true, true, true] rfl rfl (one_of HT_.out (by kernel_rfl)) (by decide) (fun K hK => ?_)
          refine skip_ (w1 := ?_) (by rfl) rfl ?_ ?_
          rotate_left
          ·go_simp
           rfl
          refine hK.out _ _ ?_
          clear hK K
          refine done_ (done_of HT_.out (by kernel_rfl)) ?_
          have n0_ : Aside0 (Kd.R (Kd.int .i64) 3 (w97.setCell ⟨go90, (t230 : Int).toNat, none⟩ (.int .i64 (rd y232 t235))) w.heap.size (fun k_ => some k_ ≠ (.slice (some ⟨go90, 0, none⟩) t203.length co18 : Value).ownBlock ∧ some k_ ≠ (.slice (some adz_v233) y232.length co98 : Value).ownBlock) (.slice Ao17 t200.length co17) t200) := ⟨by (with_reducible repeat (first | apply rA_ | apply rN_ | apply rD_)); exact Kd.R_mono (Kd.R_far (p := ⟨go90, (t230 : Int).toNat, none⟩) (Kd.R_mono HO202.out (fun k_ hk => (⟨hk, fun e_ => hk.1 (by rw [e_]; rfl)⟩ : _ ∧ k_ ≠ go90))) (fun _ hk => hk.2) (.int .i64 (rd y232 t235))) (fun _ hk => ⟨hk.1.1, hk.1.2⟩)⟩
          have n1_ : Aside0 (Kd.R (Kd.int .i64) 3 (w97.setCell ⟨go90, (t230 : Int).toNat, none⟩ (.int .i64 (rd y232 t235))) w.heap.size (fun k_ => some k_ ≠ (.slice Ao17 t200.length co17 : Value).ownBlock ∧ some k_ ≠ (.slice (some adz_v233) y232.length co98 : Value).ownBlock) (.slice (some ⟨go90, 0, none⟩) t203.length co18) y238) := ⟨by (with_reducible repeat (first | apply rA_ | apply rN_ | apply rD_)); exact HQ99.out⟩
          have n2_ : Aside0 (Kd.R (Kd.int .i64) 3 (w97.setCell ⟨go90, (t230 : Int).toNat, none⟩ (.int .i64 (rd y232 t235))) w.heap.size (fun k_ => some k_ ≠ (.slice Ao17 t200.length co17 : Value).ownBlock ∧ some k_ ≠ (.slice (some ⟨go90, 0, none⟩) t203.length co18 : Value).ownBlock) (.slice (some adz_v233) y232.length co98) y232) := ⟨by (with_reducible repeat (first | apply rA_ | apply rN_ | apply rD_)); exact Kd.R_mono (Kd.R_far (p := ⟨go90, (t230 : Int).toNat, none⟩) (Kd.R_mono HO234.out (fun k_ hk => (⟨hk, fun e_ => hk.2 (by rw [e_]; rfl)⟩ : _ ∧ k_ ≠ go90))) (fun _ hk => hk.2) (.int .i64 (rd y232 t235))) (fun _ hk => ⟨hk.1.1, hk.1.2⟩)⟩
          have n3_ : Aside0 ((w97.setCell ⟨go90, (t230 : Int).toNat, none⟩ (.int .i64 (rd y232 t235))).heap[gb194]? = some (.cells #[.int .i64 a1_0, .int .i64 a1_1, .int .i64 a1_2, .int .i64 a1_3, .slice A1_4 l1_4.length c1_4, .slice A1_5 l1_5.length c1_5] 25 (0, 0))) := ⟨by (with_reducible repeat (first | apply kN_ | apply kD_ | apply kA_)); refine blk_far ?_ (by have h_ := Kd.R_ne HO205.out BK194.out (by decide); intro e_; exact h_ (by rw [e_]; rfl)) _; (with_reducible repeat (first | apply kN_ | apply kD_ | apply kA_)); exact BK194.out⟩
          have n4_ : Aside0 ((w97.setCell ⟨go90, (t230 : Int).toNat, none⟩ (.int .i64 (rd y232 t235))).heap[gb195]? = some (.cells #[.int .i64 0, .int .i64 0, .int .i64 0, .int .i64 0, .slice none 0 0, .slice none 0 0] 25 (0, 0))) := ⟨by (with_reducible repeat (first | apply kN_ | apply kD_ | apply kA_)); refine blk_far ?_ (by have h_ := Kd.R_ne HO205.out BK195.out (by decide); intro e_; exact h_ (by rw [e_]; rfl)) _; (with_reducible repeat (first | apply kN_ | apply kD_ | apply kA_)); exact BK195.out⟩
          have n5_ : Aside0 ((w97.setCell ⟨go90, (t230 : Int).toNat, none⟩ (.int .i64 (rd y232 t235))).heap[gb206]? = some (.cells #[.int .i64 t196, .int .i64 t197, .int .i64 t198, .int .i64 t199, .slice Ao17 t200.length co17, .slice (some ⟨go90, 0, none⟩) t203.length co18] 25 (0, 0))) := ⟨by (with_reducible repeat (first | apply kN_ | apply kD_ | apply kA_)); refine blk_far ?_ (by have h_ := Kd.R_ne HO205.out BK206.out (by decide); intro e_; exact h_ (by rw [e_]; rfl)) _; (with_reducible repeat (first | apply kN_ | apply kD_ | apply kA_)); exact BK206.out⟩
          have n6_ : Aside0 (IsS111 w0 (w97.setCell ⟨go90, (t230 : Int).toNat, none⟩ (.int .i64 (rd y232 t235))) g s0_0 t236) := ⟨by repeat (first | (with_reducible first | exact HI0.out | apply IsS111.alloc | apply IsS111.drewN | apply IsS111.drew | apply IsS111.set_1 | refine IsS111.far ?_ HN0_go90.out _ | refine IsS111.far ?_ NB0_194.out _ | refine IsS111.far ?_ NB0_195.out _ | refine IsS111.far ?_ NB0_206.out _) | exact HI0.out)⟩
          have n7_ : Aside0 (KeepBut w (w97.setCell ⟨go90, (t230 : Int).toNat, none⟩ (.int .i64 (rd y232 t235))) g none) := ⟨by repeat (first | (with_reducible first | exact HK.out | apply pS_ | apply pN_ | apply pD_ | apply pA_ | refine keep_far ?_ GB90.out _ | refine keep_far ?_ GW194.out _ | refine keep_far ?_ GW195.out _ | refine keep_far ?_ GW206.out _) | exact HK.out)⟩
          have n8_ : Aside0 (Below w0.heap.size w0 (w97.setCell ⟨go90, (t230 : Int).toNat, none⟩ (.int .i64 (rd y232 t235)))) := ⟨by repeat (first | (with_reducible first | exact HB.out | apply wA_ | apply wN_ | apply wD_ | refine below_set ?_ (Nat.le_trans HL.out GB90.out) | refine below_set ?_ (IsS111.ge HI0.out) | refine below_set ?_ GE194.out | refine below_set ?_ GE195.out | refine below_set ?_ GE206.out) | exact HB.out)⟩
          (try clear HO202)
          (try clear HO205)
          (try clear HO234)
          (try clear BK194)
          (try clear BK195)
          (try clear BK206)
          (try clear HI0)
          (try clear HK)
          (try clear HB)
          generalize (w97.setCell ⟨go90, (t230 : Int).toNat, none⟩ (.int .i64 (rd y232 t235))) = w100 at n0_ n1_ n2_ n3_ n4_ n5_ n6_ n7_ n8_ ⊢
          have HO202 := n0_
          have HO205 := n1_
          have HO234 := n2_
          have BK194 := n3_
          have BK195 := n4_
          have BK206 := n5_
          have HI0 := n6_
          have HK := n7_
          have HB := n8_
          clear n0_ n1_ n2_ n3_ n4_ n5_ n6_ n7_ n8_
          have hnb101 := NB206_194.out
          have hnc101 := NB194_206.out
          have hnb102 := NB206_195.out
          have hnc102 := NB195_206.out
          have hnb103 := NB206_0.out
          have hnc103 := NB0_206.out
          obtain ⟨hcz104_0, hcz104_1, hcz104_2, hcz104_3, hcz104_4, hcz104_5⟩ := bc6 BK206.out
          obtain ⟨hfz104_0, hfz104_1, hfz104_2, hfz104_3, hfz104_4, hfz104_5⟩ := bf6 BK206.out
          have hnb105 := NB195_194.out
          have hnc105 := NB194_195.out
          have hnb106 := NB195_0.out
          have hnc106 := NB0_195.out
          obtain ⟨hcz107_0, hcz107_1, hcz107_2, hcz107_3, hcz107_4, hcz107_5⟩ := bc6 BK195.out
          obtain ⟨hfz107_0, hfz107_1, hfz107_2, hfz107_3, hfz107_4, hfz107_5⟩ := bf6 BK195.out
          try go_wp2
          refine bodyPost_ret (results_cell_row rfl _ _ gb195 25 #[.int .i64 t196, .int .i64 t197, .int .i64 t198, .int .i64 t199, .slice Ao17 t200.length co17, .slice (some ⟨go90, 0, none⟩) t203.length co18] (0, 0) _ rfl (by (with_reducible repeat (first | apply kN_ | apply kD_ | apply kA_)); refine blk_put (cs := #[.int .i64 t196, .int .i64 t197, .int .i64 t198, .int .i64 t199, .slice Ao17 t200.length co17, .slice none 0 0]) ?_ 5 _ rfl; (with_reducible repeat (first | apply kN_ | apply kD_ | apply kA_)); refine blk_put (cs := #[.int .i64 t196, .int .i64 t197, .int .i64 t198, .int .i64 t199, .slice none 0 0, .slice none 0 0]) ?_ 4 _ rfl; (with_reducible repeat (first | apply kN_ | apply kD_ | apply kA_)); refine blk_put (cs := #[.int .i64 t196, .int .i64 t197, .int .i64 t198, .int .i64 0, .slice none 0 0, .slice none 0 0]) ?_ 3 _ rfl; (with_reducible repeat (first | apply kN_ | apply kD_ | apply kA_)); refine blk_put (cs := #[.int .i64 t196, .int .i64 t197, .int .i64 0, .int .i64 0, .slice none 0 0, .slice none 0 0]) ?_ 2 _ rfl; (with_reducible repeat (first | apply kN_ | apply kD_ | apply kA_)); refine blk_put (cs := #[.int .i64 t196, .int .i64 0, .int .i64 0, .int .i64 0, .slice none 0 0, .slice none 0 0]) ?_ 1 _ rfl; (with_reducible repeat (first | apply kN_ | apply kD_ | apply kA_)); refine blk_put (cs := #[.int .i64 0, .int .i64 0, .int .i64 0, .int .i64 0, .slice none 0 0, .slice none 0 0]) ?_ 0 _ rfl; (with_reducible repeat (first | apply kN_ | apply kD_ | apply kA_)); exact BK195.out) Try.underlying25 rfl (by kernel_rfl)) rfl ?_
          exact ⟨_, _, by first | rfl | (simp [errW_none, errW_some] <;> rfl) | (simp [*, errW_none, errW_some] <;> rfl), by (with_reducible repeat (first | apply rA_ | apply rN_ | apply rD_)); exact Kd.R_mono (Kd.R_far (Kd.R_far (Kd.R_far (Kd.R_far (Kd.R_far (Kd.R_far (Kd.R_types HO202.out BK195.out (by decide)) (fun _ hk => hk.2) (.int .i64 t196)) (fun _ hk => hk.2) (.int .i64 t197)) (fun _ hk => hk.2) (.int .i64 t198)) (fun _ hk => hk.2) (.int .i64 t199)) (fun _ hk => hk.2) (.slice Ao17 t200.length co17)) (fun _ hk => hk.2) (.slice (some ⟨go90, 0, none⟩) t203.length co18)) (fun _ hk => hk.1.1), Kd.Q_of_R (by (with_reducible repeat (first | apply rA_ | apply rN_ | apply rD_)); exact Kd.R_mono (Kd.R_far (Kd.R_far (Kd.R_far (Kd.R_far (Kd.R_far (Kd.R_far (Kd.R_types HO205.out BK195.out (by decide)) (fun _ hk => hk.2) (.int .i64 t196)) (fun _ hk => hk.2) (.int .i64 t197)) (fun _ hk => hk.2) (.int .i64 t198)) (fun _ hk => hk.2) (.int .i64 t199)) (fun _ hk => hk.2) (.slice Ao17 t200.length co17)) (fun _ hk => hk.2) (.slice (some ⟨go90, 0, none⟩) t203.length co18)) (fun _ hk => hk.1.1)), by repeat (first | (with_reducible first | exact HI0.out | apply IsS111.alloc | apply IsS111.drewN | apply IsS111.drew | apply IsS111.set_1 | refine IsS111.far ?_ NB0_194.out _ | refine IsS111.far ?_ NB0_195.out _ | refine IsS111.far ?_ NB0_206.out _) | exact HI0.out), by repeat (first | (with_reducible first | exact HB.out | apply wA_ | apply wN_ | apply wD_ | refine below_set ?_ (IsS111.ge HI0.out) | refine below_set ?_ GE194.out | refine below_set ?_ GE195.out | refine below_set ?_ GE206.out) | exact HB.out), by repeat (first | (with_reducible first | exact HK.out | apply pS_ | apply pN_ | apply pD_ | apply pA_ | refine keep_far ?_ GW194.out _ | refine keep_far ?_ GW195.out _ | refine keep_far ?_ GW206.out _) | exact HK.out)⟩
         ·rw [if_neg c89] at H
          exact absurd H (by simp)
        ·rw [if_neg c88] at H
         exact absurd H (by simp)
       ·rw [if_neg c87] at H
        exact absurd H (by simp)
      ·rw [if_neg c86] at H
       exact absurd H (by simp)
     ·rw [if_neg c83] at H
      have c83b0 : (t207 == 4) = false := beq_eq_false_iff_ne.mpr c83
      have c83b1 : (t207 != 4) = true := bne_iff_ne.mpr c83
      by_cases c108 : t207 = 5
      ·rw [if_pos c108] at H
       have c108b0 : (t207 == 5) = true := beq_iff_eq.mpr c108
       have c108b1 : (t207 != 5) = false := bne_eq_false_iff_eq.mpr c108
       clear c108
       obtain ⟨y239, hy239⟩ : ∃ y_ : List Int, y_ = (([(-1), 16777216, 5] : List Int)) := ⟨_, rfl⟩
       replace H : ((spec_l1Rd_pick.f k s0_0 t208 3).bind fun bt242 => (if 0 ≤ bt242.1 then (if bt242.1 < (y239.length : Int) then (if t200.length < 17592186044416 then (some (t196, t197, t198, t199, (t200 ++ [rd y239 bt242.1]), t203, bt242.2)) else (none)) else (none)) else (none))) = some (r1, r2, r3, r4, r5, r6, r7) := by first | (rw [hy239]; with_reducible exact H) | (have H2_ := (Option.bind_some _ _).symm.trans H; rw [hy239]; with_reducible exact H2_) | (have H2_ := (Option.bind_some _ _).symm.trans H; with_reducible exact H2_) | with_reducible exact H | (rw [hy239]; exact H) | exact H
       have Ny239 := aM_ hy239
       clear hy239
       replace H := Option.bind_eq_some_iff.mp H
       obtain ⟨⟨t242, t243⟩, A1090, H⟩ := H
       replace H : (if 0 ≤ t242 then (if t242 < (y239.length : Int) then (if t200.length < 17592186044416 then (some (t196, t197, t198, t199, (t200 ++ [rd y239 t242]), t203, t243)) else (none)) else (none)) else (none)) = some (r1, r2, r3, r4, r5, r6, r7) := H
       have A109 := aM_ A1090
       clear A1090
       by_cases c110 : 0 ≤ t242
       ·rw [if_pos c110] at H
        have c110b0 : decide (0 ≤ t242) = true := decide_eq_true c110
        clear c110
        by_cases c111 : t242 < (y239.length : Int)
        ·rw [if_pos c111] at H
         have c111b0 : decide (t242 < (y239.length : Int)) = true := decide_eq_true c111
         clear c111
         by_cases c112 : t200.length < 17592186044416
         ·rw [if_pos c112] at H
          have LMc112 := aM_ c112
          clear c112
          obtain ⟨y245, hy245⟩ : ∃ y_ : List Int, y_ = (t200 ++ [rd y239 t242]) := ⟨_, rfl⟩
          replace H : (some (t196, t197, t198, t199, y245, t203, t243)) = some (r1, r2, r3, r4, r5, r6, r7) := by first | (rw [hy245]; with_reducible exact H) | (have H2_ := (Option.bind_some _ _).symm.trans H; rw [hy245]; with_reducible exact H2_) | (have H2_ := (Option.bind_some _ _).symm.trans H; with_reducible exact H2_) | with_reducible exact H | (rw [hy245]; exact H) | exact H
          have Ny245 := aM_ hy245
          clear hy245
          simp only [Option.some.injEq, Prod.mk.injEq] at H
          obtain ⟨rfl, rfl, rfl, rfl, rfl, rfl, rfl⟩ := H
          try go_wp2
          have pi244 : (0 ≤ (t242 : Int)) = True := eq_true (of_decide_eq_true (by first | (with_reducible assumption) | assumption))
          have qi244 : (t242 < (y239.length : Int)) = True := eq_true (of_decide_eq_true (by first | (with_reducible assumption) | assumption))
          have n0_ := aM_ (rD_ HO202.out)
          have n1_ := aM_ (rD_ HO205.out)
          have n2_ := aM_ (kD_ BK194.out)
          have n3_ := aM_ (kD_ BK195.out)
          have n4_ := aM_ (kD_ BK206.out)
          have n5_ := aM_ (IsS111.drew HI0.out)
          have n6_ := aM_ (pD_ HK.out)
          have n7_ := aM_ (wD_ HB.out)
          clear HO202
          clear HO205
          clear BK194
          clear BK195
          clear BK206
          clear HI0
          clear HK
          clear HB
          have HO202 := n0_
          have HO205 := n1_
          have BK194 := n2_
          have BK195 := n3_
          have BK206 := n4_
          have HI0 := n5_
          have HK := n6_
          have HB := n7_
          clear n0_ n1_ n2_ n3_ n4_ n5_ n6_ n7_
          refine start_ (n := 11) (S := fun w' => w'.cell? ⟨gb206, 0, none⟩ = some (.int .i64 t196) ∧ w'.cell? ⟨gb206, 1, none⟩ = some (.int .i64 t197) ∧ w'.cell? ⟨gb206, 2, none⟩ = some (.int .i64 t198) ∧ w'.cell? ⟨gb206, 3, none⟩ = some (.int .i64 t199) ∧ w'.cell? ⟨gb206, 4, none⟩ = some (.slice Ao17 t200.length co17) ∧ w'.cell? ⟨gb206, 5, none⟩ = some (.slice Ao18 t203.length co18)) (ds := [10]) #[false, false, false, false, false, false, false, false, false, false, false] (by kernel_rfl) rfl rfl (bc6 BK206.out) (fun hHeld => ?_); refine with_tabW spec_l14Spoil.tab15 spec_l14Spoil.bits15 (fun HT_ HW_ => ?_)
          generalize w19.drew = w113 at HO202 HO205 BK194 BK195 BK206 HI0 HK HB hHeld ⊢
          refine pure_ (i := 0) (N := some 66) (v := ?_) (a' := ?_) #[true, false, false, false, false, false, false, false, false, false, false] rfl rfl (any_of HT_.out (by kernel_rfl)) (fun _ _ _ h => h) (Or.inl ⟨by rfl, ?_⟩) ?_ ?_
          rotate_left
          ·intro w'
           go_simp
           with_reducible rfl
          rotate_left
          ·simp only [Act.put, sA_, s0_, s1_, i64_w, i32_w]
           rfl
          refine pure_ (i := 3) (N := some 69) (v := ?_) (a' := ?_) #[true, false, false, true, false, false, false, false, false, false, false] rfl rfl (any_of HT_.out (by kernel_rfl)) (fun _ _ _ h => h) (Or.inl ⟨by rfl, ?_⟩) ?_ ?_
          rotate_left
          ·intro w'
           go_simp
           with_reducible rfl
          rotate_left
          ·simp only [Act.put, sA_, s0_, s1_, i64_w, i32_w]
           rfl
          refine take_ (i := 1) (N := some 67) (v := ?_) (a' := ?_) #[true, true, false, true, false, false, false, false, false, false, false] rfl rfl (take_ofW HT_.out HW_.out (by kernel_rfl)) (fun _ _ _ h => h) (Or.inl ⟨by rfl, ?_⟩) hHeld ?_ ?_
          rotate_left
          ·rintro w' ⟨s0, s1, s2, s3, s4, s5⟩
           go_simp
           with_reducible rfl
          rotate_left
          ·simp only [Act.put, sA_, s0_, s1_, i64_w, i32_w]
           rfl
          refine join_ (σ := Value × Addr) 6 #[true, true, true, true, true, false, false, false, false, false, false] (fun s_ => [(68, s_.1), (70, .int .i64 t242)]) (fun s_ w' => (w'.cell? ⟨gb206, 0, none⟩ = some (.int .i64 t196) ∧ w'.cell? ⟨gb206, 1, none⟩ = some (.int .i64 t197) ∧ w'.cell? ⟨gb206, 2, none⟩ = some (.int .i64 t198) ∧ w'.cell? ⟨gb206, 3, none⟩ = some (.int .i64 t199) ∧ w'.cell? ⟨gb206, 4, none⟩ = some (.slice Ao17 t200.length co17) ∧ w'.cell? ⟨gb206, 5, none⟩ = some (.slice Ao18 t203.length co18)) ∧ (Kd.R (Kd.int .i64) 3 w' w.heap.size (fun k_ => some k_ ≠ (.slice Ao18 t203.length co18 : Value).ownBlock ∧ some k_ ≠ (s_.1 : Value).ownBlock) (.slice Ao17 t200.length co17) t200) ∧ (Kd.R (Kd.int .i64) 3 w' w.heap.size (fun k_ => some k_ ≠ (.slice Ao17 t200.length co17 : Value).ownBlock ∧ some k_ ≠ (s_.1 : Value).ownBlock) (.slice Ao18 t203.length co18) t203) ∧ (Kd.R (Kd.int .i64) 3 w' w.heap.size (fun k_ => some k_ ≠ (.slice Ao17 t200.length co17 : Value).ownBlock ∧ some k_ ≠ (.slice Ao18 t203.length co18 : Value).ownBlock) s_.1 y239) ∧ (∃ c_, (s_.1 : Value) = .slice (some s_.2) y239.length c_) ∧ (w'.heap[gb194]? = some (.cells #[.int .i64 a1_0, .int .i64 a1_1, .int .i64 a1_2, .int .i64 a1_3, .slice A1_4 l1_4.length c1_4, .slice A1_5 l1_5.length c1_5] 25 (0, 0))) ∧ (w'.heap[gb195]? = some (.cells #[.int .i64 0, .int .i64 0, .int .i64 0, .int .i64 0, .slice none 0 0, .slice none 0 0] 25 (0, 0))) ∧ (w'.heap[gb206]? = some (.cells #[.int .i64 t196, .int .i64 t197, .int .i64 t198, .int .i64 t199, .slice Ao17 t200.length co17, .slice Ao18 t203.length co18] 25 (0, 0))) ∧ (IsS111 w0 w' g s0_0 t243) ∧ (KeepBut w w' g none) ∧ (Below w0.heap.size w0 w')) ?_ ?_
          rotate_left
          ·intro hCont
           refine two_ (i := 2) (j := 4) (Ni := some 68) (Nj := some 70) #[true, true, true, true, false, false, false, false, false, false, false] #[true, true, false, true, true, false, false, false, false, false, false] rfl rfl rfl rfl (two_of HT_.out (by kernel_rfl)) (by decide) (by decide) (fun K hK => ?_) (fun K hK => ?_)
           ·skip
            refine Kd.R_lit_step (Kd.int .i64) _ 3 ?hg (N := 68) ?hd (xs := ([(-1), 16777216, 5] : List Int)) (inner := [.int .i64 (-1), .int .i64 16777216, .int .i64 5]) (ok := fun _ => True) (okp := fun _ => True) ?hr ?hp (fun _ hk => hk) trivial (Below.refl _ _) (Nat.le_refl _) (by simp) ?_; (case hd => rfl); (case hg => rfl); (case hr => first | (go_simp; done) | (go_simp; rfl)); (case hp => exact (Reps.one (show Kd.M (Kd.int .i64) _ _ _ (-1) [.int .i64 (-1)] from rfl) (Reps.one (show Kd.M (Kd.int .i64) _ _ _ 16777216 [.int .i64 16777216] from rfl) (Reps.one (show Kd.M (Kd.int .i64) _ _ _ 5 [.int .i64 5] from rfl) (Reps.none _ _)))))
            intro v240 w114 ho115 hb hg_ hnew_
            clear hg_ hnew_
            (first | rw [← Ny239.out] at ho115 | (simp only [Int.reduceToNat] at ho115; rw [← Ny239.out] at ho115))
            have n0_ := aM_ (Kd.R_elder' (by (with_reducible repeat (first | apply rA_ | apply rN_ | apply rD_)); exact HO202.out) (Kd.R_base ho115) hb)
            have n1_ := aM_ (Kd.R_elder' (by (with_reducible repeat (first | apply rA_ | apply rN_ | apply rD_)); exact HO205.out) (Kd.R_base ho115) hb)
            have n2_ := aM_ (Kd.R_lower (Kd.R_new' (Kd.R_new' ho115 (Kd.R_lt (by (with_reducible repeat (first | apply rA_ | apply rN_ | apply rD_)); exact HO202.out))) (Kd.R_lt (by (with_reducible repeat (first | apply rA_ | apply rN_ | apply rD_)); exact HO205.out))) (keep_size (w := w) (g := g) (row := none) (by repeat (first | (with_reducible first | exact HK.out | apply pS_ | apply pN_ | apply pD_ | apply pA_ | refine keep_far ?_ GW194.out _ | refine keep_far ?_ GW195.out _ | refine keep_far ?_ GW206.out _) | exact HK.out))))
            have n3_ := aM_ (IsS111.below (by repeat (first | (with_reducible first | exact HI0.out | apply IsS111.alloc | apply IsS111.drewN | apply IsS111.drew | apply IsS111.set_1 | refine IsS111.far ?_ NB0_194.out _ | refine IsS111.far ?_ NB0_195.out _ | refine IsS111.far ?_ NB0_206.out _) | exact HI0.out)) hb)
            have n4_ := aM_ (blk_below (g := gb194) (by (with_reducible repeat (first | apply kN_ | apply kD_ | apply kA_)); exact BK194.out) hb)
            have n5_ := aM_ (blk_below (g := gb195) (by (with_reducible repeat (first | apply kN_ | apply kD_ | apply kA_)); exact BK195.out) hb)
            have n6_ := aM_ (blk_below (g := gb206) (by (with_reducible repeat (first | apply kN_ | apply kD_ | apply kA_)); exact BK206.out) hb)
            have n7_ := aM_ (KeepBut.trans (by repeat (first | (with_reducible first | exact HK.out | apply pS_ | apply pN_ | apply pD_ | apply pA_ | refine keep_far ?_ GW194.out _ | refine keep_far ?_ GW195.out _ | refine keep_far ?_ GW206.out _) | exact HK.out)) (KeepBut.of_below hb g none) (.inl rfl))
            have n8_ := aM_ (below_step (by repeat (first | (with_reducible first | exact HB.out | apply wA_ | apply wN_ | apply wD_ | refine below_set ?_ (IsS111.ge HI0.out) | refine below_set ?_ GE194.out | refine below_set ?_ GE195.out | refine below_set ?_ GE206.out) | exact HB.out)) hb)
            clear HO202
            clear HO205
            clear HI0
            clear BK194
            clear BK195
            clear BK206
            clear HK
            clear HB
            have HO202 := n0_
            have HO205 := n1_
            have HO241 := n2_
            have HI0 := n3_
            have BK194 := n4_
            have BK195 := n5_
            have BK206 := n6_
            have HK := n7_
            have HB := n8_
            clear n0_ n1_ n2_ n3_ n4_ n5_ n6_ n7_ n8_
            clear hb ho115
            obtain ⟨Ao116, co116, eo116⟩ := Kd.R_slice HO241.out
            subst eo116
            obtain ⟨ado116, fo116, _⟩ := Kd.at_int (Kd.R_reads' HO241.out).2.2 0 (by decide) (by rw [Ny239.out]; simp)
            cases fo116
            refine hK.out _ _ (bc6 BK206.out) (fun hHeld => ?_)
            clear hK K
            refine norm_ (a' := ?_) ?_ ?_
            rotate_left
            ·show Act.put _ (some 68) _ = _
             simp only [Act.put, sA_, s0_, s1_, i64_w, i32_w]
             rfl
            refine one_ (i := 4) (N := some 70) #[true, true, true, true, true, false, false, false, false, false, false] rfl rfl (one_of HT_.out (by kernel_rfl)) (by decide) (fun K hK => ?_)
            refine goes_ Try.func80 (by kernel_rfl) rfl #[.pointer (some ⟨g, 0, none⟩), .int .i64 3] (by rfl) rfl rfl (by (try simp only [List.map_toArray, List.map_cons, List.map_nil]); first | done | rfl | (simp only [List.length_drop, List.length_take]; rfl)) ?_
            with_reducible refine (spec_l1Rd_pick.calls k g s0_0 t208 3 t242 t243 w0 _ ?side1 ?side2 A109.out).mono ?_
            (case side1 => repeat (first | (with_reducible first | exact HI0.out | apply IsS111.alloc | apply IsS111.drewN | apply IsS111.drew | apply IsS111.set_1 | refine IsS111.far ?_ NB0_194.out _ | refine IsS111.far ?_ NB0_195.out _ | refine IsS111.far ?_ NB0_206.out _) | exact HI0.out))
            (case side2 => repeat (first | (with_reducible first | exact HB.out | apply wA_ | apply wN_ | apply wD_ | refine below_set ?_ (IsS111.ge HI0.out) | refine below_set ?_ GE194.out | refine below_set ?_ GE195.out | refine below_set ?_ GE206.out) | exact HB.out))
            rintro e w117 ⟨rfl, hi, hb, hk⟩
            refine ⟨_, rfl, ?_⟩
            have n0_ := aM_ (KeepBut.blk hk (g' := gb194) (o := .cells #[.int .i64 a1_0, .int .i64 a1_1, .int .i64 a1_2, .int .i64 a1_3, .slice A1_4 l1_4.length c1_4, .slice A1_5 l1_5.length c1_5] 25 (0, 0)) (by (with_reducible repeat (first | apply kN_ | apply kD_ | apply kA_)); exact BK194.out) NB194_0.out (by simp))
            have n1_ := aM_ (KeepBut.blk hk (g' := gb195) (o := .cells #[.int .i64 0, .int .i64 0, .int .i64 0, .int .i64 0, .slice none 0 0, .slice none 0 0] 25 (0, 0)) (by (with_reducible repeat (first | apply kN_ | apply kD_ | apply kA_)); exact BK195.out) NB195_0.out (by simp))
            have n2_ := aM_ (Kd.R_mono (Kd.R_keep (IsS111.apart (show IsS111 w0 _ g s0_0 t208 from by repeat (first | (with_reducible first | exact HI0.out | apply IsS111.alloc | apply IsS111.drewN | apply IsS111.drew | apply IsS111.set_1 | refine IsS111.far ?_ NB0_194.out _ | refine IsS111.far ?_ NB0_195.out _ | refine IsS111.far ?_ NB0_206.out _) | exact HI0.out)) (by (with_reducible repeat (first | apply rA_ | apply rN_ | apply rD_)); exact HO202.out) (by decide)) hk (fun _ h => h.2)) (fun _ h => h.1))
            have n3_ := aM_ (Kd.R_mono (Kd.R_keep (IsS111.apart (show IsS111 w0 _ g s0_0 t208 from by repeat (first | (with_reducible first | exact HI0.out | apply IsS111.alloc | apply IsS111.drewN | apply IsS111.drew | apply IsS111.set_1 | refine IsS111.far ?_ NB0_194.out _ | refine IsS111.far ?_ NB0_195.out _ | refine IsS111.far ?_ NB0_206.out _) | exact HI0.out)) (by (with_reducible repeat (first | apply rA_ | apply rN_ | apply rD_)); exact HO205.out) (by decide)) hk (fun _ h => h.2)) (fun _ h => h.1))
            have n4_ := aM_ (KeepBut.blk hk (g' := gb206) (o := .cells #[.int .i64 t196, .int .i64 t197, .int .i64 t198, .int .i64 t199, .slice Ao17 t200.length co17, .slice Ao18 t203.length co18] 25 (0, 0)) (by (with_reducible repeat (first | apply kN_ | apply kD_ | apply kA_)); exact BK206.out) NB206_0.out (by simp))
            have n5_ := aM_ (Kd.R_mono (Kd.R_keep (IsS111.apart (show IsS111 w0 _ g s0_0 t208 from by repeat (first | (with_reducible first | exact HI0.out | apply IsS111.alloc | apply IsS111.drewN | apply IsS111.drew | apply IsS111.set_1 | refine IsS111.far ?_ NB0_194.out _ | refine IsS111.far ?_ NB0_195.out _ | refine IsS111.far ?_ NB0_206.out _) | exact HI0.out)) (by (with_reducible repeat (first | apply rA_ | apply rN_ | apply rD_)); exact HO241.out) (by decide)) hk (fun _ h => h.2)) (fun _ h => h.1))
            have n6_ := aM_ (KeepBut.trans (by repeat (first | (with_reducible first | exact HK.out | apply pS_ | apply pN_ | apply pD_ | apply pA_ | refine keep_far ?_ GW194.out _ | refine keep_far ?_ GW195.out _ | refine keep_far ?_ GW206.out _) | exact HK.out)) hk (.inl rfl))
            have n7_ := aM_ (hb)
            have n8_ := aM_ (hi)
            clear BK194
            clear BK195
            clear HO202
            clear HO205
            clear BK206
            clear HO241
            clear HK
            clear HB
            clear HI0
            have BK194 := n0_
            have BK195 := n1_
            have HO202 := n2_
            have HO205 := n3_
            have BK206 := n4_
            have HO241 := n5_
            have HK := n6_
            have HB := n7_
            have HI0 := n8_
            clear n0_ n1_ n2_ n3_ n4_ n5_ n6_ n7_ n8_
            (try clear hb)
            (try clear hb2)
            (try clear hk)
            (try clear hi)
            refine hK.out _ _ (bc6 BK206.out) (fun hHeld => ?_)
            clear hK K
            refine norm_ (a' := ?_) ?_ ?_
            rotate_left
            ·show Act.put _ (some 70) _ = _
             simp only [Act.put, sA_, s0_, s1_, i64_w, i32_w]
             rfl
            exact norm_ (by simp only [putAll, Act.put, sA_, s0_, s1_]) (hCont (.slice (some ado116) y239.length co116, ado116) _ ⟨hHeld, (by (with_reducible repeat (first | apply rA_ | apply rN_ | apply rD_)); exact HO202.out), (by (with_reducible repeat (first | apply rA_ | apply rN_ | apply rD_)); exact HO205.out), (by (with_reducible repeat (first | apply rA_ | apply rN_ | apply rD_)); exact Kd.R_mono HO241.out (fun _ hk => ⟨hk.1.2, hk.2⟩)), ⟨_, rfl⟩, (by (with_reducible repeat (first | apply kN_ | apply kD_ | apply kA_)); exact BK194.out), (by (with_reducible repeat (first | apply kN_ | apply kD_ | apply kA_)); exact BK195.out), (by (with_reducible repeat (first | apply kN_ | apply kD_ | apply kA_)); exact BK206.out), (by repeat (first | (with_reducible first | exact HI0.out | apply IsS111.alloc | apply IsS111.drewN | apply IsS111.drew | apply IsS111.set_1 | refine IsS111.far ?_ NB0_194.out _ | refine IsS111.far ?_ NB0_195.out _ | refine IsS111.far ?_ NB0_206.out _) | exact HI0.out)), (by repeat (first | (with_reducible first | exact HK.out | apply pS_ | apply pN_ | apply pD_ | apply pA_ | refine keep_far ?_ GW194.out _ | refine keep_far ?_ GW195.out _ | refine keep_far ?_ GW206.out _) | exact HK.out)), (by repeat (first | (with_reducible first | exact HB.out | apply wA_ | apply wN_ | apply wD_ | refine below_set ?_ (IsS111.ge HI0.out) | refine below_set ?_ GE194.out | refine below_set ?_ GE195.out | refine below_set ?_ GE206.out) | exact HB.out))⟩)
           ·skip
            refine goes_ Try.func80 (by kernel_rfl) rfl #[.pointer (some ⟨g, 0, none⟩), .int .i64 3] (by rfl) rfl rfl (by (try simp only [List.map_toArray, List.map_cons, List.map_nil]); first | done | rfl | (simp only [List.length_drop, List.length_take]; rfl)) ?_
            with_reducible refine (spec_l1Rd_pick.calls k g s0_0 t208 3 t242 t243 w0 _ ?side1 ?side2 A109.out).mono ?_
            (case side1 => repeat (first | (with_reducible first | exact HI0.out | apply IsS111.alloc | apply IsS111.drewN | apply IsS111.drew | apply IsS111.set_1 | refine IsS111.far ?_ NB0_194.out _ | refine IsS111.far ?_ NB0_195.out _ | refine IsS111.far ?_ NB0_206.out _) | exact HI0.out))
            (case side2 => repeat (first | (with_reducible first | exact HB.out | apply wA_ | apply wN_ | apply wD_ | refine below_set ?_ (IsS111.ge HI0.out) | refine below_set ?_ GE194.out | refine below_set ?_ GE195.out | refine below_set ?_ GE206.out) | exact HB.out))
            rintro e w114 ⟨rfl, hi, hb, hk⟩
            refine ⟨_, rfl, ?_⟩
            have n0_ := aM_ (KeepBut.blk hk (g' := gb194) (o := .cells #[.int .i64 a1_0, .int .i64 a1_1, .int .i64 a1_2, .int .i64 a1_3, .slice A1_4 l1_4.length c1_4, .slice A1_5 l1_5.length c1_5] 25 (0, 0)) (by (with_reducible repeat (first | apply kN_ | apply kD_ | apply kA_)); exact BK194.out) NB194_0.out (by simp))
            have n1_ := aM_ (KeepBut.blk hk (g' := gb195) (o := .cells #[.int .i64 0, .int .i64 0, .int .i64 0, .int .i64 0, .slice none 0 0, .slice none 0 0] 25 (0, 0)) (by (with_reducible repeat (first | apply kN_ | apply kD_ | apply kA_)); exact BK195.out) NB195_0.out (by simp))
            have n2_ := aM_ (Kd.R_mono (Kd.R_keep (IsS111.apart (show IsS111 w0 _ g s0_0 t208 from by repeat (first | (with_reducible first | exact HI0.out | apply IsS111.alloc | apply IsS111.drewN | apply IsS111.drew | apply IsS111.set_1 | refine IsS111.far ?_ NB0_194.out _ | refine IsS111.far ?_ NB0_195.out _ | refine IsS111.far ?_ NB0_206.out _) | exact HI0.out)) (by (with_reducible repeat (first | apply rA_ | apply rN_ | apply rD_)); exact HO202.out) (by decide)) hk (fun _ h => h.2)) (fun _ h => h.1))
            have n3_ := aM_ (Kd.R_mono (Kd.R_keep (IsS111.apart (show IsS111 w0 _ g s0_0 t208 from by repeat (first | (with_reducible first | exact HI0.out | apply IsS111.alloc | apply IsS111.drewN | apply IsS111.drew | apply IsS111.set_1 | refine IsS111.far ?_ NB0_194.out _ | refine IsS111.far ?_ NB0_195.out _ | refine IsS111.far ?_ NB0_206.out _) | exact HI0.out)) (by (with_reducible repeat (first | apply rA_ | apply rN_ | apply rD_)); exact HO205.out) (by decide)) hk (fun _ h => h.2)) (fun _ h => h.1))
            have n4_ := aM_ (KeepBut.blk hk (g' := gb206) (o := .cells #[.int .i64 t196, .int .i64 t197, .int .i64 t198, .int .i64 t199, .slice Ao17 t200.length co17, .slice Ao18 t203.length co18] 25 (0, 0)) (by (with_reducible repeat (first | apply kN_ | apply kD_ | apply kA_)); exact BK206.out) NB206_0.out (by simp))
            have n5_ := aM_ (KeepBut.trans (by repeat (first | (with_reducible first | exact HK.out | apply pS_ | apply pN_ | apply pD_ | apply pA_ | refine keep_far ?_ GW194.out _ | refine keep_far ?_ GW195.out _ | refine keep_far ?_ GW206.out _) | exact HK.out)) hk (.inl rfl))
            have n6_ := aM_ (hb)
            have n7_ := aM_ (hi)
            clear BK194
            clear BK195
            clear HO202
            clear HO205
            clear BK206
            clear HK
            clear HB
            clear HI0
            have BK194 := n0_
            have BK195 := n1_
            have HO202 := n2_
            have HO205 := n3_
            have BK206 := n4_
            have HK := n5_
            have HB := n6_
            have HI0 := n7_
            clear n0_ n1_ n2_ n3_ n4_ n5_ n6_ n7_
            (try clear hb)
            (try clear hb2)
            (try clear hk)
            (try clear hi)
            refine hK.out _ _ (bc6 BK206.out) (fun hHeld => ?_)
            clear hK K
            refine norm_ (a' := ?_) ?_ ?_
            rotate_left
            ·show Act.put _ (some 70) _ = _
             simp only [Act.put, sA_, s0_, s1_, i64_w, i32_w]
             rfl
            refine one_ (i := 2) (N := some 68) #[true, true, true, true, true, false, false, false, false, false, false] rfl rfl (one_of HT_.out (by kernel_rfl)) (by decide) (fun K hK => ?_)
            refine Kd.R_lit_step (Kd.int .i64) _ 3 ?hg (N := 68) ?hd (xs := ([(-1), 16777216, 5] : List Int)) (inner := [.int .i64 (-1), .int .i64 16777216, .int .i64 5]) (ok := fun _ => True) (okp := fun _ => True) ?hr ?hp (fun _ hk => hk) trivial (Below.refl _ _) (Nat.le_refl _) (by simp) ?_; (case hd => rfl); (case hg => rfl); (case hr => first | (go_simp; done) | (go_simp; rfl)); (case hp => exact (Reps.one (show Kd.M (Kd.int .i64) _ _ _ (-1) [.int .i64 (-1)] from rfl) (Reps.one (show Kd.M (Kd.int .i64) _ _ _ 16777216 [.int .i64 16777216] from rfl) (Reps.one (show Kd.M (Kd.int .i64) _ _ _ 5 [.int .i64 5] from rfl) (Reps.none _ _)))))
            intro v240 w115 ho116 hb hg_ hnew_
            clear hg_ hnew_
            (first | rw [← Ny239.out] at ho116 | (simp only [Int.reduceToNat] at ho116; rw [← Ny239.out] at ho116))
            have n0_ := aM_ (Kd.R_elder' (by (with_reducible repeat (first | apply rA_ | apply rN_ | apply rD_)); exact HO202.out) (Kd.R_base ho116) hb)
            have n1_ := aM_ (Kd.R_elder' (by (with_reducible repeat (first | apply rA_ | apply rN_ | apply rD_)); exact HO205.out) (Kd.R_base ho116) hb)
            have n2_ := aM_ (Kd.R_lower (Kd.R_new' (Kd.R_new' ho116 (Kd.R_lt (by (with_reducible repeat (first | apply rA_ | apply rN_ | apply rD_)); exact HO202.out))) (Kd.R_lt (by (with_reducible repeat (first | apply rA_ | apply rN_ | apply rD_)); exact HO205.out))) (keep_size (w := w) (g := g) (row := none) (by repeat (first | (with_reducible first | exact HK.out | apply pS_ | apply pN_ | apply pD_ | apply pA_ | refine keep_far ?_ GW194.out _ | refine keep_far ?_ GW195.out _ | refine keep_far ?_ GW206.out _) | exact HK.out))))
            have n3_ := aM_ (IsS111.below (by repeat (first | (with_reducible first | exact HI0.out | apply IsS111.alloc | apply IsS111.drewN | apply IsS111.drew | apply IsS111.set_1 | refine IsS111.far ?_ NB0_194.out _ | refine IsS111.far ?_ NB0_195.out _ | refine IsS111.far ?_ NB0_206.out _) | exact HI0.out)) hb)
            have n4_ := aM_ (blk_below (g := gb194) (by (with_reducible repeat (first | apply kN_ | apply kD_ | apply kA_)); exact BK194.out) hb)
            have n5_ := aM_ (blk_below (g := gb195) (by (with_reducible repeat (first | apply kN_ | apply kD_ | apply kA_)); exact BK195.out) hb)
            have n6_ := aM_ (blk_below (g := gb206) (by (with_reducible repeat (first | apply kN_ | apply kD_ | apply kA_)); exact BK206.out) hb)
            have n7_ := aM_ (KeepBut.trans (by repeat (first | (with_reducible first | exact HK.out | apply pS_ | apply pN_ | apply pD_ | apply pA_ | refine keep_far ?_ GW194.out _ | refine keep_far ?_ GW195.out _ | refine keep_far ?_ GW206.out _) | exact HK.out)) (KeepBut.of_below hb g none) (.inl rfl))
            have n8_ := aM_ (below_step (by repeat (first | (with_reducible first | exact HB.out | apply wA_ | apply wN_ | apply wD_ | refine below_set ?_ (IsS111.ge HI0.out) | refine below_set ?_ GE194.out | refine below_set ?_ GE195.out | refine below_set ?_ GE206.out) | exact HB.out)) hb)
            clear HO202
            clear HO205
            clear HI0
            clear BK194
            clear BK195
            clear BK206
            clear HK
            clear HB
            have HO202 := n0_
            have HO205 := n1_
            have HO241 := n2_
            have HI0 := n3_
            have BK194 := n4_
            have BK195 := n5_
            have BK206 := n6_
            have HK := n7_
            have HB := n8_
            clear n0_ n1_ n2_ n3_ n4_ n5_ n6_ n7_ n8_
            clear hb ho116
            obtain ⟨Ao117, co117, eo117⟩ := Kd.R_slice HO241.out
            subst eo117
            obtain ⟨ado117, fo117, _⟩ := Kd.at_int (Kd.R_reads' HO241.out).2.2 0 (by decide) (by rw [Ny239.out]; simp)
            cases fo117
            refine hK.out _ _ (bc6 BK206.out) (fun hHeld => ?_)
            clear hK K
            refine norm_ (a' := ?_) ?_ ?_
            rotate_left
            ·show Act.put _ (some 68) _ = _
             simp only [Act.put, sA_, s0_, s1_, i64_w, i32_w]
             rfl
            exact norm_ (by simp only [putAll, Act.put, sA_, s0_, s1_]) (hCont (.slice (some ado117) y239.length co117, ado117) _ ⟨hHeld, (by (with_reducible repeat (first | apply rA_ | apply rN_ | apply rD_)); exact HO202.out), (by (with_reducible repeat (first | apply rA_ | apply rN_ | apply rD_)); exact HO205.out), (by (with_reducible repeat (first | apply rA_ | apply rN_ | apply rD_)); exact Kd.R_mono HO241.out (fun _ hk => ⟨hk.1.2, hk.2⟩)), ⟨_, rfl⟩, (by (with_reducible repeat (first | apply kN_ | apply kD_ | apply kA_)); exact BK194.out), (by (with_reducible repeat (first | apply kN_ | apply kD_ | apply kA_)); exact BK195.out), (by (with_reducible repeat (first | apply kN_ | apply kD_ | apply kA_)); exact BK206.out), (by repeat (first | (with_reducible first | exact HI0.out | apply IsS111.alloc | apply IsS111.drewN | apply IsS111.drew | apply IsS111.set_1 | refine IsS111.far ?_ NB0_194.out _ | refine IsS111.far ?_ NB0_195.out _ | refine IsS111.far ?_ NB0_206.out _) | exact HI0.out)), (by repeat (first | (with_reducible first | exact HK.out | apply pS_ | apply pN_ | apply pD_ | apply pA_ | refine keep_far ?_ GW194.out _ | refine keep_far ?_ GW195.out _ | refine keep_far ?_ GW206.out _) | exact HK.out)), (by repeat (first | (with_reducible first | exact HB.out | apply wA_ | apply wN_ | apply wD_ | refine below_set ?_ (IsS111.ge HI0.out) | refine below_set ?_ GE194.out | refine below_set ?_ GE195.out | refine below_set ?_ GE206.out) | exact HB.out))⟩)
          rintro ⟨v240, adz_v240⟩ w118 ⟨hS_, h0_, h1_, h2_, h3_, h4_, h5_, h6_, h7_, h8_, h9_⟩
          have n0_ : Aside0 (Kd.R (Kd.int .i64) 3 w118 w.heap.size (fun k_ => some k_ ≠ (.slice Ao18 t203.length co18 : Value).ownBlock ∧ some k_ ≠ (v240 : Value).ownBlock) (.slice Ao17 t200.length co17) t200) := ⟨h0_⟩
          have n1_ : Aside0 (Kd.R (Kd.int .i64) 3 w118 w.heap.size (fun k_ => some k_ ≠ (.slice Ao17 t200.length co17 : Value).ownBlock ∧ some k_ ≠ (v240 : Value).ownBlock) (.slice Ao18 t203.length co18) t203) := ⟨h1_⟩
          have n2_ : Aside0 (Kd.R (Kd.int .i64) 3 w118 w.heap.size (fun k_ => some k_ ≠ (.slice Ao17 t200.length co17 : Value).ownBlock ∧ some k_ ≠ (.slice Ao18 t203.length co18 : Value).ownBlock) v240 y239) := ⟨h2_⟩
          have n3_ : Aside0 (∃ c_, (v240 : Value) = .slice (some adz_v240) y239.length c_) := ⟨h3_⟩
          have n4_ : Aside0 (w118.heap[gb194]? = some (.cells #[.int .i64 a1_0, .int .i64 a1_1, .int .i64 a1_2, .int .i64 a1_3, .slice A1_4 l1_4.length c1_4, .slice A1_5 l1_5.length c1_5] 25 (0, 0))) := ⟨h4_⟩
          have n5_ : Aside0 (w118.heap[gb195]? = some (.cells #[.int .i64 0, .int .i64 0, .int .i64 0, .int .i64 0, .slice none 0 0, .slice none 0 0] 25 (0, 0))) := ⟨h5_⟩
          have n6_ : Aside0 (w118.heap[gb206]? = some (.cells #[.int .i64 t196, .int .i64 t197, .int .i64 t198, .int .i64 t199, .slice Ao17 t200.length co17, .slice Ao18 t203.length co18] 25 (0, 0))) := ⟨h6_⟩
          have n7_ : Aside0 (IsS111 w0 w118 g s0_0 t243) := ⟨h7_⟩
          have n8_ : Aside0 (KeepBut w w118 g none) := ⟨h8_⟩
          have n9_ : Aside0 (Below w0.heap.size w0 w118) := ⟨h9_⟩
          clear HO202
          clear HO205
          clear BK194
          clear BK195
          clear BK206
          clear HI0
          clear HK
          clear HB
          clear h0_ h1_ h2_ h3_ h4_ h5_ h6_ h7_ h8_ h9_
          have HO202 := n0_
          have HO205 := n1_
          have HO241 := n2_
          have HA_HO241 := n3_
          have BK194 := n4_
          have BK195 := n5_
          have BK206 := n6_
          have HI0 := n7_
          have HK := n8_
          have HB := n9_
          clear n0_ n1_ n2_ n3_ n4_ n5_ n6_ n7_ n8_ n9_
          have hHeld : w118.cell? ⟨gb206, 0, none⟩ = some (.int .i64 t196) ∧ w118.cell? ⟨gb206, 1, none⟩ = some (.int .i64 t197) ∧ w118.cell? ⟨gb206, 2, none⟩ = some (.int .i64 t198) ∧ w118.cell? ⟨gb206, 3, none⟩ = some (.int .i64 t199) ∧ w118.cell? ⟨gb206, 4, none⟩ = some (.slice Ao17 t200.length co17) ∧ w118.cell? ⟨gb206, 5, none⟩ = some (.slice Ao18 t203.length co18) := hS_
          obtain ⟨co119, eo119⟩ := HA_HO241.out
          clear HA_HO241
          subst eo119
          refine norm_ (a' := ?_) ?_ ?_
          rotate_left
          ·simp only [putAll, Act.put, sA_, s0_, s1_]
           rfl
          refine pure_ (i := 5) (N := some 71) (v := ?_) (a' := ?_) #[true, true, true, true, true, true, false, false, false, false, false] rfl rfl (any_of HT_.out (by kernel_rfl)) (fun _ _ _ h => h) (Or.inl ⟨by rfl, ?_⟩) ?_ ?_
          rotate_left
          ·intro w'
           go_simp
           with_reducible rfl
          rotate_left
          ·simp only [Act.put, sA_, s0_, s1_, i64_w, i32_w]
           rfl
          refine one_ (i := 6) (N := some 72) #[true, true, true, true, true, true, true, false, false, false, false] rfl rfl (one_of HT_.out (by kernel_rfl)) (by decide) (fun K hK => ?_)
          (have p244 : 0 ≤ (t242 : Int) := of_decide_eq_true (by first | (with_reducible assumption) | assumption); have q244 : t242 < (y239.length : Int) := of_decide_eq_true (by first | (with_reducible assumption) | assumption); obtain ⟨ad244, e244, hx244_0⟩ := Kd.at_int (Kd.R_reads' HO241.out).2.2 t242 p244 q244; obtain rfl : adz_v240 = ad244 := (by injection e244))
          refine value_ (w1 := ?_) (v := ?_) (by rfl) rfl ?_ ?_
          rotate_left 2
          ·go_simp
           constructor
           ·rfl
           ·rfl
          clear hx244_0
          refine hK.out _ _ (bc6 BK206.out) (fun hHeld => ?_)
          clear hK K
          refine norm_ (a' := ?_) ?_ ?_
          rotate_left
          ·show Act.put _ (some 72) _ = _
           simp only [Act.put, sA_, s0_, s1_, i64_w, i32_w]
           rfl
          refine one_ (i := 7) (N := some 73) #[true, true, true, true, true, true, true, true, false, false, false] rfl rfl (one_of HT_.out (by kernel_rfl)) (by decide) (fun K hK => ?_)
          refine value_ (w1 := ?_) (v := ?_) (by rfl) rfl ?_ ?_
          rotate_left 2
          ·go_simp
           constructor
           ·rfl
           ·rfl
          refine hK.out _ _ ⟨(blk_cell (kA_ BK206.out _) 0).trans rfl, (blk_cell (kA_ BK206.out _) 1).trans rfl, (blk_cell (kA_ BK206.out _) 2).trans rfl, (blk_cell (kA_ BK206.out _) 3).trans rfl, (blk_cell (kA_ BK206.out _) 4).trans rfl, (blk_cell (kA_ BK206.out _) 5).trans rfl⟩ (fun hHeld => ?_)
          clear hK K
          refine norm_ (a' := ?_) ?_ ?_
          rotate_left
          ·show Act.put _ (some 73) _ = _
           simp only [Act.put, sA_, s0_, s1_, i64_w, i32_w]
           rfl
          refine one_ (i := 8) (N := some 74) #[true, true, true, true, true, true, true, true, true, false, false] rfl rfl (one_of HT_.out (by kernel_rfl)) (by decide) (fun K hK => ?_)
          refine Kd.R_append_step (Kd.int .i64) w.heap.size (by rfl) (.tmp 67) (.tmp 73) 23 3 (.int .i64 0) 8 rfl Try.underlying23 info3 rfl (by decide) (by omega) (.slice Ao17 t200.length co17) t200 (rd y239 t242) [.int .i64 (rd y239 t242)] (fun k_ => some k_ ≠ (.slice Ao18 t203.length co18 : Value).ownBlock ∧ some k_ ≠ (.slice (some adz_v240) y239.length co119 : Value).ownBlock) (fun _ => False) rfl rfl ?aP (fun _ hk => hk.elim) ?aF ?aO (Below.refl _ _) ?aS ?aL ?_
          (case aP => exact rfl)
          (case aF => exact (fun k_ hk => ⟨Kd.fresh' (Kd.R_lt (by (with_reducible repeat (first | apply rA_ | apply rN_ | apply rD_)); exact HO205.out)) k_ hk, Kd.fresh' (Kd.R_lt (by (with_reducible repeat (first | apply rA_ | apply rN_ | apply rD_)); exact HO241.out)) k_ hk⟩))
          (case aO => exact (by (with_reducible repeat (first | apply rA_ | apply rN_ | apply rD_)); exact HO202.out))
          (case aS => exact (keep_size (w := w) (g := g) (row := none) (by repeat (first | (with_reducible first | exact HK.out | apply pS_ | apply pN_ | apply pD_ | apply pA_ | refine keep_far ?_ GW194.out _ | refine keep_far ?_ GW195.out _ | refine keep_far ?_ GW206.out _) | exact HK.out))))
          (case aL => have := LMc112.out; omega)
          intro v246 w120 ho hb hg hat
          rw [← Ny245.out] at ho
          have n0_ := aM_ (IsS111.grown (by repeat (first | (with_reducible first | exact HI0.out | apply IsS111.alloc | apply IsS111.drewN | apply IsS111.drew | apply IsS111.set_1 | refine IsS111.far ?_ NB0_194.out _ | refine IsS111.far ?_ NB0_195.out _ | refine IsS111.far ?_ NB0_206.out _) | exact HI0.out)) hg (IsS111.own_ne HI0.out HO202.out (by decide)))
          have n1_ := aM_ (blk_grown (g := gb194) (o := .cells #[.int .i64 a1_0, .int .i64 a1_1, .int .i64 a1_2, .int .i64 a1_3, .slice A1_4 l1_4.length c1_4, .slice A1_5 l1_5.length c1_5] 25 (0, 0)) (by (with_reducible repeat (first | apply kN_ | apply kD_ | apply kA_)); exact BK194.out) hg (Kd.R_ne HO202.out BK194.out (by decide)))
          have n2_ := aM_ (blk_grown (g := gb195) (o := .cells #[.int .i64 0, .int .i64 0, .int .i64 0, .int .i64 0, .slice none 0 0, .slice none 0 0] 25 (0, 0)) (by (with_reducible repeat (first | apply kN_ | apply kD_ | apply kA_)); exact BK195.out) hg (Kd.R_ne HO202.out BK195.out (by decide)))
          have n3_ := aM_ (Kd.R_after (ok := (fun k_ => some k_ ≠ (.slice (some adz_v240) y239.length co119 : Value).ownBlock)) (by (with_reducible repeat (first | apply rA_ | apply rN_ | apply rD_)); exact Kd.R_mono HO205.out (fun _ hk => ⟨hk.2, hk.1⟩)) hg hat)
          have n4_ := aM_ (blk_grown (g := gb206) (o := .cells #[.int .i64 t196, .int .i64 t197, .int .i64 t198, .int .i64 t199, .slice Ao17 t200.length co17, .slice Ao18 t203.length co18] 25 (0, 0)) (by (with_reducible repeat (first | apply kN_ | apply kD_ | apply kA_)); exact BK206.out) hg (Kd.R_ne HO202.out BK206.out (by decide)))
          have n5_ := aM_ (Kd.R_after (ok := (fun k_ => some k_ ≠ (.slice Ao18 t203.length co18 : Value).ownBlock)) (by (with_reducible repeat (first | apply rA_ | apply rN_ | apply rD_)); exact Kd.R_mono HO241.out (fun _ hk => ⟨hk.2, hk.1⟩)) hg hat)
          have n6_ := aM_ (below_weaken (by repeat (first | (with_reducible first | exact HB.out | apply wA_ | apply wN_ | apply wD_ | refine below_set ?_ (IsS111.ge HI0.out) | refine below_set ?_ GE194.out | refine below_set ?_ GE195.out | refine below_set ?_ GE206.out) | exact HB.out)) HL.out hb)
          have n7_ := aM_ (KeepBut.trans (by repeat (first | (with_reducible first | exact HK.out | apply pS_ | apply pN_ | apply pD_ | apply pA_ | refine keep_far ?_ GW194.out _ | refine keep_far ?_ GW195.out _ | refine keep_far ?_ GW206.out _) | exact HK.out)) (KeepBut.of_grown hg g) (Kd.R_base2 HO202.out))
          have n8_ := aM_ (ho)
          clear HI0
          clear BK194
          clear BK195
          clear HO205
          clear BK206
          clear HO241
          clear HB
          clear HK
          clear HO202
          have HI0 := n0_
          have BK194 := n1_
          have BK195 := n2_
          have HO205 := n3_
          have BK206 := n4_
          have HO241 := n5_
          have HB := n6_
          have HK := n7_
          have HO247 := n8_
          clear n0_ n1_ n2_ n3_ n4_ n5_ n6_ n7_ n8_
          clear ho hb hg hat
          obtain ⟨Ao121, co121, eo121⟩ := Kd.R_slice HO247.out
          (first | subst eo121 | (injection eo121 with f1_ f2_ f3_; have f4_ := f1_.symm; have f5_ := f3_.symm; clear f1_ f2_ f3_; subst f4_; subst f5_))
          refine hK.out _ _ (bc6 BK206.out) (fun hHeld => ?_)
          clear hK K
          refine norm_ (a' := ?_) ?_ ?_
          rotate_left
          ·show Act.put _ (some 74) _ = _
           simp only [Act.put, sA_, s0_, s1_, i64_w, i32_w]
           rfl
          refine pure_ (i := 9) (N := some 75) (v := ?_) (a' := ?_) #[true, true, true, true, true, true, true, true, true, true, false] rfl rfl (any_of HT_.out (by kernel_rfl)) (fun _ _ _ h => h) (Or.inl ⟨by rfl, ?_⟩) ?_ ?_
          rotate_left
          ·intro w'
           go_simp
           with_reducible rfl
          rotate_left
          ·simp only [Act.put, sA_, s0_, s1_, i64_w, i32_w]
           rfl
          refine last_ (i := 10) (N := none) #[true, true, true, true, true, true, true, true, true, true, true] rfl rfl (one_of HT_.out (by kernel_rfl)) (by decide) (fun K hK => ?_)
          have hs122 : w120.cell? ⟨gb206, 4, none⟩ = some (.slice Ao17 t200.length co17) := (blk_cell BK206.out 4).trans rfl
          have hfs122 := blk_frozen BK206.out 4
          have hns122_0 := NB194_206.out
          have hns122_1 := NB195_206.out
          have hms122_0 := NB206_194.out
          have hms122_1 := NB206_195.out
          refine skip_ (w1 := ?_) (by rfl) rfl ?_ ?_
          rotate_left
          ·go_simp
           rfl
          refine hK.out _ _ ?_
          clear hK K
          refine done_ (done_of HT_.out (by kernel_rfl)) ?_
          have hnb123 := NB206_194.out
          have hnc123 := NB194_206.out
          have hnb124 := NB206_195.out
          have hnc124 := NB195_206.out
          have hnb125 := NB206_0.out
          have hnc125 := NB0_206.out
          obtain ⟨hcz126_0, hcz126_1, hcz126_2, hcz126_3, hcz126_4, hcz126_5⟩ := bc6 BK206.out
          obtain ⟨hfz126_0, hfz126_1, hfz126_2, hfz126_3, hfz126_4, hfz126_5⟩ := bf6 BK206.out
          have hnb127 := NB195_194.out
          have hnc127 := NB194_195.out
          have hnb128 := NB195_0.out
          have hnc128 := NB0_195.out
          obtain ⟨hcz129_0, hcz129_1, hcz129_2, hcz129_3, hcz129_4, hcz129_5⟩ := bc6 BK195.out
          obtain ⟨hfz129_0, hfz129_1, hfz129_2, hfz129_3, hfz129_4, hfz129_5⟩ := bf6 BK195.out
          try go_wp2
          refine bodyPost_ret (results_cell_row rfl _ _ gb195 25 #[.int .i64 t196, .int .i64 t197, .int .i64 t198, .int .i64 t199, .slice Ao121 y245.length co121, .slice Ao18 t203.length co18] (0, 0) _ rfl (by (with_reducible repeat (first | apply kN_ | apply kD_ | apply kA_)); refine blk_put (cs := #[.int .i64 t196, .int .i64 t197, .int .i64 t198, .int .i64 t199, .slice Ao121 y245.length co121, .slice none 0 0]) ?_ 5 _ rfl; (with_reducible repeat (first | apply kN_ | apply kD_ | apply kA_)); refine blk_put (cs := #[.int .i64 t196, .int .i64 t197, .int .i64 t198, .int .i64 t199, .slice none 0 0, .slice none 0 0]) ?_ 4 _ rfl; (with_reducible repeat (first | apply kN_ | apply kD_ | apply kA_)); refine blk_put (cs := #[.int .i64 t196, .int .i64 t197, .int .i64 t198, .int .i64 0, .slice none 0 0, .slice none 0 0]) ?_ 3 _ rfl; (with_reducible repeat (first | apply kN_ | apply kD_ | apply kA_)); refine blk_put (cs := #[.int .i64 t196, .int .i64 t197, .int .i64 0, .int .i64 0, .slice none 0 0, .slice none 0 0]) ?_ 2 _ rfl; (with_reducible repeat (first | apply kN_ | apply kD_ | apply kA_)); refine blk_put (cs := #[.int .i64 t196, .int .i64 0, .int .i64 0, .int .i64 0, .slice none 0 0, .slice none 0 0]) ?_ 1 _ rfl; (with_reducible repeat (first | apply kN_ | apply kD_ | apply kA_)); refine blk_put (cs := #[.int .i64 0, .int .i64 0, .int .i64 0, .int .i64 0, .slice none 0 0, .slice none 0 0]) ?_ 0 _ rfl; (with_reducible repeat (first | apply kN_ | apply kD_ | apply kA_)); refine blk_far ?_ NB195_206.out _; (with_reducible repeat (first | apply kN_ | apply kD_ | apply kA_)); exact BK195.out) Try.underlying25 rfl (by kernel_rfl)) rfl ?_
          exact ⟨_, _, by first | rfl | (simp [errW_none, errW_some] <;> rfl) | (simp [*, errW_none, errW_some] <;> rfl), by (with_reducible repeat (first | apply rA_ | apply rN_ | apply rD_)); exact Kd.R_mono (Kd.R_far (Kd.R_far (Kd.R_far (Kd.R_far (Kd.R_far (Kd.R_far (Kd.R_far (Kd.R_types (Kd.R_types HO247.out BK206.out (by decide)) BK195.out (by decide)) (fun _ hk => hk.1.2) (.slice Ao121 y245.length co121)) (fun _ hk => hk.2) (.int .i64 t196)) (fun _ hk => hk.2) (.int .i64 t197)) (fun _ hk => hk.2) (.int .i64 t198)) (fun _ hk => hk.2) (.int .i64 t199)) (fun _ hk => hk.2) (.slice Ao121 y245.length co121)) (fun _ hk => hk.2) (.slice Ao18 t203.length co18)) (fun _ hk => hk.1.1.1), Kd.Q_of_R (by (with_reducible repeat (first | apply rA_ | apply rN_ | apply rD_)); exact Kd.R_mono (Kd.R_far (Kd.R_far (Kd.R_far (Kd.R_far (Kd.R_far (Kd.R_far (Kd.R_far (Kd.R_types (Kd.R_types HO205.out BK206.out (by decide)) BK195.out (by decide)) (fun _ hk => hk.1.2) (.slice Ao121 y245.length co121)) (fun _ hk => hk.2) (.int .i64 t196)) (fun _ hk => hk.2) (.int .i64 t197)) (fun _ hk => hk.2) (.int .i64 t198)) (fun _ hk => hk.2) (.int .i64 t199)) (fun _ hk => hk.2) (.slice Ao121 y245.length co121)) (fun _ hk => hk.2) (.slice Ao18 t203.length co18)) (fun _ hk => hk.1.1.2)), by repeat (first | (with_reducible first | exact HI0.out | apply IsS111.alloc | apply IsS111.drewN | apply IsS111.drew | apply IsS111.set_1 | refine IsS111.far ?_ NB0_194.out _ | refine IsS111.far ?_ NB0_195.out _ | refine IsS111.far ?_ NB0_206.out _) | exact HI0.out), by repeat (first | (with_reducible first | exact HB.out | apply wA_ | apply wN_ | apply wD_ | refine below_set ?_ (IsS111.ge HI0.out) | refine below_set ?_ GE194.out | refine below_set ?_ GE195.out | refine below_set ?_ GE206.out) | exact HB.out), by repeat (first | (with_reducible first | exact HK.out | apply pS_ | apply pN_ | apply pD_ | apply pA_ | refine keep_far ?_ GW194.out _ | refine keep_far ?_ GW195.out _ | refine keep_far ?_ GW206.out _) | exact HK.out)⟩
         ·rw [if_neg c112] at H
          exact absurd H (by simp)
        ·rw [if_neg c111] at H
         exact absurd H (by simp)
       ·rw [if_neg c110] at H
        exact absurd H (by simp)
      ·rw [if_neg c108] at H
       have c108b0 : (t207 == 5) = false := beq_eq_false_iff_ne.mpr c108
       have c108b1 : (t207 != 5) = true := bne_iff_ne.mpr c108
       by_cases c130 : t207 = 6
       ·rw [if_pos c130] at H
        have c130b0 : (t207 == 6) = true := beq_iff_eq.mpr c130
        have c130b1 : (t207 != 6) = false := bne_eq_false_iff_eq.mpr c130
        clear c130
        have H' := aM_ H
        clear H
        go_wp2
        go_loopg [6] k (fun kq v6 w' => ∃ (x6_1 : Int) (x207004_1 : List Int) (u207004 : Value), v6 = .int .i64 x6_1 ∧ Aside0 (spec_l14Spoil.l0 kq x6_1 s0_0 t208 t196 t197 t198 t199 x207004_1 t203 = some (r1, r2, r3, r4, r5, r6, r7)) ∧ Aside0 (kq ≤ k) ∧ Aside0 (Kd.R (Kd.int .i64) 3 w' w.heap.size (fun k_ => some k_ ≠ ((.slice Ao18 t203.length co18) : Value).ownBlock) u207004 x207004_1) ∧ Aside0 (Kd.Q (Kd.int .i64) 3 w' w.heap.size (fun k_ => some k_ ≠ (u207004 : Value).ownBlock) (.slice Ao18 t203.length co18) t203) ∧ Aside0 (w'.heap[gb194]? = some (.cells #[.int .i64 a1_0, .int .i64 a1_1, .int .i64 a1_2, .int .i64 a1_3, (.slice A1_4 l1_4.length c1_4), (.slice A1_5 l1_5.length c1_5)] 25 (0, 0))) ∧ Aside0 (w'.heap[gb195]? = some (.cells #[.int .i64 0, .int .i64 0, .int .i64 0, .int .i64 0, (.slice none 0 0), (.slice none 0 0)] 25 (0, 0))) ∧ Aside0 (w'.heap[gb206]? = some (.cells #[.int .i64 t196, .int .i64 t197, .int .i64 t198, .int .i64 t199, u207004, (.slice Ao18 t203.length co18)] 25 (0, 0))) ∧ Aside0 (IsS111 w0 w' g s0_0 t208) ∧ Aside0 (KeepBut w w' g none) ∧ Aside0 (Below w0.heap.size w0 w'))
        case atStart => exact ⟨(0), (t200), (.slice Ao17 t200.length co17), (by first | rfl | (simp; done) | (simp [*]; done)), H', ⟨Nat.le_refl _⟩, ⟨by (with_reducible repeat (first | apply rA_ | apply rN_ | apply rD_)); exact HO202.out⟩, ⟨Kd.Q_of_R (by (with_reducible repeat (first | apply rA_ | apply rN_ | apply rD_)); exact HO205.out)⟩, ⟨by (with_reducible repeat (first | apply kN_ | apply kD_ | apply kA_)); exact BK194.out⟩, ⟨by (with_reducible repeat (first | apply kN_ | apply kD_ | apply kA_)); exact BK195.out⟩, ⟨by (with_reducible repeat (first | apply kN_ | apply kD_ | apply kA_)); exact BK206.out⟩, ⟨by repeat (first | (with_reducible first | exact HI0.out | apply IsS111.alloc | apply IsS111.drewN | apply IsS111.drew | apply IsS111.set_1 | refine IsS111.far ?_ NB0_194.out _ | refine IsS111.far ?_ NB0_195.out _ | refine IsS111.far ?_ NB0_206.out _) | exact HI0.out)⟩, ⟨by repeat (first | (with_reducible first | exact HK.out | apply pS_ | apply pN_ | apply pD_ | apply pA_ | refine keep_far ?_ GW194.out _ | refine keep_far ?_ GW195.out _ | refine keep_far ?_ GW206.out _) | exact HK.out)⟩, ⟨by repeat (first | (with_reducible first | exact HB.out | apply wA_ | apply wN_ | apply wD_ | refine below_set ?_ (IsS111.ge HI0.out) | refine below_set ?_ GE194.out | refine below_set ?_ GE195.out | refine below_set ?_ GE206.out) | exact HB.out)⟩⟩
        case round =>
         clear H'
         try clear c1
         try clear p2
         try clear q2
         try clear hx2
         try clear qi2
         try clear c8
         try clear q9
         try clear c10
         try clear c11
         try clear c12
         try clear c13
         try clear p23
         try clear q23
         try clear hx23
         try clear p24
         try clear q24
         try clear hx24
         try clear qi24
         try clear c80
         try clear c83
         try clear c83b0
         try clear c83b1
         try clear c86
         try clear c87
         try clear c88
         try clear c89
         try clear q90
         try clear c101
         try clear c102
         try clear c103
         try clear c105
         try clear c106
         try clear c108
         try clear c108b0
         try clear c108b1
         try clear c110
         try clear c110b0
         try clear c111
         try clear c111b0
         try clear c112
         try clear c123
         try clear c124
         try clear c125
         try clear c127
         try clear c128
         try clear c130
         try clear c130b0
         try clear c130b1
         try clear hcz104_0
         try clear hcz104_1
         try clear hcz104_2
         try clear hcz104_3
         try clear hcz104_4
         try clear hcz104_5
         try clear hcz107_0
         try clear hcz107_1
         try clear hcz107_2
         try clear hcz107_3
         try clear hcz107_4
         try clear hcz107_5
         try clear hcz126_0
         try clear hcz126_1
         try clear hcz126_2
         try clear hcz126_3
         try clear hcz126_4
         try clear hcz126_5
         try clear hcz129_0
         try clear hcz129_1
         try clear hcz129_2
         try clear hcz129_3
         try clear hcz129_4
         try clear hcz129_5
         try clear hfz104_0
         try clear hfz104_1
         try clear hfz104_2
         try clear hfz104_3
         try clear hfz104_4
         try clear hfz104_5
         try clear hfz107_0
         try clear hfz107_1
         try clear hfz107_2
         try clear hfz107_3
         try clear hfz107_4
         try clear hfz107_5
         try clear hfz126_0
         try clear hfz126_1
         try clear hfz126_2
         try clear hfz126_3
         try clear hfz126_4
         try clear hfz126_5
         try clear hfz129_0
         try clear hfz129_1
         try clear hfz129_2
         try clear hfz129_3
         try clear hfz129_4
         try clear hfz129_5
         try clear hx237_0
         try clear hx244_0
         try clear p237
         try clear p244
         try clear q237
         try clear q244
         try clear q90
         obtain ⟨x6_1, x207004_1, u207004, rfl, HA, HK1, HO_207004, HO_207005, BK194, BK195, BK206, HI0, HK, HB⟩ := hrel
         cases gk with
         | zero => exact absurd HA.out (by simp [spec_l14Spoil.l0])
         | succ k1 =>
          have H := HA.out
          clear HA
          simp only [spec_l14Spoil.l0] at H
          by_cases c131 : x6_1 < 257
          ·rw [if_pos c131] at H
           have c131b0 : decide (x6_1 < 257) = true := decide_eq_true c131
           clear c131
           by_cases c132 : x207004_1.length < 17592186044416
           ·rw [if_pos c132] at H
            have LMc132 := aM_ c132
            clear c132
            obtain ⟨y248, hy248⟩ : ∃ y_ : List Int, y_ = (x207004_1 ++ [7]) := ⟨_, rfl⟩
            replace H : (spec_l14Spoil.l0 k1 (wrap64 (x6_1 + 1)) s0_0 t208 t196 t197 t198 t199 y248 t203) = some (r1, r2, r3, r4, r5, r6, r7) := by first | (rw [hy248]; with_reducible exact H) | (have H2_ := (Option.bind_some _ _).symm.trans H; rw [hy248]; with_reducible exact H2_) | (have H2_ := (Option.bind_some _ _).symm.trans H; with_reducible exact H2_) | with_reducible exact H | (rw [hy248]; exact H) | exact H
            have Ny248 := aM_ hy248
            clear hy248
            have H' := aM_ H
            clear H
            have hnb133 := NB206_194.out
            have hnc133 := NB194_206.out
            have hnb134 := NB206_195.out
            have hnc134 := NB195_206.out
            have hnb135 := NB206_0.out
            have hnc135 := NB0_206.out
            obtain ⟨hcz136_0, hcz136_1, hcz136_2, hcz136_3, hcz136_4, hcz136_5⟩ := bc6 BK206.out
            obtain ⟨hfz136_0, hfz136_1, hfz136_2, hfz136_3, hfz136_4, hfz136_5⟩ := bf6 BK206.out
            go_wp2_with (first | ((with_reducible refine gate_builtin (b := .append) (xs := #[.tmp 83, .tmp 84]) rfl ?_); at_builtin; refine Kd.R_append (Kd.int .i64) w.heap.size rfl (.tmp 83) (.tmp 84) 23 3 (.int .i64 0) 8 rfl Try.underlying23 info3 rfl (by decide) (by omega) u207004 x207004_1 7 [.int .i64 7] (fun k_ => some k_ ≠ (.slice Ao18 t203.length co18 : Value).ownBlock) (fun _ => False) rfl rfl ?aP (fun _ hk => hk.elim) ?aF ?aO (Below.refl _ _) ?aS ?aL ?_; (case aP => exact rfl); (case aF => exact (fun k_ hk => Kd.fresh' (Kd.Q_lt (by (with_reducible repeat (first | apply Kd.Q_alloc | apply Kd.Q_drewN | apply Kd.Q_drew)); exact HO_207005.out)) k_ hk)); (case aO => exact (by (with_reducible repeat (first | apply rA_ | apply rN_ | apply rD_)); exact HO_207004.out)); (case aS => exact (keep_size (w := w) (g := g) (row := none) (by repeat (first | (with_reducible first | exact HK.out | apply pS_ | apply pN_ | apply pD_ | apply pA_ | refine keep_far ?_ GW194.out _ | refine keep_far ?_ GW195.out _ | refine keep_far ?_ GW206.out _) | exact HK.out)))); (case aL => have := LMc132.out; omega); intro v249 w137 ho hb hg hat; rw [← Ny248.out] at ho; have n0_ := aM_ (Kd.Q_after (ok := (fun _ => True)) (by (with_reducible repeat (first | apply Kd.Q_alloc | apply Kd.Q_drewN | apply Kd.Q_drew)); exact Kd.Q_mono HO_207005.out (fun _ hk => ⟨trivial, hk⟩)) hg hat); have n1_ := aM_ (blk_grown (g := gb194) (o := .cells #[.int .i64 a1_0, .int .i64 a1_1, .int .i64 a1_2, .int .i64 a1_3, .slice A1_4 l1_4.length c1_4, .slice A1_5 l1_5.length c1_5] 25 (0, 0)) (by (with_reducible repeat (first | apply kN_ | apply kD_ | apply kA_)); exact BK194.out) hg (Kd.R_ne HO_207004.out BK194.out (by decide))); have n2_ := aM_ (blk_grown (g := gb195) (o := .cells #[.int .i64 0, .int .i64 0, .int .i64 0, .int .i64 0, .slice none 0 0, .slice none 0 0] 25 (0, 0)) (by (with_reducible repeat (first | apply kN_ | apply kD_ | apply kA_)); exact BK195.out) hg (Kd.R_ne HO_207004.out BK195.out (by decide))); have n3_ := aM_ (blk_grown (g := gb206) (o := .cells #[.int .i64 t196, .int .i64 t197, .int .i64 t198, .int .i64 t199, u207004, .slice Ao18 t203.length co18] 25 (0, 0)) (by (with_reducible repeat (first | apply kN_ | apply kD_ | apply kA_)); exact BK206.out) hg (Kd.R_ne HO_207004.out BK206.out (by decide))); have n4_ := aM_ (IsS111.grown (by repeat (first | (with_reducible first | exact HI0.out | apply IsS111.alloc | apply IsS111.drewN | apply IsS111.drew | apply IsS111.set_1 | refine IsS111.far ?_ NB0_194.out _ | refine IsS111.far ?_ NB0_195.out _ | refine IsS111.far ?_ NB0_206.out _) | exact HI0.out)) hg (IsS111.own_ne HI0.out HO_207004.out (by decide))); have n5_ := aM_ (below_weaken (by repeat (first | (with_reducible first | exact HB.out | apply wA_ | apply wN_ | apply wD_ | refine below_set ?_ (IsS111.ge HI0.out) | refine below_set ?_ GE194.out | refine below_set ?_ GE195.out | refine below_set ?_ GE206.out) | exact HB.out)) HL.out hb); have n6_ := aM_ (KeepBut.trans (by repeat (first | (with_reducible first | exact HK.out | apply pS_ | apply pN_ | apply pD_ | apply pA_ | refine keep_far ?_ GW194.out _ | refine keep_far ?_ GW195.out _ | refine keep_far ?_ GW206.out _) | exact HK.out)) (KeepBut.of_grown hg g) (Kd.R_base2 HO_207004.out)); have n7_ := aM_ (ho); clear HO_207005; clear BK194; clear BK195; clear BK206; clear HI0; clear HB; clear HK; clear HO_207004; have HO_207005 := n0_; have BK194 := n1_; have BK195 := n2_; have BK206 := n3_; have HI0 := n4_; have HB := n5_; have HK := n6_; have HO250 := n7_; clear n0_ n1_ n2_ n3_ n4_ n5_ n6_ n7_; clear ho hb hg hat; obtain ⟨Ao138, co138, eo138⟩ := Kd.R_slice HO250.out; subst eo138; obtain ⟨hcz139_0, hcz139_1, hcz139_2, hcz139_3, hcz139_4, hcz139_5⟩ := bc6 BK206.out; obtain ⟨hfz139_0, hfz139_1, hfz139_2, hfz139_3, hfz139_4, hfz139_5⟩ := bf6 BK206.out))
            go_roundg k1
            case measure => have := HK1.out; omega
            case rel => exact ⟨(wrap64 (x6_1 + 1)), (y248), (.slice Ao138 y248.length co138), (by first | rfl | (simp; done) | (simp [*]; done)), H', ⟨by have := HK1.out; omega⟩, ⟨by (with_reducible repeat (first | apply rA_ | apply rN_ | apply rD_)); exact Kd.R_mono (Kd.R_far (Kd.R_types HO250.out BK206.out (by decide)) (fun _ hk => hk.2) (.slice Ao138 y248.length co138)) (fun _ hk => hk.1)⟩, ⟨by (with_reducible repeat (first | apply Kd.Q_alloc | apply Kd.Q_drewN | apply Kd.Q_drew)); exact Kd.Q_mono (Kd.Q_far (Kd.Q_types HO_207005.out BK206.out (by decide)) (fun _ hk => hk.2) (.slice Ao138 y248.length co138)) (fun _ hk => hk.1.2)⟩, ⟨by (with_reducible repeat (first | apply kN_ | apply kD_ | apply kA_)); refine blk_far ?_ NB194_206.out _; (with_reducible repeat (first | apply kN_ | apply kD_ | apply kA_)); exact BK194.out⟩, ⟨by (with_reducible repeat (first | apply kN_ | apply kD_ | apply kA_)); refine blk_far ?_ NB195_206.out _; (with_reducible repeat (first | apply kN_ | apply kD_ | apply kA_)); exact BK195.out⟩, ⟨by (with_reducible repeat (first | apply kN_ | apply kD_ | apply kA_)); refine blk_put (cs := #[.int .i64 t196, .int .i64 t197, .int .i64 t198, .int .i64 t199, u207004, .slice Ao18 t203.length co18]) ?_ 4 _ rfl; (with_reducible repeat (first | apply kN_ | apply kD_ | apply kA_)); exact BK206.out⟩, ⟨by repeat (first | (with_reducible first | exact HI0.out | apply IsS111.alloc | apply IsS111.drewN | apply IsS111.drew | apply IsS111.set_1 | refine IsS111.far ?_ NB0_194.out _ | refine IsS111.far ?_ NB0_195.out _ | refine IsS111.far ?_ NB0_206.out _) | exact HI0.out)⟩, ⟨by repeat (first | (with_reducible first | exact HK.out | apply pS_ | apply pN_ | apply pD_ | apply pA_ | refine keep_far ?_ GW194.out _ | refine keep_far ?_ GW195.out _ | refine keep_far ?_ GW206.out _) | exact HK.out)⟩, ⟨by repeat (first | (with_reducible first | exact HB.out | apply wA_ | apply wN_ | apply wD_ | refine below_set ?_ (IsS111.ge HI0.out) | refine below_set ?_ GE194.out | refine below_set ?_ GE195.out | refine below_set ?_ GE206.out) | exact HB.out)⟩⟩
           ·rw [if_neg c132] at H
            exact absurd H (by simp)
          ·rw [if_neg c131] at H
           have c131b0 : decide (x6_1 < 257) = false := decide_eq_false c131
           clear c131
           simp only [Option.some.injEq, Prod.mk.injEq] at H
           obtain ⟨rfl, rfl, rfl, rfl, rfl, rfl, rfl⟩ := H
           have hnb140 := NB206_194.out
           have hnc140 := NB194_206.out
           have hnb141 := NB206_195.out
           have hnc141 := NB195_206.out
           have hnb142 := NB206_0.out
           have hnc142 := NB0_206.out
           obtain ⟨hcz143_0, hcz143_1, hcz143_2, hcz143_3, hcz143_4, hcz143_5⟩ := bc6 BK206.out
           obtain ⟨hfz143_0, hfz143_1, hfz143_2, hfz143_3, hfz143_4, hfz143_5⟩ := bf6 BK206.out
           have hnb144 := NB195_194.out
           have hnc144 := NB194_195.out
           have hnb145 := NB195_0.out
           have hnc145 := NB0_195.out
           obtain ⟨hcz146_0, hcz146_1, hcz146_2, hcz146_3, hcz146_4, hcz146_5⟩ := bc6 BK195.out
           obtain ⟨hfz146_0, hfz146_1, hfz146_2, hfz146_3, hfz146_4, hfz146_5⟩ := bf6 BK195.out
           obtain ⟨Ao147, co147, eo147⟩ := Kd.R_slice HO_207004.out
           subst eo147
           go_wp2
           refine bodyPost_ret (results_cell_row rfl _ _ gb195 25 #[.int .i64 t196, .int .i64 t197, .int .i64 t198, .int .i64 t199, .slice Ao147 x207004_1.length co147, .slice Ao18 t203.length co18] (0, 0) _ rfl (by (with_reducible repeat (first | apply kN_ | apply kD_ | apply kA_)); refine blk_put (cs := #[.int .i64 t196, .int .i64 t197, .int .i64 t198, .int .i64 t199, .slice Ao147 x207004_1.length co147, .slice none 0 0]) ?_ 5 _ rfl; (with_reducible repeat (first | apply kN_ | apply kD_ | apply kA_)); refine blk_put (cs := #[.int .i64 t196, .int .i64 t197, .int .i64 t198, .int .i64 t199, .slice none 0 0, .slice none 0 0]) ?_ 4 _ rfl; (with_reducible repeat (first | apply kN_ | apply kD_ | apply kA_)); refine blk_put (cs := #[.int .i64 t196, .int .i64 t197, .int .i64 t198, .int .i64 0, .slice none 0 0, .slice none 0 0]) ?_ 3 _ rfl; (with_reducible repeat (first | apply kN_ | apply kD_ | apply kA_)); refine blk_put (cs := #[.int .i64 t196, .int .i64 t197, .int .i64 0, .int .i64 0, .slice none 0 0, .slice none 0 0]) ?_ 2 _ rfl; (with_reducible repeat (first | apply kN_ | apply kD_ | apply kA_)); refine blk_put (cs := #[.int .i64 t196, .int .i64 0, .int .i64 0, .int .i64 0, .slice none 0 0, .slice none 0 0]) ?_ 1 _ rfl; (with_reducible repeat (first | apply kN_ | apply kD_ | apply kA_)); refine blk_put (cs := #[.int .i64 0, .int .i64 0, .int .i64 0, .int .i64 0, .slice none 0 0, .slice none 0 0]) ?_ 0 _ rfl; (with_reducible repeat (first | apply kN_ | apply kD_ | apply kA_)); exact BK195.out) Try.underlying25 rfl (by kernel_rfl)) rfl ?_
           exact ⟨_, _, by first | rfl | (simp [errW_none, errW_some] <;> rfl) | (simp [*, errW_none, errW_some] <;> rfl), by (with_reducible repeat (first | apply rA_ | apply rN_ | apply rD_)); exact Kd.R_mono (Kd.R_far (Kd.R_far (Kd.R_far (Kd.R_far (Kd.R_far (Kd.R_far (Kd.R_types HO_207004.out BK195.out (by decide)) (fun _ hk => hk.2) (.int .i64 t196)) (fun _ hk => hk.2) (.int .i64 t197)) (fun _ hk => hk.2) (.int .i64 t198)) (fun _ hk => hk.2) (.int .i64 t199)) (fun _ hk => hk.2) (.slice Ao147 x207004_1.length co147)) (fun _ hk => hk.2) (.slice Ao18 t203.length co18)) (fun _ hk => hk.1), by (with_reducible repeat (first | apply Kd.Q_alloc | apply Kd.Q_drewN | apply Kd.Q_drew)); exact Kd.Q_mono (Kd.Q_far (Kd.Q_far (Kd.Q_far (Kd.Q_far (Kd.Q_far (Kd.Q_far (Kd.Q_types HO_207005.out BK195.out (by decide)) (fun _ hk => hk.2) (.int .i64 t196)) (fun _ hk => hk.2) (.int .i64 t197)) (fun _ hk => hk.2) (.int .i64 t198)) (fun _ hk => hk.2) (.int .i64 t199)) (fun _ hk => hk.2) (.slice Ao147 x207004_1.length co147)) (fun _ hk => hk.2) (.slice Ao18 t203.length co18)) (fun _ hk => hk.1), by repeat (first | (with_reducible first | exact HI0.out | apply IsS111.alloc | apply IsS111.drewN | apply IsS111.drew | apply IsS111.set_1 | refine IsS111.far ?_ NB0_194.out _ | refine IsS111.far ?_ NB0_195.out _ | refine IsS111.far ?_ NB0_206.out _) | exact HI0.out), by repeat (first | (with_reducible first | exact HB.out | apply wA_ | apply wN_ | apply wD_ | refine below_set ?_ (IsS111.ge HI0.out) | refine below_set ?_ GE194.out | refine below_set ?_ GE195.out | refine below_set ?_ GE206.out) | exact HB.out), by repeat (first | (with_reducible first | exact HK.out | apply pS_ | apply pN_ | apply pD_ | apply pA_ | refine keep_far ?_ GW194.out _ | refine keep_far ?_ GW195.out _ | refine keep_far ?_ GW206.out _) | exact HK.out)⟩
       ·rw [if_neg c130] at H
        have c130b0 : (t207 == 6) = false := beq_eq_false_iff_ne.mpr c130
        have c130b1 : (t207 != 6) = true := bne_iff_ne.mpr c130
        simp only [Option.some.injEq, Prod.mk.injEq] at H
        obtain ⟨rfl, rfl, rfl, rfl, rfl, rfl, rfl⟩ := H
        have hnb148 := NB206_194.out
        have hnc148 := NB194_206.out
        have hnb149 := NB206_195.out
        have hnc149 := NB195_206.out
        have hnb150 := NB206_0.out
        have hnc150 := NB0_206.out
        obtain ⟨hcz151_0, hcz151_1, hcz151_2, hcz151_3, hcz151_4, hcz151_5⟩ := bc6 BK206.out
        obtain ⟨hfz151_0, hfz151_1, hfz151_2, hfz151_3, hfz151_4, hfz151_5⟩ := bf6 BK206.out
        have hnb152 := NB195_194.out
        have hnc152 := NB194_195.out
        have hnb153 := NB195_0.out
        have hnc153 := NB0_195.out
        obtain ⟨hcz154_0, hcz154_1, hcz154_2, hcz154_3, hcz154_4, hcz154_5⟩ := bc6 BK195.out
        obtain ⟨hfz154_0, hfz154_1, hfz154_2, hfz154_3, hfz154_4, hfz154_5⟩ := bf6 BK195.out
        go_wp2
        refine bodyPost_ret (results_cell_row rfl _ _ gb195 25 #[.int .i64 t196, .int .i64 t197, .int .i64 t198, .int .i64 0, .slice Ao17 t200.length co17, .slice Ao18 t203.length co18] (0, 0) _ rfl (by (with_reducible repeat (first | apply kN_ | apply kD_ | apply kA_)); refine blk_put (cs := #[.int .i64 t196, .int .i64 t197, .int .i64 t198, .int .i64 0, .slice Ao17 t200.length co17, .slice none 0 0]) ?_ 5 _ rfl; (with_reducible repeat (first | apply kN_ | apply kD_ | apply kA_)); refine blk_put (cs := #[.int .i64 t196, .int .i64 t197, .int .i64 t198, .int .i64 0, .slice none 0 0, .slice none 0 0]) ?_ 4 _ rfl; (with_reducible repeat (first | apply kN_ | apply kD_ | apply kA_)); refine blk_put (cs := #[.int .i64 t196, .int .i64 t197, .int .i64 t198, .int .i64 0, .slice none 0 0, .slice none 0 0]) ?_ 3 _ rfl; (with_reducible repeat (first | apply kN_ | apply kD_ | apply kA_)); refine blk_put (cs := #[.int .i64 t196, .int .i64 t197, .int .i64 0, .int .i64 0, .slice none 0 0, .slice none 0 0]) ?_ 2 _ rfl; (with_reducible repeat (first | apply kN_ | apply kD_ | apply kA_)); refine blk_put (cs := #[.int .i64 t196, .int .i64 0, .int .i64 0, .int .i64 0, .slice none 0 0, .slice none 0 0]) ?_ 1 _ rfl; (with_reducible repeat (first | apply kN_ | apply kD_ | apply kA_)); refine blk_put (cs := #[.int .i64 0, .int .i64 0, .int .i64 0, .int .i64 0, .slice none 0 0, .slice none 0 0]) ?_ 0 _ rfl; (with_reducible repeat (first | apply kN_ | apply kD_ | apply kA_)); refine blk_far ?_ NB195_206.out _; (with_reducible repeat (first | apply kN_ | apply kD_ | apply kA_)); exact BK195.out) Try.underlying25 rfl (by kernel_rfl)) rfl ?_
        exact ⟨_, _, by first | rfl | (simp [errW_none, errW_some] <;> rfl) | (simp [*, errW_none, errW_some] <;> rfl), by (with_reducible repeat (first | apply rA_ | apply rN_ | apply rD_)); exact Kd.R_mono (Kd.R_far (Kd.R_far (Kd.R_far (Kd.R_far (Kd.R_far (Kd.R_far (Kd.R_far (Kd.R_types (Kd.R_types HO202.out BK206.out (by decide)) BK195.out (by decide)) (fun _ hk => hk.1.2) (.int .i64 0)) (fun _ hk => hk.2) (.int .i64 t196)) (fun _ hk => hk.2) (.int .i64 t197)) (fun _ hk => hk.2) (.int .i64 t198)) (fun _ hk => hk.2) (.int .i64 0)) (fun _ hk => hk.2) (.slice Ao17 t200.length co17)) (fun _ hk => hk.2) (.slice Ao18 t203.length co18)) (fun _ hk => hk.1.1), Kd.Q_of_R (by (with_reducible repeat (first | apply rA_ | apply rN_ | apply rD_)); exact Kd.R_mono (Kd.R_far (Kd.R_far (Kd.R_far (Kd.R_far (Kd.R_far (Kd.R_far (Kd.R_far (Kd.R_types (Kd.R_types HO205.out BK206.out (by decide)) BK195.out (by decide)) (fun _ hk => hk.1.2) (.int .i64 0)) (fun _ hk => hk.2) (.int .i64 t196)) (fun _ hk => hk.2) (.int .i64 t197)) (fun _ hk => hk.2) (.int .i64 t198)) (fun _ hk => hk.2) (.int .i64 0)) (fun _ hk => hk.2) (.slice Ao17 t200.length co17)) (fun _ hk => hk.2) (.slice Ao18 t203.length co18)) (fun _ hk => hk.1.1)), by repeat (first | (with_reducible first | exact HI0.out | apply IsS111.alloc | apply IsS111.drewN | apply IsS111.drew | apply IsS111.set_1 | refine IsS111.far ?_ NB0_194.out _ | refine IsS111.far ?_ NB0_195.out _ | refine IsS111.far ?_ NB0_206.out _) | exact HI0.out), by repeat (first | (with_reducible first | exact HB.out | apply wA_ | apply wN_ | apply wD_ | refine below_set ?_ (IsS111.ge HI0.out) | refine below_set ?_ GE194.out | refine below_set ?_ GE195.out | refine below_set ?_ GE206.out) | exact HB.out), by repeat (first | (with_reducible first | exact HK.out | apply pS_ | apply pN_ | apply pD_ | apply pA_ | refine keep_far ?_ GW194.out _ | refine keep_far ?_ GW195.out _ | refine keep_far ?_ GW206.out _) | exact HK.out)⟩

end Go.Proofs.Ytabjhgimeldpeaa.PFnImageRgb
