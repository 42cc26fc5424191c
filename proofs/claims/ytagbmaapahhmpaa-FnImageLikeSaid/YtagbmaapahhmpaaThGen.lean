/- Plain lemmas: lists of points, row by row. No condition. -/
import Derived.Test.YtagbmaapahhmpaaThImg
namespace Go.Proofs.Ytagbmaapahhmpaa.Th
open Go.RowKit Go.Proofs.YtagbmaapahhmpaaW.PrintWords Go.Proofs.YtagbmaapahhmpaaW.PrintMore

def rowL (g : Nat → Nat → Int) (wide y : Nat) : List Int := (List.range wide).map fun x => g x y
def genL (g : Nat → Nat → Int) (wide high : Nat) : List Int := (List.range high).flatMap fun y => rowL g wide y
theorem rowL_length (g : Nat → Nat → Int) (wide y : Nat) : (rowL g wide y).length = wide := by simp [rowL]
theorem genL_succ (g : Nat → Nat → Int) (wide high : Nat) : genL g wide (high + 1) = genL g wide high ++ rowL g wide high := by
  unfold genL; rw [List.range_succ, List.flatMap_append]; simp
theorem rowL_succ (g : Nat → Nat → Int) (wide y : Nat) : rowL g (wide + 1) y = rowL g wide y ++ [g wide y] := by
  unfold rowL; rw [List.range_succ, List.map_append]; simp
theorem genL_length (g : Nat → Nat → Int) (wide high : Nat) : (genL g wide high).length = high * wide := by
  induction high with
  | zero => simp [genL]
  | succ n ih => rw [genL_succ, List.length_append, ih, rowL_length, Nat.succ_mul]
theorem genL_small (g : Nat → Nat → Int) {wide high : Nat} (hw : wide ≤ 20) (hh : high ≤ 20) : (genL g wide high).length ≤ 400 := by
  rw [genL_length]; exact Nat.mul_le_mul hh hw
theorem genL_congr {f g : Nat → Nat → Int} {wide high : Nat} (h : ∀ x y, x < wide → y < high → f x y = g x y) : genL f wide high = genL g wide high := by
  induction high with
  | zero => rfl
  | succ n ih =>
    rw [genL_succ, genL_succ, ih (fun x y hx hy => h x y hx (by omega))]
    congr 1
    unfold rowL
    refine List.map_congr_left fun x hx => ?_
    exact h x n (List.mem_range.1 hx) (by omega)
theorem rd_rowL (g : Nat → Nat → Int) {wide x : Nat} (y : Nat) (hx : x < wide) : rd (rowL g wide y) (x : Int) = g x y := by
  unfold rd rowL
  rw [Int.toNat_natCast, List.getD_eq_getElem?_getD, List.getElem?_map, List.getElem?_range hx]; rfl
theorem rd_app_left {a b : List Int} {i : Nat} (h : i < a.length) : rd (a ++ b) (i : Int) = rd a (i : Int) := by
  unfold rd; rw [Int.toNat_natCast, List.getD_eq_getElem?_getD, List.getElem?_append_left h, ← List.getD_eq_getElem?_getD]
theorem rd_app_right {a b : List Int} {i j : Nat} (h : j = a.length + i) : rd (a ++ b) (j : Int) = rd b (i : Int) := by
  unfold rd; rw [Int.toNat_natCast, Int.toNat_natCast, List.getD_eq_getElem?_getD, List.getElem?_append_right (by omega), ← List.getD_eq_getElem?_getD, show j - a.length = i by omega]
/-- The point at x and y. -/
theorem rd_genL (g : Nat → Nat → Int) {wide x y : Nat} (hx : x < wide) : ∀ {high : Nat}, y < high → rd (genL g wide high) ((y : Int) * (wide : Int) + (x : Int)) = g x y := by
  intro high
  induction high with
  | zero => intro h; omega
  | succ n ih =>
    intro h
    rw [genL_succ, show (y : Int) * (wide : Int) + (x : Int) = ((y * wide + x : Nat) : Int) by simp]
    by_cases c : y < n
    · have hl : y * wide + x < n * wide := by
        have h1 : (y + 1) * wide ≤ n * wide := Nat.mul_le_mul_right _ c
        rw [Nat.succ_mul] at h1; omega
      rw [rd_app_left (by rw [genL_length]; exact hl)]
      have := ih c
      rw [show (y : Int) * (wide : Int) + (x : Int) = ((y * wide + x : Nat) : Int) by simp] at this
      exact this
    · have e : y = n := by omega
      subst e
      rw [rd_app_right (i := x) (by rw [genL_length])]
      exact rd_rowL g y hx
theorem rd_getElem {l : List Int} {i : Nat} (h : i < l.length) : rd l (i : Int) = l[i] := by
  unfold rd; rw [Int.toNat_natCast, List.getD_eq_getElem?_getD, List.getElem?_eq_getElem h]; rfl
/-- A list is its points, row by row. -/
theorem genL_self (p : List Int) (wide high : Nat) (h : p.length = high * wide) : genL (fun x y => rd p ((y : Int) * (wide : Int) + (x : Int))) wide high = p := by
  refine List.ext_getElem (by rw [genL_length, h]) fun i h1 h2 => ?_
  have hw : 0 < wide := Nat.pos_of_ne_zero fun e => by subst e; rw [genL_length] at h1; omega
  have hx : i % wide < wide := Nat.mod_lt _ hw
  have hy : i / wide < high := by rw [Nat.div_lt_iff_lt_mul hw]; rw [genL_length] at h1; exact h1
  have h3 := rd_genL (fun x y => rd p ((y : Int) * (wide : Int) + (x : Int))) hx hy
  have e : ((i / wide : Nat) : Int) * (wide : Int) + ((i % wide : Nat) : Int) = (i : Int) := by
    have := Nat.div_add_mod i wide
    rw [Nat.mul_comm] at this
    have h5 : ((i / wide * wide + i % wide : Nat) : Int) = (i : Int) := by rw [this]
    rw [← h5]; simp
  simp only [e] at h3
  rw [rd_getElem h1, rd_getElem h2] at h3
  exact h3
/-- A piece of a list is a row of its points. -/
theorem cut_row (p : List Int) (from_ n : Nat) (h : from_ + n ≤ p.length) : (p.take (from_ + n)).drop from_ = (List.range n).map fun j : Nat => rd p ((from_ : Int) + (j : Int)) := by
  refine List.ext_getElem (by simp; omega) fun i h1 h2 => ?_
  have h3 : i < n := by simpa using h2
  rw [List.getElem_drop, List.getElem_take, List.getElem_map, List.getElem_range]
  unfold rd
  rw [show ((from_ : Int) + (i : Int)).toNat = from_ + i by omega, List.getD_eq_getElem?_getD, List.getElem?_eq_getElem (by omega)]
  rfl
theorem genL_mem {g : Nat → Nat → Int} {wide high : Nat} {v : Int} (h : v ∈ genL g wide high) : ∃ x y, x < wide ∧ y < high ∧ v = g x y := by
  unfold genL rowL at h
  obtain ⟨y, hy, h2⟩ := List.mem_flatMap.1 h
  obtain ⟨x, hx, rfl⟩ := List.mem_map.1 h2
  exact ⟨x, y, List.mem_range.1 hx, List.mem_range.1 hy, rfl⟩
def flipL (wd h : Int) (p : List Int) : List Int := genL (fun x y => rd p ((h - 1 - (y : Int)) * wd + (x : Int))) wd.toNat h.toNat
def turnL (wd h : Int) (p : List Int) : List Int := genL (fun x y => rd p ((h - 1 - (x : Int)) * wd + (y : Int))) h.toNat wd.toNat
def cutL (wd : Int) (p : List Int) (x y wide high : Int) : List Int := genL (fun a b => rd p ((y + (b : Int)) * wd + (x + (a : Int)))) wide.toNat high.toNat
def flipM (k d wd h : Int) (c p : List Int) : Int × Int × Int × Int × List Int × List Int := if imgP k d wd h c p then (k, d, wd, h, c, flipL wd h p) else (0, 0, 0, 0, [], [])
def turnM (k d wd h : Int) (c p : List Int) : Int × Int × Int × Int × List Int × List Int := if imgP k d wd h c p then (k, d, h, wd, c, turnL wd h p) else (0, 0, 0, 0, [], [])
def cutP (wd h x y wide high : Int) : Prop := 0 ≤ x ∧ 0 ≤ y ∧ 1 ≤ wide ∧ 1 ≤ high ∧ x + wide ≤ wd ∧ y + high ≤ h
instance (wd h x y wide high : Int) : Decidable (cutP wd h x y wide high) := by unfold cutP; infer_instance
def cutImg (k d wd h : Int) (c p : List Int) (x y wide high : Int) : Int × Int × Int × Int × List Int × List Int × Bool := if imgP k d wd h c p ∧ cutP wd h x y wide high then (k, d, wide, high, c, cutL wd p x y wide high, true) else (0, 0, 0, 0, [], [], false)
/-- Where a point lies. -/
theorem place_lt {wd h x y : Int} (hw : 1 ≤ wd ∧ wd ≤ 20) (hh : 1 ≤ h ∧ h ≤ 20) (hx : 0 ≤ x ∧ x < wd) (hy : 0 ≤ y ∧ y < h) : 0 ≤ y * wd ∧ y * wd + x < wd * h ∧ wd * h ≤ 400 := place_b hw hh (by omega) (by omega)
end Go.Proofs.Ytagbmaapahhmpaa.Th
