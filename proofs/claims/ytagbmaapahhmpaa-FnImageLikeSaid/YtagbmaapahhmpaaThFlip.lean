/- Plain lemmas: a picture turned upside down, or to the right, and again. No condition. -/
import Derived.Test.YtagbmaapahhmpaaThGen
namespace Go.Proofs.Ytagbmaapahhmpaa.Th
open Go.RowKit Go.Proofs.YtagbmaapahhmpaaW.PrintWords Go.Proofs.YtagbmaapahhmpaaW.PrintMore

/-- A picture of points of another one is ok, too. -/
theorem gen_ok {k d wd h : Int} {c p : List Int} (hi : imgP k d wd h c p) (w' h' : Nat) (hw : 1 ≤ w' ∧ w' ≤ 20) (hh : 1 ≤ h' ∧ h' ≤ 20) (g : Nat → Nat → Int) (hg : ∀ x y, x < w' → y < h' → ∃ i : Int, 0 ≤ i ∧ i < p.length ∧ g x y = rd p i) : imgP k d (w' : Int) (h' : Int) c (genL g w' h') := by
  obtain ⟨hd, -, -, hl, hr⟩ := hi
  refine ⟨hd, by omega, by omega, ?_, ?_⟩
  · rw [genL_length, Nat.mul_comm]; simp
  · have hall : ∀ m, inAll p m → inAll (genL g w' h') m := by
      intro m hm v hv
      obtain ⟨x, y, hx, hy, rfl⟩ := genL_mem hv
      obtain ⟨i, i0, i1, e⟩ := hg x y hx hy
      rw [e]; exact inAll_rd hm i0 i1
    rcases hr with ⟨h4, h5, h6, h7⟩ | ⟨h4, h5, h6⟩
    · exact .inl ⟨h4, h5, h6, hall _ h7⟩
    · exact .inr ⟨h4, h5, hall _ h6⟩
theorem imgP_nat {k d wd h : Int} {c p : List Int} (hi : imgP k d wd h c p) : ∃ W H : Nat, wd = (W : Int) ∧ h = (H : Int) ∧ (1 ≤ W ∧ W ≤ 20) ∧ (1 ≤ H ∧ H ≤ 20) ∧ p.length = H * W ∧ p.length ≤ 400 := by
  obtain ⟨-, hw, hh, hl, -⟩ := hi
  have h4 := mul20 hw hh
  refine ⟨wd.toNat, h.toNat, by omega, by omega, by omega, by omega, ?_, by omega⟩
  have e : (p.length : Int) = ((h.toNat * wd.toNat : Nat) : Int) := by
    rw [hl, Int.natCast_mul, Int.toNat_of_nonneg (by omega), Int.toNat_of_nonneg (by omega), Int.mul_comm]
  omega
theorem flip_ok {k d wd h : Int} {c p : List Int} (hi : imgP k d wd h c p) : imgP k d wd h c (flipL wd h p) := by
  obtain ⟨W, H, rfl, rfl, hW, hH, hl, -⟩ := imgP_nat hi
  unfold flipL
  rw [Int.toNat_natCast, Int.toNat_natCast]
  refine gen_ok hi W H hW hH _ fun x y hx hy => ⟨_, ?_, ?_, rfl⟩
  · have := place_lt (wd := (W : Int)) (h := (H : Int)) (x := (x : Int)) (y := (H : Int) - 1 - (y : Int)) (by omega) (by omega) (by omega) (by omega)
    omega
  · have := place_lt (wd := (W : Int)) (h := (H : Int)) (x := (x : Int)) (y := (H : Int) - 1 - (y : Int)) (by omega) (by omega) (by omega) (by omega)
    have e : (p.length : Int) = (W : Int) * (H : Int) := by rw [hl, Nat.mul_comm]; simp
    omega
theorem turn_ok {k d wd h : Int} {c p : List Int} (hi : imgP k d wd h c p) : imgP k d h wd c (turnL wd h p) := by
  obtain ⟨W, H, rfl, rfl, hW, hH, hl, -⟩ := imgP_nat hi
  unfold turnL
  rw [Int.toNat_natCast, Int.toNat_natCast]
  refine gen_ok hi H W hH hW _ fun x y hx hy => ⟨_, ?_, ?_, rfl⟩
  · have := place_lt (wd := (W : Int)) (h := (H : Int)) (x := (y : Int)) (y := (H : Int) - 1 - (x : Int)) (by omega) (by omega) (by omega) (by omega)
    omega
  · have := place_lt (wd := (W : Int)) (h := (H : Int)) (x := (y : Int)) (y := (H : Int) - 1 - (x : Int)) (by omega) (by omega) (by omega) (by omega)
    have e : (p.length : Int) = (W : Int) * (H : Int) := by rw [hl, Nat.mul_comm]; simp
    omega
theorem flip_rd (W H : Nat) (p : List Int) {x y : Nat} (hx : x < W) (hy : y < H) : rd (flipL (W : Int) (H : Int) p) ((y : Int) * (W : Int) + (x : Int)) = rd p (((H : Int) - 1 - (y : Int)) * (W : Int) + (x : Int)) := by
  unfold flipL
  rw [Int.toNat_natCast, Int.toNat_natCast]
  exact rd_genL _ hx hy
theorem flip_flip {k d wd h : Int} {c p : List Int} (hi : imgP k d wd h c p) : flipL wd h (flipL wd h p) = p := by
  obtain ⟨W, H, rfl, rfl, hW, hH, hl, -⟩ := imgP_nat hi
  refine Eq.trans ?_ (genL_self p W H hl)
  rw [show flipL (W : Int) (H : Int) (flipL (W : Int) (H : Int) p) = genL (fun x y => rd (flipL (W : Int) (H : Int) p) (((H : Int) - 1 - (y : Int)) * (W : Int) + (x : Int))) W H from by rw [flipL]; rw [Int.toNat_natCast, Int.toNat_natCast]]
  refine genL_congr fun x y hx hy => ?_
  try dsimp only
  obtain ⟨y', hy'⟩ : ∃ y' : Nat, (y' : Int) = (H : Int) - 1 - (y : Int) := ⟨H - 1 - y, by omega⟩
  rw [← hy', flip_rd W H p hx (by omega), show (H : Int) - 1 - (y' : Int) = (y : Int) by omega]
/-- Turned twice: read from the end. -/
def t2L (W H : Nat) (p : List Int) : List Int := genL (fun x y => rd p (((H : Int) - 1 - (y : Int)) * (W : Int) + ((W : Int) - 1 - (x : Int)))) W H
theorem turn_rd (W H : Nat) (p : List Int) {x y : Nat} (hx : x < H) (hy : y < W) : rd (turnL (W : Int) (H : Int) p) ((y : Int) * (H : Int) + (x : Int)) = rd p (((H : Int) - 1 - (x : Int)) * (W : Int) + (y : Int)) := by
  unfold turnL
  rw [Int.toNat_natCast, Int.toNat_natCast]
  exact rd_genL _ hx hy
theorem turn_turn (W H : Nat) (p : List Int) : turnL (H : Int) (W : Int) (turnL (W : Int) (H : Int) p) = t2L W H p := by
  rw [show turnL (H : Int) (W : Int) (turnL (W : Int) (H : Int) p) = genL (fun x y => rd (turnL (W : Int) (H : Int) p) (((W : Int) - 1 - (x : Int)) * (H : Int) + (y : Int))) W H from by rw [turnL]; rw [Int.toNat_natCast, Int.toNat_natCast]]
  refine genL_congr fun x y hx hy => ?_
  try dsimp only
  obtain ⟨x', hx'⟩ : ∃ x' : Nat, (x' : Int) = (W : Int) - 1 - (x : Int) := ⟨W - 1 - x, by omega⟩
  rw [← hx', turn_rd W H p hy (by omega)]
theorem t2_length (W H : Nat) (p : List Int) : (t2L W H p).length = H * W := genL_length _ _ _
/-- From the end. -/
theorem t2_rd (W H : Nat) (p : List Int) (hW : 1 ≤ W) {i : Nat} (hi : i < H * W) : rd (t2L W H p) (((H * W - 1 - i : Nat) : Int)) = rd p (i : Int) := by
  have hx : i % W < W := Nat.mod_lt _ hW
  have hy : i / W < H := by rw [Nat.div_lt_iff_lt_mul hW]; exact hi
  have hdm := Nat.div_add_mod i W
  rw [Nat.mul_comm] at hdm
  generalize i / W = q at hy hdm
  generalize i % W = s at hx hdm
  obtain ⟨x, hx2⟩ : ∃ x, x = W - 1 - s := ⟨_, rfl⟩
  obtain ⟨y, hy2⟩ : ∃ y, y = H - 1 - q := ⟨_, rfl⟩
  have e : (y : Int) * (W : Int) + (x : Int) = ((H * W - 1 - i : Nat) : Int) := by
    have h1 : (y + (q + 1)) * W = H * W := by rw [show y + (q + 1) = H by omega]
    rw [Nat.add_mul, Nat.succ_mul] at h1
    have h2 : ((y * W + x : Nat) : Int) = ((H * W - 1 - i : Nat) : Int) := by congr 1; omega
    rw [← h2]; simp
  have h3 := rd_genL (fun x y => rd p (((H : Int) - 1 - (y : Int)) * (W : Int) + ((W : Int) - 1 - (x : Int)))) (wide := W) (x := x) (by omega) (high := H) (y := y) (by omega)
  rw [e] at h3
  rw [show t2L W H p = genL (fun x y => rd p (((H : Int) - 1 - (y : Int)) * (W : Int) + ((W : Int) - 1 - (x : Int)))) W H from rfl, h3]
  congr 1
  have h4 : ((q * W + s : Nat) : Int) = (i : Int) := by rw [hdm]
  rw [show (H : Int) - 1 - (y : Int) = (q : Int) by omega, show (W : Int) - 1 - (x : Int) = (s : Int) by omega, ← h4]
  simp
theorem t2_t2 (W H : Nat) (p : List Int) (hW : 1 ≤ W) (hl : p.length = H * W) : t2L W H (t2L W H p) = p := by
  refine List.ext_getElem (by rw [t2_length, hl]) fun i h1 h2 => ?_
  have a := t2_rd W H (t2L W H p) hW (i := H * W - 1 - i) (by omega)
  have b := t2_rd W H p hW (i := i) (by omega)
  rw [show H * W - 1 - (H * W - 1 - i) = i by omega, b, rd_getElem h1, rd_getElem h2] at a
  exact a
theorem flipM_of {k d wd h : Int} {c p : List Int} (hi : imgP k d wd h c p) : flipM k d wd h c p = (k, d, wd, h, c, flipL wd h p) := if_pos hi
theorem flipM_not {k d wd h : Int} {c p : List Int} (hi : ¬ imgP k d wd h c p) : flipM k d wd h c p = (0, 0, 0, 0, [], []) := if_neg hi
theorem turnM_of {k d wd h : Int} {c p : List Int} (hi : imgP k d wd h c p) : turnM k d wd h c p = (k, d, h, wd, c, turnL wd h p) := if_pos hi
theorem turnM_not {k d wd h : Int} {c p : List Int} (hi : ¬ imgP k d wd h c p) : turnM k d wd h c p = (0, 0, 0, 0, [], []) := if_neg hi
end Go.Proofs.Ytagbmaapahhmpaa.Th
