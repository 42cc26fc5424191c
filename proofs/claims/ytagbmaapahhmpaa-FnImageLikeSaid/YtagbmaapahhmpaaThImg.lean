/- Plain lemmas: what pictures are ok. No condition. -/
import Derived.Test.YtagbmaapahhmpaaThBase
namespace Go.Proofs.Ytagbmaapahhmpaa.Th
open Go.RowKit Go.Proofs.YtagbmaapahhmpaaW.PrintWords Go.Proofs.YtagbmaapahhmpaaW.PrintMore

/-- A kind and a depth that go together. -/
def depP (k d : Int) : Prop := ((k = 1 ∨ k = 4) ∧ (d = 1 ∨ d = 2 ∨ d = 4 ∨ d = 8)) ∨ (k = 2 ∧ d = 24) ∨ (k = 3 ∧ d = 32)
instance (k d : Int) : Decidable (depP k d) := by unfold depP; infer_instance
def inAll (l : List Int) (m : Int) : Prop := ∀ x ∈ l, 0 ≤ x ∧ x ≤ m
instance (l : List Int) (m : Int) : Decidable (inAll l m) := by unfold inAll; infer_instance
theorem inAll_cons (x : Int) (l : List Int) (m : Int) : inAll (x :: l) m ↔ (0 ≤ x ∧ x ≤ m) ∧ inAll l m := by simp [inAll]
theorem inAll_nil (m : Int) : inAll [] m := by simp [inAll]
theorem inAll_app (a b : List Int) (m : Int) : inAll (a ++ b) m ↔ inAll a m ∧ inAll b m := by
  unfold inAll
  exact ⟨fun h => ⟨fun x hx => h x (List.mem_append_left _ hx), fun x hx => h x (List.mem_append_right _ hx)⟩, fun h x hx => (List.mem_append.1 hx).elim (h.1 x) (h.2 x)⟩
theorem inAll_rd {l : List Int} {m : Int} (h : inAll l m) {i : Int} (h0 : 0 ≤ i) (h1 : i < l.length) : 0 ≤ rd l i ∧ rd l i ≤ m := by
  unfold rd
  rw [List.getD_eq_getElem?_getD, List.getElem?_eq_getElem (by omega)]
  exact h _ (List.getElem_mem _)
/-- A picture that is ok. -/
def imgP (k d wd h : Int) (c p : List Int) : Prop :=
  depP k d ∧ (1 ≤ wd ∧ wd ≤ 20) ∧ (1 ≤ h ∧ h ≤ 20) ∧ (p.length : Int) = wd * h ∧
    ((k = 4 ∧ (1 ≤ (c.length : Int) ∧ (c.length : Int) ≤ P2 d.toNat) ∧ inAll c 16777215 ∧ inAll p ((c.length : Int) - 1)) ∨ (k ≠ 4 ∧ c = [] ∧ inAll p (P2 d.toNat - 1)))
instance (k d wd h : Int) (c p : List Int) : Decidable (imgP k d wd h c p) := by unfold imgP; infer_instance
def imgM (k d wd h : Int) (c p : List Int) : Bool := decide (imgP k d wd h c p)
theorem depP_b {k d : Int} (h : depP k d) : 1 ≤ d ∧ d ≤ 32 := by unfold depP at h; omega
theorem any_inAll (l : List Int) (m : Int) : (l.any fun n => !(decide (0 ≤ n ∧ n ≤ m))) = !(decide (inAll l m)) := by
  induction l with
  | nil => simp [inAll_nil]
  | cons x l ih =>
    rw [List.any_cons, ih]
    by_cases h1 : 0 ≤ x ∧ x ≤ m
    · by_cases h2 : inAll l m
      · simp [h1, h2, inAll_cons]
      · have h3 : ¬ inAll (x :: l) m := fun h => h2 ((inAll_cons _ _ _).1 h).2
        simp [h1, h2, h3]
    · have h3 : ¬ inAll (x :: l) m := fun h => h1 ((inAll_cons _ _ _).1 h).1
      rw [decide_eq_false h1, decide_eq_false h3]; rfl
theorem mul20 {a b : Int} (ha : 1 ≤ a ∧ a ≤ 20) (hb : 1 ≤ b ∧ b ≤ 20) : 1 ≤ a * b ∧ a * b ≤ 400 := by
  have h1 : 1 * 1 ≤ a * b := Int.mul_le_mul ha.1 hb.1 (by omega) (by omega)
  have h2 : a * b ≤ 20 * 20 := Int.mul_le_mul ha.2 hb.2 (by omega) (by omega)
  omega
/-- A point's colour, of its number. -/
def colM (k d : Int) (c : List Int) (x : Int) : Int :=
  if k = 1 then x * 255 / (P2 d.toNat - 1) * 16843008 + 255 else if k = 2 then 256 * x + 255 else if k = 4 then 256 * rd c x + 255 else x
/-- A number that a point may have. -/
def ptP (k d : Int) (c : List Int) (x : Int) : Prop := (k = 4 ∧ 0 ≤ x ∧ x < c.length ∧ 0 ≤ rd c x ∧ rd c x ≤ 16777215) ∨ (k ≠ 4 ∧ 0 ≤ x ∧ x ≤ P2 d.toNat - 1)
theorem depP_pow {k d : Int} (h : depP k d) : (k = 1 ∧ (P2 d.toNat = 2 ∨ P2 d.toNat = 4 ∨ P2 d.toNat = 16 ∨ P2 d.toNat = 256)) ∨ (k = 4 ∧ P2 d.toNat ≤ 256) ∨ (k = 2 ∧ P2 d.toNat = 16777216) ∨ (k = 3 ∧ P2 d.toNat = 4294967296) := by
  rcases h with ⟨h1 | h1, h2 | h2 | h2 | h2⟩ | ⟨h1, h2⟩ | ⟨h1, h2⟩ <;> subst h1 <;> subst h2 <;> simp [P2]
theorem imgP_pt {k d wd h : Int} {c p : List Int} (hi : imgP k d wd h c p) {x : Int} (hx : x ∈ p) : ptP k d c x := by
  obtain ⟨-, -, -, -, ⟨h4, h5, h6, h7⟩ | ⟨h4, h5, h6⟩⟩ := hi
  · have := h7 x hx
    have h8 := inAll_rd h6 (i := x) (by omega) (by omega)
    exact .inl ⟨h4, by omega, by omega, h8.1, h8.2⟩
  · have := h6 x hx
    exact .inr ⟨h4, this.1, this.2⟩
theorem gray_b {x m : Int} (hm : m = 1 ∨ m = 3 ∨ m = 15 ∨ m = 255) (h : 0 ≤ x ∧ x ≤ m) : 0 ≤ x * 255 / m ∧ x * 255 / m ≤ 255 := by
  rcases hm with rfl | rfl | rfl | rfl <;> omega
theorem colM_b {k d : Int} {c : List Int} {x : Int} (hd : depP k d) (h : ptP k d c x) : 0 ≤ colM k d c x ∧ colM k d c x ≤ 4294967295 := by
  have hp := depP_pow hd
  unfold colM
  by_cases h1 : k = 1
  · rw [if_pos h1]
    rcases h with h | h
    · omega
    · have := gray_b (x := x) (m := P2 d.toNat - 1) (by omega) (by omega)
      omega
  · rw [if_neg h1]
    by_cases h2 : k = 2
    · rw [if_pos h2]
      rcases h with h | h
      · omega
      · omega
    · rw [if_neg h2]
      by_cases h4 : k = 4
      · rw [if_pos h4]
        rcases h with h | h
        · omega
        · omega
      · rw [if_neg h4]
        rcases h with h | h
        · omega
        · omega
theorem mem_rd {l : List Int} {i : Int} (h0 : 0 ≤ i) (h1 : i < l.length) : rd l i ∈ l := by
  unfold rd
  rw [List.getD_eq_getElem?_getD, List.getElem?_eq_getElem (by omega)]
  exact List.getElem_mem _
/-- What stands at a place. -/
def atM (k d wd h : Int) (c p : List Int) (x y : Int) : Int × Bool :=
  if imgP k d wd h c p ∧ (0 ≤ x ∧ x ≤ wd - 1) ∧ (0 ≤ y ∧ y ≤ h - 1) then (rd p (y * wd + x), true) else (0, false)
def colorM (k d wd h : Int) (c p : List Int) (x y : Int) : Int × Bool :=
  if imgP k d wd h c p ∧ (0 ≤ x ∧ x ≤ wd - 1) ∧ (0 ≤ y ∧ y ≤ h - 1) then (colM k d c (rd p (y * wd + x)), true) else (0, false)
theorem place_b {wd h x y : Int} (hw : 1 ≤ wd ∧ wd ≤ 20) (hh : 1 ≤ h ∧ h ≤ 20) (hx : 0 ≤ x ∧ x ≤ wd - 1) (hy : 0 ≤ y ∧ y ≤ h - 1) : 0 ≤ y * wd ∧ y * wd + x < wd * h ∧ wd * h ≤ 400 := by
  have h1 : 0 ≤ y * wd := Int.mul_nonneg hy.1 (by omega)
  have h2 : (y + 1) * wd ≤ h * wd := Int.mul_le_mul_of_nonneg_right (by omega) (by omega)
  have h3 := (mul20 hw hh).2
  rw [Int.add_mul] at h2
  rw [Int.mul_comm wd h]
  rw [Int.mul_comm wd h] at h3
  omega
/-- A picture with colours of red, green and blue, if all are dense. -/
def rgbL (k d : Int) (c p : List Int) : List Int := p.map fun x => colM k d c x / 256
def denseP (k d : Int) (c p : List Int) : Prop := ∀ x ∈ p, colM k d c x % 256 = 255
instance (k d : Int) (c p : List Int) : Decidable (denseP k d c p) := by unfold denseP; infer_instance
def rgbM (k d wd h : Int) (c p : List Int) : Int × Int × Int × Int × List Int × List Int × Bool :=
  if imgP k d wd h c p ∧ denseP k d c p then (2, 24, wd, h, [], rgbL k d c p, true) else (0, 0, 0, 0, [], [], false)
/-- Do two look the same? -/
def likeP (k d wd h : Int) (c p : List Int) (k' d' wd' h' : Int) (c' p' : List Int) : Prop :=
  imgP k d wd h c p ∧ imgP k' d' wd' h' c' p' ∧ wd = wd' ∧ h = h' ∧ p.map (colM k d c) = p'.map (colM k' d' c')
instance (k d wd h : Int) (c p : List Int) (k' d' wd' h' : Int) (c' p' : List Int) : Decidable (likeP k d wd h c p k' d' wd' h' c' p') := by unfold likeP; infer_instance
/-- The first place of a number in a list, or -1. -/
def findM (l : List Int) (x : Int) (i : Int) : Int :=
  match l with
  | [] => -1
  | y :: l => if y = x then i else findM l x (i + 1)
theorem findM_b (x : Int) : ∀ (l : List Int) (i : Int), 0 ≤ i → (findM l x i = -1 ∧ x ∉ l) ∨ (i ≤ findM l x i ∧ findM l x i < i + l.length ∧ rd l (findM l x i - i) = x) := by
  intro l
  induction l with
  | nil => intro i _; left; simp [findM]
  | cons y l ih =>
    intro i hi
    simp only [findM]
    by_cases h : y = x
    · rw [if_pos h]; right
      refine ⟨by omega, by simp; omega, ?_⟩
      rw [show i - i = 0 by omega]; simpa [rd] using h
    · rw [if_neg h]
      rcases ih (i + 1) (by omega) with h1 | h1
      · left; exact ⟨h1.1, by simp; exact ⟨fun e => h e.symm, h1.2⟩⟩
      · right
        refine ⟨by omega, by simp only [List.length_cons]; omega, ?_⟩
        obtain ⟨n, hn⟩ : ∃ n : Nat, findM l x (i + 1) - (i + 1) = (n : Int) := ⟨(findM l x (i + 1) - (i + 1)).toNat, by omega⟩
        rw [hn] at h1
        rw [show findM l x (i + 1) - i = ((n + 1 : Nat) : Int) by omega]
        simpa [rd] using h1.2.2
/-- The colours as they come first, and the points. -/
def palL : List Int → List Int → List Int → List Int × List Int
  | [], cs, out => (cs, out)
  | x :: p, cs, out => if findM cs x 0 < 0 then palL p (cs ++ [x]) (out ++ [(cs.length : Int)]) else palL p cs (out ++ [findM cs x 0])
def depOf (n : Nat) : Int := if n ≤ 2 then 1 else if n ≤ 4 then 2 else if n ≤ 16 then 4 else 8
def palM (k d wd h : Int) (c p : List Int) : Int × Int × Int × Int × List Int × List Int × Bool :=
  if imgP k d wd h c p ∧ denseP k d c p ∧ (palL (rgbL k d c p) [] []).1.length ≤ 256 then (4, depOf (palL (rgbL k d c p) [] []).1.length, wd, h, (palL (rgbL k d c p) [] []).1, (palL (rgbL k d c p) [] []).2, true) else (0, 0, 0, 0, [], [], false)
theorem palL_length : ∀ (p cs out : List Int), (palL p cs out).1.length ≤ cs.length + p.length ∧ (palL p cs out).2.length = out.length + p.length := by
  intro p
  induction p with
  | nil => intro cs out; simp [palL]
  | cons x p ih =>
    intro cs out
    simp only [palL]
    split
    · have := ih (cs ++ [x]) (out ++ [(cs.length : Int)])
      simp at this ⊢; omega
    · have := ih cs (out ++ [findM cs x 0])
      simp at this ⊢; omega
end Go.Proofs.Ytagbmaapahhmpaa.Th
