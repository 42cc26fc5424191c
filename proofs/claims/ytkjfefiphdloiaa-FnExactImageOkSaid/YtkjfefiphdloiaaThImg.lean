/- Plain lemmas: what pictures are ok. No condition. -/
import Derived.Test.YtkjfefiphdloiaaThBase
namespace Go.Proofs.Ytkjfefiphdloiaa.Th
open Go.RowKit Go.Proofs.YtkjfefiphdloiaaW.PrintWords Go.Proofs.YtkjfefiphdloiaaW.PrintMore

/-- A kind and a depth that go together. -/
def depP (k d : Int) : Prop := ((k = 1 ∨ k = 4) ∧ (d = 1 ∨ d = 2 ∨ d = 4 ∨ d = 8)) ∨ (k = 2 ∧ d = 24) ∨ (k = 3 ∧ d = 32)
instance (k d : Int) : Decidable (depP k d) := by unfold depP; infer_instance
def inAll (l : List Int) (m : Int) : Prop := ∀ x ∈ l, 0 ≤ x ∧ x ≤ m
instance (l : List Int) (m : Int) : Decidable (inAll l m) := by unfold inAll; infer_instance
theorem inAll_cons (x : Int) (l : List Int) (m : Int) : inAll (x :: l) m ↔ (0 ≤ x ∧ x ≤ m) ∧ inAll l m := by simp [inAll]
theorem inAll_nil (m : Int) : inAll [] m := by simp [inAll]
theorem inAll_app (a b : List Int) (m : Int) : inAll (a ++ b) m ↔ inAll a m ∧ inAll b m := by
  unfold inAll
  exact ⟨fun h => ⟨fun x hx => h x (List.mem_append_left _ hx), fun x hx => h x (List.mem_append_right _ hx)⟩, fun h x hx => (List.mem_append.1 hx).elim (h.1 x) (h.2 x)⟩
theorem inAll_rd {l : List Int} {m : Int} (h : inAll l m) {i : Int} (h0 : 0 ≤ i) (h1 : i < l.length) : 0 ≤ rd l i ∧ rd l i ≤ m := by
  unfold rd
  rw [List.getD_eq_getElem?_getD, List.getElem?_eq_getElem (by omega)]
  exact h _ (List.getElem_mem _)
/-- A picture that is ok. -/
def imgP (k d wd h : Int) (c p : List Int) : Prop :=
  depP k d ∧ (1 ≤ wd ∧ wd ≤ 20) ∧ (1 ≤ h ∧ h ≤ 20) ∧ (p.length : Int) = wd * h ∧
    ((k = 4 ∧ (1 ≤ (c.length : Int) ∧ (c.length : Int) ≤ P2 d.toNat) ∧ inAll c 16777215 ∧ inAll p ((c.length : Int) - 1)) ∨ (k ≠ 4 ∧ c = [] ∧ inAll p (P2 d.toNat - 1)))
instance (k d wd h : Int) (c p : List Int) : Decidable (imgP k d wd h c p) := by unfold imgP; infer_instance
def imgM (k d wd h : Int) (c p : List Int) : Bool := decide (imgP k d wd h c p)
theorem depP_b {k d : Int} (h : depP k d) : 1 ≤ d ∧ d ≤ 32 := by unfold depP at h; omega
theorem any_inAll (l : List Int) (m : Int) : (l.any fun n => !(decide (0 ≤ n ∧ n ≤ m))) = !(decide (inAll l m)) := by
  induction l with
  | nil => simp [inAll_nil]
  | cons x l ih =>
    rw [List.any_cons, ih]
    by_cases h1 : 0 ≤ x ∧ x ≤ m
    · by_cases h2 : inAll l m
      · simp [h1, h2, inAll_cons]
      · have h3 : ¬ inAll (x :: l) m := fun h => h2 ((inAll_cons _ _ _).1 h).2
        simp [h1, h2, h3]
    · have h3 : ¬ inAll (x :: l) m := fun h => h1 ((inAll_cons _ _ _).1 h).1
      rw [decide_eq_false h1, decide_eq_false h3]; rfl
theorem mul20 {a b : Int} (ha : 1 ≤ a ∧ a ≤ 20) (hb : 1 ≤ b ∧ b ≤ 20) : 1 ≤ a * b ∧ a * b ≤ 400 := by
  have h1 : 1 * 1 ≤ a * b := Int.mul_le_mul ha.1 hb.1 (by omega) (by omega)
  have h2 : a * b ≤ 20 * 20 := Int.mul_le_mul ha.2 hb.2 (by omega) (by omega)
  omega
end Go.Proofs.Ytkjfefiphdloiaa.Th
