/- Plain lemmas: the least of some nodes, what is left without two of them, and a tree's nodes told one by one. No condition. -/
import Derived.Test.YtgajagocenffeaaThHuff
namespace Go.Proofs.Ytgajagocenffeaa.Th

theorem leastN_lt {l : List Nd} (h : l ≠ []) : leastN l < l.length := by
  obtain ⟨l1, a, l2, e, hl, _, _⟩ := leastN_split l h
  rw [← hl, e]; simp
/-- What is first among the least is where leastN says. -/
theorem leastN_is {l : List Nd} {i : Nat} (hi : i < l.length) (h1 : ∀ j, j < i → (l.getD i ⟨0, [], 0⟩).w < (l.getD j ⟨0, [], 0⟩).w) (h2 : ∀ j, j < l.length → (l.getD i ⟨0, [], 0⟩).w ≤ (l.getD j ⟨0, [], 0⟩).w) : leastN l = i := by
  obtain ⟨p, a, q, e, hl, ha, hb⟩ := leastN_split l (by intro h; rw [h] at hi; simp at hi)
  have hat : l.getD p.length ⟨0, [], 0⟩ = a := by rw [e, List.getD_eq_getElem?_getD, List.getElem?_append_right (Nat.le_refl _)]; simp
  have hpl : p.length < l.length := by rw [e]; simp
  rw [← hl]
  rcases Nat.lt_trichotomy p.length i with h | h | h
  · have := h1 p.length h
    rw [hat] at this
    have h3 : a.w ≤ (l.getD i ⟨0, [], 0⟩).w := by
      have hq : l.getD i ⟨0, [], 0⟩ ∈ q := by
        rw [e, List.getD_eq_getElem?_getD, List.getElem?_append_right (by omega)]
        obtain ⟨k, hk⟩ : ∃ k, i - p.length = k + 1 := ⟨i - p.length - 1, by omega⟩
        have hil : i < p.length + (q.length + 1) := by rw [e] at hi; simpa using hi
        rw [hk, List.getElem?_cons_succ, List.getElem?_eq_getElem (by omega)]
        exact List.getElem_mem _
      exact hb _ hq
    omega
  · exact h
  · have := h2 p.length hpl
    rw [hat] at this
    have hm : l.getD i ⟨0, [], 0⟩ ∈ p := by
      rw [e, List.getD_eq_getElem?_getD, List.getElem?_append_left h, List.getElem?_eq_getElem h]
      exact List.getElem_mem _
    have := ha _ hm
    omega
/-- A list without the elements at two places. -/
def skip2 {α : Type} (a b : Nat) : List α → Nat → List α
  | [], _ => []
  | x :: l, i => if i ≠ a ∧ i ≠ b then x :: skip2 a b l (i + 1) else skip2 a b l (i + 1)
theorem skip2_append {α : Type} (a b : Nat) (l m : List α) : ∀ i, skip2 a b (l ++ m) i = skip2 a b l i ++ skip2 a b m (i + l.length) := by
  induction l with
  | nil => intro i; simp [skip2]
  | cons x l ih => intro i; simp only [List.cons_append, skip2, ih, List.length_cons]; rw [show i + 1 + l.length = i + (l.length + 1) by omega]; split <;> rfl
theorem skip2_none {α : Type} (a b : Nat) (l : List α) : ∀ i, a < i → b < i → skip2 a b l i = l := by
  induction l with
  | nil => intro i _ _; rfl
  | cons x l ih => intro i ha hb; simp only [skip2]; rw [if_pos (by omega), ih (i + 1) (by omega) (by omega)]
theorem skip2_one {α : Type} (a b : Nat) (l : List α) : ∀ i, a < i → i ≤ b → skip2 a b l i = l.eraseIdx (b - i) := by
  induction l with
  | nil => intro i _ _; rfl
  | cons x l ih =>
    intro i ha hb
    simp only [skip2]
    by_cases h : i = b
    · subst h
      rw [if_neg (by omega), skip2_none _ _ _ _ (by omega) (by omega), Nat.sub_self]; rfl
    · rw [if_pos (by omega), ih (i + 1) (by omega) (by omega), show b - i = (b - (i + 1)) + 1 by omega]; rfl
theorem skip2_comm {α : Type} (a b : Nat) (l : List α) : ∀ i, skip2 a b l i = skip2 b a l i := by
  induction l with
  | nil => intro i; rfl
  | cons x l ih =>
    intro i
    simp only [skip2, ih]
    by_cases h : i ≠ a ∧ i ≠ b
    · rw [if_pos h, if_pos ⟨h.2, h.1⟩]
    · rw [if_neg h, if_neg (fun h' => h ⟨h'.2, h'.1⟩)]
theorem skip2_erase {α : Type} (a b : Nat) (hab : a ≠ b) (l : List α) : ∀ i, i ≤ a → i ≤ b → skip2 a b l i = (l.eraseIdx (a - i)).eraseIdx (if b < a then b - i else b - 1 - i) := by
  induction l with
  | nil => intro i _ _; rfl
  | cons x l ih =>
    intro i ha hb
    simp only [skip2]
    by_cases h1 : i = a
    · subst h1
      rw [if_neg (by omega), if_neg (by omega), skip2_one _ _ _ _ (by omega) (by omega), Nat.sub_self, show b - 1 - i = b - (i + 1) by omega]; rfl
    · by_cases h2 : i = b
      · subst h2
        rw [if_neg (by omega), skip2_comm, skip2_one _ _ _ _ (by omega) (by omega), if_pos (by omega), Nat.sub_self, show a - i = (a - (i + 1)) + 1 by omega]; rfl
      · rw [if_pos (by omega), ih (i + 1) (by omega) (by omega), show a - i = (a - (i + 1)) + 1 by omega]
        by_cases hba : b < a
        · rw [if_pos hba, if_pos hba, show b - i = (b - (i + 1)) + 1 by omega]; rfl
        · rw [if_neg hba, if_neg hba, show b - 1 - i = (b - 1 - (i + 1)) + 1 by omega]; rfl
/-- Without the least, the next least, as places of the whole list tell it. -/
theorem second_is {l : List Nd} {a b : Nat} (ha : a = leastN l) (hb : b < l.length) (hab : b ≠ a) (hal : a < l.length)
    (h1 : ∀ j, j < b → j ≠ a → (l.getD b ⟨0, [], 0⟩).w < (l.getD j ⟨0, [], 0⟩).w) (h2 : ∀ j, j < l.length → j ≠ a → (l.getD b ⟨0, [], 0⟩).w ≤ (l.getD j ⟨0, [], 0⟩).w) :
    (l.eraseIdx (leastN l)).getD (leastN (l.eraseIdx (leastN l))) ⟨0, [], 0⟩ = l.getD b ⟨0, [], 0⟩ ∧ skip2 a b l 0 = (l.eraseIdx (leastN l)).eraseIdx (leastN (l.eraseIdx (leastN l))) := by
  rw [← ha]
  have hget : ∀ j, (l.eraseIdx a).getD j ⟨0, [], 0⟩ = l.getD (if j < a then j else j + 1) ⟨0, [], 0⟩ := by
    intro j
    rw [List.getD_eq_getElem?_getD, List.getD_eq_getElem?_getD, List.getElem?_eraseIdx]
    split <;> rfl
  have hlen : (l.eraseIdx a).length = l.length - 1 := by rw [List.length_eraseIdx, if_pos hal]
  have e1 : (if (if b < a then b else b - 1) < a then (if b < a then b else b - 1) else (if b < a then b else b - 1) + 1) = b := by
    by_cases c : b < a
    · simp [c]
    · rw [if_neg c, if_neg (show ¬ (b - 1 < a) by omega)]; omega
  have hk : leastN (l.eraseIdx a) = if b < a then b else b - 1 := by
    apply leastN_is
    · rw [hlen]; split <;> omega
    · intro j hj
      rw [hget, hget]
      rw [e1]
      split at hj
      · split
        · exact h1 j (by omega) (by omega)
        · exact h1 (j + 1) (by omega) (by omega)
      · split
        · exact h1 j (by omega) (by omega)
        · exact h1 (j + 1) (by omega) (by omega)
    · intro j hj
      rw [hlen] at hj
      rw [hget, hget]
      rw [e1]
      split
      · exact h2 j (by omega) (by omega)
      · exact h2 (j + 1) (by omega) (by omega)
  constructor
  ·    rw [hk, hget, e1]
  · rw [hk, skip2_erase a b (Ne.symm hab) l 0 (Nat.zero_le _) (Nat.zero_le _)]
    simp
theorem leavesN_append (r s : List Int) : ∀ i, leavesN (r ++ s) i = leavesN r i ++ leavesN s (i + r.length) := by
  induction r with
  | nil => intro i; simp [leavesN]
  | cons n r ih => intro i; simp only [List.cons_append, leavesN, ih, List.length_cons, List.append_assoc]; congr 3; omega
theorem bump_append (o : List Int) (s t : List Int) : bump o (s ++ t) = bump (bump o s) t := by simp [bump, List.foldl_append]
theorem bump_le {M : Int} : ∀ (s o : List Int), (∀ x ∈ o, 0 ≤ x ∧ x ≤ M) → ∀ x ∈ bump o s, 0 ≤ x ∧ x ≤ M + s.length := by
  intro s
  induction s generalizing M with
  | nil => intro o h x hx; have := h x hx; simp; exact this
  | cons a s ih =>
    intro o h x hx
    have e : bump o (a :: s) = bump (o.set a.toNat (o.getD a.toNat 0 + 1)) s := rfl
    rw [e] at hx
    have hM : ∀ y ∈ o.set a.toNat (o.getD a.toNat 0 + 1), 0 ≤ y ∧ y ≤ M + 1 := by
      intro y hy
      rcases List.mem_or_eq_of_mem_set hy with hy | rfl
      · have := h y hy; omega
      · by_cases hl : a.toNat < o.length
        · have hm : o.getD a.toNat 0 ∈ o := by rw [List.getD_eq_getElem?_getD, List.getElem?_eq_getElem hl]; exact List.getElem_mem _
          have := h _ hm; omega
        · rw [List.set_eq_of_length_le (by omega)] at hy
          have := h _ hy; omega
    have := ih (M := M + 1) _ hM x hx
    simp only [List.length_cons]; omega
def wsum (l : List Nd) : Int := (l.map Nd.w).sum
theorem wsum_append (a b : List Nd) : wsum (a ++ b) = wsum a + wsum b := by simp [wsum]
theorem wsum_nn {l : List Nd} (h : ∀ x ∈ l, 0 ≤ x.w) : 0 ≤ wsum l := by
  induction l with
  | nil => simp [wsum]
  | cons x l ih =>
    have := ih (fun y hy => h y (List.mem_cons_of_mem _ hy))
    have := h x List.mem_cons_self
    simp only [wsum, List.map_cons, List.sum_cons] at *; omega
theorem wsum_erase {l : List Nd} {i : Nat} (hi : i < l.length) : wsum l = (l.getD i ⟨0, [], 0⟩).w + wsum (l.eraseIdx i) := by
  induction l generalizing i with
  | nil => simp at hi
  | cons x l ih =>
    cases i with
    | zero => simp [wsum]
    | succ i =>
      have := ih (i := i) (by simpa using hi)
      simp only [wsum, List.eraseIdx_cons_succ, List.map_cons, List.sum_cons, List.getD_cons_succ] at *
      omega
theorem symsOf_erase {l : List Nd} {i : Nat} (hi : i < l.length) : (symsOf l).length = (l.getD i ⟨0, [], 0⟩).syms.length + (symsOf (l.eraseIdx i)).length := by
  induction l generalizing i with
  | nil => simp at hi
  | cons x l ih =>
    cases i with
    | zero => simp [symsOf]
    | succ i =>
      have := ih (i := i) (by simpa using hi)
      simp only [symsOf, List.eraseIdx_cons_succ, List.flatMap_cons, List.length_append, List.getD_cons_succ] at *
      omega
/-- What the nodes of a tree keep: sums and places within bounds. -/
structure LInv (n0 : Nat) (L : List Nd) : Prop where
  sum : wsum L ≤ 2199023255552
  pos : ∀ x ∈ L, 0 < x.w
  syms : (symsOf L).length ≤ 300
  rng : ∀ s ∈ symsOf L, 0 ≤ s ∧ s < n0
  some_ : ∀ x ∈ L, x.syms ≠ []
theorem leavesN_inv (r : List Int) (hl : r.length ≤ 300) (hv : ∀ x ∈ r, x ≤ 4294967296) : LInv r.length (leavesN r 0) := by
  have h1 : ∀ (r : List Int) (i : Int), (∀ x ∈ r, x ≤ 4294967296) → wsum (leavesN r i) ≤ 4294967296 * r.length ∧ (symsOf (leavesN r i)).length ≤ r.length := by
    intro r
    induction r with
    | nil => intro i _; simp [leavesN, wsum, symsOf]
    | cons n r ih =>
      intro i h
      obtain ⟨i1, i2⟩ := ih (i + 1) (fun x hx => h x (List.mem_cons_of_mem _ hx))
      have hn := h n List.mem_cons_self
      simp only [leavesN, wsum_append, symsOf_app, List.length_append, List.length_cons]
      by_cases c : 0 < n
      · rw [if_pos c]
        have e1 : wsum [(⟨n, [i], 0⟩ : Nd)] = n := by simp [wsum]
        have e2 : (symsOf [(⟨n, [i], 0⟩ : Nd)]).length = 1 := rfl
        rw [e1, e2]; omega
      · rw [if_neg c]
        have e1 : wsum ([] : List Nd) = 0 := rfl
        have e2 : (symsOf ([] : List Nd)).length = 0 := rfl
        rw [e1, e2]; omega
  obtain ⟨i1, i2⟩ := h1 r 0 hv
  refine ⟨by omega, fun x hx => ?_, by omega, fun s hs => ?_, fun x hx => ?_⟩
  · obtain ⟨j, _, e, hp⟩ := (mem_leavesN r 0).1 hx
    rw [e]; exact hp
  · have := (leavesN_syms r 0).1 s hs; omega
  · obtain ⟨j, _, e, hp⟩ := (mem_leavesN r 0).1 hx
    rw [e]; simp
theorem getD_mem {l : List Nd} {i : Nat} (h : i < l.length) : l.getD i ⟨0, [], 0⟩ ∈ l := by
  rw [List.getD_eq_getElem?_getD, List.getElem?_eq_getElem h]; exact List.getElem_mem _
theorem LInv.erase {n0 : Nat} {L : List Nd} (h : LInv n0 L) {i : Nat} (hi : i < L.length) : LInv n0 (L.eraseIdx i) ∧ 0 < (L.getD i ⟨0, [], 0⟩).w ∧ (∀ s ∈ (L.getD i ⟨0, [], 0⟩).syms, 0 ≤ s ∧ s < n0) := by
  have hm := getD_mem hi
  have hw := h.pos _ hm
  refine ⟨⟨by have := wsum_erase hi; have := h.sum; omega, fun x hx => h.pos x (List.mem_of_mem_eraseIdx hx), by have := symsOf_erase hi; have := h.syms; omega, fun s hs => ?_, fun x hx => h.some_ x (List.mem_of_mem_eraseIdx hx)⟩, hw, fun s hs => h.rng s (List.mem_flatMap.2 ⟨_, hm, hs⟩)⟩
  obtain ⟨x, hx, hs⟩ := List.mem_flatMap.1 hs
  exact h.rng s (List.mem_flatMap.2 ⟨x, List.mem_of_mem_eraseIdx hx, hs⟩)
/-- One round of the tree: the two least, what is left, and the two put together. -/
theorem runT_step {n0 m : Nat} {L : List Nd} (h : LInv n0 L) (hl : 1 < L.length) (hm : L.length ≤ m + 1) {a b : Nd} {L2 : List Nd}
    (ha : L.getD (leastN L) ⟨0, [], 0⟩ = a) (hb : (L.eraseIdx (leastN L)).getD (leastN (L.eraseIdx (leastN L))) ⟨0, [], 0⟩ = b) (h2 : (L.eraseIdx (leastN L)).eraseIdx (leastN (L.eraseIdx (leastN L))) = L2) (o : List Int) :
    ∃ m', m = m' + 1 ∧ runT m L o = runT m' (L2 ++ [a.join b]) (bump o (a.syms ++ b.syms)) ∧ LInv n0 (L2 ++ [a.join b]) ∧ L2.length + 2 = L.length ∧ 0 < a.w ∧ 0 < b.w ∧ a.w + b.w ≤ 2199023255552 ∧ (a.syms ++ b.syms).length ≤ 300 ∧ ∀ s ∈ a.syms ++ b.syms, 0 ≤ s ∧ s < n0 := by
  obtain ⟨m', rfl⟩ : ∃ m', m = m' + 1 := ⟨m - 1, by omega⟩
  have ha0 : leastN L < L.length := leastN_lt (by intro e; rw [e] at hl; simp at hl)
  have hl1 : (L.eraseIdx (leastN L)).length = L.length - 1 := by rw [List.length_eraseIdx, if_pos ha0]
  have hb0 : leastN (L.eraseIdx (leastN L)) < (L.eraseIdx (leastN L)).length := leastN_lt (by intro e; rw [e] at hl1; simp at hl1; omega)
  obtain ⟨i1, wa, sa⟩ := h.erase ha0
  obtain ⟨i2, wb, sb⟩ := i1.erase hb0
  have w1 := wsum_erase ha0
  have w2 := wsum_erase hb0
  have s1 := symsOf_erase ha0
  have s2 := symsOf_erase hb0
  rw [ha] at wa sa w1 s1
  rw [hb] at wb sb w2 s2
  rw [h2] at i2 w2 s2
  have hsum := h.sum
  have hsy := h.syms
  have hnn := wsum_nn (l := L2) (fun x hx => Int.le_of_lt (i2.pos x hx))
  have hl2 : L2.length + 2 = L.length := by rw [← h2, List.length_eraseIdx, if_pos hb0, hl1]; omega
  have na : a.syms ≠ [] := by rw [← ha]; exact h.some_ _ (getD_mem ha0)
  refine ⟨m', rfl, ?_, ⟨?_, ?_, ?_, ?_, ?_⟩, hl2, wa, wb, by omega, by rw [List.length_append]; omega, fun s hs => (List.mem_append.1 hs).elim (sa s) (sb s)⟩
  · conv => lhs; unfold runT
    rw [if_pos hl]
    simp only [ha, hb, h2]
    rfl
  · rw [wsum_append]; have e : wsum [a.join b] = a.w + b.w := by simp [wsum, Nd.join]
    rw [e]; omega
  · intro x hx
    rcases List.mem_append.1 hx with hx | hx
    · exact i2.pos x hx
    · rw [List.mem_singleton] at hx; subst hx; show 0 < a.w + b.w; omega
  · rw [symsOf_app, List.length_append]; have e : symsOf [a.join b] = a.syms ++ b.syms := by simp [symsOf, Nd.join]
    rw [e, List.length_append]; omega
  · intro s hs
    rw [symsOf_app] at hs
    rcases List.mem_append.1 hs with hs | hs
    · exact i2.rng s hs
    · have e : symsOf [a.join b] = a.syms ++ b.syms := by simp [symsOf, Nd.join]
      rw [e] at hs
      exact (List.mem_append.1 hs).elim (sa s) (sb s)
  · intro x hx
    rcases List.mem_append.1 hx with hx | hx
    · exact i2.some_ x hx
    · rw [List.mem_singleton] at hx; subst hx
      show a.syms ++ b.syms ≠ []
      intro e; exact na (List.append_eq_nil_iff.1 e).1
theorem skip2_map {α β : Type} (f : α → β) (a b : Nat) (l : List α) : ∀ i, (skip2 a b l i).map f = skip2 a b (l.map f) i := by
  induction l with
  | nil => intro i; rfl
  | cons x l ih => intro i; simp only [skip2, List.map_cons]; split <;> simp [ih]
theorem skip2_mem {α : Type} {a b : Nat} {l : List α} {x : α} : ∀ {i : Nat}, x ∈ skip2 a b l i → x ∈ l := by
  induction l with
  | nil => intro i h; simp [skip2] at h
  | cons y l ih =>
    intro i h
    simp only [skip2] at h
    split at h
    · rcases List.mem_cons.1 h with rfl | h
      · exact List.mem_cons_self
      · exact List.mem_cons_of_mem _ (ih h)
    · exact List.mem_cons_of_mem _ (ih h)
theorem skip2_take {α : Type} (a b : Nat) (l : List α) {k : Nat} {x : α} (h : l[k]? = some x) : skip2 a b (l.take (k + 1)) 0 = skip2 a b (l.take k) 0 ++ (if k ≠ a ∧ k ≠ b then [x] else []) := by
  have hk := (List.getElem?_eq_some_iff.1 h).1
  rw [List.take_add_one, h, Option.toList_some, skip2_append, List.length_take, Nat.min_eq_left (Nat.le_of_lt hk)]
  simp only [skip2, Nat.zero_add]
theorem skip2_length {α : Type} (a b : Nat) (l : List α) : ∀ i, (skip2 a b l i).length ≤ l.length := by
  induction l with
  | nil => intro i; simp [skip2]
  | cons x l ih => intro i; have := ih (i + 1); simp only [skip2]; split <;> simp <;> omega
/-- The first of the least among the first k. -/
def LF (l : List Nd) (k a : Nat) : Prop := (∀ j, j < a → (l.getD a ⟨0, [], 0⟩).w < (l.getD j ⟨0, [], 0⟩).w) ∧ ∀ j, j < k → (l.getD a ⟨0, [], 0⟩).w ≤ (l.getD j ⟨0, [], 0⟩).w
theorem LF.take_ {l : List Nd} {k a : Nat} (h : LF l k a) (hlt : (l.getD k ⟨0, [], 0⟩).w < (l.getD a ⟨0, [], 0⟩).w) : LF l (k + 1) k :=
  ⟨fun j hj => Int.lt_of_lt_of_le hlt (h.2 j hj), fun j hj => by
    rcases (show j < k ∨ j = k by omega) with h1 | h1
    · exact Int.le_of_lt (Int.lt_of_lt_of_le hlt (h.2 j h1))
    · rw [h1]; exact Int.le_refl _⟩
theorem LF.keep {l : List Nd} {k a : Nat} (h : LF l k a) (hge : ¬ (l.getD k ⟨0, [], 0⟩).w < (l.getD a ⟨0, [], 0⟩).w) : LF l (k + 1) a :=
  ⟨h.1, fun j hj => by
    rcases (show j < k ∨ j = k by omega) with h1 | h1
    · exact h.2 j h1
    · rw [h1]; omega⟩
theorem LF.end_ {l : List Nd} {a : Nat} (h : LF l l.length a) (ha : a < l.length) : leastN l = a := leastN_is ha h.1 h.2
end Go.Proofs.Ytgajagocenffeaa.Th
