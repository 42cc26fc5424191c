/- Plain lemmas: lengths that are fitted: how often each comes is halved, up, till no length is above a limit; what these lengths are. No condition. -/
import Derived.Test.YtgajagocenffeaaThTree
import Derived.Test.YtgajagocenffeaaThCode
namespace Go.Proofs.Ytgajagocenffeaa.Th
open Go.RowKit Go.Proofs.YtgajagocenffeaaW.PrintWords Go.Proofs.YtgajagocenffeaaW.PrintMore

def halfL (x : List Int) : List Int := x.map fun v => (v + 1) / 2
def overM (m : Int) (l : List Int) : Bool := l.any fun v => decide (m < v)
def fitM : Nat → List Int → Int → List Int
  | 0, x, _ => treeM x
  | n + 1, x, m => if overM m (treeM x) = true then fitM n (halfL x) m else treeM x
def manyM (l : List Int) : Nat := (leavesN l 0).length
theorem leavesN_len (r : List Int) : ∀ i k, (leavesN r i).length = (leavesN r k).length := by
  induction r with
  | nil => intro i k; rfl
  | cons n r ih =>
    intro i k
    simp only [leavesN, List.length_append, ih (i + 1) (k + 1)]
    split <;> rfl
theorem manyM_cons (n : Int) (r : List Int) : manyM (n :: r) = (if 0 < n then 1 else 0) + manyM r := by
  unfold manyM
  simp only [leavesN, List.length_append, leavesN_len r (0 + 1) 0]
  split <;> rfl
theorem manyM_append (a b : List Int) : manyM (a ++ b) = manyM a + manyM b := by
  induction a with
  | nil => simp [manyM, leavesN]
  | cons n a ih => rw [List.cons_append, manyM_cons, manyM_cons, ih]; omega
theorem manyM_le (a : List Int) : manyM a ≤ a.length := leavesN_length a 0
theorem halfL_length (x : List Int) : (halfL x).length = x.length := by simp [halfL]
theorem halfL_many (x : List Int) (h : ∀ v ∈ x, 0 ≤ v) : manyM (halfL x) = manyM x := by
  induction x with
  | nil => rfl
  | cons v x ih =>
    have h0 := h v List.mem_cons_self
    have e : halfL (v :: x) = (v + 1) / 2 :: halfL x := rfl
    rw [e, manyM_cons, manyM_cons, ih (fun u hu => h u (List.mem_cons_of_mem _ hu))]
    congr 1
    by_cases c : 0 < v
    · rw [if_pos c, if_pos (by omega)]
    · rw [if_neg c, if_neg (by omega)]
theorem halfL_at (x : List Int) (j : Nat) : (halfL x).getD j 0 = (x.getD j 0 + 1) / 2 := by
  unfold halfL
  rw [List.getD_eq_getElem?_getD, List.getD_eq_getElem?_getD, List.getElem?_map]
  cases x[j]? <;> rfl
/-! A tree of one symbol, and of none. -/
theorem leavesN_nil {r : List Int} {i : Int} (h : leavesN r i = []) : ∀ j : Nat, j < r.length → r.getD j 0 ≤ 0 := by
  intro j hj
  refine Int.not_lt.1 fun hp => ?_
  have hm : (⟨r.getD j 0, [i + j], 0⟩ : Nd) ∈ leavesN r i := (mem_leavesN r i).2 ⟨j, hj, rfl, hp⟩
  rw [h] at hm
  simp at hm
theorem treeM_none {x : List Int} (h : manyM x = 0) : treeM x = List.replicate x.length 0 ∧ ∀ j : Nat, j < x.length → x.getD j 0 ≤ 0 := by
  have h0 : leavesN x 0 = [] := List.eq_nil_of_length_eq_zero h
  refine ⟨?_, leavesN_nil h0⟩
  unfold treeM
  rw [h0, if_neg (by simp)]
  rfl
theorem treeM_one {x : List Int} (h : manyM x = 1) : ∃ j : Nat, j < x.length ∧ 0 < x.getD j 0 ∧ treeM x = (List.replicate x.length 0).set j 1 ∧ ∀ k : Nat, k < x.length → k ≠ j → x.getD k 0 ≤ 0 := by
  obtain ⟨n, hn⟩ := List.length_eq_one_iff.1 h
  obtain ⟨j, hj, e, hp⟩ := (mem_leavesN x 0).1 (show n ∈ leavesN x 0 by rw [hn]; simp)
  refine ⟨j, hj, hp, ?_, fun k hk hne => ?_⟩
  · unfold treeM
    rw [if_pos (show (leavesN x 0).length = 1 from h), hn, List.headD_cons, e, List.headD_cons]
    simp
  · refine Int.not_lt.1 fun hp2 => ?_
    have hm : (⟨x.getD k 0, [0 + (k : Int)], 0⟩ : Nd) ∈ leavesN x 0 := (mem_leavesN x 0).2 ⟨k, hk, rfl, hp2⟩
    rw [hn, List.mem_singleton, e] at hm
    injection hm with _ h2 _
    simp only [List.cons.injEq, and_true] at h2
    omega
theorem rep_at (n j : Nat) : (List.replicate n (0 : Int)).getD j 0 = 0 := by
  rw [List.getD_eq_getElem?_getD, List.getElem?_replicate]; split <;> rfl
/-- What a tree's lengths are: nought where nothing comes; else from 1 on. -/
theorem treeM_zero (x : List Int) (j : Nat) (hj : j < x.length) : ((treeM x).getD j 0 = 0 ↔ x.getD j 0 ≤ 0) ∧ 0 ≤ (treeM x).getD j 0 ∧ (treeM x).getD j 0 ≤ x.length := by
  rcases (show manyM x = 0 ∨ manyM x = 1 ∨ 2 ≤ manyM x by omega) with h | h | h
  · obtain ⟨e, h1⟩ := treeM_none h
    rw [e, rep_at]
    exact ⟨⟨fun _ => h1 j hj, fun _ => rfl⟩, by omega, by omega⟩
  · obtain ⟨i, hi, hp, e, h1⟩ := treeM_one h
    rw [e, List.getD_eq_getElem?_getD, List.getElem?_set]
    by_cases c : i = j
    · subst c
      rw [if_pos rfl, if_pos (by simpa using hi)]
      exact ⟨⟨fun h2 => by simp at h2, fun h2 => by omega⟩, by simp, by simp; omega⟩
    · rw [if_neg c, ← List.getD_eq_getElem?_getD, rep_at]
      exact ⟨⟨fun _ => h1 j hj (fun h2 => c h2.symm), fun _ => rfl⟩, by omega, by omega⟩
  · by_cases hp : 0 < x.getD j 0
    · obtain ⟨h1, h2⟩ := treeM_range x h j hj hp
      have h3 := leavesN_length x 0
      exact ⟨⟨fun h4 => by omega, fun h4 => by omega⟩, by omega, by omega⟩
    · rw [(treeM_at x h).2.1 j hj hp]
      exact ⟨⟨fun _ => by omega, fun _ => rfl⟩, by omega, by omega⟩
theorem over_false {m : Int} {l : List Int} (h : overM m l = false) : ∀ v ∈ l, v ≤ m := by
  intro v hv
  unfold overM at h
  rw [List.any_eq_false] at h
  have := h v hv
  simpa using this
theorem over_at {m : Int} {l : List Int} (h : ∀ j : Nat, j < l.length → l.getD j 0 ≤ m) : overM m l = false := by
  unfold overM
  rw [List.any_eq_false]
  intro v hv
  obtain ⟨j, hj, rfl⟩ := List.mem_iff_getElem.1 hv
  have := h j hj
  rw [List.getD_eq_getElem?_getD, List.getElem?_eq_getElem hj] at this
  simpa using this
/-- Where all come once, a tree is as level as can be. -/
theorem treeM_flat (x : List Int) (h1 : ∀ v ∈ x, 0 ≤ v ∧ v ≤ 1) (m : Int) (hm : 1 ≤ m) (hP : manyM x ≤ 2 ^ m.toNat) : overM m (treeM x) = false := by
  apply over_at
  intro j hj
  rw [treeM_length] at hj
  rcases (show manyM x = 0 ∨ manyM x = 1 ∨ 2 ≤ manyM x by omega) with h | h | h
  · rw [(treeM_none h).1, rep_at]; omega
  · obtain ⟨i, hi, hp, e, _⟩ := treeM_one h
    rw [e, List.getD_eq_getElem?_getD, List.getElem?_set]
    by_cases c : i = j
    · rw [if_pos c, if_pos (by simpa using hi)]; simpa using hm
    · rw [if_neg c, ← List.getD_eq_getElem?_getD, rep_at]; omega
  · have := treeM_level x h (fun k hk => by
      rw [List.getD_eq_getElem?_getD, List.getElem?_eq_getElem hk]; exact (h1 _ (List.getElem_mem _)).2) m.toNat hP j hj
    omega
theorem halfL_b (n : Nat) (x : List Int) (h : ∀ v ∈ x, 0 ≤ v ∧ v ≤ ((2 ^ (n + 1) : Nat) : Int)) : ∀ v ∈ halfL x, 0 ≤ v ∧ v ≤ ((2 ^ n : Nat) : Int) := by
  intro v hv
  obtain ⟨u, hu, rfl⟩ := List.mem_map.1 hv
  have := h u hu
  rw [Nat.pow_succ] at this
  omega
/-- What is fitted is the tree of numbers that are nought where the first were, and no length is above the limit. -/
theorem fitM_is (m : Int) (hm : 1 ≤ m) : ∀ (n : Nat) (x : List Int), (∀ v ∈ x, 0 ≤ v ∧ v ≤ ((2 ^ n : Nat) : Int)) → manyM x ≤ 2 ^ m.toNat →
    ∃ y : List Int, fitM n x m = treeM y ∧ y.length = x.length ∧ (∀ v ∈ y, 0 ≤ v) ∧ (∀ j : Nat, 0 < y.getD j 0 ↔ 0 < x.getD j 0) ∧ manyM y = manyM x ∧ overM m (treeM y) = false := by
  intro n
  induction n with
  | zero =>
    intro x hx hP
    exact ⟨x, rfl, rfl, fun v hv => (hx v hv).1, fun _ => Iff.rfl, rfl, treeM_flat x (fun v hv => by have := hx v hv; simpa using this) m hm hP⟩
  | succ n ih =>
    intro x hx hP
    unfold fitM
    by_cases c : overM m (treeM x) = true
    · rw [if_pos c]
      have h0 : ∀ v ∈ x, 0 ≤ v := fun v hv => (hx v hv).1
      obtain ⟨y, h1, h2, h3, h4, h5, h6⟩ := ih (halfL x) (halfL_b n x hx) (by rw [halfL_many x h0]; exact hP)
      refine ⟨y, h1, by rw [h2, halfL_length], h3, fun j => ?_, by rw [h5, halfL_many x h0], h6⟩
      rw [h4, halfL_at]
      have hj0 : 0 ≤ x.getD j 0 := by
        rw [List.getD_eq_getElem?_getD]
        cases e : x[j]? with
        | none => simp
        | some v => exact h0 v (List.mem_of_getElem? e)
      omega
    · rw [if_neg c]
      exact ⟨x, rfl, rfl, fun v hv => (hx v hv).1, fun _ => Iff.rfl, rfl, by simpa using c⟩
/-! How full such a code is. -/
theorem fsum_congr {F G : Int → Int → Int} : ∀ (r : List Int) (i : Int), (∀ (n j : Int), 0 < n → i ≤ j → j < i + r.length → F n j = G n j) → fsum F r i = fsum G r i := by
  intro r
  induction r with
  | nil => intro i _; rfl
  | cons n r ih =>
    intro i h
    simp only [fsum]
    rw [ih (i + 1) (fun m j hm h1 h2 => h m j hm (by omega) (by simp only [List.length_cons]; omega))]
    by_cases c : 0 < n
    · rw [if_pos c, if_pos c, h n i c (by omega) (by simp only [List.length_cons]; omega)]
    · rw [if_neg c, if_neg c]
theorem kraft_fsum : ∀ (X often : List Int), X.length = often.length → (∀ j : Nat, 0 < X.getD j 0 ↔ 0 < often.getD j 0) → ∀ (pre : List Int), kraft X = fsum (fun _ i => ((2 ^ (15 - ((pre ++ X).getD i.toNat 0).toNat) : Nat) : Int)) often (pre.length : Int) := by
  intro X
  induction X with
  | nil =>
    intro often hl _ pre
    have : often = [] := List.eq_nil_of_length_eq_zero hl.symm
    subst this; rfl
  | cons v X ih =>
    intro often hl hz pre
    cases often with
    | nil => simp at hl
    | cons n r =>
      have h1 := ih r (by simpa using hl) (fun j => by have := hz (j + 1); simpa using this) (pre ++ [v])
      rw [List.append_assoc, List.singleton_append, List.length_append, List.length_singleton] at h1
      simp only [kraft, fsum]
      rw [h1, show ((pre.length + 1 : Nat) : Int) = (pre.length : Int) + 1 by omega]
      congr 1
      have h0 := hz 0
      simp only [List.getD_cons_zero] at h0
      have hget : (pre ++ v :: X).getD ((pre.length : Int)).toNat 0 = v := by
        rw [Int.toNat_natCast, List.getD_eq_getElem?_getD, List.getElem?_append_right (Nat.le_refl _)]; simp
      by_cases c : 0 < n
      · rw [if_pos c, if_pos (h0.2 c), hget]
        unfold P2
        rw [show (15 - v).toNat = 15 - v.toNat by omega]
      · rw [if_neg c, if_neg (fun h => c (h0.1 h))]
theorem kraft_zero (n : Nat) : kraft (List.replicate n 0) = 0 := by
  induction n with
  | zero => rfl
  | succ n ih => rw [List.replicate_succ]; simp only [kraft]; rw [ih]; simp
theorem kraft_set (n j : Nat) (hj : j < n) : kraft ((List.replicate n 0).set j 1) = 16384 := by
  have e : (List.replicate n (0 : Int)).set j 1 = List.replicate j 0 ++ 1 :: List.replicate (n - (j + 1)) 0 := by
    rw [List.set_eq_take_append_cons_drop, if_pos (by simpa using hj), List.take_replicate, List.drop_replicate, Nat.min_eq_left (by omega)]
  rw [e, kraft_append, kraft_zero]
  simp only [kraft]
  rw [kraft_zero]
  rfl
theorem treeM_full {x : List Int} (h : 2 ≤ manyM x) (ho : overM 15 (treeM x) = false) : kraft (treeM x) = 32768 := by
  have hz : ∀ j : Nat, 0 < (treeM x).getD j 0 ↔ 0 < x.getD j 0 := by
    intro j
    by_cases hj : j < x.length
    · obtain ⟨h1, h2, _⟩ := treeM_zero x j hj
      constructor
      · intro hp; refine Int.not_le.1 fun hn => ?_; rw [h1.2 hn] at hp; omega
      · intro hp; refine Int.lt_iff_le_and_ne.2 ⟨h2, fun e => ?_⟩; have := h1.1 e.symm; omega
    · rw [List.getD_eq_getElem?_getD, List.getElem?_eq_none (by rw [treeM_length]; omega), List.getD_eq_getElem?_getD, List.getElem?_eq_none (by omega)]
  rw [kraft_fsum (treeM x) x (treeM_length x) hz []]
  have hk := treeM_kraft x h 15 (fun j hj => by
    refine over_false ho _ ?_
    rw [List.getD_eq_getElem?_getD, List.getElem?_eq_getElem (by rw [treeM_length]; exact hj)]
    exact List.getElem_mem _)
  exact hk
theorem treeM_ok (x : List Int) (hl : x.length ≤ 300) (ho : overM 15 (treeM x) = false) : codeOkM (treeM x) = true := by
  unfold codeOkM
  rw [decide_eq_true_eq]
  refine ⟨fun v hv => ?_, by rw [treeM_length]; exact hl, ?_⟩
  · refine ⟨?_, over_false ho v hv⟩
    obtain ⟨j, hj, rfl⟩ := List.mem_iff_getElem.1 hv
    rw [treeM_length] at hj
    have := (treeM_zero x j hj).2.1
    rw [List.getD_eq_getElem?_getD, List.getElem?_eq_getElem (by rw [treeM_length]; exact hj)] at this
    exact this
  · rcases (show manyM x = 0 ∨ manyM x = 1 ∨ 2 ≤ manyM x by omega) with h | h | h
    · rw [(treeM_none h).1, kraft_zero]; omega
    · obtain ⟨i, hi, hp, e, _⟩ := treeM_one h
      rw [e, kraft_set _ _ hi]; omega
    · rw [treeM_full h ho]; omega
/-- If all that come have room. -/
def roomM (often : List Int) (m : Int) : Bool := decide ((∀ v ∈ often, 0 ≤ v ∧ v ≤ 9000) ∧ 1 ≤ m ∧ m ≤ 15 ∧ manyM often ≤ 2 ^ m.toNat ∧ often.length ≤ 300)
def codeFitM (often : List Int) (m : Int) : List Int := if roomM often m = true then fitM 14 often m else []
theorem codeFitM_is {often : List Int} {m : Int} (h : roomM often m = true) : ∃ y : List Int, codeFitM often m = treeM y ∧ y.length = often.length ∧ (∀ v ∈ y, 0 ≤ v) ∧ (∀ j : Nat, 0 < y.getD j 0 ↔ 0 < often.getD j 0) ∧ manyM y = manyM often ∧ overM m (treeM y) = false := by
  unfold codeFitM
  rw [if_pos h]
  have h2 := of_decide_eq_true h
  exact fitM_is m h2.2.1 14 often (fun v hv => by have := h2.1 v hv; have e : ((2 ^ 14 : Nat) : Int) = 16384 := rfl; rw [e]; omega) h2.2.2.2.1
theorem codeFitM_length (often : List Int) (m : Int) : (codeFitM often m).length ≤ often.length := by
  by_cases h : roomM often m = true
  · obtain ⟨y, e, hl, _⟩ := codeFitM_is h
    rw [e, treeM_length, hl]; exact Nat.le_refl _
  · unfold codeFitM; rw [if_neg h]; simp
end Go.Proofs.Ytgajagocenffeaa.Th
