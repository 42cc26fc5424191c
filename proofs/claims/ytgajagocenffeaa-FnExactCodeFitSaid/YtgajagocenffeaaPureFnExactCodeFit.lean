/- The program's CodeFit and the reference's answer the same, at every list of at most 1048576 numbers and every limit (a longer list is let by); the list is left as it was, and the answer is its own memory. -/
import Derived.Test.YtgajagocenffeaaHFnExactCodeFitx5
import Derived.Test.YtgajagocenffeaaThNum
import Derived.Test.YtgajagocenffeaaThFit
import Derived.Test.YtgajagocenffeaaThMark
namespace Go.Proofs.Ytgajagocenffeaa.Pure
open Go.RowKit Go.Proofs.Ytgajagocenffeaa.PFnExactCodeFit Go.Proofs.YtgajagocenffeaaW.PrintWords Go.Proofs.YtgajagocenffeaaW.PrintLast Go.Proofs.YtgajagocenffeaaW.PrintMore Go.Proofs.Ytgajagocenffeaa.Th
set_option linter.unusedVariables false
set_option linter.unusedSimpArgs false

theorem l1In_f (a b c : Int) : spec_l1In.f a b c = some (decide (b ≤ a ∧ a ≤ c)) := by
  unfold spec_l1In.f
  by_cases h : b ≤ a
  · rw [if_pos h]; simp [h]
  · rw [if_neg h]; simp [h]
theorem l1Pow_l0_ev (n : Nat) (hn : n ≤ 62) : ∀ d i : Nat, i + d = n → Ev (fun k => spec_l1Pow.l0 k (n : Int) (P2 i) (i : Int)) (P2 n) := by
  intro d
  induction d with
  | zero =>
    intro i hi
    refine ⟨1, fun k hk => ?_⟩
    try dsimp only
    obtain ⟨m, rfl⟩ : ∃ m, k = m + 1 := ⟨k - 1, by omega⟩
    rw [spec_l1Pow.l0, if_neg (by omega), show i = n by omega]
  | succ d ih =>
    intro i hi
    obtain ⟨K, hK⟩ := ih (i + 1) (by omega)
    try dsimp only at hK
    refine ⟨K + 1, fun k hk => ?_⟩
    try dsimp only
    obtain ⟨m, rfl⟩ : ∃ m, k = m + 1 := ⟨k - 1, by omega⟩
    have hm := hK m (by omega)
    have hb := P2_62b (n := i) (by omega)
    have hb' := P2_62b (n := i + 1) (by omega)
    have hs := P2_succ i
    rw [spec_l1Pow.l0, if_pos (by omega), w64 (by omega), w64 (by omega), show P2 i * 2 = P2 (i + 1) by omega, show (i : Int) + 1 = ((i + 1 : Nat) : Int) by omega]
    exact hm
theorem l1Pow_ev (n : Nat) (hn : n ≤ 62) : Ev (fun k => spec_l1Pow.f k (n : Int)) (P2 n) := l1Pow_l0_ev n hn n 0 (by omega)
theorem l1Pow_evI (n : Int) (h0 : 0 ≤ n) (hn : n ≤ 62) : Ev (fun k => spec_l1Pow.f k n) (P2 n.toNat) := by
  have h := l1Pow_ev n.toNat (by omega)
  rw [Int.toNat_of_nonneg h0] at h
  exact h
theorem l3Tree_f (l : List Int) (hl : l.length ≤ 300) (hv : ∀ v ∈ l, v ≤ 4294967296) : spec_l3Tree.f l = some (treeM l) := by
  unfold spec_l3Tree.f
  rw [if_pos ⟨hl, hv⟩]
theorem l3Room_l0_ev (l : List Int) (hl : l.length ≤ 1048576) (m : Int) : ∀ (suf pre : List Int), l = pre ++ suf → (∀ v ∈ pre, 0 ≤ v ∧ v ≤ 9000) → Ev (fun k => spec_l3Room.l0 k l m (manyM pre : Int) (pre.length : Int)) (roomM l m) := by
  intro suf
  induction suf with
  | nil =>
    intro pre hp h0
    have hpl : pre = l := by rw [hp]; simp
    subst hpl
    by_cases c : 1 ≤ m ∧ m ≤ 15
    · obtain ⟨K, hK⟩ := l1Pow_evI m (by omega) (by omega)
      try dsimp only at hK
      refine ⟨K + 1, fun k hk => ?_⟩
      try dsimp only
      obtain ⟨n, rfl⟩ : ∃ n, k = n + 1 := ⟨k - 1, by omega⟩
      rw [spec_l3Room.l0, if_neg (by omega), l1In_f, Option.bind_some, if_pos (decide_eq_true c), hK n (by omega), Option.bind_some]
      unfold P2 roomM
      by_cases c2 : manyM pre ≤ 2 ^ m.toNat
      · rw [if_pos (by omega)]
        congr 1
        rw [decide_eq_decide]
        exact ⟨fun h => ⟨h0, c.1, c.2, c2, by omega⟩, fun h => by omega⟩
      · rw [if_neg (by omega), decide_eq_false (fun h => c2 h.2.2.2.1)]
    · refine ⟨1, fun k hk => ?_⟩
      try dsimp only
      obtain ⟨n, rfl⟩ : ∃ n, k = n + 1 := ⟨k - 1, by omega⟩
      rw [spec_l3Room.l0, if_neg (by omega), l1In_f, Option.bind_some, if_neg (by simpa using c)]
      unfold roomM
      rw [decide_eq_false (fun h => c ⟨h.2.1, h.2.2.1⟩)]
  | cons x suf ih =>
    intro pre hp h0
    have hll : l.length = pre.length + suf.length + 1 := by rw [hp]; simp; omega
    have hx : rd l (pre.length : Int) = x := by rw [hp]; exact rd_at _ _ _ rfl
    have hml := manyM_le pre
    by_cases c : 0 ≤ x ∧ x ≤ 9000
    · obtain ⟨K, hK⟩ := ih (pre ++ [x]) (by simp [hp]) (fun v hv => by
        rcases List.mem_append.1 hv with hv | hv
        · exact h0 v hv
        · rw [List.mem_singleton] at hv; rw [hv]; exact c)
      try dsimp only at hK
      refine ⟨K + 1, fun k hk => ?_⟩
      try dsimp only
      obtain ⟨n, rfl⟩ : ∃ n, k = n + 1 := ⟨k - 1, by omega⟩
      have hm := hK n (by omega)
      rw [List.length_append, List.length_singleton, show ((pre.length + 1 : Nat) : Int) = (pre.length : Int) + 1 by omega, manyM_append, manyM_cons] at hm
      rw [spec_l3Room.l0, if_pos (by omega), if_pos (by omega), hx, l1In_f, Option.bind_some, if_pos (decide_eq_true c)]
      by_cases c2 : 0 < x
      · rw [if_pos c2] at hm
        rw [if_pos c2, w64 (by omega), w64 (by omega)]
        rw [show ((manyM pre + (1 + manyM []) : Nat) : Int) = (manyM pre : Int) + 1 by simp [manyM, leavesN]] at hm
        exact hm
      · rw [if_neg c2] at hm
        rw [if_neg c2, w64 (by omega)]
        rw [show ((manyM pre + (0 + manyM []) : Nat) : Int) = (manyM pre : Int) by simp [manyM, leavesN]] at hm
        exact hm
    · refine ⟨1, fun k hk => ?_⟩
      try dsimp only
      obtain ⟨n, rfl⟩ : ∃ n, k = n + 1 := ⟨k - 1, by omega⟩
      rw [spec_l3Room.l0, if_pos (by omega), if_pos (by omega), hx, l1In_f, Option.bind_some, if_neg (by simpa using c)]
      unfold roomM
      rw [decide_eq_false (fun h => c (h.1 x (by rw [hp]; simp)))]
theorem l3Room_ev (l : List Int) (hl : l.length ≤ 1048576) (m : Int) : Ev (fun k => spec_l3Room.f k l m) (roomM l m) := l3Room_l0_ev l hl m l [] rfl (fun v hv => by simp at hv)
theorem l3Most_l0_ev (l : List Int) (hl : l.length ≤ 1048576) : ∀ (suf pre : List Int) (M : Int), l = pre ++ suf → 0 ≤ M → ∃ r : Int, (∀ b : Int, 0 ≤ b → (b < r ↔ b < M ∨ ∃ v ∈ suf, b < v)) ∧ Ev (fun k => spec_l3Most.l0 k l M (pre.length : Int)) r := by
  intro suf
  induction suf with
  | nil =>
    intro pre M hp h0
    refine ⟨M, fun b _ => by simp, 1, fun k hk => ?_⟩
    try dsimp only
    obtain ⟨n, rfl⟩ : ∃ n, k = n + 1 := ⟨k - 1, by omega⟩
    rw [spec_l3Most.l0, if_neg (by rw [hp]; simp)]
  | cons x suf ih =>
    intro pre M hp h0
    have hll : l.length = pre.length + suf.length + 1 := by rw [hp]; simp; omega
    have hx : rd l (pre.length : Int) = x := by rw [hp]; exact rd_at _ _ _ rfl
    by_cases c : x > M
    · obtain ⟨r, h1, K, hK⟩ := ih (pre ++ [x]) x (by simp [hp]) (by omega)
      try dsimp only at hK
      refine ⟨r, fun b hb => ?_, K + 1, fun k hk => ?_⟩
      try dsimp only
      · rw [h1 b hb]
        constructor
        · rintro (h | ⟨v, hv, h⟩)
          · exact .inr ⟨x, by simp, h⟩
          · exact .inr ⟨v, by simp [hv], h⟩
        · rintro (h | ⟨v, hv, h⟩)
          · exact .inl (by omega)
          · rcases List.mem_cons.1 hv with rfl | hv
            · exact .inl h
            · exact .inr ⟨v, hv, h⟩
      · dsimp only
        obtain ⟨n, rfl⟩ : ∃ n, k = n + 1 := ⟨k - 1, by omega⟩
        have hm := hK n (by omega)
        rw [List.length_append, List.length_singleton, show ((pre.length + 1 : Nat) : Int) = (pre.length : Int) + 1 by omega] at hm
        rw [spec_l3Most.l0, if_pos (by omega), if_pos (by omega), hx, if_pos c, w64 (by omega)]
        exact hm
    · obtain ⟨r, h1, K, hK⟩ := ih (pre ++ [x]) M (by simp [hp]) h0
      try dsimp only at hK
      refine ⟨r, fun b hb => ?_, K + 1, fun k hk => ?_⟩
      try dsimp only
      · rw [h1 b hb]
        constructor
        · rintro (h | ⟨v, hv, h⟩)
          · exact .inl h
          · exact .inr ⟨v, by simp [hv], h⟩
        · rintro (h | ⟨v, hv, h⟩)
          · exact .inl h
          · rcases List.mem_cons.1 hv with rfl | hv
            · exact .inl (by omega)
            · exact .inr ⟨v, hv, h⟩
      · dsimp only
        obtain ⟨n, rfl⟩ : ∃ n, k = n + 1 := ⟨k - 1, by omega⟩
        have hm := hK n (by omega)
        rw [List.length_append, List.length_singleton, show ((pre.length + 1 : Nat) : Int) = (pre.length : Int) + 1 by omega] at hm
        rw [spec_l3Most.l0, if_pos (by omega), if_pos (by omega), hx, if_neg c, w64 (by omega)]
        exact hm
/-- The test of the greatest against a limit. -/
theorem l3Most_ev (l : List Int) (hl : l.length ≤ 1048576) (m : Int) (hm : 0 ≤ m) : ∃ r : Int, (r > m ↔ overM m l = true) ∧ Ev (fun k => spec_l3Most.f k l) r := by
  obtain ⟨r, h1, hE⟩ := l3Most_l0_ev l hl l [] 0 rfl (by omega)
  refine ⟨r, ?_, hE⟩
  have h2 := h1 m hm
  unfold overM
  rw [List.any_eq_true]
  constructor
  · intro h
    rcases h2.1 h with h | ⟨v, hv, h⟩
    · omega
    · exact ⟨v, hv, decide_eq_true h⟩
  · rintro ⟨v, hv, h⟩
    exact h2.2 (.inr ⟨v, hv, of_decide_eq_true h⟩)
theorem l3Fit_l1_ev (m : Int) (r : List Int) (y : List Int) (hl : y.length ≤ 300) (hy : ∀ v ∈ y, 0 ≤ v ∧ v ≤ 16384) (hnext : Ev (fun k => spec_l3Fit.l0 k m (halfL y) (treeM (halfL y))) r) :
    ∀ (suf pre : List Int), y = pre ++ suf → Ev (fun k => spec_l3Fit.l1 k m (halfL pre ++ suf) (pre.length : Int)) r := by
  intro suf
  induction suf with
  | nil =>
    intro pre hp
    have hpl : pre = y := by rw [hp]; simp
    subst hpl
    obtain ⟨K, hK⟩ := hnext
    try dsimp only at hK
    refine ⟨K + 1, fun k hk => ?_⟩
    try dsimp only
    obtain ⟨n, rfl⟩ : ∃ n, k = n + 1 := ⟨k - 1, by omega⟩
    rw [spec_l3Fit.l1, if_neg (by rw [List.append_nil, halfL_length]; omega), List.append_nil, l3Tree_f _ (by rw [halfL_length]; exact hl) (fun v hv => by
      obtain ⟨u, hu, rfl⟩ := List.mem_map.1 hv
      have := hy u hu; omega), Option.bind_some]
    exact hK n (by omega)
  | cons x suf ih =>
    intro pre hp
    have hx0 := hy x (by rw [hp]; simp)
    have hll : y.length = pre.length + suf.length + 1 := by rw [hp]; simp; omega
    obtain ⟨K, hK⟩ := ih (pre ++ [x]) (by simp [hp])
    try dsimp only at hK
    have e1 : halfL (pre ++ [x]) ++ suf = halfL pre ++ (x + 1) / 2 :: suf := by simp [halfL]
    rw [e1] at hK
    have hhl := halfL_length pre
    refine ⟨K + 1, fun k hk => ?_⟩
    try dsimp only
    obtain ⟨n, rfl⟩ : ∃ n, k = n + 1 := ⟨k - 1, by omega⟩
    have hm := hK n (by omega)
    rw [List.length_append, List.length_singleton, show ((pre.length + 1 : Nat) : Int) = (pre.length : Int) + 1 by omega] at hm
    have hrd : rd (halfL pre ++ x :: suf) (pre.length : Int) = x := rd_at _ _ _ (by rw [hhl])
    rw [spec_l3Fit.l1, if_pos (by rw [List.length_append, List.length_cons, hhl]; omega), if_pos (by omega), hrd, w64 (x := x + 1) (by omega), tdiv_pos (by omega), w64 (x := (x + 1) / 2) (by omega), w64 (x := (pre.length : Int) + 1) (by omega), Int.toNat_natCast, set_at _ _ _ _ (by rw [hhl])]
    exact hm
theorem l3Fit_l0_ev (m : Int) (hm : 1 ≤ m) : ∀ (n : Nat) (x : List Int), n ≤ 14 → x.length ≤ 300 → (∀ v ∈ x, 0 ≤ v ∧ v ≤ ((2 ^ n : Nat) : Int)) → manyM x ≤ 2 ^ m.toNat → Ev (fun k => spec_l3Fit.l0 k m x (treeM x)) (fitM n x m) := by
  intro n
  induction n with
  | zero =>
    intro x hn hl hx hP
    obtain ⟨q, h1, K, hK⟩ := l3Most_ev (treeM x) (by rw [treeM_length]; omega) m (by omega)
    try dsimp only at hK
    have hf := treeM_flat x (fun v hv => by have := hx v hv; simpa using this) m hm hP
    refine ⟨K + 1, fun k hk => ?_⟩
    try dsimp only
    obtain ⟨j, rfl⟩ : ∃ j, k = j + 1 := ⟨k - 1, by omega⟩
    rw [spec_l3Fit.l0, hK j (by omega), Option.bind_some, if_neg (fun h => by have := h1.1 h; rw [hf] at this; cases this)]
    rfl
  | succ n ih =>
    intro x hn hl hx hP
    obtain ⟨q, h1, K, hK⟩ := l3Most_ev (treeM x) (by rw [treeM_length]; omega) m (by omega)
    try dsimp only at hK
    unfold fitM
    by_cases c : overM m (treeM x) = true
    · have h14 : ((2 ^ (n + 1) : Nat) : Int) ≤ 16384 := by
        have := Nat.pow_le_pow_right (n := 2) (by decide) hn
        have e : (2 ^ 14 : Nat) = 16384 := rfl
        rw [e] at this; omega
      have hnext := ih (halfL x) (by omega) (by rw [halfL_length]; exact hl) (halfL_b n x hx) (by rw [halfL_many x (fun v hv => (hx v hv).1)]; exact hP)
      obtain ⟨K2, hK2⟩ := l3Fit_l1_ev m _ x hl (fun v hv => by have := hx v hv; omega) hnext x [] rfl
      try dsimp only at hK2
      refine ⟨K + K2 + 1, fun k hk => ?_⟩
      try dsimp only
      obtain ⟨j, rfl⟩ : ∃ j, k = j + 1 := ⟨k - 1, by omega⟩
      rw [spec_l3Fit.l0, hK j (by omega), Option.bind_some, if_pos (h1.2 c), if_pos c]
      exact hK2 j (by omega)
    · refine ⟨K + 1, fun k hk => ?_⟩
      try dsimp only
      obtain ⟨j, rfl⟩ : ∃ j, k = j + 1 := ⟨k - 1, by omega⟩
      rw [spec_l3Fit.l0, hK j (by omega), Option.bind_some, if_neg (fun h => c (h1.1 h)), if_neg c]
theorem spec_CodeFit_ev (l : List Int) (hl : l.length ≤ 1048576) (m : Int) : Ev (fun k => spec_CodeFit.f k l m) (codeFitM l m) := by
  obtain ⟨K, hK⟩ := l3Room_ev l hl m
  try dsimp only at hK
  unfold codeFitM
  by_cases c : roomM l m = true
  · have h2 := of_decide_eq_true c
    obtain ⟨K2, hK2⟩ := l3Fit_l0_ev m h2.2.1 14 l (by omega) h2.2.2.2.2 (fun v hv => by have := h2.1 v hv; have e : ((2 ^ 14 : Nat) : Int) = 16384 := rfl; rw [e]; omega) h2.2.2.2.1
    try dsimp only at hK2
    refine ⟨K + K2, fun k hk => ?_⟩
    try dsimp only
    unfold spec_CodeFit.f
    rw [hK k (by omega), Option.bind_some, if_pos c, if_pos c]
    unfold spec_l3Fit.f
    simp only [Option.bind_some]
    rw [if_pos (by simp; omega)]
    simp only [List.nil_append]
    rw [l3Tree_f l h2.2.2.2.2 (fun v hv => by have := h2.1 v hv; omega), Option.bind_some, hK2 k (by omega), Option.bind_some]
  · refine ⟨K, fun k hk => ?_⟩
    try dsimp only
    unfold spec_CodeFit.f
    rw [hK k (by omega), Option.bind_some, if_neg c, if_neg c]
theorem toIntS_l0_ev (l : List Int) (hl : l.length ≤ 35184372088832) : ∀ (suf pre : List Int), l = pre ++ suf → Ev (fun k => laws_toIntS.l0 k l (pre ++ List.replicate suf.length 0) (pre.length : Int)) l := by
  intro suf
  induction suf with
  | nil =>
    intro pre hp
    refine ⟨1, fun k hk => ?_⟩
    try dsimp only
    obtain ⟨m, rfl⟩ : ∃ m, k = m + 1 := ⟨k - 1, by omega⟩
    subst hp
    rw [laws_toIntS.l0, if_neg (by simp)]
    simp
  | cons x suf ih =>
    intro pre hp
    obtain ⟨K, hK⟩ := ih (pre ++ [x]) (by simp [hp])
    try dsimp only at hK
    refine ⟨K + 1, fun k hk => ?_⟩
    try dsimp only
    obtain ⟨m, rfl⟩ : ∃ m, k = m + 1 := ⟨k - 1, by omega⟩
    have hm := hK m (by omega)
    have hll : l.length = pre.length + suf.length + 1 := by rw [hp]; simp; omega
    have hx : rd l (pre.length : Int) = x := by rw [hp]; exact rd_at _ _ _ rfl
    rw [laws_toIntS.l0, if_pos (by omega), if_pos (by omega), if_pos (by simp; omega), hx, w64 (by omega), List.length_cons, List.replicate_succ, set_at _ _ _ _ (by omega)]
    simp only [List.append_assoc, List.singleton_append, List.length_append, List.length_singleton] at hm
    rw [show ((pre.length + 1 : Nat) : Int) = (pre.length : Int) + 1 by omega] at hm
    exact hm
theorem toIntS_ev (l : List Int) (hl : l.length ≤ 35184372088832) : Ev (fun k => laws_toIntS.f k l) l := by
  obtain ⟨K, hK⟩ := toIntS_l0_ev l hl l [] rfl
  try dsimp only at hK
  refine ⟨K, fun k hk => ?_⟩
  try dsimp only
  have hm := hK k hk
  unfold laws_toIntS.f
  rw [if_pos (by omega), if_pos (by omega), Int.toNat_natCast]
  exact hm
theorem eqIntS_l0_ev (a b : List Int) (hl : a.length ≤ 35184372088832) (hab : a.length = b.length) : ∀ (sa sb pa pb : List Int), a = pa ++ sa → b = pb ++ sb → pa.length = pb.length → Ev (fun k => laws_eqIntS.l0 k a b (pa.length : Int)) (decide (sa = sb)) := by
  intro sa
  induction sa with
  | nil =>
    intro sb pa pb ha hb hp
    have hsb : sb = [] := by
      cases sb with
      | nil => rfl
      | cons y sb => rw [ha, hb] at hab; simp at hab; omega
    subst hsb
    refine ⟨1, fun k hk => ?_⟩
    try dsimp only
    obtain ⟨m, rfl⟩ : ∃ m, k = m + 1 := ⟨k - 1, by omega⟩
    rw [laws_eqIntS.l0, if_neg (by rw [ha]; simp)]
    simp
  | cons x sa ih =>
    intro sb pa pb ha hb hp
    cases sb with
    | nil => rw [ha, hb] at hab; simp at hab; omega
    | cons y sb =>
      have hll : a.length = pa.length + sa.length + 1 := by rw [ha]; simp; omega
      have hx : rd a (pa.length : Int) = x := by rw [ha]; exact rd_at _ _ _ rfl
      have hy : rd b (pa.length : Int) = y := by rw [hb]; exact rd_at _ _ _ (by omega)
      by_cases hxy : x = y
      · obtain ⟨K, hK⟩ := ih sb (pa ++ [x]) (pb ++ [y]) (by simp [ha]) (by simp [hb]) (by simp [hp])
        try dsimp only at hK
        refine ⟨K + 1, fun k hk => ?_⟩
        try dsimp only
        obtain ⟨m, rfl⟩ : ∃ m, k = m + 1 := ⟨k - 1, by omega⟩
        have hm := hK m (by omega)
        rw [laws_eqIntS.l0, if_pos (by omega), if_pos (by omega), if_pos (by omega), hx, hy, if_pos hxy, w64 (by omega)]
        rw [List.length_append, List.length_singleton, show ((pa.length + 1 : Nat) : Int) = (pa.length : Int) + 1 by omega] at hm
        rw [hm]
        simp [hxy]
      · refine ⟨1, fun k hk => ?_⟩
        try dsimp only
        obtain ⟨m, rfl⟩ : ∃ m, k = m + 1 := ⟨k - 1, by omega⟩
        rw [laws_eqIntS.l0, if_pos (by omega), if_pos (by omega), if_pos (by omega), hx, hy, if_neg hxy]
        simp [hxy]
theorem eqIntS_ev (a b : List Int) (hl : a.length ≤ 35184372088832) (hl2 : b.length ≤ 35184372088832) : Ev (fun k => laws_eqIntS.f k a b) (decide (a = b)) := by
  unfold laws_eqIntS.f
  by_cases h : a.length = b.length
  · obtain ⟨K, hK⟩ := eqIntS_l0_ev a b hl h a b [] [] rfl rfl rfl
    try dsimp only at hK
    refine ⟨K, fun k hk => ?_⟩
    try dsimp only
    rw [if_pos (by omega)]
    exact hK k hk
  · refine ⟨0, fun k hk => ?_⟩
    try dsimp only
    rw [if_neg (by omega), decide_eq_false (fun e => h (by rw [e]))]
theorem markIntS_l0_ev (m0 : Int) (hm0 : 0 ≤ m0 ∧ m0 ≤ 1099511627776) : ∀ (suf : List Int) (i : Nat), i + suf.length ≤ 1099511627776 → Ev (fun k => laws_markIntS.l0 k (marks m0 i ++ suf) (m0 + i) (i : Int)) (m0 + (i + suf.length : Nat), marks m0 (i + suf.length)) := by
  intro suf
  induction suf with
  | nil =>
    intro i hi
    refine ⟨1, fun k hk => ?_⟩
    try dsimp only
    obtain ⟨m, rfl⟩ : ∃ m, k = m + 1 := ⟨k - 1, by omega⟩
    rw [laws_markIntS.l0, if_neg (by simp [marks_length])]
    simp
  | cons x suf ih =>
    intro i hi
    simp only [List.length_cons] at hi
    obtain ⟨K, hK⟩ := ih (i + 1) (by omega)
    try dsimp only at hK
    refine ⟨K + 1, fun k hk => ?_⟩
    try dsimp only
    obtain ⟨m, rfl⟩ : ∃ m, k = m + 1 := ⟨k - 1, by omega⟩
    have hm := hK m (by omega)
    rw [laws_markIntS.l0, if_pos (by simp [marks_length]; omega), if_pos (by omega), Int.toNat_natCast, set_at _ _ _ _ (by rw [marks_length]), w64 (by omega), w64 (by omega)]
    simp only [marks, List.append_assoc, List.singleton_append] at hm
    rw [show m0 + ((i + 1 : Nat) : Int) = m0 + i + 1 by omega, show ((i + 1 : Nat) : Int) = (i : Int) + 1 by omega, show i + 1 + suf.length = i + (suf.length + 1) by omega] at hm
    exact hm
theorem markIntS_ev (l : List Int) (m0 : Int) (hm0 : 0 ≤ m0 ∧ m0 ≤ 1099511627776) (hl : l.length ≤ 1099511627776) : Ev (fun k => laws_markIntS.f k l m0) (m0 + (l.length : Int), marks m0 l.length) := by
  have h := markIntS_l0_ev m0 hm0 l 0 (by omega)
  simp only [marks, List.nil_append, Nat.zero_add] at h
  rw [show m0 + ((0 : Nat) : Int) = m0 by omega] at h
  exact h
theorem heldIntS_l0_ev (m0 : Int) (hm0 : 0 ≤ m0 ∧ m0 ≤ 1099511627776) (n : Nat) (hn : n ≤ 1099511627776) : ∀ d i : Nat, i + d = n → Ev (fun k => laws_heldIntS.l0 k (marks m0 n) (m0 + i) (i : Int)) (m0 + n) := by
  intro d
  induction d with
  | zero =>
    intro i hi
    refine ⟨1, fun k hk => ?_⟩
    try dsimp only
    obtain ⟨m, rfl⟩ : ∃ m, k = m + 1 := ⟨k - 1, by omega⟩
    rw [laws_heldIntS.l0, if_neg (by rw [marks_length]; omega), show i = n by omega]
  | succ d ih =>
    intro i hi
    obtain ⟨K, hK⟩ := ih (i + 1) (by omega)
    try dsimp only at hK
    refine ⟨K + 1, fun k hk => ?_⟩
    try dsimp only
    obtain ⟨m, rfl⟩ : ∃ m, k = m + 1 := ⟨k - 1, by omega⟩
    have hm := hK m (by omega)
    rw [laws_heldIntS.l0, if_pos (by rw [marks_length]; omega), if_pos (by omega), rd_marks _ _ _ (by omega), if_pos rfl, w64 (by omega), w64 (by omega)]
    rw [show m0 + ((i + 1 : Nat) : Int) = m0 + i + 1 by omega, show ((i + 1 : Nat) : Int) = (i : Int) + 1 by omega] at hm
    exact hm
theorem heldIntS_ev (m0 : Int) (hm0 : 0 ≤ m0 ∧ m0 ≤ 1099511627776) (n : Nat) (hn : n ≤ 1099511627776) : Ev (fun k => laws_heldIntS.f k (marks m0 n) m0) (m0 + n) := by
  have h := heldIntS_l0_ev m0 hm0 n hn n 0 (by omega)
  rw [show m0 + ((0 : Nat) : Int) = m0 by omega] at h
  exact h

theorem impl_CodeFit_f (l : List Int) (m : Int) : impl_CodeFit.f l m = some (codeFitM l m) := rfl
theorem FnExactCodeFit : laws_FnExactCodeFit.Pure := by
  intro l m hl hl8 hw hm
  unfold laws_FnExactCodeFit.f
  by_cases h : (l.length : Int) > 1048576
  · exact ⟨0, by rw [if_pos h]⟩
  have hlen : (codeFitM l m).length ≤ 1048576 := by
    have := codeFitM_length l m; omega
  obtain ⟨K1, h1⟩ := toIntS_ev l (by omega)
  try dsimp only at h1
  obtain ⟨K2, h2⟩ := spec_CodeFit_ev l (by omega) m
  try dsimp only at h2
  have h3 := impl_CodeFit_f l m
  obtain ⟨K4, h4⟩ := eqIntS_ev (codeFitM l m) (codeFitM l m) (by omega) (by omega)
  try dsimp only at h4
  obtain ⟨K5, h5⟩ := eqIntS_ev l l (by omega) (by omega)
  try dsimp only at h5
  obtain ⟨K6, h6⟩ := markIntS_ev l 1 (by omega) (by omega)
  try dsimp only at h6
  obtain ⟨K7, h7⟩ := markIntS_ev (codeFitM l m) 1 (by omega) (by omega)
  try dsimp only at h7
  obtain ⟨K8, h8⟩ := heldIntS_ev 1 (by omega) (codeFitM l m).length (by omega)
  try dsimp only at h8
  obtain ⟨K, hK⟩ : ∃ K, K = K1 + K2 + K4 + K5 + K6 + K7 + K8 := ⟨_, rfl⟩
  refine ⟨K + 1, ?_⟩
  rw [if_neg h]
  simp only [h1 (K + 1) (by omega), h2 (K + 1) (by omega), h3, h4 (K + 1) (by omega), h5 (K + 1) (by omega), h6 (K + 1) (by omega), Option.bind_some, decide_true, if_true]
  rw [if_neg (by omega), laws_FnExactCodeFit.j0]
  simp only [Bool.not_true, Bool.false_eq_true, if_false, h1 K (by omega), h3, h4 K (by omega), h7 K (by omega), h8 K (by omega), Option.bind_some, decide_true, if_true]
  rw [if_neg (by omega)]
  rw [if_neg (by omega)]

end Go.Proofs.Ytgajagocenffeaa.Pure
