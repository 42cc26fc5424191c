/- The program's RlePut and the reference's answer the same, at every list of rows that has at most 1048576 numbers together with the rows (a greater one is let by); the rows are left as they were. -/
import Derived.Test.YtpjkcdgamlllgaaHFnExactRlePutx3
import Derived.Test.YtpjkcdgamlllgaaThNum
import Derived.Test.YtpjkcdgamlllgaaThRunPut
namespace Go.Proofs.Ytpjkcdgamlllgaa.Pure
open Go.RowKit Go.Proofs.Ytpjkcdgamlllgaa.PFnExactRlePut Go.Proofs.YtpjkcdgamlllgaaW.PrintWords Go.Proofs.YtpjkcdgamlllgaaW.PrintLast Go.Proofs.YtpjkcdgamlllgaaW.PrintMore Go.Proofs.Ytpjkcdgamlllgaa.Th
set_option linter.unusedVariables false
set_option linter.unusedSimpArgs false

theorem l7Equal_l0_ev (L : List Int) (at_ most : Int) (h0 : 0 ≤ at_) (h : at_ < L.length) (hl : L.length ≤ 1048576) (hm : 1 ≤ most ∧ most ≤ 1000) :
    ∀ (d : Nat) (n : Int), 1 ≤ n → n ≤ smM L at_ → n + d = most → Ev (fun k => spec_l7Equal.l0 k L at_ most n) (if smM L at_ < most then smM L at_ else most) := by
  have hb := smM_b L at_ h0 h
  intro d
  induction d with
  | zero =>
    intro n h1 h2 h3
    refine ⟨1, fun k hk => ?_⟩
    try dsimp only
    obtain ⟨m, rfl⟩ : ∃ m, k = m + 1 := ⟨k - 1, by omega⟩
    rw [spec_l7Equal.l0, if_neg (by omega), if_neg (by omega), show n = most by omega]
  | succ d ih =>
    intro n h1 h2 h3
    by_cases e : n = smM L at_
    · have hf := hb.2.2.2
      rw [← e] at hf
      refine ⟨1, fun k hk => ?_⟩
      try dsimp only
      obtain ⟨m, rfl⟩ : ∃ m, k = m + 1 := ⟨k - 1, by omega⟩
      rw [spec_l7Equal.l0, if_pos (by omega), w64 (x := at_ + n) (by omega), if_pos (show smM L at_ < most by omega), ← e]
      by_cases c : at_ + n < L.length
      · have c2 : ¬ rd L (at_ + n) = rd L at_ := fun e2 => by rw [show smB L at_ n = true from decide_eq_true ⟨c, e2⟩] at hf; simp at hf
        rw [if_pos c, if_pos (by omega), if_pos h0, if_pos h, if_neg c2]
      · rw [if_neg c]
    · have ht := of_decide_eq_true (hb.2.2.1 n h1 (by omega))
      obtain ⟨K, hK⟩ := ih (n + 1) (by omega) (by omega) (by omega)
      try dsimp only at hK
      refine ⟨K + 1, fun k hk => ?_⟩
      try dsimp only
      obtain ⟨m, rfl⟩ : ∃ m, k = m + 1 := ⟨k - 1, by omega⟩
      rw [spec_l7Equal.l0, if_pos (by omega), w64 (x := at_ + n) (by omega), if_pos ht.1, if_pos (by omega), if_pos h0, if_pos h, if_pos ht.2, w64 (by omega)]
      exact hK m (by omega)
theorem l7Equal_ev (L : List Int) (at_ most : Int) (h0 : 0 ≤ at_) (h : at_ < L.length) (hl : L.length ≤ 1048576) (hm : 1 ≤ most ∧ most ≤ 1000) : Ev (fun k => spec_l7Equal.f k L at_ most) (if smM L at_ < most then smM L at_ else most) :=
  l7Equal_l0_ev L at_ most h0 h hl hm (most - 1).toNat 1 (by omega) (smM_b L at_ h0 h).1 (by omega)
theorem same_l0_ev (L : List Int) (at_ : Int) (h0 : 0 ≤ at_) (h : at_ < L.length) (hl : L.length ≤ 1048576) :
    ∀ (d : Nat) (n : Int), 1 ≤ n → n + d = smM L at_ → Ev (fun k => impl_same_int.l0 k L at_ n) (smM L at_) := by
  have hb := smM_b L at_ h0 h
  intro d
  induction d with
  | zero =>
    intro n h1 h3
    have e : n = smM L at_ := by omega
    have hf := hb.2.2.2
    rw [← e] at hf
    refine ⟨1, fun k hk => ?_⟩
    try dsimp only
    obtain ⟨m, rfl⟩ : ∃ m, k = m + 1 := ⟨k - 1, by omega⟩
    rw [impl_same_int.l0, w64 (x := at_ + n) (by omega), ← e]
    by_cases c : at_ + n < L.length
    · have c2 : ¬ rd L (at_ + n) = rd L at_ := fun e2 => by rw [show smB L at_ n = true from decide_eq_true ⟨c, e2⟩] at hf; simp at hf
      rw [if_pos c, if_pos (by omega), if_pos h0, if_pos h, if_neg c2]
    · rw [if_neg c]
  | succ d ih =>
    intro n h1 h3
    have ht := of_decide_eq_true (hb.2.2.1 n h1 (by omega))
    obtain ⟨K, hK⟩ := ih (n + 1) (by omega) (by omega)
    try dsimp only at hK
    refine ⟨K + 1, fun k hk => ?_⟩
    try dsimp only
    obtain ⟨m, rfl⟩ : ∃ m, k = m + 1 := ⟨k - 1, by omega⟩
    rw [impl_same_int.l0, w64 (x := at_ + n) (by omega), if_pos ht.1, if_pos (by omega), if_pos h0, if_pos h, if_pos ht.2, w64 (by omega)]
    exact hK m (by omega)
theorem same_ev (L : List Int) (at_ : Int) (h0 : 0 ≤ at_) (h : at_ < L.length) (hl : L.length ≤ 1048576) : Ev (fun k => impl_same_int.f k L at_) (smM L at_) := by
  have hb := smM_b L at_ h0 h
  exact same_l0_ev L at_ h0 h hl (smM L at_ - 1).toNat 1 (by omega) (by omega)
theorem in_f (a b c : Int) : impl_in.f a b c = some (decide (b ≤ a ∧ a ≤ c)) := by
  unfold impl_in.f
  by_cases h : b ≤ a
  · rw [if_pos h]; simp [h]
  · rw [if_neg h]; simp [h]
theorem l1In_f (a b c : Int) : spec_l1In.f a b c = some (decide (b ≤ a ∧ a ≤ c)) := by
  unfold spec_l1In.f
  by_cases h : b ≤ a
  · rw [if_pos h]; simp [h]
  · rw [if_neg h]; simp [h]
theorem toIntS_l0_ev (l : List Int) (hl : l.length ≤ 35184372088832) : ∀ (suf pre : List Int), l = pre ++ suf → Ev (fun k => laws_toIntS.l0 k l (pre ++ List.replicate suf.length 0) (pre.length : Int)) l := by
  intro suf
  induction suf with
  | nil =>
    intro pre hp
    refine ⟨1, fun k hk => ?_⟩
    try dsimp only
    obtain ⟨m, rfl⟩ : ∃ m, k = m + 1 := ⟨k - 1, by omega⟩
    subst hp
    rw [laws_toIntS.l0, if_neg (by simp)]
    simp
  | cons x suf ih =>
    intro pre hp
    obtain ⟨K, hK⟩ := ih (pre ++ [x]) (by simp [hp])
    try dsimp only at hK
    refine ⟨K + 1, fun k hk => ?_⟩
    try dsimp only
    obtain ⟨m, rfl⟩ : ∃ m, k = m + 1 := ⟨k - 1, by omega⟩
    have hm := hK m (by omega)
    have hll : l.length = pre.length + suf.length + 1 := by rw [hp]; simp; omega
    have hx : rd l (pre.length : Int) = x := by rw [hp]; exact rd_at _ _ _ rfl
    rw [laws_toIntS.l0, if_pos (by omega), if_pos (by omega), if_pos (by simp; omega), hx, w64 (by omega), List.length_cons, List.replicate_succ, set_at _ _ _ _ (by omega)]
    simp only [List.append_assoc, List.singleton_append, List.length_append, List.length_singleton] at hm
    rw [show ((pre.length + 1 : Nat) : Int) = (pre.length : Int) + 1 by omega] at hm
    exact hm
theorem toIntS_ev (l : List Int) (hl : l.length ≤ 35184372088832) : Ev (fun k => laws_toIntS.f k l) l := by
  obtain ⟨K, hK⟩ := toIntS_l0_ev l hl l [] rfl
  try dsimp only at hK
  refine ⟨K, fun k hk => ?_⟩
  try dsimp only
  have hm := hK k hk
  unfold laws_toIntS.f
  rw [if_pos (by omega), if_pos (by omega), Int.toNat_natCast]
  exact hm
theorem eqIntS_l0_ev (a b : List Int) (hl : a.length ≤ 35184372088832) (hab : a.length = b.length) : ∀ (sa sb pa pb : List Int), a = pa ++ sa → b = pb ++ sb → pa.length = pb.length → Ev (fun k => laws_eqIntS.l0 k a b (pa.length : Int)) (decide (sa = sb)) := by
  intro sa
  induction sa with
  | nil =>
    intro sb pa pb ha hb hp
    have hsb : sb = [] := by
      cases sb with
      | nil => rfl
      | cons y sb => rw [ha, hb] at hab; simp at hab; omega
    subst hsb
    refine ⟨1, fun k hk => ?_⟩
    try dsimp only
    obtain ⟨m, rfl⟩ : ∃ m, k = m + 1 := ⟨k - 1, by omega⟩
    rw [laws_eqIntS.l0, if_neg (by rw [ha]; simp)]
    simp
  | cons x sa ih =>
    intro sb pa pb ha hb hp
    cases sb with
    | nil => rw [ha, hb] at hab; simp at hab; omega
    | cons y sb =>
      have hll : a.length = pa.length + sa.length + 1 := by rw [ha]; simp; omega
      have hx : rd a (pa.length : Int) = x := by rw [ha]; exact rd_at _ _ _ rfl
      have hy : rd b (pa.length : Int) = y := by rw [hb]; exact rd_at _ _ _ (by omega)
      by_cases hxy : x = y
      · obtain ⟨K, hK⟩ := ih sb (pa ++ [x]) (pb ++ [y]) (by simp [ha]) (by simp [hb]) (by simp [hp])
        try dsimp only at hK
        refine ⟨K + 1, fun k hk => ?_⟩
        try dsimp only
        obtain ⟨m, rfl⟩ : ∃ m, k = m + 1 := ⟨k - 1, by omega⟩
        have hm := hK m (by omega)
        rw [laws_eqIntS.l0, if_pos (by omega), if_pos (by omega), if_pos (by omega), hx, hy, if_pos hxy, w64 (by omega)]
        rw [List.length_append, List.length_singleton, show ((pa.length + 1 : Nat) : Int) = (pa.length : Int) + 1 by omega] at hm
        rw [hm]
        simp [hxy]
      · refine ⟨1, fun k hk => ?_⟩
        try dsimp only
        obtain ⟨m, rfl⟩ : ∃ m, k = m + 1 := ⟨k - 1, by omega⟩
        rw [laws_eqIntS.l0, if_pos (by omega), if_pos (by omega), if_pos (by omega), hx, hy, if_neg hxy]
        simp [hxy]
theorem eqIntS_ev (a b : List Int) (hl : a.length ≤ 35184372088832) (hl2 : b.length ≤ 35184372088832) : Ev (fun k => laws_eqIntS.f k a b) (decide (a = b)) := by
  unfold laws_eqIntS.f
  by_cases h : a.length = b.length
  · obtain ⟨K, hK⟩ := eqIntS_l0_ev a b hl h a b [] [] rfl rfl rfl
    try dsimp only at hK
    refine ⟨K, fun k hk => ?_⟩
    try dsimp only
    rw [if_pos (by omega)]
    exact hK k hk
  · refine ⟨0, fun k hk => ?_⟩
    try dsimp only
    rw [if_neg (by omega), decide_eq_false (fun e => h (by rw [e]))]

def rlM (L : List Int) : Nat → Int → List Int
  | 0, _ => []
  | f + 1, at_ => if at_ < L.length then [if smM L at_ < 255 then smM L at_ else 255, rd L at_] ++ rlM L f (at_ + (if smM L at_ < 255 then smM L at_ else 255)) else []
def okFrom (L : List Int) (at_ : Int) : Prop := ∀ j : Int, at_ ≤ j → j < L.length → 0 ≤ rd L j ∧ rd L j ≤ 255
theorem step_b (L : List Int) (at_ : Int) (h0 : 0 ≤ at_) (h : at_ < L.length) : ∃ n : Nat, (if smM L at_ < 255 then smM L at_ else 255) = (n : Int) ∧ 1 ≤ n ∧ n ≤ 255 ∧ at_ + n ≤ L.length ∧ ∀ j : Int, 0 ≤ j → j < n → rd L (at_ + j) = rd L at_ := by
  have hb := smM_b L at_ h0 h
  have ha := smM_all L at_ h0 h
  refine ⟨(if smM L at_ < 255 then smM L at_ else 255).toNat, ?_, ?_, ?_, ?_, ?_⟩
  · split <;> omega
  · split <;> omega
  · split <;> omega
  · split <;> omega
  · intro j j0 j1
    exact ha j j0 (by split at j1 <;> omega)
theorem rlM_length (L : List Int) : ∀ (f : Nat) (at_ : Int), 0 ≤ at_ → at_ ≤ L.length → (L.length : Int) ≤ at_ + f → (rlM L f at_).length ≤ 2 * (L.length - at_.toNat) := by
  intro f
  induction f with
  | zero => intro at_ _ _ _; simp [rlM]
  | succ f ih =>
    intro at_ h0 h1 h2
    simp only [rlM]
    by_cases h : at_ < L.length
    · rw [if_pos h]
      obtain ⟨n, e, n1, n2, n3, -⟩ := step_b L at_ h0 h
      rw [e]
      have := ih (at_ + n) (by omega) (by omega) (by omega)
      simp only [List.length_append, List.length_cons, List.length_nil]
      omega
    · rw [if_neg h]; simp
theorem okFrom_step {L : List Int} {at_ : Int} {n : Nat} (n1 : 1 ≤ n) (hr : 0 ≤ rd L at_ ∧ rd L at_ ≤ 255) (hs : ∀ j : Int, 0 ≤ j → j < n → rd L (at_ + j) = rd L at_) : okFrom L at_ ↔ okFrom L (at_ + n) := by
  constructor
  · intro h j j0 j1; exact h j (by omega) j1
  · intro h j j0 j1
    by_cases c : j < at_ + n
    · have := hs (j - at_) (by omega) (by omega)
      rw [show at_ + (j - at_) = j by omega] at this
      rw [this]; exact hr
    · exact h j (by omega) j1
theorem l7Row_l0_ev (L : List Int) (hl : L.length ≤ 100) (hok : okFrom L 0) : ∀ (f : Nat) (at_ : Int) (out : List Int), 0 ≤ at_ → at_ ≤ L.length → (L.length : Int) ≤ at_ + f → out.length ≤ 2 * at_.toNat → Ev (fun k => spec_l7Row.l0 k L (strOfNums out) at_) (strOfNums (out ++ rlM L f at_)) := by
  intro f
  induction f with
  | zero =>
    intro at_ out h0 h1 h2 h3
    refine ⟨1, fun k hk => ?_⟩
    try dsimp only
    obtain ⟨m, rfl⟩ : ∃ m, k = m + 1 := ⟨k - 1, by omega⟩
    try dsimp only
    rw [spec_l7Row.l0, if_neg (by omega)]
    simp [rlM]
  | succ f ih =>
    intro at_ out h0 h1 h2 h3
    simp only [rlM]
    by_cases h : at_ < L.length
    · obtain ⟨n, e, n1, n2, n3, -⟩ := step_b L at_ h0 h
      obtain ⟨K1, hK1⟩ := l7Equal_ev L at_ 255 h0 h (by omega) (by omega)
      try dsimp only at hK1
      obtain ⟨K, hK⟩ := ih (at_ + n) (out ++ [(n : Int), rd L at_]) (by omega) (by omega) (by omega) (by simp; omega)
      try dsimp only at hK
      try dsimp only at hK hK1
      have hr := hok at_ h0 h
      refine ⟨K + K1 + 1, fun k hk => ?_⟩
      try dsimp only
      obtain ⟨m, rfl⟩ : ∃ m, k = m + 1 := ⟨k - 1, by omega⟩
      have hm := hK m (by omega)
      try dsimp only
      rw [spec_l7Row.l0, if_pos h, hK1 m (by omega), Option.bind_some, if_pos h0, Option.bind_some, if_pos h, e, show (n : Int) % 256 = n by omega, show rd L at_ % 256 = rd L at_ by omega, if_pos (by rw [strOfNums_size, strOfNums_size]; simp; omega), ← son_append, w64 (by omega), ← List.append_assoc]
      exact hm
    · rw [if_neg h]
      refine ⟨1, fun k hk => ?_⟩
      try dsimp only
      obtain ⟨m, rfl⟩ : ∃ m, k = m + 1 := ⟨k - 1, by omega⟩
      try dsimp only
      rw [spec_l7Row.l0, if_neg (by omega)]
      simp
def rl (L : List Int) : List Int := rlM L L.length 0
theorem rl_length (L : List Int) : (rl L).length ≤ 2 * L.length := by
  have := rlM_length L L.length 0 (by omega) (by omega) (by omega)
  simpa [rl] using this
theorem l7Row_ev (L : List Int) (hl : L.length ≤ 100) (hok : okFrom L 0) : Ev (fun k => spec_l7Row.f k L) (strOfNums (rl L)) := by
  obtain ⟨K, hK⟩ := l7Row_l0_ev L hl hok L.length 0 [] (by omega) (by omega) (by omega) (by simp)
  try dsimp only at hK
  exact ⟨K, fun k hk => hK k hk⟩
def okRow (L : List Int) : Prop := L.length ≤ 100 ∧ okFrom L 0
noncomputable instance (L : List Int) (at_ : Int) : Decidable (okFrom L at_) := Classical.propDecidable _
noncomputable instance (L : List Int) : Decidable (okRow L) := Classical.propDecidable _
/-- What stands behind some rows: the next ones, each behind two noughts. -/
def pj : List (List Int) → List Int
  | [] => []
  | r :: rs => [0, 0] ++ (rl r ++ pj rs)
def sx : List (List Int) → List Int
  | [] => []
  | r :: rs => rl r ++ pj rs
theorem sx_cons (r : List Int) (rs : List (List Int)) : sx (r :: rs) = rl r ++ (if rs = [] then [] else [0, 0] ++ sx rs) := by
  cases rs with
  | nil => simp [sx, pj]
  | cons q rs => simp [sx, pj]
def allOk (rs : List (List Int)) : Prop := ∀ r ∈ rs, okRow r
noncomputable instance (rs : List (List Int)) : Decidable (allOk rs) := Classical.propDecidable _
theorem allOk_cons (r : List Int) (rs : List (List Int)) : allOk (r :: rs) ↔ okRow r ∧ allOk rs := by simp [allOk]
theorem rd_atL (pre suf : List (List Int)) (x : List Int) {i : Int} (hi : i = (pre.length : Int)) : rd_L1 (pre ++ x :: suf) i = x := by
  subst hi; simp [rd_L1]
def emp : ByteArray := ⟨#[]⟩
/-- The reference looks at each number of a row. -/
theorem specRle_l1_ev (R : List (List Int)) (s : ByteArray) (i : Int) (r : List Int) (h0 : 0 ≤ i) (h1 : i < R.length) (hr : rd_L1 R i = r) (hl : r.length ≤ 1048576) (q : ByteArray)
    (hnext : okRow r → Ev (fun k => spec_RlePut.l1 k R s i (r.length : Int)) q) : ∀ d j : Nat, j + d = r.length → (j ≠ 0 → r.length ≤ 100) → (∀ t : Nat, t < j → 0 ≤ rd r (t : Int) ∧ rd r (t : Int) ≤ 255) → Ev (fun k => spec_RlePut.l1 k R s i (j : Int)) (if okRow r then q else emp) := by
  intro d
  induction d with
  | zero =>
    intro j hj hj0 hall
    have hok : okRow r := by
      refine ⟨?_, fun t t0 t1 => ?_⟩
      · by_cases c : j = 0
        · omega
        · exact hj0 c
      · have := hall t.toNat (by omega)
        rw [Int.toNat_of_nonneg t0] at this; exact this
    rw [if_pos hok, show j = r.length by omega]
    exact hnext hok
  | succ d ih =>
    intro j hj hj0 hall
    by_cases c : 0 ≤ rd r (j : Int) ∧ rd r (j : Int) ≤ 255
    · by_cases c2 : r.length ≤ 100
      · obtain ⟨K, hK⟩ := ih (j + 1) (by omega) (fun _ => c2) (fun t ht => by
          by_cases e : t = j
          · subst e; exact c
          · exact hall t (by omega))
        try dsimp only at hK
        try dsimp only at hK
        refine ⟨K + 1, fun k hk => ?_⟩
        try dsimp only
        obtain ⟨m, rfl⟩ : ∃ m, k = m + 1 := ⟨k - 1, by omega⟩
        have hm := hK m (by omega)
        try dsimp only
        rw [spec_RlePut.l1, if_pos h0, if_pos h1, hr, if_pos (by omega), if_pos (by omega), l1In_f, Option.bind_some, if_pos (decide_eq_true c), if_neg (by omega), w64 (by omega)]
        rw [show ((j + 1 : Nat) : Int) = (j : Int) + 1 by omega] at hm
        exact hm
      · rw [if_neg (fun h => c2 h.1)]
        refine ⟨1, fun k hk => ?_⟩
        try dsimp only
        obtain ⟨m, rfl⟩ : ∃ m, k = m + 1 := ⟨k - 1, by omega⟩
        try dsimp only
        rw [spec_RlePut.l1, if_pos h0, if_pos h1, hr, if_pos (by omega), if_pos (by omega), l1In_f, Option.bind_some, if_pos (decide_eq_true c), if_pos (by omega)]; rfl
    · rw [if_neg (fun h => c (h.2 (j : Int) (by omega) (by omega)))]
      refine ⟨1, fun k hk => ?_⟩
      try dsimp only
      obtain ⟨m, rfl⟩ : ∃ m, k = m + 1 := ⟨k - 1, by omega⟩
      try dsimp only
      rw [spec_RlePut.l1, if_pos h0, if_pos h1, hr, if_pos (by omega), if_pos (by omega), l1In_f, Option.bind_some, if_neg (by simpa using c)]; rfl
theorem specRle_l0_ev (R : List (List Int)) (hR : R.length ≤ 100) (hrow : ∀ r ∈ R, r.length ≤ 1048576) : ∀ (suf pre : List (List Int)) (out : List Int), R = pre ++ suf → out.length ≤ 300 * pre.length → Ev (fun k => spec_RlePut.l0 k R (strOfNums out) (pre.length : Int)) (if allOk suf then strOfNums (out ++ sx suf ++ [0, 1]) else emp) := by
  intro suf
  induction suf with
  | nil =>
    intro pre out hp ho
    have hpl : pre.length ≤ 100 := by rw [hp] at hR; simp at hR; omega
    rw [if_pos (by simp [allOk])]
    refine ⟨1, fun k hk => ?_⟩
    try dsimp only
    obtain ⟨m, rfl⟩ : ∃ m, k = m + 1 := ⟨k - 1, by omega⟩
    try dsimp only
    rw [spec_RlePut.l0, if_neg (by rw [hp]; simp), Option.bind_some, if_pos (by rw [strOfNums_size, strOfNums_size]; simp; omega), ← son_append]
    simp [sx]
  | cons r suf ih =>
    intro pre out hp ho
    have hll : R.length = pre.length + suf.length + 1 := by rw [hp]; simp; omega
    have hx : rd_L1 R (pre.length : Int) = r := by rw [hp]; exact rd_atL _ _ _ rfl
    have hrl := rl_length r
    obtain ⟨K, hK⟩ := specRle_l1_ev R (strOfNums out) (pre.length : Int) r (by omega) (by omega) hx (hrow r (by rw [hp]; simp)) (if allOk suf then strOfNums (out ++ sx (r :: suf) ++ [0, 1]) else emp) (fun hok => by
      obtain ⟨K1, h1⟩ := l7Row_ev r hok.1 hok.2
      try dsimp only at h1
      have hok1 := hok.1
      by_cases c : suf = []
      · obtain ⟨K2, h2⟩ := ih (pre ++ [r]) (out ++ rl r) (by simp [hp]) (by simp; omega)
        try dsimp only at h2
        refine ⟨K1 + K2 + 1, fun k hk => ?_⟩
        obtain ⟨m, rfl⟩ : ∃ m, k = m + 1 := ⟨k - 1, by omega⟩
        have hm := h2 m (by omega)
        try dsimp only
        rw [List.length_append, List.length_singleton, show ((pre.length + 1 : Nat) : Int) = (pre.length : Int) + 1 by omega] at hm
        rw [spec_RlePut.l1, if_pos (by omega), if_pos (by omega), hx, if_neg (by omega), h1 m (by omega), Option.bind_some, if_pos (by rw [strOfNums_size, strOfNums_size]; omega), w64 (by omega), if_neg (by rw [hll, c]; simp), ← son_append, hm, sx_cons, if_pos c, c]
        simp [sx]
      · obtain ⟨K2, h2⟩ := ih (pre ++ [r]) (out ++ rl r ++ [0, 0]) (by simp [hp]) (by simp; omega)
        try dsimp only at h2
        have hsl : 1 ≤ suf.length := List.length_pos_iff.2 c
        refine ⟨K1 + K2 + 1, fun k hk => ?_⟩
        obtain ⟨m, rfl⟩ : ∃ m, k = m + 1 := ⟨k - 1, by omega⟩
        have hm := h2 m (by omega)
        try dsimp only
        rw [List.length_append, List.length_singleton, show ((pre.length + 1 : Nat) : Int) = (pre.length : Int) + 1 by omega] at hm
        rw [spec_RlePut.l1, if_pos (by omega), if_pos (by omega), hx, if_neg (by omega), h1 m (by omega), Option.bind_some, if_pos (by rw [strOfNums_size, strOfNums_size]; omega), w64 (by omega), if_pos (by omega), Option.bind_some, ← son_append, if_pos (by rw [strOfNums_size, strOfNums_size]; simp; omega), ← son_append, hm, sx_cons, if_neg c]
        simp only [List.append_assoc]) r.length 0 (by omega) (fun e => absurd rfl e) (fun t ht => by omega)
    try dsimp only at hK
    try dsimp only at hK
    refine ⟨K + 1, fun k hk => ?_⟩
    try dsimp only
    obtain ⟨m, rfl⟩ : ∃ m, k = m + 1 := ⟨k - 1, by omega⟩
    have hm := hK m (by omega)
    try dsimp only
    rw [spec_RlePut.l0, if_pos (by omega)]
    rw [show (((0 : Nat)) : Int) = 0 from rfl] at hm
    rw [hm]
    congr 1
    by_cases c1 : okRow r
    · rw [if_pos c1]
      by_cases c2 : allOk suf
      · rw [if_pos c2, if_pos ((allOk_cons r suf).2 ⟨c1, c2⟩)]
      · rw [if_neg c2, if_neg (fun h => c2 ((allOk_cons r suf).1 h).2)]
    · rw [if_neg c1, if_neg (fun h => c1 ((allOk_cons r suf).1 h).1)]
/-- The program looks at the first of each run. -/
theorem implRle_l1_ev (R : List (List Int)) (i n : Int) (r : List Int) (hl : r.length ≤ 100) (q : ByteArray) (qf : List Int → ByteArray) : ∀ (f : Nat) (at_ : Int) (out : List Int), 0 ≤ at_ → at_ ≤ r.length → (r.length : Int) ≤ at_ + f → out.length + 2 * (r.length - at_.toNat) ≤ 100000 →
    (okFrom r at_ → Ev (fun k => impl_RlePut.l0 k (out ++ rlM r f at_) R n (wrap64 (i + 1))) (qf (out ++ rlM r f at_))) → Ev (fun k => impl_RlePut.l1 k out r at_ R n i) (if okFrom r at_ then qf (out ++ rlM r f at_) else emp) := by
  intro f
  induction f with
  | zero =>
    intro at_ out h0 h1 h2 h3 hnext
    have hok : okFrom r at_ := fun j j0 j1 => by omega
    obtain ⟨K, hK⟩ := hnext hok
    try dsimp only at hK
    try dsimp only at hK
    rw [if_pos hok]
    refine ⟨K + 1, fun k hk => ?_⟩
    try dsimp only
    obtain ⟨m, rfl⟩ : ∃ m, k = m + 1 := ⟨k - 1, by omega⟩
    have hm := hK m (by omega)
    try dsimp only
    simp only [rlM, List.append_nil] at hm ⊢
    rw [impl_RlePut.l1, if_neg (by omega)]
    exact hm
  | succ f ih =>
    intro at_ out h0 h1 h2 h3 hnext
    by_cases h : at_ < r.length
    · obtain ⟨c, e, c1, c2, c3, c4⟩ := step_b r at_ h0 h
      obtain ⟨K1, hK1⟩ := same_ev r at_ h0 h (by omega)
      try dsimp only at hK1
      try dsimp only at hK1
      by_cases hr : 0 ≤ rd r at_ ∧ rd r at_ ≤ 255
      · have hiff := okFrom_step c1 hr c4
        have hap : out ++ rlM r (f + 1) at_ = (out ++ [(c : Int), rd r at_]) ++ rlM r f (at_ + c) := by
          simp only [rlM]; rw [if_pos h, e]; simp
        rw [hap] at hnext ⊢
        obtain ⟨K, hK⟩ := ih (at_ + c) (out ++ [(c : Int), rd r at_]) (by omega) (by omega) (by omega) (by simp; omega) (fun hok => hnext (hiff.2 hok))
        try dsimp only at hK
        try dsimp only at hK
        refine ⟨K + K1 + 1, fun k hk => ?_⟩
        try dsimp only
        obtain ⟨m, rfl⟩ : ∃ m, k = m + 1 := ⟨k - 1, by omega⟩
        have hm := hK m (by omega)
        try dsimp only
        rw [impl_RlePut.l1, if_pos h, hK1 m (by omega), Option.bind_some, if_pos h0, in_f, Option.bind_some, if_pos (decide_eq_true hr), Option.bind_some, show mn (smM r at_) 255 = (c : Int) by rw [← e]; unfold mn; split <;> split <;> omega, show (c : Int) % 256 = c by omega, show rd r at_ % 256 = rd r at_ by omega, if_pos (by simp; omega), w64 (by omega), hm]
        congr 1
        by_cases c9 : okFrom r (at_ + c)
        · rw [if_pos c9, if_pos (hiff.2 c9)]
        · rw [if_neg c9, if_neg (fun h => c9 (hiff.1 h))]
      · rw [if_neg (fun h9 => hr (h9 at_ (by omega) h))]
        refine ⟨K1 + 1, fun k hk => ?_⟩
        try dsimp only
        obtain ⟨m, rfl⟩ : ∃ m, k = m + 1 := ⟨k - 1, by omega⟩
        try dsimp only
        rw [impl_RlePut.l1, if_pos h, hK1 m (by omega), Option.bind_some, if_pos h0, in_f, Option.bind_some, if_neg (by simpa using hr)]; rfl
    · have hok : okFrom r at_ := fun j j0 j1 => by omega
      have hnil : rlM r (f + 1) at_ = [] := by simp only [rlM]; rw [if_neg h]
      rw [hnil, List.append_nil] at hnext ⊢
      obtain ⟨K, hK⟩ := hnext hok
      try dsimp only at hK
      try dsimp only at hK
      rw [if_pos hok]
      refine ⟨K + 1, fun k hk => ?_⟩
      try dsimp only
      obtain ⟨m, rfl⟩ : ∃ m, k = m + 1 := ⟨k - 1, by omega⟩
      have hm := hK m (by omega)
      try dsimp only
      rw [impl_RlePut.l1, if_neg (by omega)]
      exact hm
theorem implRle_l0_ev (R : List (List Int)) (hR : R.length ≤ 100) (hrow : ∀ r ∈ R, r.length ≤ 1048576) : ∀ (suf pre : List (List Int)) (out : List Int), R = pre ++ suf → out.length ≤ 300 * pre.length → Ev (fun k => impl_RlePut.l0 k out R (R.length : Int) (pre.length : Int)) (if allOk suf then strOfNums (out ++ (if pre = [] then sx suf else pj suf) ++ [0, 1]) else emp) := by
  intro suf
  induction suf with
  | nil =>
    intro pre out hp ho
    have hpl : pre.length ≤ 100 := by rw [hp] at hR; simp at hR; omega
    rw [if_pos (by simp [allOk])]
    refine ⟨1, fun k hk => ?_⟩
    try dsimp only
    obtain ⟨m, rfl⟩ : ∃ m, k = m + 1 := ⟨k - 1, by omega⟩
    try dsimp only
    rw [impl_RlePut.l0, if_neg (by rw [hp]; simp), Option.bind_some, if_pos (by simp; omega)]
    simp [sx, pj]
  | cons r suf ih =>
    intro pre out hp ho
    have hll : R.length = pre.length + suf.length + 1 := by rw [hp]; simp; omega
    have hx : rd_L1 R (pre.length : Int) = r := by rw [hp]; exact rd_atL _ _ _ rfl
    have hr8 := hrow r (by rw [hp]; simp)
    by_cases hlen : r.length ≤ 100
    · have hrl := rl_length r
      have hgo : ∀ o : List Int, o.length ≤ 300 * pre.length + 2 → Ev (fun k => impl_RlePut.l1 k o r 0 R (R.length : Int) (pre.length : Int)) (if okFrom r 0 then (if allOk suf then strOfNums (o ++ rl r ++ pj suf ++ [0, 1]) else emp) else emp) := by
        intro o hol
        refine implRle_l1_ev R (pre.length : Int) (R.length : Int) r hlen emp (fun z => if allOk suf then strOfNums (z ++ pj suf ++ [0, 1]) else emp) r.length 0 o (by omega) (by omega) (by omega) (by omega) (fun hok => ?_)
        have h9 := ih (pre ++ [r]) (o ++ rl r) (by simp [hp]) (by simp; omega)
        rw [if_neg (show ¬ (pre ++ [r] = []) by simp)] at h9
        rw [List.length_append, List.length_singleton, show ((pre.length + 1 : Nat) : Int) = (pre.length : Int) + 1 by omega] at h9
        rw [w64 (by omega)]
        exact h9
      by_cases hpre : pre = []
      · obtain ⟨K, hK⟩ := hgo out (by omega)
        try dsimp only at hK
        try dsimp only at hK
        refine ⟨K + 2, fun k hk => ?_⟩
        try dsimp only
        obtain ⟨m, rfl⟩ : ∃ m, k = m + 2 := ⟨k - 2, by omega⟩
        have hm := hK m (by omega)
        try dsimp only
        have hp0 : (pre.length : Int) = 0 := by rw [hpre]; rfl
        rw [impl_RlePut.l0, if_pos (by omega), if_pos (by omega), if_pos (by omega), hx, if_neg (by omega), if_neg (by omega), impl_RlePut.j1, hm]
        congr 1
        by_cases c1 : okFrom r 0
        · rw [if_pos c1]
          by_cases c2 : allOk suf
          · rw [if_pos c2, if_pos ((allOk_cons r suf).2 ⟨⟨hlen, c1⟩, c2⟩), if_pos hpre]; simp [sx]
          · rw [if_neg c2, if_neg (fun h => c2 ((allOk_cons r suf).1 h).2)]
        · rw [if_neg c1, if_neg (fun h => c1 ((allOk_cons r suf).1 h).1.2)]
      · have hpl : 1 ≤ pre.length := List.length_pos_iff.2 hpre
        obtain ⟨K, hK⟩ := hgo (out ++ [0, 0]) (by simp; omega)
        try dsimp only at hK
        try dsimp only at hK
        refine ⟨K + 2, fun k hk => ?_⟩
        try dsimp only
        obtain ⟨m, rfl⟩ : ∃ m, k = m + 2 := ⟨k - 2, by omega⟩
        have hm := hK m (by omega)
        try dsimp only
        rw [impl_RlePut.l0, if_pos (by omega), if_pos (by omega), if_pos (by omega), hx, if_neg (by omega), if_pos (by omega), Option.bind_some, if_pos (by simp; omega), impl_RlePut.j1, hm]
        congr 1
        by_cases c1 : okFrom r 0
        · rw [if_pos c1]
          by_cases c2 : allOk suf
          · rw [if_pos c2, if_pos ((allOk_cons r suf).2 ⟨⟨hlen, c1⟩, c2⟩), if_neg hpre]; simp [pj]
          · rw [if_neg c2, if_neg (fun h => c2 ((allOk_cons r suf).1 h).2)]
        · rw [if_neg c1, if_neg (fun h => c1 ((allOk_cons r suf).1 h).1.2)]
    · rw [if_neg (fun h => hlen ((allOk_cons r suf).1 h).1.1)]
      refine ⟨1, fun k hk => ?_⟩
      try dsimp only
      obtain ⟨m, rfl⟩ : ∃ m, k = m + 1 := ⟨k - 1, by omega⟩
      try dsimp only
      rw [impl_RlePut.l0, if_pos (by omega), if_pos (by omega), if_pos (by omega), hx, if_pos (by omega)]; rfl
noncomputable def rleM (R : List (List Int)) : ByteArray := if R.length ≤ 100 ∧ allOk R then strOfNums (sx R ++ [0, 1]) else emp
theorem specRle_ev (R : List (List Int)) (hR : R.length ≤ 1048576) (hrow : ∀ r ∈ R, r.length ≤ 1048576) : Ev (fun k => spec_RlePut.f k R) (rleM R) := by
  unfold rleM
  by_cases h : R.length ≤ 100
  · obtain ⟨K, hK⟩ := specRle_l0_ev R h hrow R [] [] rfl (by simp)
    try dsimp only at hK
    try dsimp only at hK
    refine ⟨K, fun k hk => ?_⟩
    try dsimp only
    try dsimp only
    unfold spec_RlePut.f
    rw [if_neg (by omega)]
    refine (hK k hk).trans ?_
    by_cases c : allOk R
    · rw [if_pos c, if_pos (show R.length ≤ 100 ∧ allOk R from ⟨h, c⟩)]; simp
    · rw [if_neg c, if_neg (fun e => c e.2)]
  · refine ⟨0, fun k hk => ?_⟩
    try dsimp only
    try dsimp only
    unfold spec_RlePut.f
    rw [if_pos (by omega), if_neg (fun e => h e.1)]; rfl
theorem implRle_ev (R : List (List Int)) (hR : R.length ≤ 1048576) (hrow : ∀ r ∈ R, r.length ≤ 1048576) : Ev (fun k => impl_RlePut.f k R) (rleM R) := by
  unfold rleM
  by_cases h : R.length ≤ 100
  · obtain ⟨K, hK⟩ := implRle_l0_ev R h hrow R [] [] rfl (by simp)
    try dsimp only at hK
    try dsimp only at hK
    refine ⟨K, fun k hk => ?_⟩
    try dsimp only
    try dsimp only
    unfold impl_RlePut.f
    rw [if_neg (by omega)]
    refine (hK k hk).trans ?_
    by_cases c : allOk R
    · rw [if_pos c, if_pos (show R.length ≤ 100 ∧ allOk R from ⟨h, c⟩)]; simp
    · rw [if_neg c, if_neg (fun e => c e.2)]
  · refine ⟨0, fun k hk => ?_⟩
    try dsimp only
    try dsimp only
    unfold impl_RlePut.f
    rw [if_pos (by omega), if_neg (fun e => h e.1)]; rfl
/-- How much some rows take. -/
def wt : List (List Int) → Int
  | [] => 0
  | r :: rs => r.length + wt rs
theorem wt_nn (R : List (List Int)) : 0 ≤ wt R := by
  induction R with
  | nil => simp [wt]
  | cons r R ih => simp only [wt]; omega
theorem wt_mem {R : List (List Int)} {r : List Int} (h : r ∈ R) : (r.length : Int) ≤ wt R := by
  induction R with
  | nil => simp at h
  | cons q R ih =>
    have := wt_nn R
    rcases List.mem_cons.1 h with rfl | h
    · simp only [wt]; omega
    · have := ih h; simp only [wt]; omega
theorem szSS_l0_ev (R : List (List Int)) (hR : R.length ≤ 1048576) (hrow : ∀ r ∈ R, r.length ≤ maxLen) : ∀ (suf pre : List (List Int)) (left : Int), R = pre ++ suf → 0 ≤ left → left ≤ 1048576 → Ev (fun k => laws_szIntSS.l0 k R left (pre.length : Int)) (if wt suf ≤ left then left - wt suf else -1) := by
  have hmx : maxLen = 9223372036854775807 := rfl
  intro suf
  induction suf with
  | nil =>
    intro pre left hp h0 h1
    refine ⟨1, fun k hk => ?_⟩
    try dsimp only
    obtain ⟨m, rfl⟩ : ∃ m, k = m + 1 := ⟨k - 1, by omega⟩
    try dsimp only
    rw [laws_szIntSS.l0, if_neg (by rw [hp]; simp), if_pos (by simpa [wt] using h0)]
    simp [wt]
  | cons r suf ih =>
    intro pre left hp h0 h1
    have hll : R.length = pre.length + suf.length + 1 := by rw [hp]; simp; omega
    have hx : rd_L1 R (pre.length : Int) = r := by rw [hp]; exact rd_atL _ _ _ rfl
    have hr8 := hrow r (by rw [hp]; simp)
    have hwn := wt_nn suf
    have hsz : laws_szIntS.f r left = some (if (r.length : Int) ≤ left then left - r.length else -1) := by
      unfold laws_szIntS.f
      rw [w64 (x := left - (r.length : Int)) (by omega)]
      by_cases h : (r.length : Int) ≤ left
      · rw [if_neg (by omega), if_pos h]
      · rw [if_pos (by omega), if_neg h]
    by_cases h : (r.length : Int) ≤ left
    · obtain ⟨K, hK⟩ := ih (pre ++ [r]) (left - r.length) (by simp [hp]) (by omega) (by omega)
      try dsimp only at hK
      try dsimp only at hK
      refine ⟨K + 1, fun k hk => ?_⟩
      try dsimp only
      obtain ⟨m, rfl⟩ : ∃ m, k = m + 1 := ⟨k - 1, by omega⟩
      have hm := hK m (by omega)
      rw [List.length_append, List.length_singleton, show ((pre.length + 1 : Nat) : Int) = (pre.length : Int) + 1 by omega] at hm
      try dsimp only
      rw [laws_szIntSS.l0, if_pos (by omega), if_pos (by omega), hx, hsz, Option.bind_some, if_pos h, if_neg (by omega), w64 (by omega), hm]
      congr 1
      by_cases c : wt suf ≤ left - r.length
      · rw [if_pos c, if_pos (by simp only [wt]; omega)]; simp only [wt]; omega
      · rw [if_neg c, if_neg (by simp only [wt]; omega)]
    · refine ⟨1, fun k hk => ?_⟩
      try dsimp only
      obtain ⟨m, rfl⟩ : ∃ m, k = m + 1 := ⟨k - 1, by omega⟩
      try dsimp only
      rw [laws_szIntSS.l0, if_pos (by omega), if_pos (by omega), hx, hsz, Option.bind_some, if_neg h, if_pos (by omega), if_neg (by simp only [wt]; omega)]
theorem set_atL (pre suf : List (List Int)) (x y : List Int) {i : Nat} (hi : i = pre.length) : (pre ++ x :: suf).set i y = pre ++ y :: suf := by
  subst hi; simp
theorem toSS_l0_ev (R : List (List Int)) (hR : R.length ≤ 1048576) (hrow : ∀ r ∈ R, r.length ≤ 1048576) : ∀ (suf pre : List (List Int)), R = pre ++ suf → Ev (fun k => laws_toIntSS.l0 k R (pre ++ List.replicate suf.length []) (pre.length : Int)) R := by
  intro suf
  induction suf with
  | nil =>
    intro pre hp
    refine ⟨1, fun k hk => ?_⟩
    try dsimp only
    obtain ⟨m, rfl⟩ : ∃ m, k = m + 1 := ⟨k - 1, by omega⟩
    subst hp
    try dsimp only
    rw [laws_toIntSS.l0, if_neg (by simp)]
    simp
  | cons r suf ih =>
    intro pre hp
    obtain ⟨K, hK⟩ := ih (pre ++ [r]) (by simp [hp])
    try dsimp only at hK
    obtain ⟨K1, h1⟩ := toIntS_ev r (by have := hrow r (by rw [hp]; simp); omega)
    try dsimp only at h1
    try dsimp only at hK h1
    refine ⟨K + K1 + 1, fun k hk => ?_⟩
    try dsimp only
    obtain ⟨m, rfl⟩ : ∃ m, k = m + 1 := ⟨k - 1, by omega⟩
    have hm := hK m (by omega)
    have hll : R.length = pre.length + suf.length + 1 := by rw [hp]; simp; omega
    have hx : rd_L1 R (pre.length : Int) = r := by rw [hp]; exact rd_atL _ _ _ rfl
    try dsimp only
    rw [laws_toIntSS.l0, if_pos (by omega), if_pos (by omega), hx, h1 m (by omega), Option.bind_some, if_pos (by simp; omega), w64 (by omega), List.length_cons, List.replicate_succ, set_atL _ _ _ _ (by simp)]
    simp only [List.append_assoc, List.singleton_append, List.length_append, List.length_singleton] at hm
    rw [show ((pre.length + 1 : Nat) : Int) = (pre.length : Int) + 1 by omega] at hm
    exact hm
theorem toSS_ev (R : List (List Int)) (hR : R.length ≤ 1048576) (hrow : ∀ r ∈ R, r.length ≤ 1048576) : Ev (fun k => laws_toIntSS.f k R) R := by
  obtain ⟨K, hK⟩ := toSS_l0_ev R hR hrow R [] rfl
  try dsimp only at hK
  refine ⟨K, fun k hk => ?_⟩
  try dsimp only
  have hm := hK k hk
  try dsimp only
  unfold laws_toIntSS.f
  rw [if_pos (by omega), if_pos (by omega), Int.toNat_natCast]
  exact hm
theorem eqSS_l0_ev (R : List (List Int)) (hR : R.length ≤ 1048576) (hrow : ∀ r ∈ R, r.length ≤ 1048576) : ∀ (suf pre : List (List Int)), R = pre ++ suf → Ev (fun k => laws_eqIntSS.l0 k R R (pre.length : Int)) true := by
  intro suf
  induction suf with
  | nil =>
    intro pre hp
    refine ⟨1, fun k hk => ?_⟩
    try dsimp only
    obtain ⟨m, rfl⟩ : ∃ m, k = m + 1 := ⟨k - 1, by omega⟩
    try dsimp only
    rw [laws_eqIntSS.l0, if_neg (by rw [hp]; simp)]
  | cons r suf ih =>
    intro pre hp
    obtain ⟨K, hK⟩ := ih (pre ++ [r]) (by simp [hp])
    try dsimp only at hK
    have hr8 := hrow r (by rw [hp]; simp)
    obtain ⟨K1, h1⟩ := eqIntS_ev r r (by omega) (by omega)
    try dsimp only at h1
    try dsimp only at hK h1
    refine ⟨K + K1 + 1, fun k hk => ?_⟩
    try dsimp only
    obtain ⟨m, rfl⟩ : ∃ m, k = m + 1 := ⟨k - 1, by omega⟩
    have hm := hK m (by omega)
    have hll : R.length = pre.length + suf.length + 1 := by rw [hp]; simp; omega
    have hx : rd_L1 R (pre.length : Int) = r := by rw [hp]; exact rd_atL _ _ _ rfl
    rw [List.length_append, List.length_singleton, show ((pre.length + 1 : Nat) : Int) = (pre.length : Int) + 1 by omega] at hm
    try dsimp only
    rw [laws_eqIntSS.l0, if_pos (by omega), if_pos (by omega), if_pos (by omega), hx, h1 m (by omega), Option.bind_some, if_pos (decide_eq_true rfl), w64 (by omega)]
    exact hm
theorem FnExactRlePut : laws_FnExactRlePut.Pure := by
  intro R hR hrow
  have hmx : maxLen = 9223372036854775807 := rfl
  have hr1 : ∀ r ∈ R, r.length ≤ maxLen := fun r hr => (hrow r hr).1
  unfold laws_FnExactRlePut.f
  by_cases h : (R.length : Int) ≤ 1048576
  · obtain ⟨K0, h0⟩ := szSS_l0_ev R (by omega) hr1 R [] (1048576 - R.length) rfl (by omega) (by omega)
    try dsimp only at h0
    try dsimp only at h0
    have hsz : ∀ k, K0 ≤ k → laws_szIntSS.f k R 1048576 = some (if wt R ≤ 1048576 - R.length then 1048576 - R.length - wt R else -1) := by
      intro k hk
      unfold laws_szIntSS.f
      rw [w64 (x := 1048576 - (R.length : Int)) (by omega), if_neg (by omega)]
      exact h0 k hk
    by_cases hw : wt R ≤ 1048576 - R.length
    · have hr2 : ∀ r ∈ R, r.length ≤ 1048576 := fun r hr => by have := wt_mem hr; omega
      obtain ⟨K1, h1⟩ := toSS_ev R (by omega) hr2
      try dsimp only at h1
      obtain ⟨K2, h2⟩ := specRle_ev R (by omega) hr2
      try dsimp only at h2
      obtain ⟨K3, h3⟩ := implRle_ev R (by omega) hr2
      try dsimp only at h3
      obtain ⟨K4, h4⟩ := eqSS_l0_ev R (by omega) hr2 R [] rfl
      try dsimp only at h4
      try dsimp only at h1 h2 h3 h4
      have h4' : ∀ k, K4 ≤ k → laws_eqIntSS.f k R R = some true := fun k hk => by unfold laws_eqIntSS.f; rw [if_pos rfl]; exact h4 k hk
      refine ⟨K0 + K1 + K2 + K3 + K4, ?_⟩
      rw [hsz _ (by omega), Option.bind_some, if_pos hw, if_neg (by omega), h1 _ (by omega), Option.bind_some, h2 _ (by omega), Option.bind_some, Option.bind_some, h3 _ (by omega), Option.bind_some, if_pos rfl, Option.bind_some, h4' _ (by omega), Option.bind_some, if_pos rfl]
    · exact ⟨K0, by rw [hsz _ (by omega), Option.bind_some, if_neg hw, if_pos (by omega)]⟩
  · refine ⟨0, ?_⟩
    have hsz : laws_szIntSS.f 0 R 1048576 = some (-1) := by
      unfold laws_szIntSS.f
      rw [w64 (x := 1048576 - (R.length : Int)) (by omega), if_pos (by omega)]
    rw [hsz, Option.bind_some, if_pos (by omega)]

end Go.Proofs.Ytpjkcdgamlllgaa.Pure
