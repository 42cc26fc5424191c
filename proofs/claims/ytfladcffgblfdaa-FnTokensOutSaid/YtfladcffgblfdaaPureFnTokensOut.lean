/- Of every tokens that the reference draws from a list of at most 1048576 bytes (a longer one is let by), and every second such list: the program's TokensOut answers as the reference, and if it answers a text, the first of the tokens, as many as the second list's length tells, make a front of it, and it has at most 5000 bytes. -/
import Derived.Test.YtfladcffgblfdaaHFnTokensOutx5
import Derived.Test.YtfladcffgblfdaaThNum
import Derived.Test.YtfladcffgblfdaaThTokOut
import Derived.Test.YtfladcffgblfdaaThTok
import Derived.Test.YtfladcffgblfdaaThXor
import Derived.Test.YtfladcffgblfdaaThStr
namespace Go.Proofs.Ytfladcffgblfdaa.Pure
open Go.RowKit Go.Proofs.Ytfladcffgblfdaa.PFnTokensOut Go.Proofs.YtfladcffgblfdaaW.PrintWords Go.Proofs.YtfladcffgblfdaaW.PrintLast Go.Proofs.YtfladcffgblfdaaW.PrintMore Go.Proofs.Ytfladcffgblfdaa.Th
set_option linter.unusedVariables false
set_option linter.unusedSimpArgs false

theorem l1In_f (a b c : Int) : spec_l1In.f a b c = some (decide (b ≤ a ∧ a ≤ c)) := by
  unfold spec_l1In.f
  by_cases h : b ≤ a
  · rw [if_pos h]; simp [h]
  · rw [if_neg h]; simp [h]
def toS (t : Int × Int × Int) : S48 := ⟨t.1, t.2.1, t.2.2⟩
theorem toS_f0 (t : Int × Int × Int) : (toS t).f0 = t.1 := rfl
theorem toS_f1 (t : Int × Int × Int) : (toS t).f1 = t.2.1 := rfl
theorem toS_f2 (t : Int × Int × Int) : (toS t).f2 = t.2.2 := rfl
theorem rd_toS (pre suf : List (Int × Int × Int)) (t : Int × Int × Int) {i : Int} (hi : i = (pre.length : Int)) : rd_T48 ((pre ++ t :: suf).map toS) i = toS t := by
  subst hi; simp [rd_T48]
theorem rd_atS (pre suf : List S48) (t : S48) {i : Int} (hi : i = (pre.length : Int)) : rd_T48 (pre ++ t :: suf) i = t := by
  subst hi; simp [rd_T48]
theorem set_atS (pre suf : List S48) (x y : S48) {i : Nat} (hi : i = pre.length) : (pre ++ x :: suf).set i y = pre ++ y :: suf := by
  subst hi; simp
def marksS (m : Int) : Nat → List S48
  | 0 => []
  | n + 1 => marksS m n ++ [⟨m + 3 * n, m + 3 * n + 1, m + 3 * n + 2⟩]
theorem marksS_length (m : Int) (n : Nat) : (marksS m n).length = n := by
  induction n with
  | zero => rfl
  | succ n ih => simp [marksS, ih]
theorem rd_marksS (m : Int) : ∀ (n i : Nat), i < n → rd_T48 (marksS m n) (i : Int) = ⟨m + 3 * i, m + 3 * i + 1, m + 3 * i + 2⟩ := by
  intro n
  induction n with
  | zero => intro i hi; omega
  | succ n ih =>
    intro i hi
    by_cases h : i = n
    · subst h; simp only [marksS]; exact rd_atS _ [] _ (by rw [marksS_length])
    · have h1 := ih i (by omega)
      have h2 : i < (marksS m n).length := by rw [marksS_length]; omega
      simp only [rd_T48, marksS, Int.toNat_natCast, List.getD_eq_getElem?_getD] at h1 ⊢
      rw [List.getElem?_append_left h2]; exact h1
theorem spec_TokensOut_l1_ev (full : List S48) (idx : Int) (out : List Int) (t : Int × Int × Int) (hs : 0 ≤ t.2.1 ∧ t.2.1 ≤ 258) (hd : t.2.1 ≠ 0 → 1 ≤ t.2.2 ∧ t.2.2 ≤ out.length) (hl : out.length ≤ 5000) (r : ByteArray × Bool)
    (hnext : Ev (fun k => spec_TokensOut.l0 k full (copyM out t.2.2 t.2.1.toNat) (wrap64 (idx + 1))) r) :
    ∀ d j : Nat, j + d = t.2.1.toNat → Ev (fun k => spec_TokensOut.l1 k full (copyM out t.2.2 j) idx (j : Int) t.1 t.2.1 t.2.2) r := by
  intro d
  induction d with
  | zero =>
    intro j hj
    obtain ⟨K, hK⟩ := hnext
    try dsimp only at hK
    refine ⟨K + 1, fun k hk => ?_⟩
    try dsimp only
    obtain ⟨m, rfl⟩ : ∃ m, k = m + 1 := ⟨k - 1, by omega⟩
    have hm := hK m (by omega)
    rw [spec_TokensOut.l1, if_neg (by omega), show j = t.2.1.toNat by omega]
    exact hm
  | succ d ih =>
    intro j hj
    obtain ⟨K, hK⟩ := ih (j + 1) (by omega)
    try dsimp only at hK
    refine ⟨K + 1, fun k hk => ?_⟩
    try dsimp only
    obtain ⟨m, rfl⟩ : ∃ m, k = m + 1 := ⟨k - 1, by omega⟩
    have hm := hK m (by omega)
    have hd' := hd (by omega)
    have hcl := copyM_length out t.2.2 j
    rw [spec_TokensOut.l1, if_pos (by omega), w64 (x := ((copyM out t.2.2 j).length : Int) - t.2.2) (by omega), if_pos (by omega), if_pos (by omega), if_pos (by omega), w64 (by omega)]
    simp only [copyM] at hm
    rw [show ((j + 1 : Nat) : Int) = (j : Int) + 1 by omega] at hm
    exact hm
theorem spec_TokensOut_l0_ev (L : List (Int × Int × Int)) (hL : L.length ≤ 1000000) : ∀ (suf pre : List (Int × Int × Int)) (out : List Int), L = pre ++ suf → out.length ≤ 5000 → (∀ x ∈ out, 0 ≤ x ∧ x ≤ 255) → Ev (fun k => spec_TokensOut.l0 k (L.map toS) out (pre.length : Int)) (outR (outM suf out)) := by
  intro suf
  induction suf with
  | nil =>
    intro pre out hp ho hb
    refine ⟨1, fun k hk => ?_⟩
    try dsimp only
    obtain ⟨m, rfl⟩ : ∃ m, k = m + 1 := ⟨k - 1, by omega⟩
    rw [spec_TokensOut.l0, if_neg (by rw [hp]; simp)]
    rfl
  | cons t suf ih =>
    intro pre out hp ho hb
    have hll : (L.map toS).length = pre.length + suf.length + 1 := by rw [hp]; simp; omega
    have hx : rd_T48 (L.map toS) (pre.length : Int) = toS t := by rw [hp]; exact rd_toS _ _ _ rfl
    have e1 : ((pre ++ [t]).length : Int) = (pre.length : Int) + 1 := by simp
    have hLl : (L.map toS).length = L.length := List.length_map _
    simp only [outM]
    by_cases h0 : t.2.1 = 0
    · by_cases hk : tokOk out.length t = true
      · rw [if_pos hk]
        have hk2 := hk
        unfold tokOk at hk2; rw [if_pos h0] at hk2
        have hh := of_decide_eq_true hk2
        have hdo : tokDo out t = out ++ [t.1] := by unfold tokDo; rw [if_pos h0]
        have hdl := tokDo_length out hk
        obtain ⟨K, hK⟩ := ih (pre ++ [t]) (tokDo out t) (by simp [hp]) hdl.2 (tokDo_b hb hk)
        try dsimp only at hK
        refine ⟨K + 1, fun k hk => ?_⟩
        try dsimp only
        obtain ⟨m, rfl⟩ : ∃ m, k = m + 1 := ⟨k - 1, by omega⟩
        have hm := hK m (by omega)
        rw [e1, hdo] at hm
        rw [hdo]
        rw [spec_TokensOut.l0, if_pos (by omega), if_pos (by omega), hx]
        rw [toS_f0, toS_f1, toS_f2]
        rw [if_pos h0, l1In_f, Option.bind_some, if_pos (decide_eq_true ⟨hh.1, hh.2.1⟩), if_pos hh.2.2.1, if_neg (by omega), if_pos (by omega), show t.1 % 256 = t.1 by omega, w64 (by omega)]
        exact hm
      · rw [if_neg hk]
        have hk2 : ¬ (0 ≤ t.1 ∧ t.1 ≤ 255 ∧ t.2.2 = 0 ∧ (out.length : Int) + 1 ≤ 5000) := by
          intro e; apply hk; unfold tokOk; rw [if_pos h0]; exact decide_eq_true e
        refine ⟨1, fun k hk => ?_⟩
        try dsimp only
        obtain ⟨m, rfl⟩ : ∃ m, k = m + 1 := ⟨k - 1, by omega⟩
        rw [spec_TokensOut.l0, if_pos (by omega), if_pos (by omega), hx]
        rw [toS_f0, toS_f1, toS_f2]
        rw [if_pos h0, l1In_f, Option.bind_some]
        by_cases h1 : 0 ≤ t.1 ∧ t.1 ≤ 255
        · rw [if_pos (decide_eq_true h1)]
          by_cases h2 : t.2.2 = 0
          · rw [if_pos h2, if_pos (by omega)]; rfl
          · rw [if_neg h2]; rfl
        · rw [if_neg (by simpa using h1)]; rfl
    · by_cases hk : tokOk out.length t = true
      · rw [if_pos hk]
        have hk2 := hk
        unfold tokOk at hk2; rw [if_neg h0] at hk2
        have hh := of_decide_eq_true hk2
        have hdo : tokDo out t = copyM out t.2.2 t.2.1.toNat := by unfold tokDo; rw [if_neg h0]
        have hdl := tokDo_length out hk
        obtain ⟨K, hK⟩ := spec_TokensOut_l1_ev (L.map toS) (pre.length : Int) out t (by omega) (fun _ => ⟨hh.2.2.2.1, hh.2.2.2.2.1⟩) ho (outR (outM suf (tokDo out t))) (by
          have h := ih (pre ++ [t]) (tokDo out t) (by simp [hp]) hdl.2 (tokDo_b hb hk)
          rw [e1] at h
          rw [w64 (by omega)]
          rw [hdo] at h ⊢
          exact h) t.2.1.toNat 0 (by omega)
        try dsimp only at hK
        refine ⟨K + 2, fun k hk => ?_⟩
        try dsimp only
        obtain ⟨m, rfl⟩ : ∃ m, k = m + 2 := ⟨k - 2, by omega⟩
        have hm := hK m (by omega)
        rw [spec_TokensOut.l0, if_pos (by omega), if_pos (by omega), hx]
        rw [toS_f0, toS_f1, toS_f2]
        rw [if_neg h0, if_pos hh.1, l1In_f, Option.bind_some, if_pos (decide_eq_true ⟨hh.2.1, hh.2.2.1⟩), l1In_f, Option.bind_some, if_pos (decide_eq_true ⟨hh.2.2.2.1, hh.2.2.2.2.1⟩), spec_TokensOut.j1, w64 (by omega), if_neg (by simp; omega)]
        exact hm
      · rw [if_neg hk]
        have hk2 : ¬ (t.1 = 0 ∧ 3 ≤ t.2.1 ∧ t.2.1 ≤ 258 ∧ 1 ≤ t.2.2 ∧ t.2.2 ≤ (out.length : Int) ∧ (out.length : Int) + t.2.1 ≤ 5000) := by
          intro e; apply hk; unfold tokOk; rw [if_neg h0]; exact decide_eq_true e
        have hj : ∀ m : Nat, spec_TokensOut.j1 (m + 1) (L.map toS) out (pre.length : Int) true t.1 t.2.1 t.2.2 = some (outR none) := by
          intro m; rw [spec_TokensOut.j1, if_pos rfl]; rfl
        refine ⟨2, fun k hk => ?_⟩
        try dsimp only
        obtain ⟨m, rfl⟩ : ∃ m, k = m + 2 := ⟨k - 2, by omega⟩
        rw [spec_TokensOut.l0, if_pos (by omega), if_pos (by omega), hx]
        rw [toS_f0, toS_f1, toS_f2]
        rw [if_neg h0]
        by_cases h1 : t.1 = 0
        · rw [if_pos h1, l1In_f, Option.bind_some]
          by_cases h2 : 3 ≤ t.2.1 ∧ t.2.1 ≤ 258
          · rw [if_pos (decide_eq_true h2), l1In_f, Option.bind_some]
            by_cases h3 : 1 ≤ t.2.2 ∧ t.2.2 ≤ (out.length : Int)
            · rw [if_pos (decide_eq_true h3), w64 (by omega), decide_eq_true (show (out.length : Int) + t.2.1 > 5000 by omega)]
              exact hj m
            · rw [if_neg (by simpa using h3)]; exact hj m
          · rw [if_neg (by simpa using h2)]; exact hj m
        · rw [if_neg h1]; exact hj m
theorem spec_TokensOut_ev (L : List (Int × Int × Int)) (hL : L.length ≤ 1000000) : Ev (fun k => spec_TokensOut.f k (L.map toS)) (outR (outM L [])) := by
  obtain ⟨K, hK⟩ := spec_TokensOut_l0_ev L hL L [] [] rfl (by simp) (by simp)
  try dsimp only at hK
  exact ⟨K, fun k hk => hK k hk⟩
theorem in_f (a b c : Int) : impl_in.f a b c = some (decide (b ≤ a ∧ a ≤ c)) := by
  unfold impl_in.f
  by_cases h : b ≤ a
  · rw [if_pos h]; simp [h]
  · rw [if_neg h]; simp [h]
theorem impl_TokensOut_l1_ev (full : List S48) (idx : Int) (out : List Int) (t : Int × Int × Int) (hs : 0 ≤ t.2.1 ∧ t.2.1 ≤ 258) (hd : t.2.1 ≠ 0 → 1 ≤ t.2.2 ∧ t.2.2 ≤ out.length) (hl : out.length ≤ 5000) (r : ByteArray × Bool)
    (hnext : Ev (fun k => impl_TokensOut.l0 k (copyM out t.2.2 t.2.1.toNat) full (full.length : Int) (wrap64 (idx + 1))) r) :
    ∀ d j : Nat, j + d = t.2.1.toNat → Ev (fun k => impl_TokensOut.l1 k (copyM out t.2.2 j) full (full.length : Int) idx t.2.1 (j : Int) t.1 t.2.1 t.2.2) r := by
  intro d
  induction d with
  | zero =>
    intro j hj
    obtain ⟨K, hK⟩ := hnext
    try dsimp only at hK
    refine ⟨K + 1, fun k hk => ?_⟩
    try dsimp only
    obtain ⟨m, rfl⟩ : ∃ m, k = m + 1 := ⟨k - 1, by omega⟩
    have hm := hK m (by omega)
    rw [impl_TokensOut.l1, if_neg (by omega), show j = t.2.1.toNat by omega]
    exact hm
  | succ d ih =>
    intro j hj
    obtain ⟨K, hK⟩ := ih (j + 1) (by omega)
    try dsimp only at hK
    refine ⟨K + 1, fun k hk => ?_⟩
    try dsimp only
    obtain ⟨m, rfl⟩ : ∃ m, k = m + 1 := ⟨k - 1, by omega⟩
    have hm := hK m (by omega)
    have hd' := hd (by omega)
    have hcl := copyM_length out t.2.2 j
    rw [impl_TokensOut.l1, if_pos (by omega), w64 (x := ((copyM out t.2.2 j).length : Int) - t.2.2) (by omega), if_pos (by omega), if_pos (by omega), if_pos (by omega), w64 (by omega)]
    simp only [copyM] at hm
    rw [show ((j + 1 : Nat) : Int) = (j : Int) + 1 by omega] at hm
    exact hm
theorem impl_TokensOut_l0_ev (L : List (Int × Int × Int)) (hL : L.length ≤ 1000000) : ∀ (suf pre : List (Int × Int × Int)) (out : List Int), L = pre ++ suf → out.length ≤ 5000 → (∀ x ∈ out, 0 ≤ x ∧ x ≤ 255) → (∀ t ∈ L, -9223372036854775808 ≤ t.2.1 ∧ t.2.1 ≤ 9223372036854770000) → Ev (fun k => impl_TokensOut.l0 k out (L.map toS) ((L.map toS).length : Int) (pre.length : Int)) (outR (outM suf out)) := by
  intro suf
  induction suf with
  | nil =>
    intro pre out hp ho hb hw
    refine ⟨1, fun k hk => ?_⟩
    try dsimp only
    obtain ⟨m, rfl⟩ : ∃ m, k = m + 1 := ⟨k - 1, by omega⟩
    rw [impl_TokensOut.l0, if_neg (by rw [hp]; simp)]
    rfl
  | cons t suf ih =>
    intro pre out hp ho hb hw
    have hll : (L.map toS).length = pre.length + suf.length + 1 := by rw [hp]; simp; omega
    have hx : rd_T48 (L.map toS) (pre.length : Int) = toS t := by rw [hp]; exact rd_toS _ _ _ rfl
    have e1 : ((pre ++ [t]).length : Int) = (pre.length : Int) + 1 := by simp
    have hLl : (L.map toS).length = L.length := List.length_map _
    have ht := hw t (by rw [hp]; simp)
    simp only [outM]
    by_cases h0 : t.2.1 = 0
    · -- a byte
      by_cases hk : tokOk out.length t = true
      · rw [if_pos hk]
        have hk2 := hk
        unfold tokOk at hk2; rw [if_pos h0] at hk2
        have hh := of_decide_eq_true hk2
        have hdo : tokDo out t = out ++ [t.1] := by unfold tokDo; rw [if_pos h0]
        have hdl := tokDo_length out hk
        obtain ⟨K, hK⟩ := impl_TokensOut_l1_ev (L.map toS) (pre.length : Int) (out ++ [t.1]) t (by omega) (fun e => absurd h0 e) (by rw [hdo] at hdl; exact hdl.2) (outR (outM suf (tokDo out t))) (by
          have h := ih (pre ++ [t]) (tokDo out t) (by simp [hp]) hdl.2 (tokDo_b hb hk) hw
          rw [e1] at h
          rw [w64 (by omega), h0, hdo]
          rw [hdo] at h
          exact h) t.2.1.toNat 0 (by omega)
        try dsimp only at hK
        refine ⟨K + 5, fun k hk => ?_⟩
        try dsimp only
        obtain ⟨m, rfl⟩ : ∃ m, k = m + 5 := ⟨k - 5, by omega⟩
        have hm := hK m (by omega)
        rw [impl_TokensOut.l0, if_pos (by omega), if_pos (by omega), if_pos (by omega), hx]
        rw [toS_f0, toS_f1, toS_f2]
        rw [if_pos h0, if_pos hh.2.2.1, in_f, Option.bind_some, decide_eq_true ⟨hh.1, hh.2.1⟩]
        have hmx : mx t.2.1 1 = 1 := by unfold mx; rw [if_pos (by omega)]
        have hj2 : ∀ b : Bool, impl_TokensOut.j2 (m + 3) out true b (L.map toS) ((L.map toS).length : Int) (pre.length : Int) t.1 t.2.1 t.2.2 = some (outR (outM suf (tokDo out t))) := by
          intro b
          rw [impl_TokensOut.j2, if_pos rfl, hmx, w64 (by omega), impl_TokensOut.j3, if_neg (by simp; omega), if_pos rfl, if_pos (by omega), impl_TokensOut.j4, show t.1 % 256 = t.1 by omega]
          exact hm
        rw [impl_TokensOut.j1]
        split
        · rw [in_f, Option.bind_some]
          split
          · rw [in_f, Option.bind_some]; exact hj2 _
          · exact hj2 _
        · exact hj2 _
      · rw [if_neg hk]
        have hk2 : ¬ (0 ≤ t.1 ∧ t.1 ≤ 255 ∧ t.2.2 = 0 ∧ (out.length : Int) + 1 ≤ 5000) := by
          intro e; apply hk; unfold tokOk; rw [if_pos h0]; exact decide_eq_true e
        refine ⟨5, fun k hk => ?_⟩
        try dsimp only
        obtain ⟨m, rfl⟩ : ∃ m, k = m + 5 := ⟨k - 5, by omega⟩
        rw [impl_TokensOut.l0, if_pos (by omega), if_pos (by omega), if_pos (by omega), hx]
        rw [toS_f0, toS_f1, toS_f2]
        have hmx : mx t.2.1 1 = 1 := by unfold mx; rw [if_pos (by omega)]
        have hj : ∀ c : Bool, (c = true → (0 ≤ t.1 ∧ t.1 ≤ 255) ∧ t.2.2 = 0) → impl_TokensOut.j1 (m + 4) out c (L.map toS) ((L.map toS).length : Int) (pre.length : Int) t.1 t.2.1 t.2.2 = some (outR none) := by
          intro c hc
          have hj2 : ∀ b : Bool, b = false → impl_TokensOut.j2 (m + 3) out c b (L.map toS) ((L.map toS).length : Int) (pre.length : Int) t.1 t.2.1 t.2.2 = some (outR none) := by
            intro b hb; subst hb
            rw [impl_TokensOut.j2]
            cases c with
            | true =>
              have := hc rfl
              rw [if_pos rfl, hmx, w64 (by omega), impl_TokensOut.j3, if_pos (decide_eq_true (by omega))]; rfl
            | false => rw [if_neg (by decide), if_neg (by decide), impl_TokensOut.j3, if_pos rfl]; rfl
          rw [impl_TokensOut.j1]
          split
          · rw [in_f, Option.bind_some, if_neg (by simp; omega)]; exact hj2 _ rfl
          · exact hj2 _ rfl
        rw [if_pos h0]
        by_cases h2 : t.2.2 = 0
        · rw [if_pos h2, in_f, Option.bind_some]
          exact hj _ (fun e => ⟨of_decide_eq_true e, h2⟩)
        · rw [if_neg h2]
          exact hj false (fun e => by simp at e)
    · -- so many bytes that stand back
      by_cases hk : tokOk out.length t = true
      · rw [if_pos hk]
        have hk2 := hk
        unfold tokOk at hk2; rw [if_neg h0] at hk2
        have hh := of_decide_eq_true hk2
        have hdo : tokDo out t = copyM out t.2.2 t.2.1.toNat := by unfold tokDo; rw [if_neg h0]
        have hdl := tokDo_length out hk
        obtain ⟨K, hK⟩ := impl_TokensOut_l1_ev (L.map toS) (pre.length : Int) out t (by omega) (fun _ => ⟨hh.2.2.2.1, hh.2.2.2.2.1⟩) ho (outR (outM suf (tokDo out t))) (by
          have h := ih (pre ++ [t]) (tokDo out t) (by simp [hp]) hdl.2 (tokDo_b hb hk) hw
          rw [e1] at h
          rw [w64 (by omega)]
          rw [hdo] at h ⊢
          exact h) t.2.1.toNat 0 (by omega)
        try dsimp only at hK
        refine ⟨K + 5, fun k hk => ?_⟩
        try dsimp only
        obtain ⟨m, rfl⟩ : ∃ m, k = m + 5 := ⟨k - 5, by omega⟩
        have hm := hK m (by omega)
        have hmx : mx t.2.1 1 = t.2.1 := by unfold mx; rw [if_neg (by omega)]
        rw [impl_TokensOut.l0, if_pos (by omega), if_pos (by omega), if_pos (by omega), hx]
        rw [toS_f0, toS_f1, toS_f2]
        rw [if_neg h0, impl_TokensOut.j1, if_pos hh.1, in_f, Option.bind_some, if_pos (decide_eq_true ⟨hh.2.1, hh.2.2.1⟩), in_f, Option.bind_some, decide_eq_true ⟨hh.2.2.2.1, hh.2.2.2.2.1⟩, impl_TokensOut.j2, if_neg (by decide), if_pos rfl, hmx, w64 (by omega), impl_TokensOut.j3, if_neg (by simp; omega), if_neg (by decide), impl_TokensOut.j4]
        exact hm
      · rw [if_neg hk]
        have hk2 : ¬ (t.1 = 0 ∧ 3 ≤ t.2.1 ∧ t.2.1 ≤ 258 ∧ 1 ≤ t.2.2 ∧ t.2.2 ≤ (out.length : Int) ∧ (out.length : Int) + t.2.1 ≤ 5000) := by
          intro e; apply hk; unfold tokOk; rw [if_neg h0]; exact decide_eq_true e
        refine ⟨5, fun k hk => ?_⟩
        try dsimp only
        obtain ⟨m, rfl⟩ : ∃ m, k = m + 5 := ⟨k - 5, by omega⟩
        rw [impl_TokensOut.l0, if_pos (by omega), if_pos (by omega), if_pos (by omega), hx]
        rw [toS_f0, toS_f1, toS_f2]
        have hj2 : ∀ b : Bool, (b = true → (t.1 = 0 ∧ (3 ≤ t.2.1 ∧ t.2.1 ≤ 258) ∧ 1 ≤ t.2.2 ∧ t.2.2 ≤ (out.length : Int))) → impl_TokensOut.j2 (m + 3) out false b (L.map toS) ((L.map toS).length : Int) (pre.length : Int) t.1 t.2.1 t.2.2 = some (outR none) := by
          intro b hb
          rw [impl_TokensOut.j2, if_neg (by decide)]
          cases b with
          | true =>
            have := hb rfl
            have hmx : mx t.2.1 1 = t.2.1 := by unfold mx; rw [if_neg (by omega)]
            rw [if_pos rfl, hmx, w64 (by omega), impl_TokensOut.j3, if_pos (decide_eq_true (by omega))]; rfl
          | false => rw [if_neg (by decide), impl_TokensOut.j3, if_pos rfl]; rfl
        rw [if_neg h0, impl_TokensOut.j1]
        by_cases h1 : t.1 = 0
        · rw [if_pos h1, in_f, Option.bind_some]
          by_cases h2 : 3 ≤ t.2.1 ∧ t.2.1 ≤ 258
          · rw [if_pos (decide_eq_true h2), in_f, Option.bind_some]
            exact hj2 _ (fun e => ⟨h1, h2, of_decide_eq_true e⟩)
          · rw [if_neg (by simpa using h2)]
            exact hj2 false (fun e => by simp at e)
        · rw [if_neg h1]
          exact hj2 false (fun e => by simp at e)
theorem impl_TokensOut_ev (L : List (Int × Int × Int)) (hL : L.length ≤ 1000000) (hw : ∀ t ∈ L, -9223372036854775808 ≤ t.2.1 ∧ t.2.1 ≤ 9223372036854770000) : Ev (fun k => impl_TokensOut.f k (L.map toS)) (outR (outM L [])) := by
  obtain ⟨K, hK⟩ := impl_TokensOut_l0_ev L hL L [] [] rfl (by simp) (by simp) hw
  try dsimp only at hK
  exact ⟨K, fun k hk => hK k hk⟩
theorem l5Match_l0_ev (s : ByteArray) (a b : Int) (ha : 0 ≤ a) (hab : a ≤ b) (hs : s.size ≤ 1048576) (hb : b ≤ s.size) : ∀ (d : Nat) (n : Int), 0 ≤ n → n + d = 258 → Ev (fun k => spec_l5Match.l0 k s a b n) (cntM s a b d n) := by
  intro d
  induction d with
  | zero =>
    intro n h0 hn
    refine ⟨1, fun k hk => ?_⟩
    try dsimp only
    obtain ⟨m, rfl⟩ : ∃ m, k = m + 1 := ⟨k - 1, by omega⟩
    rw [spec_l5Match.l0, if_neg (by omega)]; rfl
  | succ d ih =>
    intro n h0 hn
    obtain ⟨K, hK⟩ := ih (n + 1) (by omega) (by omega)
    try dsimp only at hK
    refine ⟨K + 1, fun k hk => ?_⟩
    try dsimp only
    obtain ⟨m, rfl⟩ : ∃ m, k = m + 1 := ⟨k - 1, by omega⟩
    have hm := hK m (by omega)
    simp only [cntM]
    rw [spec_l5Match.l0, if_pos (by omega), w64 (x := b + n) (by omega), w64 (x := a + n) (by omega), w64 (x := n + 1) (by omega)]
    by_cases h1 : b + n < s.size
    · rw [if_pos h1, if_pos (by omega), if_pos (by omega), if_pos (by omega)]
      by_cases h2 : bt s (a + n) = bt s (b + n)
      · rw [if_pos h2, hm, if_pos (show goesOn s a b n = true from decide_eq_true ⟨by omega, h1, h2⟩)]
      · rw [if_neg h2, if_neg (show ¬ goesOn s a b n = true from fun e => h2 (of_decide_eq_true e).2.2)]
    · rw [if_neg h1, if_neg (show ¬ goesOn s a b n = true from fun e => h1 (of_decide_eq_true e).2.1)]
theorem l5Match_ev (s : ByteArray) (a b : Int) (ha : 0 ≤ a) (hab : a ≤ b) (hs : s.size ≤ 1048576) (hb : b ≤ s.size) : Ev (fun k => spec_l5Match.f k s a b) (matM s a b) := l5Match_l0_ev s a b ha hab hs hb 258 0 (by omega) (by omega)
theorem l5Best_l0_ev (s : ByteArray) (at_ : Nat) (hs : s.size ≤ 1048576) (ha : at_ ≤ s.size) : ∀ d i : Nat, i + d = at_ → Ev (fun k => spec_l5Best.l0 k s (at_ : Int) (bestM s at_ i).1 (bestM s at_ i).2 ((i : Int) + 1)) (bestM s at_ at_) := by
  intro d
  induction d with
  | zero =>
    intro i hi
    refine ⟨1, fun k hk => ?_⟩
    try dsimp only
    obtain ⟨m, rfl⟩ : ∃ m, k = m + 1 := ⟨k - 1, by omega⟩
    rw [spec_l5Best.l0, if_neg (by omega), show i = at_ by omega]
  | succ d ih =>
    intro i hi
    obtain ⟨K, hK⟩ := ih (i + 1) (by omega)
    try dsimp only at hK
    obtain ⟨K1, hK1⟩ := l5Match_ev s ((at_ : Int) - ((i : Int) + 1)) at_ (by omega) (by omega) hs (by omega)
    try dsimp only at hK1
    refine ⟨K + K1 + 1, fun k hk => ?_⟩
    try dsimp only
    obtain ⟨m, rfl⟩ : ∃ m, k = m + 1 := ⟨k - 1, by omega⟩
    have hm := hK m (by omega)
    rw [spec_l5Best.l0, if_pos (by omega), w64 (x := (at_ : Int) - ((i : Int) + 1)) (by omega), hK1 m (by omega)]
    simp only [Option.bind_some]
    rw [w64 (x := (i : Int) + 1 + 1) (by omega)]
    simp only [bestM] at hm
    rw [show ((i + 1 : Nat) : Int) = (i : Int) + 1 by omega] at hm
    by_cases h : matM s ((at_ : Int) - ((i : Int) + 1)) at_ > (bestM s at_ i).1
    · rw [if_pos h] at hm ⊢; exact hm
    · rw [if_neg h] at hm ⊢; exact hm
theorem l5Best_ev (s : ByteArray) (at_ : Int) (h0 : 0 ≤ at_) (hs : s.size ≤ 1048576) (ha : at_ ≤ s.size) : Ev (fun k => spec_l5Best.f k s at_) (bestM s at_ at_.toNat) := by
  have h := l5Best_l0_ev s at_.toNat hs (by omega) at_.toNat 0 (by omega)
  rw [Int.toNat_of_nonneg h0] at h
  exact h
theorem l5Tokens_l0_ev (s : ByteArray) (hs : s.size ≤ 5000) : ∀ (f : Nat) (at_ : Int) (out : List S48), 0 ≤ at_ → at_ ≤ s.size → (s.size : Int) ≤ at_ + f → out.length + f ≤ 1000000 → Ev (fun k => spec_l5Tokens.l0 k s out at_) (out ++ (tokM s f at_).map toS) := by
  intro f
  induction f with
  | zero =>
    intro at_ out h0 h1 h2 h3
    refine ⟨1, fun k hk => ?_⟩
    try dsimp only
    obtain ⟨m, rfl⟩ : ∃ m, k = m + 1 := ⟨k - 1, by omega⟩
    rw [spec_l5Tokens.l0, if_neg (by omega)]
    simp [tokM]
  | succ f ih =>
    intro at_ out h0 h1 h2 h3
    simp only [tokM]
    by_cases h : at_ < s.size
    · have hb := bestM_b s at_ (by omega) at_.toNat
      have ht := bt_range s at_
      obtain ⟨K1, hK1⟩ := l5Best_ev s at_ h0 (by omega) h1
      try dsimp only at hK1
      by_cases h4 : (bestM s at_ at_.toNat).1 < 3
      · obtain ⟨K, hK⟩ := ih (at_ + 1) (out ++ [toS (bt s at_, 0, 0)]) (by omega) (by omega) (by omega) (by simp; omega)
        try dsimp only at hK
        refine ⟨K + K1 + 1, fun k hk => ?_⟩
        try dsimp only
        obtain ⟨m, rfl⟩ : ∃ m, k = m + 1 := ⟨k - 1, by omega⟩
        have hm := hK m (by omega)
        rw [spec_l5Tokens.l0, if_pos h, hK1 m (by omega)]
        simp only [Option.bind_some]
        rw [if_pos h4, if_pos h0, if_pos (by omega), w64 (x := bt s at_) (by omega), w64 (by omega), if_pos h, if_pos h4]
        rw [List.map_cons, ← List.singleton_append (l := List.map toS _), ← List.append_assoc]
        exact hm
      · obtain ⟨K, hK⟩ := ih (at_ + (bestM s at_ at_.toNat).1) (out ++ [toS (0, (bestM s at_ at_.toNat).1, (bestM s at_ at_.toNat).2)]) (by omega) (by omega) (by omega) (by simp; omega)
        try dsimp only at hK
        refine ⟨K + K1 + 1, fun k hk => ?_⟩
        try dsimp only
        obtain ⟨m, rfl⟩ : ∃ m, k = m + 1 := ⟨k - 1, by omega⟩
        have hm := hK m (by omega)
        rw [spec_l5Tokens.l0, if_pos h, hK1 m (by omega)]
        simp only [Option.bind_some]
        rw [if_neg h4, if_pos (by omega), w64 (by omega), if_pos h, if_neg h4]
        rw [List.map_cons, ← List.singleton_append (l := List.map toS _), ← List.append_assoc]
        exact hm
    · refine ⟨1, fun k hk => ?_⟩
      try dsimp only
      obtain ⟨m, rfl⟩ : ∃ m, k = m + 1 := ⟨k - 1, by omega⟩
      rw [spec_l5Tokens.l0, if_neg h, if_neg h]
      simp
theorem spec_TokensOf_ev (s : ByteArray) (hs : s.size ≤ 1048576) : Ev (fun k => spec_TokensOf.f k s) ((tokensM s).map toS) := by
  unfold spec_TokensOf.f tokensM
  by_cases h : s.size > 5000
  · refine ⟨0, fun k hk => ?_⟩
    try dsimp only
    rw [if_pos (by omega), if_pos h]; rfl
  · obtain ⟨K, hK⟩ := l5Tokens_l0_ev s (by omega) s.size 0 [] (by omega) (by omega) (by omega) (by simp; omega)
    try dsimp only at hK
    refine ⟨K, fun k hk => ?_⟩
    try dsimp only
    rw [if_neg (by omega), if_neg h]
    unfold spec_l5Tokens.f
    rw [hK k hk]; rfl
/-- A drawing's bytes. -/
def Code (b : List Int) : Prop := b.length ≤ 2000 ∧ ∀ x ∈ b, 0 ≤ x ∧ x ≤ 255
theorem l1Open_f (l : List Int) : spec_l1Open.f l = some (l.take 2000, 0) := by
  unfold spec_l1Open.f
  by_cases h : (l.length : Int) > 2000
  · rw [if_pos h, if_pos (by omega)]
  · rw [if_neg h, List.take_of_length_le (by omega)]
theorem code_open {l : List Int} (h : ∀ x ∈ l, (Lit.int .u8 x).wf = true) : Code (l.take 2000) := by
  refine ⟨by rw [List.length_take]; omega, fun x hx => ?_⟩
  have := h x (List.mem_of_mem_take hx)
  simp [Lit.wf, IntKind.min, IntKind.max, IntKind.bits, IntKind.signed] at this
  omega
theorem code_rd {b : List Int} (h : Code b) (i : Int) : 0 ≤ rd b i ∧ rd b i ≤ 255 := by
  rcases rd_mem_or b i with h1 | h1
  · exact h.2 _ h1
  · omega
/-- What is picked is there, and the place is one further. -/
theorem pick_ev {b : List Int} (hb : Code b) {p n : Int} (hp : 0 ≤ p ∧ p ≤ 1099511627776) (hn : n ≤ 1099511627776) : ∃ v : Int, (0 ≤ v ∧ (v < n ∨ n < 1 ∧ v = 0)) ∧ Ev (fun k => spec_l1Rd_pick.f k b p n) (v, p + 1) := by
  unfold spec_l1Rd_pick.f
  rw [w64 (x := p + 1) (by omega)]
  by_cases h1 : n < 1
  · refine ⟨0, ⟨by omega, .inr ⟨h1, rfl⟩⟩, 1, fun k hk => ?_⟩
    try dsimp only
    obtain ⟨m, rfl⟩ : ∃ m, k = m + 1 := ⟨k - 1, by omega⟩
    try dsimp only
    rw [if_pos h1, spec_l1Rd_pick.j0, if_pos rfl]
  by_cases h2 : b.length = 0
  · refine ⟨0, ⟨by omega, .inl (by omega)⟩, 1, fun k hk => ?_⟩
    try dsimp only
    obtain ⟨m, rfl⟩ : ∃ m, k = m + 1 := ⟨k - 1, by omega⟩
    try dsimp only
    rw [if_neg h1, spec_l1Rd_pick.j0, if_pos (by simp [h2])]
  have e0 : wrap64 (p + 1 - 1) = p := by rw [w64 (by omega)]; omega
  by_cases h3 : p < b.length
  · have hr := code_rd hb p
    refine ⟨rd b p % n, ⟨Int.emod_nonneg _ (by omega), .inl (Int.emod_lt_of_pos _ (by omega))⟩, 1, fun k hk => ?_⟩
    try dsimp only
    obtain ⟨m, rfl⟩ : ∃ m, k = m + 1 := ⟨k - 1, by omega⟩
    try dsimp only
    rw [if_neg h1, spec_l1Rd_pick.j0, if_neg (by simpa using h2), e0, if_pos h3, if_pos hp.1, if_neg (by omega), w64 (by omega), tmod_pos hr.1]
  · have hl := hb.1
    have m1 : 0 ≤ p % (b.length : Int) ∧ p % (b.length : Int) < b.length := ⟨Int.emod_nonneg _ (by omega), Int.emod_lt_of_pos _ (by omega)⟩
    have m2 : 0 ≤ (p * 7 + 3) % (b.length : Int) ∧ (p * 7 + 3) % (b.length : Int) < b.length := ⟨Int.emod_nonneg _ (by omega), Int.emod_lt_of_pos _ (by omega)⟩
    have r1 := code_rd hb (p % (b.length : Int))
    have r2 := code_rd hb ((p * 7 + 3) % (b.length : Int))
    have q1 : 0 ≤ p / (b.length : Int) := Int.ediv_nonneg hp.1 (by omega)
    have q2 : p / (b.length : Int) ≤ p := Int.ediv_le_self _ hp.1
    obtain ⟨X, hX⟩ : ∃ X, X = rd b (p % (b.length : Int)) * 131 + rd b ((p * 7 + 3) % (b.length : Int)) * 1117 + p * 29 + p / (b.length : Int) * 53 := ⟨_, rfl⟩
    have bX : 0 ≤ X ∧ X ≤ 4611686018427387904 := by omega
    have hx := xor_b (x := X) (y := X / 64) (by omega) (by omega)
    refine ⟨Go.bits .xor .i64 X (X / 64) % n, ⟨Int.emod_nonneg _ (by omega), .inl (Int.emod_lt_of_pos _ (by omega))⟩, 1, fun k hk => ?_⟩
    try dsimp only
    obtain ⟨m, rfl⟩ : ∃ m, k = m + 1 := ⟨k - 1, by omega⟩
    try dsimp only
    rw [if_neg h1, spec_l1Rd_pick.j0, if_neg (by simpa using h2), e0, if_neg h3, if_neg (by omega)]
    rw [w64 (x := p * 7) (by omega), w64 (x := p * 7 + 3) (by omega), tmod_pos (a := p) hp.1, tmod_pos (a := p * 7 + 3) (by omega), tdiv_pos (a := p) hp.1]
    rw [if_pos m1.1, if_pos m1.2, if_pos m2.1, if_pos m2.2, if_neg (by omega)]
    rw [w64 (x := rd b (p % (b.length : Int))) (by omega), w64 (x := rd b ((p * 7 + 3) % (b.length : Int))) (by omega), w64 (x := p / (b.length : Int)) (by omega)]
    rw [w64 (x := rd b (p % (b.length : Int)) * 131) (by omega), w64 (x := rd b ((p * 7 + 3) % (b.length : Int)) * 1117) (by omega), w64 (x := p * 29) (by omega), w64 (x := p / (b.length : Int) * 53) (by omega)]
    rw [w64 (x := rd b (p % (b.length : Int)) * 131 + rd b ((p * 7 + 3) % (b.length : Int)) * 1117) (by omega), w64 (x := rd b (p % (b.length : Int)) * 131 + rd b ((p * 7 + 3) % (b.length : Int)) * 1117 + p * 29) (by omega), w64 (x := rd b (p % (b.length : Int)) * 131 + rd b ((p * 7 + 3) % (b.length : Int)) * 1117 + p * 29 + p / (b.length : Int) * 53) (by omega), ← hX]
    rw [tdiv_pos (by omega), w64 (x := X / 64) (by omega), tmod_pos hx.1]
theorem of_ev {b : List Int} (hb : Code b) {p : Int} (hp : 0 ≤ p ∧ p ≤ 1000000000) (l : List ByteArray) (hl : 1 ≤ l.length) (hl2 : l.length ≤ 1000) : ∃ s, s ∈ l ∧ Ev (fun k => spec_l1Rd_of.f k b p l) (s, p + 1) := by
  obtain ⟨v, hv, K, hK⟩ := pick_ev hb (p := p) (n := (l.length : Int)) (by omega) (by omega)
  try dsimp only at hK
  try dsimp only at hK
  have hvl : v.toNat < l.length := by omega
  have e : rdOf ByteArray.empty l v = l[v.toNat] := by
    unfold rdOf; rw [List.getD_eq_getElem?_getD, List.getElem?_eq_getElem hvl]; rfl
  refine ⟨l[v.toNat], List.getElem_mem _, K, fun k hk => ?_⟩
  try dsimp only
  try dsimp only
  unfold spec_l1Rd_of.f
  rw [hK k hk]
  simp only [Option.bind_some]
  rw [if_pos (by omega), if_pos (by omega), e]
def manyM (s : ByteArray) : Nat → ByteArray
  | 0 => ⟨#[]⟩
  | n + 1 => manyM s n ++ s
theorem manyM_size (s : ByteArray) (n : Nat) : (manyM s n).size = n * s.size := by
  induction n with
  | zero => rw [Nat.zero_mul]; rfl
  | succ n ih => simp only [manyM, ByteArray.size_append, ih, Nat.succ_mul]
theorem l1Many_l0_ev (s : ByteArray) (n : Nat) (hn : n ≤ 100000) (hs : s.size ≤ 100000) : ∀ d i : Nat, i + d = n → Ev (fun k => spec_l1Many.l0 k s (n : Int) (manyM s i) (i : Int)) (manyM s n) := by
  intro d
  induction d with
  | zero =>
    intro i hi
    refine ⟨1, fun k hk => ?_⟩
    try dsimp only
    obtain ⟨m, rfl⟩ : ∃ m, k = m + 1 := ⟨k - 1, by omega⟩
    rw [spec_l1Many.l0, if_neg (by omega), show i = n by omega]
  | succ d ih =>
    intro i hi
    obtain ⟨K, hK⟩ := ih (i + 1) (by omega)
    try dsimp only at hK
    refine ⟨K + 1, fun k hk => ?_⟩
    try dsimp only
    obtain ⟨m, rfl⟩ : ∃ m, k = m + 1 := ⟨k - 1, by omega⟩
    have hm := hK m (by omega)
    have hz := manyM_size s i
    have hz2 : i * s.size ≤ 100000 * 100000 := Nat.mul_le_mul (by omega) hs
    rw [spec_l1Many.l0, if_pos (by omega), if_pos (by omega), w64 (by omega)]
    simp only [manyM] at hm
    rw [show ((i + 1 : Nat) : Int) = (i : Int) + 1 by omega] at hm
    exact hm
theorem l1Many_ev (s : ByteArray) (n : Int) (h0 : 0 ≤ n) (hn : n ≤ 100000) (hs : s.size ≤ 100000) : Ev (fun k => spec_l1Many.f k s n) (manyM s n.toNat) := by
  have h := l1Many_l0_ev s n.toNat (by omega) hs n.toNat 0 (by omega)
  rw [Int.toNat_of_nonneg h0] at h
  exact h
/-- A drawn text: short, or as many t's as may be, or one more. -/
def Short (s : ByteArray) : Prop := s.size ≤ 300 ∨ ∃ n : Nat, (9000 ≤ n ∧ n ≤ 9001) ∧ s = manyM ⟨#[116]⟩ n
theorem short_size {s : ByteArray} (h : Short s) : s.size ≤ 9001 := by
  rcases h with h | ⟨n, hn, rfl⟩
  · omega
  · rw [manyM_size, show (⟨#[116]⟩ : ByteArray).size = 1 from rfl]; omega
theorem l14Text_l1_ev {b : List Int} (hb : Code b) (n : Int) (P : Int) (S A : Nat) (C : Int) (hP : P ≤ 1000000) (hS : S ≤ 300)
    (next : ∀ (s : ByteArray) (p : Int), 0 ≤ p → p ≤ P → s.size ≤ S → ∃ (s' : ByteArray) (p' : Int), (s'.size ≤ s.size + A ∧ p ≤ p' ∧ p' ≤ p + C) ∧ Ev (fun k => spec_l14Text.l0 k s (wrap64 (n - 1)) b p) (s', p')) :
    ∀ (d : Nat) (s : ByteArray) (p : Int), d ≤ 12 → 0 ≤ p → p + d ≤ P → s.size + d ≤ S → ∃ (s' : ByteArray) (p' : Int), (s'.size ≤ s.size + d + A ∧ p ≤ p' ∧ p' ≤ p + d + C) ∧ Ev (fun k => spec_l14Text.l1 k s n (d : Int) b p) (s', p') := by
  intro d
  induction d with
  | zero =>
    intro s p hd h0 hp hs
    obtain ⟨s', p', hh, K, hK⟩ := next s p h0 (by omega) (by omega)
    try dsimp only at hK
    refine ⟨s', p', by omega, K + 1, fun k hk => ?_⟩
    try dsimp only
    obtain ⟨m, rfl⟩ : ∃ m, k = m + 1 := ⟨k - 1, by omega⟩
    try dsimp only
    rw [spec_l14Text.l1, if_neg (by omega)]
    exact hK m (by omega)
  | succ d ih =>
    intro s p hd h0 hp hs
    obtain ⟨v, hv, K1, hK1⟩ := pick_ev hb (p := p) (n := 256) (by omega) (by omega)
    try dsimp only at hK1
    try dsimp only at hK1
    have hz : (s ++ strOfNums [v % 256]).size = s.size + 1 := by rw [ByteArray.size_append, strOfNums_size]; rfl
    have hz1 : (strOfNums [v % 256]).size = 1 := by rw [strOfNums_size]; rfl
    obtain ⟨s', p', hh, K, hK⟩ := ih (s ++ strOfNums [v % 256]) (p + 1) (by omega) (by omega) (by omega) (by omega)
    try dsimp only at hK
    refine ⟨s', p', by omega, K + K1 + 1, fun k hk => ?_⟩
    try dsimp only
    obtain ⟨m, rfl⟩ : ∃ m, k = m + 1 := ⟨k - 1, by omega⟩
    try dsimp only
    rw [spec_l14Text.l1, if_pos (by omega), hK1 m (by omega)]
    simp only [Option.bind_some]
    rw [if_pos (by omega), w64 (by omega), show ((d + 1 : Nat) : Int) - 1 = (d : Int) by omega]
    exact hK m (by omega)
theorem l14Text_l0_ev {b : List Int} (hb : Code b) : ∀ (n : Nat) (s : ByteArray) (p : Int), n ≤ 6 → 0 ≤ p → p ≤ 1000000 - 20 * n → s.size + 39 * n ≤ 300 → ∃ (s' : ByteArray) (p' : Int), (s'.size ≤ s.size + 39 * n ∧ p ≤ p' ∧ p' ≤ p + 20 * n) ∧ Ev (fun k => spec_l14Text.l0 k s (n : Int) b p) (s', p') := by
  intro n
  induction n with
  | zero =>
    intro s p hn h0 hp hs
    refine ⟨s, p, by omega, 1, fun k hk => ?_⟩
    try dsimp only
    obtain ⟨m, rfl⟩ : ∃ m, k = m + 1 := ⟨k - 1, by omega⟩
    try dsimp only
    rw [spec_l14Text.l0, if_neg (by omega)]
  | succ n ih =>
    intro s p hn h0 hp hs
    obtain ⟨v, hv, K1, hK1⟩ := pick_ev hb (p := p) (n := 5) (by omega) (by omega)
    try dsimp only at hK1
    try dsimp only at hK1
    have en : wrap64 (((n + 1 : Nat) : Int) - 1) = (n : Int) := by rw [w64 (by omega)]; omega
    by_cases v0 : v = 0
    · obtain ⟨t, ht, K2, hK2⟩ := of_ev hb (p := p + 1) (by omega) [(⟨#[97]⟩ : ByteArray), (⟨#[98]⟩ : ByteArray), (⟨#[0]⟩ : ByteArray), (⟨#[255]⟩ : ByteArray)] (by decide) (by decide)
      try dsimp only at hK2
      try dsimp only at hK2
      have hts : t.size = 1 := by simp at ht; rcases ht with rfl | rfl | rfl | rfl <;> rfl
      obtain ⟨u, hu, K3, hK3⟩ := pick_ev hb (p := p + 1 + 1) (n := 40) (by omega) (by omega)
      try dsimp only at hK3
      try dsimp only at hK3
      obtain ⟨K4, hK4⟩ := l1Many_ev t u (by omega) (by omega) (by omega)
      try dsimp only at hK4
      try dsimp only at hK4
      have hz := manyM_size t u.toNat
      rw [hts, Nat.mul_one] at hz
      obtain ⟨s', p', hh, K, hK⟩ := ih (s ++ manyM t u.toNat) (p + 1 + 1 + 1) (by omega) (by omega) (by omega) (by rw [ByteArray.size_append]; omega)
      try dsimp only at hK
      rw [ByteArray.size_append] at hh
      refine ⟨s', p', by omega, K + K1 + K2 + K3 + K4 + 1, fun k hk => ?_⟩
      try dsimp only
      obtain ⟨m, rfl⟩ : ∃ m, k = m + 1 := ⟨k - 1, by omega⟩
      try dsimp only
      rw [spec_l14Text.l0, if_pos (by omega), hK1 m (by omega)]
      simp only [Option.bind_some]
      rw [if_pos v0, hK2 m (by omega)]
      simp only [Option.bind_some]
      rw [hK3 m (by omega)]
      simp only [Option.bind_some]
      rw [hK4 m (by omega)]
      simp only [Option.bind_some]
      rw [if_pos (by omega), en]
      exact hK m (by omega)
    by_cases v1 : v = 1
    · obtain ⟨s', p', hh, K, hK⟩ := ih (s ++ (⟨#[97, 32, 116, 101, 120, 116, 32, 116, 104, 97, 116, 32, 99, 111, 109, 101, 115, 32, 97, 103, 97, 105, 110, 44, 32]⟩ : ByteArray)) (p + 1) (by omega) (by omega) (by omega) (by rw [ByteArray.size_append, show (⟨#[97, 32, 116, 101, 120, 116, 32, 116, 104, 97, 116, 32, 99, 111, 109, 101, 115, 32, 97, 103, 97, 105, 110, 44, 32]⟩ : ByteArray).size = 25 from rfl]; omega)
      try dsimp only at hK
      rw [ByteArray.size_append, show (⟨#[97, 32, 116, 101, 120, 116, 32, 116, 104, 97, 116, 32, 99, 111, 109, 101, 115, 32, 97, 103, 97, 105, 110, 44, 32]⟩ : ByteArray).size = 25 from rfl] at hh
      refine ⟨s', p', by omega, K + K1 + 1, fun k hk => ?_⟩
      try dsimp only
      obtain ⟨m, rfl⟩ : ∃ m, k = m + 1 := ⟨k - 1, by omega⟩
      try dsimp only
      rw [spec_l14Text.l0, if_pos (by omega), hK1 m (by omega)]
      simp only [Option.bind_some]
      rw [if_neg v0, if_pos v1, if_pos (by omega), en]
      exact hK m (by omega)
    by_cases v2 : v = 2
    · obtain ⟨u, hu, K3, hK3⟩ := pick_ev hb (p := p + 1) (n := 12) (by omega) (by omega)
      try dsimp only at hK3
      try dsimp only at hK3
      obtain ⟨s', p', hh, K, hK⟩ := l14Text_l1_ev hb ((n + 1 : Nat) : Int) (1000000 - 20 * n) (300 - 39 * n) (39 * n) (20 * n) (by omega) (by omega) (fun s p a1 a2 a3 => by rw [en]; exact ih s p (by omega) a1 a2 (by omega)) u.toNat s (p + 1 + 1) (by omega) (by omega) (by omega) (by omega)
      try dsimp only at hK
      rw [Int.toNat_of_nonneg (by omega)] at hK
      refine ⟨s', p', by omega, K + K1 + K3 + 1, fun k hk => ?_⟩
      try dsimp only
      obtain ⟨m, rfl⟩ : ∃ m, k = m + 1 := ⟨k - 1, by omega⟩
      try dsimp only
      rw [spec_l14Text.l0, if_pos (by omega), hK1 m (by omega)]
      simp only [Option.bind_some]
      rw [if_neg v0, if_neg v1, if_pos v2, hK3 m (by omega)]
      simp only [Option.bind_some]
      exact hK m (by omega)
    · obtain ⟨t, ht, K2, hK2⟩ := of_ev hb (p := p + 1) (by omega) [(⟨#[120]⟩ : ByteArray), (⟨#[97, 98, 99]⟩ : ByteArray), (⟨#[97, 98, 99, 97, 98, 99, 97, 98, 99, 100]⟩ : ByteArray), (⟨#[32]⟩ : ByteArray)] (by decide) (by decide)
      try dsimp only at hK2
      try dsimp only at hK2
      have hts : t.size ≤ 10 := by simp at ht; rcases ht with rfl | rfl | rfl | rfl <;> decide
      obtain ⟨s', p', hh, K, hK⟩ := ih (s ++ t) (p + 1 + 1) (by omega) (by omega) (by omega) (by rw [ByteArray.size_append]; omega)
      try dsimp only at hK
      rw [ByteArray.size_append] at hh
      refine ⟨s', p', by omega, K + K1 + K2 + 1, fun k hk => ?_⟩
      try dsimp only
      obtain ⟨m, rfl⟩ : ∃ m, k = m + 1 := ⟨k - 1, by omega⟩
      try dsimp only
      rw [spec_l14Text.l0, if_pos (by omega), hK1 m (by omega)]
      simp only [Option.bind_some]
      rw [if_neg v0, if_neg v1, if_neg v2, hK2 m (by omega)]
      simp only [Option.bind_some]
      rw [if_pos (by omega), en]
      exact hK m (by omega)
theorem l14Text_ev {b : List Int} (hb : Code b) {p : Int} (hp : 0 ≤ p ∧ p ≤ 900000) : ∃ (s : ByteArray) (p' : Int), (Short s ∧ p ≤ p' ∧ p' ≤ p + 200) ∧ Ev (fun k => spec_l14Text.f k b p) (s, p') := by
  obtain ⟨v, hv, K1, hK1⟩ := pick_ev hb (p := p) (n := 150) (by omega) (by omega)
  try dsimp only at hK1
  try dsimp only at hK1
  by_cases v0 : v = 0
  · obtain ⟨u, hu, K2, hK2⟩ := pick_ev hb (p := p + 1) (n := 2) (by omega) (by omega)
    try dsimp only at hK2
    try dsimp only at hK2
    obtain ⟨K3, hK3⟩ := l1Many_ev (⟨#[116]⟩ : ByteArray) (9000 + u) (by omega) (by omega) (by decide)
    try dsimp only at hK3
    try dsimp only at hK3
    refine ⟨manyM ⟨#[116]⟩ (9000 + u).toNat, p + 1 + 1, ⟨?_, by omega, by omega⟩, K1 + K2 + K3, fun k hk => ?_⟩
    try dsimp only
    · exact .inr ⟨_, by omega, rfl⟩
    · dsimp only
      unfold spec_l14Text.f
      rw [hK1 k (by omega)]
      simp only [Option.bind_some]
      rw [if_pos v0, hK2 k (by omega)]
      simp only [Option.bind_some]
      rw [w64 (by omega), hK3 k (by omega)]
      rfl
  · obtain ⟨u, hu, K2, hK2⟩ := pick_ev hb (p := p + 1) (n := 7) (by omega) (by omega)
    try dsimp only at hK2
    try dsimp only at hK2
    obtain ⟨s', p', hh, K, hK⟩ := l14Text_l0_ev hb u.toNat (⟨#[]⟩ : ByteArray) (p + 1 + 1) (by omega) (by omega) (by omega) (by rw [show (⟨#[]⟩ : ByteArray).size = 0 from rfl]; omega)
    try dsimp only at hK
    rw [show (⟨#[]⟩ : ByteArray).size = 0 from rfl] at hh
    rw [Int.toNat_of_nonneg (by omega)] at hK
    refine ⟨s', p', ⟨.inl (by omega), by omega, by omega⟩, K + K1 + K2, fun k hk => ?_⟩
    try dsimp only
    try dsimp only
    unfold spec_l14Text.f
    rw [hK1 k (by omega)]
    simp only [Option.bind_some]
    rw [if_neg v0, hK2 k (by omega)]
    simp only [Option.bind_some]
    exact hK k (by omega)
theorem tokM_wf (s : ByteArray) : ∀ (f : Nat) (at_ : Int), ∀ t ∈ tokM s f at_, -9223372036854775808 ≤ t.2.1 ∧ t.2.1 ≤ 9223372036854770000 := by
  intro f
  induction f with
  | zero => intro at_ t ht; simp [tokM] at ht
  | succ f ih =>
    intro at_ t ht
    simp only [tokM] at ht
    split at ht
    · rename_i h
      have hb := bestM_b s at_ (by omega) at_.toNat
      split at ht
      · rcases List.mem_cons.1 ht with rfl | ht
        · dsimp only; omega
        · exact ih _ t ht
      · rcases List.mem_cons.1 ht with rfl | ht
        · dsimp only; omega
        · exact ih _ t ht
    · simp at ht
theorem tokensM_wf (s : ByteArray) : ∀ t ∈ tokensM s, -9223372036854775808 ≤ t.2.1 ∧ t.2.1 ≤ 9223372036854770000 := by
  unfold tokensM
  split
  · simp
  · exact tokM_wf s s.size 0
/-- The i-th token. -/
def tokAt (L : List (Int × Int × Int)) (i : Int) : Int × Int × Int := L.getD i.toNat (0, 0, 0)
theorem rd_map_toS (L : List (Int × Int × Int)) (i : Int) : rd_T48 (L.map toS) i = toS (tokAt L i) := by
  unfold rd_T48 tokAt
  rw [List.getD_eq_getElem?_getD, List.getD_eq_getElem?_getD, List.getElem?_map]
  cases L[i.toNat]? <;> rfl
theorem set_map_toS (L : List (Int × Int × Int)) (i : Nat) (t : Int × Int × Int) : (L.map toS).set i (toS t) = (L.set i t).map toS := by
  rw [List.map_set]
theorem tokAt_b {L : List (Int × Int × Int)} (h : ∀ t ∈ L, -9223372036854775808 ≤ t.2.1 ∧ t.2.1 ≤ 9223372036854770000) (i : Int) : -9223372036854775808 ≤ (tokAt L i).2.1 ∧ (tokAt L i).2.1 ≤ 9223372036854770000 := by
  unfold tokAt
  rw [List.getD_eq_getElem?_getD]
  cases e : L[i.toNat]? with
  | none => simp
  | some v => exact h v (List.mem_of_getElem? e)
theorem set_wf {L : List (Int × Int × Int)} (h : ∀ t ∈ L, -9223372036854775808 ≤ t.2.1 ∧ t.2.1 ≤ 9223372036854770000) (i : Nat) {x : Int × Int × Int} (hx : -9223372036854775808 ≤ x.2.1 ∧ x.2.1 ≤ 9223372036854770000) : ∀ t ∈ L.set i x, -9223372036854775808 ≤ t.2.1 ∧ t.2.1 ≤ 9223372036854770000 := by
  intro t ht
  rcases List.mem_or_eq_of_mem_set ht with h1 | h1
  · exact h t h1
  · rw [h1]; exact hx
theorem drawTokensOut_j0_ev {b : List Int} (hb : Code b) {p : Int} (hp : 0 ≤ p ∧ p ≤ 1000000) (L : List (Int × Int × Int)) (hl : 1 ≤ L.length ∧ L.length ≤ 5000) (hw : ∀ t ∈ L, -9223372036854775808 ≤ t.2.1 ∧ t.2.1 ≤ 9223372036854770000) : ∃ T : List (Int × Int × Int), (T.length ≤ 5001 ∧ ∀ t ∈ T, -9223372036854775808 ≤ t.2.1 ∧ t.2.1 ≤ 9223372036854770000) ∧ Ev (fun k => spec_DrawTokensOut.j0 k (L.map toS) true b p) (T.map toS) := by
  have hlm : (L.map toS).length = L.length := List.length_map _
  obtain ⟨i, hi, K1, hK1⟩ := pick_ev hb (p := p) (n := ((L.map toS).length : Int)) (by omega) (by omega)
  try dsimp only at hK1
  try dsimp only at hK1
  obtain ⟨u, hu, K2, hK2⟩ := pick_ev hb (p := p + 1) (n := 4) (by omega) (by omega)
  try dsimp only at hK2
  try dsimp only at hK2
  obtain ⟨v, hv, K3, hK3⟩ := pick_ev hb (p := p + 1 + 1) (n := 3) (by omega) (by omega)
  try dsimp only at hK3
  try dsimp only at hK3
  have ht := tokAt_b hw i
  have hv3 : v = 0 ∨ v = 1 ∨ v = 2 := by omega
  rcases (show u = 0 ∨ u = 1 ∨ u = 2 ∨ u = 3 by omega) with rfl | rfl | rfl | rfl
  · refine ⟨L.set i.toNat (rd [(-1), 256, 7] v, (tokAt L i).2.1, (tokAt L i).2.2), ⟨by rw [List.length_set]; omega, set_wf hw _ ht⟩, K1 + K2 + K3 + 1, fun k hk => ?_⟩
    try dsimp only
    obtain ⟨m, rfl⟩ : ∃ m, k = m + 1 := ⟨k - 1, by omega⟩
    try dsimp only
    rw [spec_DrawTokensOut.j0, if_pos rfl, hK1 m (by omega), Option.bind_some]
    try dsimp only
    rw [hK2 m (by omega), Option.bind_some]
    try dsimp only
    rw [if_pos rfl, Option.bind_some, hK3 m (by omega), Option.bind_some]
    try dsimp only
    rw [if_pos (by omega), if_pos (by simp; omega), if_pos (by omega), if_pos (by omega), rd_map_toS, ← set_map_toS]
    rfl
  · refine ⟨L.set i.toNat ((tokAt L i).1, rd [2, 259, 5] v, (tokAt L i).2.2), ⟨by rw [List.length_set]; omega, set_wf hw _ (by rcases hv3 with rfl | rfl | rfl <;> simp [rd])⟩, K1 + K2 + K3 + 1, fun k hk => ?_⟩
    try dsimp only
    obtain ⟨m, rfl⟩ : ∃ m, k = m + 1 := ⟨k - 1, by omega⟩
    try dsimp only
    rw [spec_DrawTokensOut.j0, if_pos rfl, hK1 m (by omega), Option.bind_some]
    try dsimp only
    rw [hK2 m (by omega), Option.bind_some]
    try dsimp only
    rw [if_neg (by decide), if_pos rfl, Option.bind_some, hK3 m (by omega), Option.bind_some]
    try dsimp only
    rw [if_pos (by omega), if_pos (by simp; omega), if_pos (by omega), if_pos (by omega), rd_map_toS, ← set_map_toS]
    rfl
  · refine ⟨L.set i.toNat ((tokAt L i).1, (tokAt L i).2.1, rd [0, 4, 6000] v), ⟨by rw [List.length_set]; omega, set_wf hw _ ht⟩, K1 + K2 + K3 + 1, fun k hk => ?_⟩
    try dsimp only
    obtain ⟨m, rfl⟩ : ∃ m, k = m + 1 := ⟨k - 1, by omega⟩
    try dsimp only
    rw [spec_DrawTokensOut.j0, if_pos rfl, hK1 m (by omega), Option.bind_some]
    try dsimp only
    rw [hK2 m (by omega), Option.bind_some]
    try dsimp only
    rw [if_neg (by decide), if_neg (by decide), if_pos rfl, Option.bind_some, hK3 m (by omega), Option.bind_some]
    try dsimp only
    rw [if_pos (by omega), if_pos (by simp; omega), if_pos (by omega), if_pos (by omega), rd_map_toS, ← set_map_toS]
    rfl
  · refine ⟨L ++ [tokAt L i], ⟨by rw [List.length_append, List.length_singleton]; omega, fun t h => ?_⟩, K1 + K2 + K3 + 1, fun k hk => ?_⟩
    try dsimp only
    · rcases List.mem_append.1 h with h | h
      · exact hw t h
      · rw [List.mem_singleton] at h; rw [h]; exact ht
    obtain ⟨m, rfl⟩ : ∃ m, k = m + 1 := ⟨k - 1, by omega⟩
    try dsimp only
    rw [spec_DrawTokensOut.j0, if_pos rfl, hK1 m (by omega), Option.bind_some]
    try dsimp only
    rw [hK2 m (by omega), Option.bind_some]
    try dsimp only
    rw [if_neg (by decide), if_neg (by decide), if_neg (by decide), if_pos (by omega), if_pos (by omega), if_pos (by omega), rd_map_toS, List.map_append]
    rfl
theorem drawTokensOut_ev {b : List Int} (hb : ∀ x ∈ b, (Lit.int .u8 x).wf = true) : ∃ T : List (Int × Int × Int), (T.length ≤ 5001 ∧ ∀ t ∈ T, -9223372036854775808 ≤ t.2.1 ∧ t.2.1 ≤ 9223372036854770000) ∧ Ev (fun k => spec_DrawTokensOut.f k b) (T.map toS) := by
  have hc := code_open hb
  obtain ⟨s, p1, hs, K1, hK1⟩ := l14Text_ev hc (p := 0) (by omega)
  try dsimp only at hK1
  try dsimp only at hK1
  have hz := short_size hs.1
  obtain ⟨K2, hK2⟩ := spec_TokensOf_ev s (by omega)
  try dsimp only at hK2
  try dsimp only at hK2
  have hlen := tokensM_length s
  have hw := tokensM_wf s
  have hlm : ((tokensM s).map toS).length = (tokensM s).length := List.length_map _
  have hjf : ∀ p : Int, Ev (fun k => spec_DrawTokensOut.j0 k ((tokensM s).map toS) false (b.take 2000) p) ((tokensM s).map toS) := by
    intro p
    refine ⟨1, fun k hk => ?_⟩
    try dsimp only
    obtain ⟨m, rfl⟩ : ∃ m, k = m + 1 := ⟨k - 1, by omega⟩
    rw [spec_DrawTokensOut.j0, if_neg (by decide)]
  by_cases h0 : (tokensM s).length = 0
  · obtain ⟨K3, hK3⟩ := hjf p1
    try dsimp only at hK3
    refine ⟨tokensM s, ⟨by omega, hw⟩, K1 + K2 + K3, fun k hk => ?_⟩
    try dsimp only
    try dsimp only
    unfold spec_DrawTokensOut.f
    rw [l1Open_f, Option.bind_some]
    try dsimp only
    rw [hK1 k (by omega), Option.bind_some]
    try dsimp only
    rw [hK2 k (by omega), Option.bind_some, if_neg (by omega)]
    exact hK3 k (by omega)
  · obtain ⟨v, hv, K3, hK3⟩ := pick_ev hc (p := p1) (n := 4) (by omega) (by omega)
    try dsimp only at hK3
    try dsimp only at hK3
    by_cases h1 : v = 0
    · obtain ⟨T, hT, K4, hK4⟩ := drawTokensOut_j0_ev hc (p := p1 + 1) (by omega) (tokensM s) (by omega) hw
      try dsimp only at hK4
      refine ⟨T, hT, K1 + K2 + K3 + K4, fun k hk => ?_⟩
      try dsimp only
      try dsimp only
      unfold spec_DrawTokensOut.f
      rw [l1Open_f, Option.bind_some]
      try dsimp only
      rw [hK1 k (by omega), Option.bind_some]
      try dsimp only
      rw [hK2 k (by omega), Option.bind_some, if_pos (by omega), hK3 k (by omega), Option.bind_some]
      try dsimp only
      rw [h1]
      exact hK4 k (by omega)
    · obtain ⟨K4, hK4⟩ := hjf (p1 + 1)
      try dsimp only at hK4
      refine ⟨tokensM s, ⟨by omega, hw⟩, K1 + K2 + K3 + K4, fun k hk => ?_⟩
      try dsimp only
      try dsimp only
      unfold spec_DrawTokensOut.f
      rw [l1Open_f, Option.bind_some]
      try dsimp only
      rw [hK1 k (by omega), Option.bind_some]
      try dsimp only
      rw [hK2 k (by omega), Option.bind_some, if_pos (by omega), hK3 k (by omega), Option.bind_some]
      try dsimp only
      rw [show (v == 0) = false from beq_eq_false_iff_ne.2 h1]
      exact hK4 k (by omega)

theorem front_toList (a z : List Int) : ((strOfNums (a ++ z)).extract 0 (strOfNums a).size).toList = (strOfNums a).toList := by
  rw [son_append, ByteArray.extract_append_eq_left rfl]
theorem FnTokensOut : laws_FnTokensOut.Pure := by
  intro l0 l1 hl hl1 hw hm hm1 hwm
  by_cases h : (l0.length : Int) > 1048576 ∨ (l1.length : Int) > 1048576
  · refine ⟨1, ?_⟩
    unfold laws_FnTokensOut.f
    by_cases h1 : (l0.length : Int) > 1048576
    · rw [if_pos h1, laws_FnTokensOut.j0, if_pos rfl]
    · rw [if_neg h1, laws_FnTokensOut.j0, if_pos (decide_eq_true (by omega))]
  obtain ⟨T, hT, K1, hK1⟩ := drawTokensOut_ev hw
  try dsimp only at hK1
  try dsimp only at hK1
  have hlm : (T.map toS).length = T.length := List.length_map _
  obtain ⟨K2, hK2⟩ := impl_TokensOut_ev T (by omega) hT.2
  try dsimp only at hK2
  obtain ⟨K3, hK3⟩ := spec_TokensOut_ev T (by omega)
  try dsimp only at hK3
  have hi0 : 0 ≤ (l1.length : Int) % ((T.length : Int) + 1) := Int.emod_nonneg _ (by omega)
  have hi1 : (l1.length : Int) % ((T.length : Int) + 1) < (T.length : Int) + 1 := Int.emod_lt_of_pos _ (by omega)
  obtain ⟨K4, hK4⟩ := impl_TokensOut_ev (T.take ((l1.length : Int) % ((T.length : Int) + 1)).toNat) (by rw [List.length_take]; omega) (fun t ht => hT.2 t (List.mem_of_mem_take ht))
  try dsimp only at hK4
  refine ⟨K1 + K2 + K3 + K4 + 1, ?_⟩
  unfold laws_FnTokensOut.f
  cases e : outM T [] with
  | none =>
    rw [e] at hK2 hK3
    simp only [outR] at hK2 hK3
    rw [if_neg (by omega), laws_FnTokensOut.j0, if_neg (by simp; omega), hK1 _ (by omega), Option.bind_some, hK2 _ (by omega), Option.bind_some, hK3 _ (by omega), Option.bind_some, if_pos rfl, bne_self_eq_false, if_neg (by decide)]
    simp
  | some o =>
    rw [e] at hK2 hK3
    simp only [outR] at hK2 hK3
    have hob := outM_b T [] o (by simp) (by simp) e
    obtain ⟨o', z, ho', hoz⟩ := outM_take T ((l1.length : Int) % ((T.length : Int) + 1)).toNat [] o e
    rw [ho'] at hK4
    simp only [outR] at hK4
    have hs1 := strOfNums_size o
    have hs2 := strOfNums_size o'
    have hol : o.length = o'.length + z.length := by rw [hoz, List.length_append]
    rw [if_neg (by omega), laws_FnTokensOut.j0, if_neg (by simp; omega), hK1 _ (by omega), Option.bind_some, hK2 _ (by omega), Option.bind_some, hK3 _ (by omega), Option.bind_some, if_pos rfl, bne_self_eq_false, if_neg (by decide), if_pos rfl, hlm, w64 (by omega), if_neg (by omega), if_pos (by omega), if_pos (by omega), ← List.map_take, hK4 _ (by omega), Option.bind_some, if_pos rfl, if_pos (show ((strOfNums o').size : Int) ≤ ((strOfNums o).size : Int) by omega), if_pos (show (0 : Int) ≤ ((strOfNums o').size : Int) by omega), Int.toNat_natCast, if_pos (show ((strOfNums o).extract 0 (strOfNums o').size).toList = (strOfNums o').toList by rw [hoz]; exact front_toList o' z), decide_eq_true (show ((strOfNums o).size : Int) ≤ 5000 by omega)]

end Go.Proofs.Ytfladcffgblfdaa.Pure
