/- The program's TokensOut and the reference's answer the same, at every list of at most 1048576 tokens (a longer one is let by); the list is left as it was. -/
import Derived.Test.YtpjkcdgamlllgaaHFnExactTokensOutx3
import Derived.Test.YtpjkcdgamlllgaaThNum
import Derived.Test.YtpjkcdgamlllgaaThTokOut
namespace Go.Proofs.Ytpjkcdgamlllgaa.Pure
open Go.RowKit Go.Proofs.Ytpjkcdgamlllgaa.PFnExactTokensOut Go.Proofs.YtpjkcdgamlllgaaW.PrintWords Go.Proofs.YtpjkcdgamlllgaaW.PrintLast Go.Proofs.YtpjkcdgamlllgaaW.PrintMore Go.Proofs.Ytpjkcdgamlllgaa.Th
set_option linter.unusedVariables false
set_option linter.unusedSimpArgs false

theorem l1In_f (a b c : Int) : spec_l1In.f a b c = some (decide (b ≤ a ∧ a ≤ c)) := by
  unfold spec_l1In.f
  by_cases h : b ≤ a
  · rw [if_pos h]; simp [h]
  · rw [if_neg h]; simp [h]
def toS (t : Int × Int × Int) : S71 := ⟨t.1, t.2.1, t.2.2⟩
theorem toS_f0 (t : Int × Int × Int) : (toS t).f0 = t.1 := rfl
theorem toS_f1 (t : Int × Int × Int) : (toS t).f1 = t.2.1 := rfl
theorem toS_f2 (t : Int × Int × Int) : (toS t).f2 = t.2.2 := rfl
theorem rd_toS (pre suf : List (Int × Int × Int)) (t : Int × Int × Int) {i : Int} (hi : i = (pre.length : Int)) : rd_T71 ((pre ++ t :: suf).map toS) i = toS t := by
  subst hi; simp [rd_T71]
theorem rd_atS (pre suf : List S71) (t : S71) {i : Int} (hi : i = (pre.length : Int)) : rd_T71 (pre ++ t :: suf) i = t := by
  subst hi; simp [rd_T71]
theorem set_atS (pre suf : List S71) (x y : S71) {i : Nat} (hi : i = pre.length) : (pre ++ x :: suf).set i y = pre ++ y :: suf := by
  subst hi; simp
theorem eqTokenS_l0_ev (a : List S71) (hl : a.length ≤ 35184372088832) : ∀ (sa pa : List S71), a = pa ++ sa → Ev (fun k => laws_eqTokenS.l0 k a a (pa.length : Int)) true := by
  intro sa
  induction sa with
  | nil =>
    intro pa ha
    refine ⟨1, fun k hk => ?_⟩
    try dsimp only
    obtain ⟨m, rfl⟩ : ∃ m, k = m + 1 := ⟨k - 1, by omega⟩
    rw [laws_eqTokenS.l0, if_neg (by rw [ha]; simp)]
  | cons x sa ih =>
    intro pa ha
    have hll : a.length = pa.length + sa.length + 1 := by rw [ha]; simp; omega
    have hx : rd_T71 a (pa.length : Int) = x := by rw [ha]; exact rd_atS _ _ _ rfl
    obtain ⟨K, hK⟩ := ih (pa ++ [x]) (by simp [ha])
    try dsimp only at hK
    refine ⟨K + 1, fun k hk => ?_⟩
    try dsimp only
    obtain ⟨m, rfl⟩ : ∃ m, k = m + 1 := ⟨k - 1, by omega⟩
    have hm := hK m (by omega)
    have e : laws_eqToken.f x.f0 x.f1 x.f2 x.f0 x.f1 x.f2 = some true := by simp [laws_eqToken.f]
    rw [laws_eqTokenS.l0, if_pos (by omega), if_pos (by omega), if_pos (by omega), hx, e]
    simp only [Option.bind_some, if_true]
    rw [w64 (by omega)]
    rw [List.length_append, List.length_singleton, show ((pa.length + 1 : Nat) : Int) = (pa.length : Int) + 1 by omega] at hm
    exact hm
theorem eqTokenS_ev (a : List S71) (hl : a.length ≤ 35184372088832) : Ev (fun k => laws_eqTokenS.f k a a) true := by
  obtain ⟨K, hK⟩ := eqTokenS_l0_ev a hl a [] rfl
  try dsimp only at hK
  refine ⟨K, fun k hk => ?_⟩
  try dsimp only
  unfold laws_eqTokenS.f
  rw [if_pos rfl]
  exact hK k hk
def marksS (m : Int) : Nat → List S71
  | 0 => []
  | n + 1 => marksS m n ++ [⟨m + 3 * n, m + 3 * n + 1, m + 3 * n + 2⟩]
theorem marksS_length (m : Int) (n : Nat) : (marksS m n).length = n := by
  induction n with
  | zero => rfl
  | succ n ih => simp [marksS, ih]
theorem rd_marksS (m : Int) : ∀ (n i : Nat), i < n → rd_T71 (marksS m n) (i : Int) = ⟨m + 3 * i, m + 3 * i + 1, m + 3 * i + 2⟩ := by
  intro n
  induction n with
  | zero => intro i hi; omega
  | succ n ih =>
    intro i hi
    by_cases h : i = n
    · subst h; simp only [marksS]; exact rd_atS _ [] _ (by rw [marksS_length])
    · have h1 := ih i (by omega)
      have h2 : i < (marksS m n).length := by rw [marksS_length]; omega
      simp only [rd_T71, marksS, Int.toNat_natCast, List.getD_eq_getElem?_getD] at h1 ⊢
      rw [List.getElem?_append_left h2]; exact h1
theorem spec_TokensOut_l1_ev (full : List S71) (idx : Int) (out : List Int) (t : Int × Int × Int) (hs : 0 ≤ t.2.1 ∧ t.2.1 ≤ 258) (hd : t.2.1 ≠ 0 → 1 ≤ t.2.2 ∧ t.2.2 ≤ out.length) (hl : out.length ≤ 5000) (r : ByteArray × Bool)
    (hnext : Ev (fun k => spec_TokensOut.l0 k full (copyM out t.2.2 t.2.1.toNat) (wrap64 (idx + 1))) r) :
    ∀ d j : Nat, j + d = t.2.1.toNat → Ev (fun k => spec_TokensOut.l1 k full (copyM out t.2.2 j) idx (j : Int) t.1 t.2.1 t.2.2) r := by
  intro d
  induction d with
  | zero =>
    intro j hj
    obtain ⟨K, hK⟩ := hnext
    try dsimp only at hK
    refine ⟨K + 1, fun k hk => ?_⟩
    try dsimp only
    obtain ⟨m, rfl⟩ : ∃ m, k = m + 1 := ⟨k - 1, by omega⟩
    have hm := hK m (by omega)
    rw [spec_TokensOut.l1, if_neg (by omega), show j = t.2.1.toNat by omega]
    exact hm
  | succ d ih =>
    intro j hj
    obtain ⟨K, hK⟩ := ih (j + 1) (by omega)
    try dsimp only at hK
    refine ⟨K + 1, fun k hk => ?_⟩
    try dsimp only
    obtain ⟨m, rfl⟩ : ∃ m, k = m + 1 := ⟨k - 1, by omega⟩
    have hm := hK m (by omega)
    have hd' := hd (by omega)
    have hcl := copyM_length out t.2.2 j
    rw [spec_TokensOut.l1, if_pos (by omega), w64 (x := ((copyM out t.2.2 j).length : Int) - t.2.2) (by omega), if_pos (by omega), if_pos (by omega), if_pos (by omega), w64 (by omega)]
    simp only [copyM] at hm
    rw [show ((j + 1 : Nat) : Int) = (j : Int) + 1 by omega] at hm
    exact hm
theorem spec_TokensOut_l0_ev (L : List (Int × Int × Int)) (hL : L.length ≤ 1100000) : ∀ (suf pre : List (Int × Int × Int)) (out : List Int), L = pre ++ suf → out.length ≤ 5000 → (∀ x ∈ out, 0 ≤ x ∧ x ≤ 255) → Ev (fun k => spec_TokensOut.l0 k (L.map toS) out (pre.length : Int)) (outR (outM suf out)) := by
  intro suf
  induction suf with
  | nil =>
    intro pre out hp ho hb
    refine ⟨1, fun k hk => ?_⟩
    try dsimp only
    obtain ⟨m, rfl⟩ : ∃ m, k = m + 1 := ⟨k - 1, by omega⟩
    rw [spec_TokensOut.l0, if_neg (by rw [hp]; simp)]
    rfl
  | cons t suf ih =>
    intro pre out hp ho hb
    have hll : (L.map toS).length = pre.length + suf.length + 1 := by rw [hp]; simp; omega
    have hx : rd_T71 (L.map toS) (pre.length : Int) = toS t := by rw [hp]; exact rd_toS _ _ _ rfl
    have e1 : ((pre ++ [t]).length : Int) = (pre.length : Int) + 1 := by simp
    have hLl : (L.map toS).length = L.length := List.length_map _
    simp only [outM]
    by_cases h0 : t.2.1 = 0
    · by_cases hk : tokOk out.length t = true
      · rw [if_pos hk]
        have hk2 := hk
        unfold tokOk at hk2; rw [if_pos h0] at hk2
        have hh := of_decide_eq_true hk2
        have hdo : tokDo out t = out ++ [t.1] := by unfold tokDo; rw [if_pos h0]
        have hdl := tokDo_length out hk
        obtain ⟨K, hK⟩ := ih (pre ++ [t]) (tokDo out t) (by simp [hp]) hdl.2 (tokDo_b hb hk)
        try dsimp only at hK
        refine ⟨K + 1, fun k hk => ?_⟩
        try dsimp only
        obtain ⟨m, rfl⟩ : ∃ m, k = m + 1 := ⟨k - 1, by omega⟩
        have hm := hK m (by omega)
        rw [e1, hdo] at hm
        rw [hdo]
        rw [spec_TokensOut.l0, if_pos (by omega), if_pos (by omega), hx]
        rw [toS_f0, toS_f1, toS_f2]
        rw [if_pos h0, l1In_f, Option.bind_some, if_pos (decide_eq_true ⟨hh.1, hh.2.1⟩), if_pos hh.2.2.1, if_neg (by omega), if_pos (by omega), show t.1 % 256 = t.1 by omega, w64 (by omega)]
        exact hm
      · rw [if_neg hk]
        have hk2 : ¬ (0 ≤ t.1 ∧ t.1 ≤ 255 ∧ t.2.2 = 0 ∧ (out.length : Int) + 1 ≤ 5000) := by
          intro e; apply hk; unfold tokOk; rw [if_pos h0]; exact decide_eq_true e
        refine ⟨1, fun k hk => ?_⟩
        try dsimp only
        obtain ⟨m, rfl⟩ : ∃ m, k = m + 1 := ⟨k - 1, by omega⟩
        rw [spec_TokensOut.l0, if_pos (by omega), if_pos (by omega), hx]
        rw [toS_f0, toS_f1, toS_f2]
        rw [if_pos h0, l1In_f, Option.bind_some]
        by_cases h1 : 0 ≤ t.1 ∧ t.1 ≤ 255
        · rw [if_pos (decide_eq_true h1)]
          by_cases h2 : t.2.2 = 0
          · rw [if_pos h2, if_pos (by omega)]; rfl
          · rw [if_neg h2]; rfl
        · rw [if_neg (by simpa using h1)]; rfl
    · by_cases hk : tokOk out.length t = true
      · rw [if_pos hk]
        have hk2 := hk
        unfold tokOk at hk2; rw [if_neg h0] at hk2
        have hh := of_decide_eq_true hk2
        have hdo : tokDo out t = copyM out t.2.2 t.2.1.toNat := by unfold tokDo; rw [if_neg h0]
        have hdl := tokDo_length out hk
        obtain ⟨K, hK⟩ := spec_TokensOut_l1_ev (L.map toS) (pre.length : Int) out t (by omega) (fun _ => ⟨hh.2.2.2.1, hh.2.2.2.2.1⟩) ho (outR (outM suf (tokDo out t))) (by
          have h := ih (pre ++ [t]) (tokDo out t) (by simp [hp]) hdl.2 (tokDo_b hb hk)
          rw [e1] at h
          rw [w64 (by omega)]
          rw [hdo] at h ⊢
          exact h) t.2.1.toNat 0 (by omega)
        try dsimp only at hK
        refine ⟨K + 2, fun k hk => ?_⟩
        try dsimp only
        obtain ⟨m, rfl⟩ : ∃ m, k = m + 2 := ⟨k - 2, by omega⟩
        have hm := hK m (by omega)
        rw [spec_TokensOut.l0, if_pos (by omega), if_pos (by omega), hx]
        rw [toS_f0, toS_f1, toS_f2]
        rw [if_neg h0, if_pos hh.1, l1In_f, Option.bind_some, if_pos (decide_eq_true ⟨hh.2.1, hh.2.2.1⟩), l1In_f, Option.bind_some, if_pos (decide_eq_true ⟨hh.2.2.2.1, hh.2.2.2.2.1⟩), spec_TokensOut.j1, w64 (by omega), if_neg (by simp; omega)]
        exact hm
      · rw [if_neg hk]
        have hk2 : ¬ (t.1 = 0 ∧ 3 ≤ t.2.1 ∧ t.2.1 ≤ 258 ∧ 1 ≤ t.2.2 ∧ t.2.2 ≤ (out.length : Int) ∧ (out.length : Int) + t.2.1 ≤ 5000) := by
          intro e; apply hk; unfold tokOk; rw [if_neg h0]; exact decide_eq_true e
        have hj : ∀ m : Nat, spec_TokensOut.j1 (m + 1) (L.map toS) out (pre.length : Int) true t.1 t.2.1 t.2.2 = some (outR none) := by
          intro m; rw [spec_TokensOut.j1, if_pos rfl]; rfl
        refine ⟨2, fun k hk => ?_⟩
        try dsimp only
        obtain ⟨m, rfl⟩ : ∃ m, k = m + 2 := ⟨k - 2, by omega⟩
        rw [spec_TokensOut.l0, if_pos (by omega), if_pos (by omega), hx]
        rw [toS_f0, toS_f1, toS_f2]
        rw [if_neg h0]
        by_cases h1 : t.1 = 0
        · rw [if_pos h1, l1In_f, Option.bind_some]
          by_cases h2 : 3 ≤ t.2.1 ∧ t.2.1 ≤ 258
          · rw [if_pos (decide_eq_true h2), l1In_f, Option.bind_some]
            by_cases h3 : 1 ≤ t.2.2 ∧ t.2.2 ≤ (out.length : Int)
            · rw [if_pos (decide_eq_true h3), w64 (by omega), decide_eq_true (show (out.length : Int) + t.2.1 > 5000 by omega)]
              exact hj m
            · rw [if_neg (by simpa using h3)]; exact hj m
          · rw [if_neg (by simpa using h2)]; exact hj m
        · rw [if_neg h1]; exact hj m
theorem spec_TokensOut_ev (L : List (Int × Int × Int)) (hL : L.length ≤ 1100000) : Ev (fun k => spec_TokensOut.f k (L.map toS)) (outR (outM L [])) := by
  obtain ⟨K, hK⟩ := spec_TokensOut_l0_ev L hL L [] [] rfl (by simp) (by simp)
  try dsimp only at hK
  exact ⟨K, fun k hk => hK k hk⟩
theorem in_f (a b c : Int) : impl_in.f a b c = some (decide (b ≤ a ∧ a ≤ c)) := by
  unfold impl_in.f
  by_cases h : b ≤ a
  · rw [if_pos h]; simp [h]
  · rw [if_neg h]; simp [h]
theorem impl_TokensOut_l1_ev (full : List S71) (idx : Int) (out : List Int) (t : Int × Int × Int) (hs : 0 ≤ t.2.1 ∧ t.2.1 ≤ 258) (hd : t.2.1 ≠ 0 → 1 ≤ t.2.2 ∧ t.2.2 ≤ out.length) (hl : out.length ≤ 5000) (r : ByteArray × Bool)
    (hnext : Ev (fun k => impl_TokensOut.l0 k (copyM out t.2.2 t.2.1.toNat) full (full.length : Int) (wrap64 (idx + 1))) r) :
    ∀ d j : Nat, j + d = t.2.1.toNat → Ev (fun k => impl_TokensOut.l1 k (copyM out t.2.2 j) full (full.length : Int) idx t.2.1 (j : Int) t.1 t.2.1 t.2.2) r := by
  intro d
  induction d with
  | zero =>
    intro j hj
    obtain ⟨K, hK⟩ := hnext
    try dsimp only at hK
    refine ⟨K + 1, fun k hk => ?_⟩
    try dsimp only
    obtain ⟨m, rfl⟩ : ∃ m, k = m + 1 := ⟨k - 1, by omega⟩
    have hm := hK m (by omega)
    rw [impl_TokensOut.l1, if_neg (by omega), show j = t.2.1.toNat by omega]
    exact hm
  | succ d ih =>
    intro j hj
    obtain ⟨K, hK⟩ := ih (j + 1) (by omega)
    try dsimp only at hK
    refine ⟨K + 1, fun k hk => ?_⟩
    try dsimp only
    obtain ⟨m, rfl⟩ : ∃ m, k = m + 1 := ⟨k - 1, by omega⟩
    have hm := hK m (by omega)
    have hd' := hd (by omega)
    have hcl := copyM_length out t.2.2 j
    rw [impl_TokensOut.l1, if_pos (by omega), w64 (x := ((copyM out t.2.2 j).length : Int) - t.2.2) (by omega), if_pos (by omega), if_pos (by omega), if_pos (by omega), w64 (by omega)]
    simp only [copyM] at hm
    rw [show ((j + 1 : Nat) : Int) = (j : Int) + 1 by omega] at hm
    exact hm
theorem impl_TokensOut_l0_ev (L : List (Int × Int × Int)) (hL : L.length ≤ 1100000) : ∀ (suf pre : List (Int × Int × Int)) (out : List Int), L = pre ++ suf → out.length ≤ 5000 → (∀ x ∈ out, 0 ≤ x ∧ x ≤ 255) → (∀ t ∈ L, -9223372036854775808 ≤ t.2.1 ∧ t.2.1 ≤ 9223372036854775807) → Ev (fun k => impl_TokensOut.l0 k out (L.map toS) ((L.map toS).length : Int) (pre.length : Int)) (outR (outM suf out)) := by
  intro suf
  induction suf with
  | nil =>
    intro pre out hp ho hb hw
    refine ⟨1, fun k hk => ?_⟩
    try dsimp only
    obtain ⟨m, rfl⟩ : ∃ m, k = m + 1 := ⟨k - 1, by omega⟩
    rw [impl_TokensOut.l0, if_neg (by rw [hp]; simp)]
    rfl
  | cons t suf ih =>
    intro pre out hp ho hb hw
    have hll : (L.map toS).length = pre.length + suf.length + 1 := by rw [hp]; simp; omega
    have hx : rd_T71 (L.map toS) (pre.length : Int) = toS t := by rw [hp]; exact rd_toS _ _ _ rfl
    have e1 : ((pre ++ [t]).length : Int) = (pre.length : Int) + 1 := by simp
    have hLl : (L.map toS).length = L.length := List.length_map _
    have ht := hw t (by rw [hp]; simp)
    simp only [outM]
    by_cases h0 : t.2.1 = 0
    · -- a byte
      by_cases hk : tokOk out.length t = true
      · rw [if_pos hk]
        have hk2 := hk
        unfold tokOk at hk2; rw [if_pos h0] at hk2
        have hh := of_decide_eq_true hk2
        have hdo : tokDo out t = out ++ [t.1] := by unfold tokDo; rw [if_pos h0]
        have hdl := tokDo_length out hk
        obtain ⟨K, hK⟩ := impl_TokensOut_l1_ev (L.map toS) (pre.length : Int) (out ++ [t.1]) t (by omega) (fun e => absurd h0 e) (by rw [hdo] at hdl; exact hdl.2) (outR (outM suf (tokDo out t))) (by
          have h := ih (pre ++ [t]) (tokDo out t) (by simp [hp]) hdl.2 (tokDo_b hb hk) hw
          rw [e1] at h
          rw [w64 (by omega), h0, hdo]
          rw [hdo] at h
          exact h) t.2.1.toNat 0 (by omega)
        try dsimp only at hK
        refine ⟨K + 5, fun k hk => ?_⟩
        try dsimp only
        obtain ⟨m, rfl⟩ : ∃ m, k = m + 5 := ⟨k - 5, by omega⟩
        have hm := hK m (by omega)
        rw [impl_TokensOut.l0, if_pos (by omega), if_pos (by omega), if_pos (by omega), hx]
        rw [toS_f0, toS_f1, toS_f2]
        rw [if_pos h0, if_pos hh.2.2.1, in_f, Option.bind_some, decide_eq_true ⟨hh.1, hh.2.1⟩]
        have hmx : mx t.2.1 1 = 1 := by unfold mx; rw [if_pos (by omega)]
        have hj2 : ∀ b : Bool, impl_TokensOut.j2 (m + 3) out true b (L.map toS) ((L.map toS).length : Int) (pre.length : Int) t.1 t.2.1 t.2.2 = some (outR (outM suf (tokDo out t))) := by
          intro b
          rw [impl_TokensOut.j2, if_pos rfl, hmx, w64 (by omega), impl_TokensOut.j3, if_neg (by simp; omega), if_pos rfl, if_pos (by omega), impl_TokensOut.j4, show t.1 % 256 = t.1 by omega]
          exact hm
        rw [impl_TokensOut.j1]
        split
        · rw [in_f, Option.bind_some]
          split
          · rw [in_f, Option.bind_some]; exact hj2 _
          · exact hj2 _
        · exact hj2 _
      · rw [if_neg hk]
        have hk2 : ¬ (0 ≤ t.1 ∧ t.1 ≤ 255 ∧ t.2.2 = 0 ∧ (out.length : Int) + 1 ≤ 5000) := by
          intro e; apply hk; unfold tokOk; rw [if_pos h0]; exact decide_eq_true e
        refine ⟨5, fun k hk => ?_⟩
        try dsimp only
        obtain ⟨m, rfl⟩ : ∃ m, k = m + 5 := ⟨k - 5, by omega⟩
        rw [impl_TokensOut.l0, if_pos (by omega), if_pos (by omega), if_pos (by omega), hx]
        rw [toS_f0, toS_f1, toS_f2]
        have hmx : mx t.2.1 1 = 1 := by unfold mx; rw [if_pos (by omega)]
        have hj : ∀ c : Bool, (c = true → (0 ≤ t.1 ∧ t.1 ≤ 255) ∧ t.2.2 = 0) → impl_TokensOut.j1 (m + 4) out c (L.map toS) ((L.map toS).length : Int) (pre.length : Int) t.1 t.2.1 t.2.2 = some (outR none) := by
          intro c hc
          have hj2 : ∀ b : Bool, b = false → impl_TokensOut.j2 (m + 3) out c b (L.map toS) ((L.map toS).length : Int) (pre.length : Int) t.1 t.2.1 t.2.2 = some (outR none) := by
            intro b hb; subst hb
            rw [impl_TokensOut.j2]
            cases c with
            | true =>
              have := hc rfl
              rw [if_pos rfl, hmx, w64 (by omega), impl_TokensOut.j3, if_pos (decide_eq_true (by omega))]; rfl
            | false => rw [if_neg (by decide), if_neg (by decide), impl_TokensOut.j3, if_pos rfl]; rfl
          rw [impl_TokensOut.j1]
          split
          · rw [in_f, Option.bind_some, if_neg (by simp; omega)]; exact hj2 _ rfl
          · exact hj2 _ rfl
        rw [if_pos h0]
        by_cases h2 : t.2.2 = 0
        · rw [if_pos h2, in_f, Option.bind_some]
          exact hj _ (fun e => ⟨of_decide_eq_true e, h2⟩)
        · rw [if_neg h2]
          exact hj false (fun e => by simp at e)
    · -- so many bytes that stand back
      by_cases hk : tokOk out.length t = true
      · rw [if_pos hk]
        have hk2 := hk
        unfold tokOk at hk2; rw [if_neg h0] at hk2
        have hh := of_decide_eq_true hk2
        have hdo : tokDo out t = copyM out t.2.2 t.2.1.toNat := by unfold tokDo; rw [if_neg h0]
        have hdl := tokDo_length out hk
        obtain ⟨K, hK⟩ := impl_TokensOut_l1_ev (L.map toS) (pre.length : Int) out t (by omega) (fun _ => ⟨hh.2.2.2.1, hh.2.2.2.2.1⟩) ho (outR (outM suf (tokDo out t))) (by
          have h := ih (pre ++ [t]) (tokDo out t) (by simp [hp]) hdl.2 (tokDo_b hb hk) hw
          rw [e1] at h
          rw [w64 (by omega)]
          rw [hdo] at h ⊢
          exact h) t.2.1.toNat 0 (by omega)
        try dsimp only at hK
        refine ⟨K + 5, fun k hk => ?_⟩
        try dsimp only
        obtain ⟨m, rfl⟩ : ∃ m, k = m + 5 := ⟨k - 5, by omega⟩
        have hm := hK m (by omega)
        have hmx : mx t.2.1 1 = t.2.1 := by unfold mx; rw [if_neg (by omega)]
        rw [impl_TokensOut.l0, if_pos (by omega), if_pos (by omega), if_pos (by omega), hx]
        rw [toS_f0, toS_f1, toS_f2]
        rw [if_neg h0, impl_TokensOut.j1, if_pos hh.1, in_f, Option.bind_some, if_pos (decide_eq_true ⟨hh.2.1, hh.2.2.1⟩), in_f, Option.bind_some, decide_eq_true ⟨hh.2.2.2.1, hh.2.2.2.2.1⟩, impl_TokensOut.j2, if_neg (by decide), if_pos rfl, hmx, w64 (by omega), impl_TokensOut.j3, if_neg (by simp; omega), if_neg (by decide), impl_TokensOut.j4]
        exact hm
      · rw [if_neg hk]
        have hk2 : ¬ (t.1 = 0 ∧ 3 ≤ t.2.1 ∧ t.2.1 ≤ 258 ∧ 1 ≤ t.2.2 ∧ t.2.2 ≤ (out.length : Int) ∧ (out.length : Int) + t.2.1 ≤ 5000) := by
          intro e; apply hk; unfold tokOk; rw [if_neg h0]; exact decide_eq_true e
        refine ⟨5, fun k hk => ?_⟩
        try dsimp only
        obtain ⟨m, rfl⟩ : ∃ m, k = m + 5 := ⟨k - 5, by omega⟩
        rw [impl_TokensOut.l0, if_pos (by omega), if_pos (by omega), if_pos (by omega), hx]
        rw [toS_f0, toS_f1, toS_f2]
        have hj2 : ∀ b : Bool, (b = true → (t.1 = 0 ∧ (3 ≤ t.2.1 ∧ t.2.1 ≤ 258) ∧ 1 ≤ t.2.2 ∧ t.2.2 ≤ (out.length : Int))) → impl_TokensOut.j2 (m + 3) out false b (L.map toS) ((L.map toS).length : Int) (pre.length : Int) t.1 t.2.1 t.2.2 = some (outR none) := by
          intro b hb
          rw [impl_TokensOut.j2, if_neg (by decide)]
          cases b with
          | true =>
            have := hb rfl
            have hmx : mx t.2.1 1 = t.2.1 := by unfold mx; rw [if_neg (by omega)]
            rw [if_pos rfl, hmx, w64 (by omega), impl_TokensOut.j3, if_pos (decide_eq_true (by omega))]; rfl
          | false => rw [if_neg (by decide), impl_TokensOut.j3, if_pos rfl]; rfl
        rw [if_neg h0, impl_TokensOut.j1]
        by_cases h1 : t.1 = 0
        · rw [if_pos h1, in_f, Option.bind_some]
          by_cases h2 : 3 ≤ t.2.1 ∧ t.2.1 ≤ 258
          · rw [if_pos (decide_eq_true h2), in_f, Option.bind_some]
            exact hj2 _ (fun e => ⟨h1, h2, of_decide_eq_true e⟩)
          · rw [if_neg (by simpa using h2)]
            exact hj2 false (fun e => by simp at e)
        · rw [if_neg h1]
          exact hj2 false (fun e => by simp at e)
theorem impl_TokensOut_ev (L : List (Int × Int × Int)) (hL : L.length ≤ 1100000) (hw : ∀ t ∈ L, -9223372036854775808 ≤ t.2.1 ∧ t.2.1 ≤ 9223372036854775807) : Ev (fun k => impl_TokensOut.f k (L.map toS)) (outR (outM L [])) := by
  obtain ⟨K, hK⟩ := impl_TokensOut_l0_ev L hL L [] [] rfl (by simp) (by simp) hw
  try dsimp only at hK
  exact ⟨K, fun k hk => hK k hk⟩

theorem rd_atT (pre suf : List S74) (t : S74) {i : Int} (hi : i = (pre.length : Int)) : rd_T74 (pre ++ t :: suf) i = t := by
  subst hi; simp [rd_T74]
def tupT (t : S74) : Int × Int × Int := (t.f0, t.f1, t.f2)
theorem toTokenS_l0_ev (l : List S74) (hl : l.length ≤ 1048576) : ∀ (suf pre : List S74), l = pre ++ suf → Ev (fun k => laws_toTokenS.l0 k l ((pre.map tupT).map toS ++ List.replicate suf.length z71) (pre.length : Int)) ((l.map tupT).map toS) := by
  intro suf
  induction suf with
  | nil =>
    intro pre hp
    refine ⟨1, fun k hk => ?_⟩
    try dsimp only
    obtain ⟨m, rfl⟩ : ∃ m, k = m + 1 := ⟨k - 1, by omega⟩
    subst hp
    try dsimp only
    rw [laws_toTokenS.l0, if_neg (by simp)]
    simp
  | cons x suf ih =>
    intro pre hp
    obtain ⟨K, hK⟩ := ih (pre ++ [x]) (by simp [hp])
    try dsimp only at hK
    refine ⟨K + 1, fun k hk => ?_⟩
    try dsimp only
    obtain ⟨m, rfl⟩ : ∃ m, k = m + 1 := ⟨k - 1, by omega⟩
    have hm := hK m (by omega)
    have hll : l.length = pre.length + suf.length + 1 := by rw [hp]; simp; omega
    have hx : rd_T74 l (pre.length : Int) = x := by rw [hp]; exact rd_atT _ _ _ rfl
    try dsimp only
    rw [laws_toTokenS.l0, if_pos (by omega), if_pos (by omega), hx]
    unfold laws_toToken.f
    rw [Option.bind_some, if_pos (by simp; omega), w64 (by omega), List.length_cons, List.replicate_succ, set_atS _ _ _ _ (by simp)]
    simp only [List.map_append, List.map_cons, List.map_nil, List.append_assoc, List.singleton_append, List.length_append, List.length_singleton] at hm
    rw [show ((pre.length + 1 : Nat) : Int) = (pre.length : Int) + 1 by omega] at hm
    exact hm
theorem toTokenS_ev (l : List S74) (hl : l.length ≤ 1048576) : Ev (fun k => laws_toTokenS.f k l) ((l.map tupT).map toS) := by
  obtain ⟨K, hK⟩ := toTokenS_l0_ev l hl l [] rfl
  try dsimp only at hK
  refine ⟨K, fun k hk => ?_⟩
  try dsimp only
  have hm := hK k hk
  try dsimp only
  unfold laws_toTokenS.f
  rw [if_pos (by omega), if_pos (by omega), Int.toNat_natCast]
  exact hm
theorem FnExactTokensOut : laws_FnExactTokensOut.Pure := by
  intro l hl hw
  have hmx : maxLen = 9223372036854775807 := rfl
  unfold laws_FnExactTokensOut.f
  have hsz : laws_szTokenS.f l 1048576 = some (if (l.length : Int) ≤ 1048576 then 1048576 - (l.length : Int) else (-1 : Int)) := by
    unfold laws_szTokenS.f
    rw [w64 (x := 1048576 - (l.length : Int)) (by omega)]
    by_cases h : (l.length : Int) ≤ 1048576
    · rw [if_neg (by omega), if_pos h]
    · rw [if_pos (by omega), if_neg h]
  by_cases h : (l.length : Int) ≤ 1048576
  · have hlm : (l.map tupT).length = l.length := by simp
    have hlm2 : ((l.map tupT).map toS).length = l.length := by simp
    obtain ⟨K1, h1⟩ := toTokenS_ev l (by omega)
    try dsimp only at h1
    obtain ⟨K2, h2⟩ := spec_TokensOut_ev (l.map tupT) (by omega)
    try dsimp only at h2
    obtain ⟨K3, h3⟩ := impl_TokensOut_ev (l.map tupT) (by omega) (by
      intro t ht
      obtain ⟨y, hy, rfl⟩ := List.mem_map.1 ht
      have := wf_b (hw y hy).2.1
      exact this)
    try dsimp only at h3
    obtain ⟨K4, h4⟩ := eqTokenS_ev ((l.map tupT).map toS) (by omega)
    try dsimp only at h4
    try dsimp only at h1 h2 h3 h4
    refine ⟨K1 + K2 + K3 + K4 + 1, ?_⟩
    rw [hsz, Option.bind_some, if_pos h, if_neg (by omega), h1 _ (by omega), Option.bind_some, h2 _ (by omega), Option.bind_some, Option.bind_some, h3 _ (by omega), Option.bind_some, if_pos rfl, bne_self_eq_false, laws_FnExactTokensOut.j0, if_neg (by decide), h1 _ (by omega), Option.bind_some, h4 _ (by omega), Option.bind_some, if_pos rfl]
  · exact ⟨0, by rw [hsz, Option.bind_some, if_neg h, if_pos (by omega)]⟩

end Go.Proofs.Ytpjkcdgamlllgaa.Pure
