/- The program's TokensOf and the reference's answer the same, at every text of at most 1048576 bytes (a longer one is let by), and the answer is its own memory. -/
import Derived.Test.YtpjkcdgamlllgaaPFnExactTokensOfx3
import Derived.Test.YtpjkcdgamlllgaaThNum
import Derived.Test.YtpjkcdgamlllgaaThTok
namespace Go.Proofs.Ytpjkcdgamlllgaa.Pure
open Go.RowKit Go.Proofs.Ytpjkcdgamlllgaa.PFnExactTokensOf Go.Proofs.YtpjkcdgamlllgaaW.PrintWords Go.Proofs.YtpjkcdgamlllgaaW.PrintLast Go.Proofs.YtpjkcdgamlllgaaW.PrintMore Go.Proofs.Ytpjkcdgamlllgaa.Th
set_option linter.unusedVariables false
set_option linter.unusedSimpArgs false

def toS (t : Int × Int × Int) : S71 := ⟨t.1, t.2.1, t.2.2⟩
theorem rd_toS (pre suf : List (Int × Int × Int)) (t : Int × Int × Int) {i : Int} (hi : i = (pre.length : Int)) : rd_T71 ((pre ++ t :: suf).map toS) i = toS t := by
  subst hi; simp [rd_T71]
theorem rd_atS (pre suf : List S71) (t : S71) {i : Int} (hi : i = (pre.length : Int)) : rd_T71 (pre ++ t :: suf) i = t := by
  subst hi; simp [rd_T71]
theorem set_atS (pre suf : List S71) (x y : S71) {i : Nat} (hi : i = pre.length) : (pre ++ x :: suf).set i y = pre ++ y :: suf := by
  subst hi; simp
theorem eqTokenS_l0_ev (a : List S71) (hl : a.length ≤ 35184372088832) : ∀ (sa pa : List S71), a = pa ++ sa → Ev (fun k => laws_eqTokenS.l0 k a a (pa.length : Int)) true := by
  intro sa
  induction sa with
  | nil =>
    intro pa ha
    refine ⟨1, fun k hk => ?_⟩
    try dsimp only
    obtain ⟨m, rfl⟩ : ∃ m, k = m + 1 := ⟨k - 1, by omega⟩
    rw [laws_eqTokenS.l0, if_neg (by rw [ha]; simp)]
  | cons x sa ih =>
    intro pa ha
    have hll : a.length = pa.length + sa.length + 1 := by rw [ha]; simp; omega
    have hx : rd_T71 a (pa.length : Int) = x := by rw [ha]; exact rd_atS _ _ _ rfl
    obtain ⟨K, hK⟩ := ih (pa ++ [x]) (by simp [ha])
    try dsimp only at hK
    refine ⟨K + 1, fun k hk => ?_⟩
    try dsimp only
    obtain ⟨m, rfl⟩ : ∃ m, k = m + 1 := ⟨k - 1, by omega⟩
    have hm := hK m (by omega)
    have e : laws_eqToken.f x.f0 x.f1 x.f2 x.f0 x.f1 x.f2 = some true := by simp [laws_eqToken.f]
    rw [laws_eqTokenS.l0, if_pos (by omega), if_pos (by omega), if_pos (by omega), hx, e]
    simp only [Option.bind_some, if_true]
    rw [w64 (by omega)]
    rw [List.length_append, List.length_singleton, show ((pa.length + 1 : Nat) : Int) = (pa.length : Int) + 1 by omega] at hm
    exact hm
theorem eqTokenS_ev (a : List S71) (hl : a.length ≤ 35184372088832) : Ev (fun k => laws_eqTokenS.f k a a) true := by
  obtain ⟨K, hK⟩ := eqTokenS_l0_ev a hl a [] rfl
  try dsimp only at hK
  refine ⟨K, fun k hk => ?_⟩
  try dsimp only
  unfold laws_eqTokenS.f
  rw [if_pos rfl]
  exact hK k hk
def marksS (m : Int) : Nat → List S71
  | 0 => []
  | n + 1 => marksS m n ++ [⟨m + 3 * n, m + 3 * n + 1, m + 3 * n + 2⟩]
theorem marksS_length (m : Int) (n : Nat) : (marksS m n).length = n := by
  induction n with
  | zero => rfl
  | succ n ih => simp [marksS, ih]
theorem rd_marksS (m : Int) : ∀ (n i : Nat), i < n → rd_T71 (marksS m n) (i : Int) = ⟨m + 3 * i, m + 3 * i + 1, m + 3 * i + 2⟩ := by
  intro n
  induction n with
  | zero => intro i hi; omega
  | succ n ih =>
    intro i hi
    by_cases h : i = n
    · subst h; simp only [marksS]; exact rd_atS _ [] _ (by rw [marksS_length])
    · have h1 := ih i (by omega)
      have h2 : i < (marksS m n).length := by rw [marksS_length]; omega
      simp only [rd_T71, marksS, Int.toNat_natCast, List.getD_eq_getElem?_getD] at h1 ⊢
      rw [List.getElem?_append_left h2]; exact h1
theorem markTokenS_l0_ev (m0 : Int) (hm0 : 0 ≤ m0 ∧ m0 ≤ 1099511627776) : ∀ (suf : List S71) (i : Nat), i + suf.length ≤ 1099511627776 → Ev (fun k => laws_markTokenS.l0 k (marksS m0 i ++ suf) (m0 + 3 * i) (i : Int)) (m0 + 3 * (i + suf.length : Nat), marksS m0 (i + suf.length)) := by
  intro suf
  induction suf with
  | nil =>
    intro i hi
    refine ⟨1, fun k hk => ?_⟩
    try dsimp only
    obtain ⟨m, rfl⟩ : ∃ m, k = m + 1 := ⟨k - 1, by omega⟩
    rw [laws_markTokenS.l0, if_neg (by simp [marksS_length])]
    simp
  | cons x suf ih =>
    intro i hi
    simp only [List.length_cons] at hi
    obtain ⟨K, hK⟩ := ih (i + 1) (by omega)
    try dsimp only at hK
    refine ⟨K + 1, fun k hk => ?_⟩
    try dsimp only
    obtain ⟨m, rfl⟩ : ∃ m, k = m + 1 := ⟨k - 1, by omega⟩
    have hm := hK m (by omega)
    have hl := marksS_length m0 i
    rw [laws_markTokenS.l0, if_pos (by simp [marksS_length]; omega), if_pos (by omega), Int.toNat_natCast]
    simp only [Option.bind_some]
    rw [rd_atS _ _ x (by rw [hl]), set_atS _ _ _ _ (by rw [hl]), rd_atS _ _ _ (by rw [hl]), set_atS _ _ _ _ (by rw [hl]), rd_atS _ _ _ (by rw [hl]), set_atS _ _ _ _ (by rw [hl])]
    rw [w64 (x := m0 + 3 * i + 1) (by omega), w64 (x := m0 + 3 * i + 1 + 1) (by omega), w64 (x := m0 + 3 * i + 1 + 1 + 1) (by omega), w64 (x := (i : Int) + 1) (by omega)]
    simp only [marksS, List.append_assoc, List.singleton_append] at hm
    rw [show m0 + 3 * ((i + 1 : Nat) : Int) = m0 + 3 * i + 1 + 1 + 1 by omega, show ((i + 1 : Nat) : Int) = (i : Int) + 1 by omega, show i + 1 + suf.length = i + (suf.length + 1) by omega, show m0 + 3 * (i : Int) + 2 = m0 + 3 * i + 1 + 1 by omega] at hm
    exact hm
theorem markTokenS_ev (l : List S71) (m0 : Int) (hm0 : 0 ≤ m0 ∧ m0 ≤ 1099511627776) (hl : l.length ≤ 1099511627776) : Ev (fun k => laws_markTokenS.f k l m0) (m0 + 3 * (l.length : Int), marksS m0 l.length) := by
  have h := markTokenS_l0_ev m0 hm0 l 0 (by omega)
  simp only [marksS, List.nil_append, Nat.zero_add] at h
  rw [show m0 + 3 * ((0 : Nat) : Int) = m0 by omega] at h
  exact h
theorem heldTokenS_l0_ev (m0 : Int) (hm0 : 0 ≤ m0 ∧ m0 ≤ 1099511627776) (n : Nat) (hn : n ≤ 1099511627776) : ∀ d i : Nat, i + d = n → Ev (fun k => laws_heldTokenS.l0 k (marksS m0 n) (m0 + 3 * i) (i : Int)) (m0 + 3 * n) := by
  intro d
  induction d with
  | zero =>
    intro i hi
    refine ⟨1, fun k hk => ?_⟩
    try dsimp only
    obtain ⟨m, rfl⟩ : ∃ m, k = m + 1 := ⟨k - 1, by omega⟩
    rw [laws_heldTokenS.l0, if_neg (by rw [marksS_length]; omega), show i = n by omega]
  | succ d ih =>
    intro i hi
    obtain ⟨K, hK⟩ := ih (i + 1) (by omega)
    try dsimp only at hK
    refine ⟨K + 1, fun k hk => ?_⟩
    try dsimp only
    obtain ⟨m, rfl⟩ : ∃ m, k = m + 1 := ⟨k - 1, by omega⟩
    have hm := hK m (by omega)
    rw [laws_heldTokenS.l0, if_pos (by rw [marksS_length]; omega), if_pos (by omega), rd_marksS _ _ _ (by omega)]
    dsimp only
    rw [if_pos rfl, w64 (x := m0 + 3 * i + 1) (by omega), if_pos rfl, w64 (x := m0 + 3 * i + 1 + 1) (by omega), if_pos (by omega), w64 (x := m0 + 3 * i + 1 + 1 + 1) (by omega), w64 (by omega)]
    rw [show m0 + 3 * ((i + 1 : Nat) : Int) = m0 + 3 * i + 1 + 1 + 1 by omega, show ((i + 1 : Nat) : Int) = (i : Int) + 1 by omega] at hm
    exact hm
theorem heldTokenS_ev (m0 : Int) (hm0 : 0 ≤ m0 ∧ m0 ≤ 1099511627776) (n : Nat) (hn : n ≤ 1099511627776) : Ev (fun k => laws_heldTokenS.f k (marksS m0 n) m0) (m0 + 3 * n) := by
  have h := heldTokenS_l0_ev m0 hm0 n hn n 0 (by omega)
  rw [show m0 + 3 * ((0 : Nat) : Int) = m0 by omega] at h
  exact h
theorem l5Match_l0_ev (s : ByteArray) (a b : Int) (ha : 0 ≤ a) (hab : a ≤ b) (hs : s.size ≤ 1048576) (hb : b ≤ s.size) : ∀ (d : Nat) (n : Int), 0 ≤ n → n + d = 258 → Ev (fun k => spec_l5Match.l0 k s a b n) (cntM s a b d n) := by
  intro d
  induction d with
  | zero =>
    intro n h0 hn
    refine ⟨1, fun k hk => ?_⟩
    try dsimp only
    obtain ⟨m, rfl⟩ : ∃ m, k = m + 1 := ⟨k - 1, by omega⟩
    rw [spec_l5Match.l0, if_neg (by omega)]; rfl
  | succ d ih =>
    intro n h0 hn
    obtain ⟨K, hK⟩ := ih (n + 1) (by omega) (by omega)
    try dsimp only at hK
    refine ⟨K + 1, fun k hk => ?_⟩
    try dsimp only
    obtain ⟨m, rfl⟩ : ∃ m, k = m + 1 := ⟨k - 1, by omega⟩
    have hm := hK m (by omega)
    simp only [cntM]
    rw [spec_l5Match.l0, if_pos (by omega), w64 (x := b + n) (by omega), w64 (x := a + n) (by omega), w64 (x := n + 1) (by omega)]
    by_cases h1 : b + n < s.size
    · rw [if_pos h1, if_pos (by omega), if_pos (by omega), if_pos (by omega)]
      by_cases h2 : bt s (a + n) = bt s (b + n)
      · rw [if_pos h2, hm, if_pos (show goesOn s a b n = true from decide_eq_true ⟨by omega, h1, h2⟩)]
      · rw [if_neg h2, if_neg (show ¬ goesOn s a b n = true from fun e => h2 (of_decide_eq_true e).2.2)]
    · rw [if_neg h1, if_neg (show ¬ goesOn s a b n = true from fun e => h1 (of_decide_eq_true e).2.1)]
theorem alike_l0_ev (s : ByteArray) (a b : Int) (ha : 0 ≤ a) (hab : a ≤ b) (hs : s.size ≤ 1048576) (hb : b ≤ s.size) : ∀ (d : Nat) (n : Int), 0 ≤ n → n + d = 258 → Ev (fun k => impl_alike.l0 k s a b n) (cntM s a b d n) := by
  intro d
  induction d with
  | zero =>
    intro n h0 hn
    refine ⟨1, fun k hk => ?_⟩
    try dsimp only
    obtain ⟨m, rfl⟩ : ∃ m, k = m + 1 := ⟨k - 1, by omega⟩
    rw [impl_alike.l0, if_neg (by omega)]; rfl
  | succ d ih =>
    intro n h0 hn
    obtain ⟨K, hK⟩ := ih (n + 1) (by omega) (by omega)
    try dsimp only at hK
    refine ⟨K + 1, fun k hk => ?_⟩
    try dsimp only
    obtain ⟨m, rfl⟩ : ∃ m, k = m + 1 := ⟨k - 1, by omega⟩
    have hm := hK m (by omega)
    simp only [cntM]
    rw [impl_alike.l0, if_pos (by omega), w64 (x := b + n) (by omega), w64 (x := a + n) (by omega), w64 (x := n + 1) (by omega)]
    by_cases h1 : b + n < s.size
    · rw [if_pos h1, if_pos (by omega), if_pos (by omega), if_pos (by omega)]
      by_cases h2 : bt s (a + n) = bt s (b + n)
      · rw [if_pos h2, hm, if_pos (show goesOn s a b n = true from decide_eq_true ⟨by omega, h1, h2⟩)]
      · rw [if_neg h2, if_neg (show ¬ goesOn s a b n = true from fun e => h2 (of_decide_eq_true e).2.2)]
    · rw [if_neg h1, if_neg (show ¬ goesOn s a b n = true from fun e => h1 (of_decide_eq_true e).2.1)]
theorem l5Match_ev (s : ByteArray) (a b : Int) (ha : 0 ≤ a) (hab : a ≤ b) (hs : s.size ≤ 1048576) (hb : b ≤ s.size) : Ev (fun k => spec_l5Match.f k s a b) (matM s a b) := l5Match_l0_ev s a b ha hab hs hb 258 0 (by omega) (by omega)
theorem alike_ev (s : ByteArray) (a b : Int) (ha : 0 ≤ a) (hab : a ≤ b) (hs : s.size ≤ 1048576) (hb : b ≤ s.size) : Ev (fun k => impl_alike.f k s a b) (matM s a b) := alike_l0_ev s a b ha hab hs hb 258 0 (by omega) (by omega)
theorem l5Best_l0_ev (s : ByteArray) (at_ : Nat) (hs : s.size ≤ 1048576) (ha : at_ ≤ s.size) : ∀ d i : Nat, i + d = at_ → Ev (fun k => spec_l5Best.l0 k s (at_ : Int) (bestM s at_ i).1 (bestM s at_ i).2 ((i : Int) + 1)) (bestM s at_ at_) := by
  intro d
  induction d with
  | zero =>
    intro i hi
    refine ⟨1, fun k hk => ?_⟩
    try dsimp only
    obtain ⟨m, rfl⟩ : ∃ m, k = m + 1 := ⟨k - 1, by omega⟩
    rw [spec_l5Best.l0, if_neg (by omega), show i = at_ by omega]
  | succ d ih =>
    intro i hi
    obtain ⟨K, hK⟩ := ih (i + 1) (by omega)
    try dsimp only at hK
    obtain ⟨K1, hK1⟩ := l5Match_ev s ((at_ : Int) - ((i : Int) + 1)) at_ (by omega) (by omega) hs (by omega)
    try dsimp only at hK1
    refine ⟨K + K1 + 1, fun k hk => ?_⟩
    try dsimp only
    obtain ⟨m, rfl⟩ : ∃ m, k = m + 1 := ⟨k - 1, by omega⟩
    have hm := hK m (by omega)
    rw [spec_l5Best.l0, if_pos (by omega), w64 (x := (at_ : Int) - ((i : Int) + 1)) (by omega), hK1 m (by omega)]
    simp only [Option.bind_some]
    rw [w64 (x := (i : Int) + 1 + 1) (by omega)]
    simp only [bestM] at hm
    rw [show ((i + 1 : Nat) : Int) = (i : Int) + 1 by omega] at hm
    by_cases h : matM s ((at_ : Int) - ((i : Int) + 1)) at_ > (bestM s at_ i).1
    · rw [if_pos h] at hm ⊢; exact hm
    · rw [if_neg h] at hm ⊢; exact hm
theorem l5Best_ev (s : ByteArray) (at_ : Int) (h0 : 0 ≤ at_) (hs : s.size ≤ 1048576) (ha : at_ ≤ s.size) : Ev (fun k => spec_l5Best.f k s at_) (bestM s at_ at_.toNat) := by
  have h := l5Best_l0_ev s at_.toNat hs (by omega) at_.toNat 0 (by omega)
  rw [Int.toNat_of_nonneg h0] at h
  exact h
theorem longest_l0_ev (s : ByteArray) (at_ : Nat) (hs : s.size ≤ 1048576) (ha : at_ ≤ s.size) : ∀ d i : Nat, i + d = at_ → Ev (fun k => impl_longest.l0 k s (at_ : Int) (bestM s at_ i).1 (bestM s at_ i).2 ((i : Int) + 1)) (bestM s at_ at_) := by
  intro d
  induction d with
  | zero =>
    intro i hi
    refine ⟨2, fun k hk => ?_⟩
    try dsimp only
    obtain ⟨m, rfl⟩ : ∃ m, k = m + 2 := ⟨k - 2, by omega⟩
    rw [impl_longest.l0, if_neg (by omega), impl_longest.j1, if_neg (by decide), show i = at_ by omega]
  | succ d ih =>
    intro i hi
    have hbb := bestM_b s at_ (by omega) i
    obtain ⟨K, hK⟩ := ih (i + 1) (by omega)
    try dsimp only at hK
    obtain ⟨K1, hK1⟩ := alike_ev s ((at_ : Int) - ((i : Int) + 1)) at_ (by omega) (by omega) hs (by omega)
    try dsimp only at hK1
    refine ⟨K + K1 + 3, fun k hk => ?_⟩
    try dsimp only
    obtain ⟨m, rfl⟩ : ∃ m, k = m + 3 := ⟨k - 3, by omega⟩
    have hm := hK m (by omega)
    simp only [bestM] at hm
    rw [show ((i + 1 : Nat) : Int) = (i : Int) + 1 by omega] at hm
    rw [impl_longest.l0, if_pos (by omega), w64 (x := (s.size : Int) - at_) (by omega), impl_longest.j1]
    by_cases hc : (bestM s at_ i).1 < mn 258 ((s.size : Int) - at_)
    · rw [if_pos (decide_eq_true hc)]
      have hc2 : (bestM s at_ i).1 < 258 ∧ (bestM s at_ i).1 < (s.size : Int) - at_ := by unfold mn at hc; split at hc <;> omega
      by_cases hz : (bestM s at_ i).1 > 0
      · rw [if_pos hz, w64 (x := (at_ : Int) - ((i : Int) + 1)) (by omega), w64 (x := (at_ : Int) - ((i : Int) + 1) + _) (by omega), w64 (x := (at_ : Int) + _) (by omega), if_pos (by omega), if_pos (by omega), if_pos (by omega), if_pos (by omega), impl_longest.j2]
        by_cases hd : bt s ((at_ : Int) - ((i : Int) + 1) + (bestM s at_ i).1) = bt s ((at_ : Int) + (bestM s at_ i).1)
        · rw [if_neg (by simp [hd]), w64 (x := (at_ : Int) - ((i : Int) + 1)) (by omega), hK1 m (by omega)]
          simp only [Option.bind_some]
          rw [w64 (x := (i : Int) + 1 + 1) (by omega)]
          by_cases h : matM s ((at_ : Int) - ((i : Int) + 1)) at_ > (bestM s at_ i).1
          · rw [if_pos h] at hm ⊢; exact hm
          · rw [if_neg h] at hm ⊢; exact hm
        · have hst := matM_stop (s := s) (a := (at_ : Int) - ((i : Int) + 1)) (b := at_) (z := (bestM s at_ i).1) (by omega) (by omega) hd
          rw [if_neg (by omega)] at hm
          rw [if_pos (by simpa using hd), w64 (x := (i : Int) + 1 + 1) (by omega)]
          exact hm
      · rw [if_neg hz, impl_longest.j2, if_neg (by decide), w64 (x := (at_ : Int) - ((i : Int) + 1)) (by omega), hK1 m (by omega)]
        simp only [Option.bind_some]
        rw [w64 (x := (i : Int) + 1 + 1) (by omega)]
        by_cases h : matM s ((at_ : Int) - ((i : Int) + 1)) at_ > (bestM s at_ i).1
        · rw [if_pos h] at hm ⊢; exact hm
        · rw [if_neg h] at hm ⊢; exact hm
    · rw [if_neg (by simpa using hc)]
      have hc2 : 258 ≤ (bestM s at_ i).1 ∨ (s.size : Int) - at_ ≤ (bestM s at_ i).1 := by unfold mn at hc; split at hc <;> omega
      have hf := bestM_full s at_ (by omega) i hc2 (d + 1)
      rw [show i + (d + 1) = at_ by omega] at hf
      rw [hf]
theorem longest_ev (s : ByteArray) (at_ : Int) (h0 : 0 ≤ at_) (hs : s.size ≤ 1048576) (ha : at_ ≤ s.size) : Ev (fun k => impl_longest.f k s at_) (bestM s at_ at_.toNat) := by
  have h := longest_l0_ev s at_.toNat hs (by omega) at_.toNat 0 (by omega)
  rw [Int.toNat_of_nonneg h0] at h
  exact h
theorem l5Tokens_l0_ev (s : ByteArray) (hs : s.size ≤ 5000) : ∀ (f : Nat) (at_ : Int) (out : List S71), 0 ≤ at_ → at_ ≤ s.size → (s.size : Int) ≤ at_ + f → out.length + f ≤ 1000000 → Ev (fun k => spec_l5Tokens.l0 k s out at_) (out ++ (tokM s f at_).map toS) := by
  intro f
  induction f with
  | zero =>
    intro at_ out h0 h1 h2 h3
    refine ⟨1, fun k hk => ?_⟩
    try dsimp only
    obtain ⟨m, rfl⟩ : ∃ m, k = m + 1 := ⟨k - 1, by omega⟩
    rw [spec_l5Tokens.l0, if_neg (by omega)]
    simp [tokM]
  | succ f ih =>
    intro at_ out h0 h1 h2 h3
    simp only [tokM]
    by_cases h : at_ < s.size
    · have hb := bestM_b s at_ (by omega) at_.toNat
      have ht := bt_range s at_
      obtain ⟨K1, hK1⟩ := l5Best_ev s at_ h0 (by omega) h1
      try dsimp only at hK1
      by_cases h4 : (bestM s at_ at_.toNat).1 < 3
      · obtain ⟨K, hK⟩ := ih (at_ + 1) (out ++ [toS (bt s at_, 0, 0)]) (by omega) (by omega) (by omega) (by simp; omega)
        try dsimp only at hK
        refine ⟨K + K1 + 1, fun k hk => ?_⟩
        try dsimp only
        obtain ⟨m, rfl⟩ : ∃ m, k = m + 1 := ⟨k - 1, by omega⟩
        have hm := hK m (by omega)
        rw [spec_l5Tokens.l0, if_pos h, hK1 m (by omega)]
        simp only [Option.bind_some]
        rw [if_pos h4, if_pos h0, if_pos (by omega), w64 (x := bt s at_) (by omega), w64 (by omega), if_pos h, if_pos h4]
        rw [List.map_cons, ← List.singleton_append (l := List.map toS _), ← List.append_assoc]
        exact hm
      · obtain ⟨K, hK⟩ := ih (at_ + (bestM s at_ at_.toNat).1) (out ++ [toS (0, (bestM s at_ at_.toNat).1, (bestM s at_ at_.toNat).2)]) (by omega) (by omega) (by omega) (by simp; omega)
        try dsimp only at hK
        refine ⟨K + K1 + 1, fun k hk => ?_⟩
        try dsimp only
        obtain ⟨m, rfl⟩ : ∃ m, k = m + 1 := ⟨k - 1, by omega⟩
        have hm := hK m (by omega)
        rw [spec_l5Tokens.l0, if_pos h, hK1 m (by omega)]
        simp only [Option.bind_some]
        rw [if_neg h4, if_pos (by omega), w64 (by omega), if_pos h, if_neg h4]
        rw [List.map_cons, ← List.singleton_append (l := List.map toS _), ← List.append_assoc]
        exact hm
    · refine ⟨1, fun k hk => ?_⟩
      try dsimp only
      obtain ⟨m, rfl⟩ : ∃ m, k = m + 1 := ⟨k - 1, by omega⟩
      rw [spec_l5Tokens.l0, if_neg h, if_neg h]
      simp
theorem impl_TokensOf_l0_ev (s : ByteArray) (hs : s.size ≤ 5000) : ∀ (f : Nat) (at_ : Int) (out : List S71), 0 ≤ at_ → at_ ≤ s.size → (s.size : Int) ≤ at_ + f → out.length + f ≤ 1000000 → Ev (fun k => impl_TokensOf.l0 k s out at_) (out ++ (tokM s f at_).map toS) := by
  intro f
  induction f with
  | zero =>
    intro at_ out h0 h1 h2 h3
    refine ⟨1, fun k hk => ?_⟩
    try dsimp only
    obtain ⟨m, rfl⟩ : ∃ m, k = m + 1 := ⟨k - 1, by omega⟩
    rw [impl_TokensOf.l0, if_neg (by omega)]
    simp [tokM]
  | succ f ih =>
    intro at_ out h0 h1 h2 h3
    simp only [tokM]
    by_cases h : at_ < s.size
    · have hb := bestM_b s at_ (by omega) at_.toNat
      have ht := bt_range s at_
      obtain ⟨K1, hK1⟩ := longest_ev s at_ h0 (by omega) h1
      try dsimp only at hK1
      by_cases h4 : (bestM s at_ at_.toNat).1 < 3
      · obtain ⟨K, hK⟩ := ih (at_ + 1) (out ++ [toS (bt s at_, 0, 0)]) (by omega) (by omega) (by omega) (by simp; omega)
        try dsimp only at hK
        refine ⟨K + K1 + 1, fun k hk => ?_⟩
        try dsimp only
        obtain ⟨m, rfl⟩ : ∃ m, k = m + 1 := ⟨k - 1, by omega⟩
        have hm := hK m (by omega)
        rw [impl_TokensOf.l0, if_pos h, hK1 m (by omega)]
        simp only [Option.bind_some]
        rw [if_neg (by omega), if_pos h0, if_pos (by omega), w64 (x := bt s at_) (by omega), w64 (by omega), if_pos h, if_pos h4]
        rw [List.map_cons, ← List.singleton_append (l := List.map toS _), ← List.append_assoc]
        exact hm
      · obtain ⟨K, hK⟩ := ih (at_ + (bestM s at_ at_.toNat).1) (out ++ [toS (0, (bestM s at_ at_.toNat).1, (bestM s at_ at_.toNat).2)]) (by omega) (by omega) (by omega) (by simp; omega)
        try dsimp only at hK
        refine ⟨K + K1 + 1, fun k hk => ?_⟩
        try dsimp only
        obtain ⟨m, rfl⟩ : ∃ m, k = m + 1 := ⟨k - 1, by omega⟩
        have hm := hK m (by omega)
        rw [impl_TokensOf.l0, if_pos h, hK1 m (by omega)]
        simp only [Option.bind_some]
        rw [if_pos (by omega), if_pos (by omega), w64 (by omega), if_pos h, if_neg h4]
        rw [List.map_cons, ← List.singleton_append (l := List.map toS _), ← List.append_assoc]
        exact hm
    · refine ⟨1, fun k hk => ?_⟩
      try dsimp only
      obtain ⟨m, rfl⟩ : ∃ m, k = m + 1 := ⟨k - 1, by omega⟩
      rw [impl_TokensOf.l0, if_neg h, if_neg h]
      simp
theorem spec_TokensOf_ev (s : ByteArray) (hs : s.size ≤ 1048576) : Ev (fun k => spec_TokensOf.f k s) ((tokensM s).map toS) := by
  unfold spec_TokensOf.f tokensM
  by_cases h : s.size > 5000
  · refine ⟨0, fun k hk => ?_⟩
    try dsimp only
    rw [if_pos (by omega), if_pos h]; rfl
  · obtain ⟨K, hK⟩ := l5Tokens_l0_ev s (by omega) s.size 0 [] (by omega) (by omega) (by omega) (by simp; omega)
    try dsimp only at hK
    refine ⟨K, fun k hk => ?_⟩
    try dsimp only
    rw [if_neg (by omega), if_neg h]
    unfold spec_l5Tokens.f
    rw [hK k hk]; rfl
theorem impl_TokensOf_ev (s : ByteArray) (hs : s.size ≤ 1048576) : Ev (fun k => impl_TokensOf.f k s) ((tokensM s).map toS) := by
  unfold impl_TokensOf.f tokensM
  by_cases h : s.size > 5000
  · refine ⟨0, fun k hk => ?_⟩
    try dsimp only
    rw [if_pos (by omega), if_pos h]; rfl
  · obtain ⟨K, hK⟩ := impl_TokensOf_l0_ev s (by omega) s.size 0 [] (by omega) (by omega) (by omega) (by simp; omega)
    try dsimp only at hK
    refine ⟨K, fun k hk => ?_⟩
    try dsimp only
    rw [if_neg (by omega), if_neg h, hK k hk]; rfl

theorem FnExactTokensOf : laws_FnExactTokensOf.Pure := by
  intro s hs
  unfold laws_FnExactTokensOf.f
  by_cases h : (s.size : Int) > 1048576
  · exact ⟨0, by rw [if_pos h]⟩
  have hlen : ((tokensM s).map toS).length ≤ 5000 := by rw [List.length_map]; exact tokensM_length s
  obtain ⟨K2, h2⟩ := spec_TokensOf_ev s (by omega)
  try dsimp only at h2
  obtain ⟨K3, h3⟩ := impl_TokensOf_ev s (by omega)
  try dsimp only at h3
  obtain ⟨K4, h4⟩ := eqTokenS_ev ((tokensM s).map toS) (by omega)
  try dsimp only at h4
  obtain ⟨K7, h7⟩ := markTokenS_ev ((tokensM s).map toS) 1 (by omega) (by omega)
  try dsimp only at h7
  obtain ⟨K8, h8⟩ := heldTokenS_ev 1 (by omega) ((tokensM s).map toS).length (by omega)
  try dsimp only at h8
  obtain ⟨K, hK⟩ : ∃ K, K = K2 + K3 + K4 + K7 + K8 := ⟨_, rfl⟩
  refine ⟨K, ?_⟩
  rw [if_neg h]
  simp only [h2 K (by omega), h3 K (by omega), h4 K (by omega), h7 K (by omega), h8 K (by omega), Option.bind_some, if_true]
  rw [if_neg (by omega), if_neg (by omega)]

end Go.Proofs.Ytpjkcdgamlllgaa.Pure
