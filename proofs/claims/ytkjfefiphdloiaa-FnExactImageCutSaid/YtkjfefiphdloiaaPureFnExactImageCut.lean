/- The program's ImageCut and the reference's answer the same, at every picture of at most 1048576 colours and points together (a longer one is let by); the picture is left as it was, and the answer is its own memory. -/
import Derived.Test.YtkjfefiphdloiaaHFnExactImageCutx10
import Derived.Test.YtkjfefiphdloiaaThNum
import Derived.Test.YtkjfefiphdloiaaThImg
import Derived.Test.YtkjfefiphdloiaaThGen
import Derived.Test.YtkjfefiphdloiaaThMark
namespace Go.Proofs.Ytkjfefiphdloiaa.Pure
open Go.RowKit Go.Proofs.Ytkjfefiphdloiaa.PFnExactImageCut Go.Proofs.YtkjfefiphdloiaaW.PrintWords Go.Proofs.YtkjfefiphdloiaaW.PrintLast Go.Proofs.YtkjfefiphdloiaaW.PrintMore Go.Proofs.Ytkjfefiphdloiaa.Th
set_option linter.unusedVariables false
set_option linter.unusedSimpArgs false

theorem in_f (a b c : Int) : impl_in.f a b c = some (decide (b ≤ a ∧ a ≤ c)) := by
  unfold impl_in.f
  by_cases h : b ≤ a
  · rw [if_pos h]; simp [h]
  · rw [if_neg h]; simp [h]
theorem l1In_f (a b c : Int) : spec_l1In.f a b c = some (decide (b ≤ a ∧ a ≤ c)) := by
  unfold spec_l1In.f
  by_cases h : b ≤ a
  · rw [if_pos h]; simp [h]
  · rw [if_neg h]; simp [h]
theorem l1Pow_l0_ev (n : Nat) (hn : n ≤ 62) : ∀ d i : Nat, i + d = n → Ev (fun k => spec_l1Pow.l0 k (n : Int) (P2 i) (i : Int)) (P2 n) := by
  intro d
  induction d with
  | zero =>
    intro i hi
    refine ⟨1, fun k hk => ?_⟩
    try dsimp only
    obtain ⟨m, rfl⟩ : ∃ m, k = m + 1 := ⟨k - 1, by omega⟩
    rw [spec_l1Pow.l0, if_neg (by omega), show i = n by omega]
  | succ d ih =>
    intro i hi
    obtain ⟨K, hK⟩ := ih (i + 1) (by omega)
    try dsimp only at hK
    refine ⟨K + 1, fun k hk => ?_⟩
    try dsimp only
    obtain ⟨m, rfl⟩ : ∃ m, k = m + 1 := ⟨k - 1, by omega⟩
    have hm := hK m (by omega)
    have hb := P2_62b (n := i) (by omega)
    have hb' := P2_62b (n := i + 1) (by omega)
    have hs := P2_succ i
    rw [spec_l1Pow.l0, if_pos (by omega), w64 (by omega), w64 (by omega), show P2 i * 2 = P2 (i + 1) by omega, show (i : Int) + 1 = ((i + 1 : Nat) : Int) by omega]
    exact hm
theorem l1Pow_ev (n : Nat) (hn : n ≤ 62) : Ev (fun k => spec_l1Pow.f k (n : Int)) (P2 n) := l1Pow_l0_ev n hn n 0 (by omega)
theorem l1Pow_evI (n : Int) (h0 : 0 ≤ n) (hn : n ≤ 62) : Ev (fun k => spec_l1Pow.f k n) (P2 n.toNat) := by
  have h := l1Pow_ev n.toNat (by omega)
  rw [Int.toNat_of_nonneg h0] at h
  exact h
theorem l8Depth_f (k : Nat) (a b : Int) : spec_l8Depth.f (k + 1) a b = some (decide (depP a b)) := by
  have hj : ∀ t : Bool, spec_l8Depth.j0 (k + 1) b a t = if t = true then some (decide (b = 1 ∨ b = 2 ∨ b = 4 ∨ b = 8)) else some (decide ((a = 2 ∧ b = 24) ∨ (a = 3 ∧ b = 32))) := by
    intro t
    rw [spec_l8Depth.j0]
    by_cases h : t = true
    · rw [if_pos h, if_pos h]
      by_cases h1 : b = 1
      · rw [if_pos h1]; simp [h1]
      · rw [if_neg h1]
        by_cases h2 : b = 2
        · rw [if_pos h2]; simp [h2]
        · rw [if_neg h2]
          by_cases h4 : b = 4
          · rw [if_pos h4]; simp [h4]
          · rw [if_neg h4]; congr 1; rw [Bool.eq_iff_iff]; simp [h1, h2, h4]
    · rw [if_neg h, if_neg h]
      by_cases h1 : a = 2
      · rw [if_pos h1]; congr 1; rw [Bool.eq_iff_iff]; simp [h1]
      · rw [if_neg h1]
        by_cases h2 : a = 3
        · rw [if_pos h2]; congr 1; rw [Bool.eq_iff_iff]; simp [h2]
        · rw [if_neg h2]; congr 1; simp [h1, h2]
  unfold spec_l8Depth.f
  rw [hj, hj]
  unfold depP
  by_cases h : a = 1
  · rw [if_pos h, if_pos (by simp [h])]; congr 1; simp [h]
  · rw [if_neg h]
    by_cases h4 : a = 4
    · rw [if_pos (by simp [h4])]; congr 1; simp [h4]
    · rw [if_neg (by simp [h4])]; congr 1; simp [h, h4]
theorem l8Colors_l0_ev (a b wd h : Int) (c p : List Int) (hd : depP a b) (hc : c.length ≤ 1048576) : ∀ (suf pre : List Int), c = pre ++ suf → Ev (fun k => spec_l8Colors.l0 k (pre.length : Int) a b wd h c p) (decide (inAll suf 16777215 ∧ if a = 4 then 1 ≤ (c.length : Int) ∧ (c.length : Int) ≤ P2 b.toNat else c = [])) := by
  have hb := depP_b hd
  intro suf
  induction suf with
  | nil =>
    intro pre hp
    obtain ⟨K, hK⟩ := l1Pow_evI b (by omega) (by omega)
    try dsimp only at hK
    try dsimp only at hK
    refine ⟨K + 1, fun k hk => ?_⟩
    try dsimp only
    obtain ⟨m, rfl⟩ : ∃ m, k = m + 1 := ⟨k - 1, by omega⟩
    try dsimp only
    rw [spec_l8Colors.l0, if_neg (by rw [hp]; simp)]
    by_cases h4 : a = 4
    · rw [if_pos h4, hK m (by omega), Option.bind_some, l1In_f, Option.bind_some]
      congr 1
      rw [Bool.eq_iff_iff]; simp [inAll_nil, h4]
    · rw [if_neg h4]
      congr 1
      rw [Bool.eq_iff_iff]; simp [inAll_nil, h4]
  | cons x suf ih =>
    intro pre hp
    have hll : c.length = pre.length + suf.length + 1 := by rw [hp]; simp; omega
    have hx : rd c (pre.length : Int) = x := by rw [hp]; exact rd_at _ _ _ rfl
    obtain ⟨K, hK⟩ := ih (pre ++ [x]) (by simp [hp])
    try dsimp only at hK
    try dsimp only at hK
    refine ⟨K + 1, fun k hk => ?_⟩
    try dsimp only
    obtain ⟨m, rfl⟩ : ∃ m, k = m + 1 := ⟨k - 1, by omega⟩
    try dsimp only
    have hm := hK m (by omega)
    rw [List.length_append, List.length_singleton, show ((pre.length + 1 : Nat) : Int) = (pre.length : Int) + 1 by omega] at hm
    rw [spec_l8Colors.l0, if_pos (by omega), if_pos (by omega), hx, l1In_f, Option.bind_some]
    by_cases hr : 0 ≤ x ∧ x ≤ 16777215
    · rw [if_pos (decide_eq_true hr), w64 (by omega), hm]
      congr 1
      rw [Bool.eq_iff_iff, decide_eq_true_iff, decide_eq_true_iff, inAll_cons]
      simp [hr]
    · rw [if_neg (by simpa using hr)]
      congr 1
      symm
      rw [decide_eq_false_iff_not, inAll_cons]
      exact fun h => hr h.1.1
theorem specImageOk_l0_ev (most a b wd h : Int) (c p : List Int) (hp8 : p.length ≤ 1048576) : ∀ (suf pre : List Int), p = pre ++ suf → Ev (fun k => spec_ImageOk.l0 k most (pre.length : Int) a b wd h c p) (decide (inAll suf most)) := by
  intro suf
  induction suf with
  | nil =>
    intro pre hp
    refine ⟨1, fun k hk => ?_⟩
    try dsimp only
    obtain ⟨m, rfl⟩ : ∃ m, k = m + 1 := ⟨k - 1, by omega⟩
    try dsimp only
    rw [spec_ImageOk.l0, if_neg (by rw [hp]; simp), decide_eq_true (inAll_nil most)]
  | cons x suf ih =>
    intro pre hp
    have hll : p.length = pre.length + suf.length + 1 := by rw [hp]; simp; omega
    have hx : rd p (pre.length : Int) = x := by rw [hp]; exact rd_at _ _ _ rfl
    obtain ⟨K, hK⟩ := ih (pre ++ [x]) (by simp [hp])
    try dsimp only at hK
    try dsimp only at hK
    refine ⟨K + 1, fun k hk => ?_⟩
    try dsimp only
    obtain ⟨m, rfl⟩ : ∃ m, k = m + 1 := ⟨k - 1, by omega⟩
    try dsimp only
    have hm := hK m (by omega)
    rw [List.length_append, List.length_singleton, show ((pre.length + 1 : Nat) : Int) = (pre.length : Int) + 1 by omega] at hm
    rw [spec_ImageOk.l0, if_pos (by omega), if_pos (by omega), hx, l1In_f, Option.bind_some]
    by_cases hr : 0 ≤ x ∧ x ≤ most
    · rw [if_pos (decide_eq_true hr), w64 (by omega), hm]
      congr 1
      rw [Bool.eq_iff_iff, decide_eq_true_iff, decide_eq_true_iff, inAll_cons]
      simp [hr]
    · rw [if_neg (by simpa using hr)]
      congr 1
      symm
      rw [decide_eq_false_iff_not, inAll_cons]
      exact fun h => hr h.1
theorem spec_ImageOk_ev (a b wd h : Int) (c p : List Int) (hc : c.length ≤ 1048576) (hp : p.length ≤ 1048576) : Ev (fun k => spec_ImageOk.f k a b wd h c p) (imgM a b wd h c p) := by
  have hfalse : ∀ K : Nat, ∀ k, K + 2 ≤ k → spec_ImageOk.j0 k true a b wd h c p = some false := by
    intro K k hk
    obtain ⟨m, rfl⟩ : ∃ m, k = m + 1 := ⟨k - 1, by omega⟩
    rw [spec_ImageOk.j0, if_pos rfl]
  by_cases hd : depP a b
  · have hb := depP_b hd
    obtain ⟨K1, h1⟩ := l8Colors_l0_ev a b wd h c p hd hc c [] rfl
    try dsimp only at h1
    obtain ⟨K2, h2⟩ := l1Pow_evI b (by omega) (by omega)
    try dsimp only at h2
    try dsimp only at h1 h2
    obtain ⟨K3, h3⟩ := specImageOk_l0_ev ((c.length : Int) - 1) a b wd h c p hp p [] rfl
    try dsimp only at h3
    obtain ⟨K4, h4⟩ := specImageOk_l0_ev (P2 b.toNat - 1) a b wd h c p hp p [] rfl
    try dsimp only at h4
    try dsimp only at h3 h4
    have hpb := P2_62b (n := b.toNat) (by omega)
    refine ⟨K1 + K2 + K3 + K4 + 4, fun k hk => ?_⟩
    try dsimp only
    obtain ⟨m, rfl⟩ : ∃ m, k = m + 1 := ⟨k - 1, by omega⟩
    try dsimp only
    unfold spec_ImageOk.f
    rw [l8Depth_f, Option.bind_some, if_pos (decide_eq_true hd), l1In_f, Option.bind_some, l1In_f, Option.bind_some]
    unfold imgM
    by_cases hw : 1 ≤ wd ∧ wd ≤ 20
    · rw [if_pos (decide_eq_true hw)]
      by_cases hh : 1 ≤ h ∧ h ≤ 20
      · have hm := mul20 hw hh
        rw [if_pos (decide_eq_true hh), w64 (by omega)]
        by_cases hl : (p.length : Int) = wd * h
        · have hcc : spec_l8Colors.f (m + 1) a b wd h c p = some (decide (inAll c 16777215 ∧ if a = 4 then 1 ≤ (c.length : Int) ∧ (c.length : Int) ≤ P2 b.toNat else c = [])) := by
            unfold spec_l8Colors.f; exact h1 (m + 1) (by omega)
          rw [if_pos hl, hcc, Option.bind_some]
          by_cases hcol : inAll c 16777215 ∧ if a = 4 then 1 ≤ (c.length : Int) ∧ (c.length : Int) ≤ P2 b.toNat else c = []
          · obtain ⟨m', rfl⟩ : ∃ m', m = m' + 2 := ⟨m - 2, by omega⟩
            rw [decide_eq_true hcol, spec_ImageOk.j0, if_neg (by decide), h2 _ (by omega), Option.bind_some]
            by_cases ha : a = 4
            · rw [if_pos ha] at hcol
              have := h3 (m' + 1) (by omega)
              rw [if_pos ha, spec_ImageOk.j1, w64 (by omega)]
              rw [show (([] : List Int).length : Int) = 0 from rfl] at this
              rw [this]
              congr 1
              rw [Bool.eq_iff_iff, decide_eq_true_iff, decide_eq_true_iff]
              unfold imgP
              exact ⟨fun h => ⟨hd, hw, hh, hl, .inl ⟨ha, hcol.2, hcol.1, h⟩⟩, fun h => h.2.2.2.2.elim (fun h => h.2.2.2) (fun h => absurd ha h.1)⟩
            · rw [if_neg ha] at hcol
              have := h4 (m' + 1) (by omega)
              rw [if_neg ha, spec_ImageOk.j1, w64 (by omega)]
              rw [show (([] : List Int).length : Int) = 0 from rfl] at this
              rw [this]
              congr 1
              rw [Bool.eq_iff_iff, decide_eq_true_iff, decide_eq_true_iff]
              unfold imgP
              exact ⟨fun h => ⟨hd, hw, hh, hl, .inr ⟨ha, hcol.2, h⟩⟩, fun h => h.2.2.2.2.elim (fun h => absurd h.1 ha) (fun h => h.2.2)⟩
          · rw [decide_eq_false hcol, Bool.not_false, hfalse 0 _ (by omega)]
            congr 1
            symm
            rw [decide_eq_false_iff_not]
            rintro ⟨-, -, -, -, ⟨ha, h5, h6, h7⟩ | ⟨ha, h5, h6⟩⟩
            · exact hcol ⟨h6, by rw [if_pos ha]; exact h5⟩
            · exact hcol ⟨by rw [h5]; exact inAll_nil _, by rw [if_neg ha]; exact h5⟩
        · rw [if_neg hl, hfalse 0 _ (by omega)]
          congr 1; symm; rw [decide_eq_false_iff_not]; exact fun h => hl h.2.2.2.1
      · rw [if_neg (by simpa using hh), hfalse 0 _ (by omega)]
        congr 1; symm; rw [decide_eq_false_iff_not]; exact fun h => hh h.2.2.1
    · rw [if_neg (by simpa using hw), hfalse 0 _ (by omega)]
      congr 1; symm; rw [decide_eq_false_iff_not]; exact fun h => hw h.2.1
  · refine ⟨2, fun k hk => ?_⟩
    try dsimp only
    obtain ⟨m, rfl⟩ : ∃ m, k = m + 1 := ⟨k - 1, by omega⟩
    try dsimp only
    unfold spec_ImageOk.f imgM
    rw [l8Depth_f, Option.bind_some, if_neg (by simpa using hd), hfalse 0 _ (by omega)]
    congr 1; symm; rw [decide_eq_false_iff_not]; exact fun h => hd h.1
theorem smallDepth_f (b : Int) : impl_smallDepth.f b = some (decide (b = 1 ∨ b = 2 ∨ b = 4 ∨ b = 8)) := by
  unfold impl_smallDepth.f
  by_cases h1 : b = 1
  · rw [if_pos h1]; simp [h1]
  · rw [if_neg h1]
    by_cases h2 : b = 2
    · rw [if_pos h2]; simp [h2]
    · rw [if_neg h2]
      by_cases h4 : b = 4
      · rw [if_pos h4]; simp [h4]
      · rw [if_neg h4]; congr 1; rw [Bool.eq_iff_iff]; simp [h1, h2, h4]
theorem depthOk_f (k : Nat) (a b : Int) : impl_depthOk.f (k + 1) a b = some (decide (depP a b)) := by
  have hj : ∀ t : Bool, impl_depthOk.j0 (k + 1) b a t = if t = true then some (decide (b = 1 ∨ b = 2 ∨ b = 4 ∨ b = 8)) else some (decide ((a = 2 ∧ b = 24) ∨ (a = 3 ∧ b = 32))) := by
    intro t
    rw [impl_depthOk.j0]
    by_cases h : t = true
    · rw [if_pos h, if_pos h, smallDepth_f, Option.bind_some]
    · rw [if_neg h, if_neg h]
      by_cases h1 : a = 2
      · rw [if_pos h1]; congr 1; rw [Bool.eq_iff_iff]; simp [h1]
      · rw [if_neg h1]
        by_cases h2 : a = 3
        · rw [if_pos h2]; congr 1; rw [Bool.eq_iff_iff]; simp [h2]
        · rw [if_neg h2]; congr 1; simp [h1, h2]
  unfold impl_depthOk.f
  rw [hj, hj]
  unfold depP
  by_cases h : a = 1
  · rw [if_pos h, if_pos (by simp [h])]; congr 1; simp [h]
  · rw [if_neg h]
    by_cases h4 : a = 4
    · rw [if_pos (by simp [h4])]; congr 1; simp [h4]
    · rw [if_neg (by simp [h4])]; congr 1; simp [h, h4]
theorem outside_f (l : List Int) (m : Int) : impl_outside.f l m = some (!(decide (inAll l m))) := by unfold impl_outside.f; rw [any_inAll]
theorem impl_ImageOk_f (k : Nat) (a b wd h : Int) (c p : List Int) (hc : c.length ≤ 1048576) (hp : p.length ≤ 1048576) : impl_ImageOk.f (k + 1) a b wd h c p = some (imgM a b wd h c p) := by
  have hfalse : impl_ImageOk.j0 (k + 1) true a b wd h c p = some false := by rw [impl_ImageOk.j0, if_pos rfl]
  unfold impl_ImageOk.f imgM
  rw [depthOk_f, Option.bind_some]
  by_cases hd : depP a b
  · have hb := depP_b hd
    have hpb := P2_62b (n := b.toNat) (by omega)
    rw [if_pos (decide_eq_true hd), in_f, Option.bind_some, in_f, Option.bind_some]
    by_cases hw : 1 ≤ wd ∧ wd ≤ 20
    · rw [if_pos (decide_eq_true hw)]
      by_cases hh : 1 ≤ h ∧ h ≤ 20
      · have hm := mul20 hw hh
        rw [if_pos (decide_eq_true hh), w64 (by omega)]
        by_cases hl : (p.length : Int) = wd * h
        · rw [show ((p.length : Int) != wd * h) = false by simp [hl], impl_ImageOk.j0, if_neg (by decide), shl1_P2 (by omega) (by omega)]
          by_cases ha : a = 4
          · rw [if_pos ha, if_pos (show 0 ≤ b by omega), in_f, Option.bind_some, outside_f, Option.bind_some, outside_f, Option.bind_some, w64 (x := (c.length : Int) - 1) (by omega), Bool.not_not]
            by_cases h5 : 1 ≤ (c.length : Int) ∧ (c.length : Int) ≤ P2 b.toNat
            · rw [if_pos (decide_eq_true h5)]
              by_cases h6 : inAll c 16777215
              · rw [if_neg (by simpa using h6)]
                congr 1
                rw [Bool.eq_iff_iff, decide_eq_true_iff, decide_eq_true_iff]
                exact ⟨fun h => ⟨hd, hw, hh, hl, .inl ⟨ha, h5, h6, h⟩⟩, fun h => h.2.2.2.2.elim (fun h => h.2.2.2) (fun h => absurd ha h.1)⟩
              · rw [if_pos (by simpa using h6)]
                congr 1; symm; rw [decide_eq_false_iff_not]
                exact fun h => h.2.2.2.2.elim (fun h => h6 h.2.2.1) (fun h => h.1 ha)
            · rw [if_neg (by simpa using h5)]
              congr 1; symm; rw [decide_eq_false_iff_not]
              exact fun h => h.2.2.2.2.elim (fun h => h5 h.2.1) (fun h => h.1 ha)
          · rw [if_neg ha, if_pos (show 0 ≤ b by omega), w64 (x := P2 b.toNat - 1) (by omega), outside_f, Option.bind_some, Bool.not_not]
            by_cases h5 : (c.length : Int) = 0
            · have h6 : c = [] := List.eq_nil_of_length_eq_zero (by omega)
              rw [if_pos h5]
              congr 1
              rw [Bool.eq_iff_iff, decide_eq_true_iff, decide_eq_true_iff]
              exact ⟨fun h => ⟨hd, hw, hh, hl, .inr ⟨ha, h6, h⟩⟩, fun h => h.2.2.2.2.elim (fun h => absurd h.1 ha) (fun h => h.2.2)⟩
            · rw [if_neg h5]
              congr 1; symm; rw [decide_eq_false_iff_not]
              exact fun h => h.2.2.2.2.elim (fun h => ha h.1) (fun h => h5 (by rw [h.2.1]; rfl))
        · rw [show ((p.length : Int) != wd * h) = true by simp [hl], hfalse]
          congr 1; symm; rw [decide_eq_false_iff_not]; exact fun h => hl h.2.2.2.1
      · rw [if_neg (by simpa using hh), hfalse]
        congr 1; symm; rw [decide_eq_false_iff_not]; exact fun h => hh h.2.2.1
    · rw [if_neg (by simpa using hw), hfalse]
      congr 1; symm; rw [decide_eq_false_iff_not]; exact fun h => hw h.2.1
  · rw [if_neg (by simpa using hd), hfalse]
    congr 1; symm; rw [decide_eq_false_iff_not]; exact fun h => hd h.1
theorem clone_f (l : List Int) (hl : l.length ≤ 1048576) : slices_Clone_int_int.f l = some l := by
  unfold slices_Clone_int_int.f
  rw [Option.bind_some, if_pos (by simp; omega), List.nil_append]
theorem blank_f (a b wd h : Int) (c p : List Int) (x y : Int) (hl : c.length ≤ 1048576) : spec_l8Blank.f a b wd h c p x y = some (a, b, x, y, c, []) := by
  unfold spec_l8Blank.f
  rw [Option.bind_some, if_pos (by simp; omega), List.nil_append]
theorem made_l1_ev (cl : Int → Int → Option (Int × Int)) (fa fb : Nat → Nat → Int) (a b wd h : Int) (c p : List Int) (q0 q1 q2 q3 : Int) (q4 : List Int) (wide high y : Nat) (hw : wide ≤ 20) (hh : high ≤ 20) (hy : y < high) (hp : p.length ≤ 400) (hwd : 1 ≤ wd ∧ wd ≤ 20)
    (hcl : ∀ x : Nat, x < wide → cl (x : Int) (y : Int) = some (fa x y, fb x y) ∧ (0 ≤ fb x y ∧ fb x y ≤ 20) ∧ (0 ≤ fa x y ∧ fa x y ≤ 20) ∧ fb x y * wd + fa x y < p.length) (out : List Int) (ho : out.length ≤ y * wide) (r : Int × Int × Int × Int × List Int × List Int)
    (hnext : Ev (fun k => impl_Image_made.l0 cl k (wide : Int) (high : Int) ((y : Int) + 1) a b wd h c p q0 q1 q2 q3 q4 (out ++ rowL (fun x y => rd p (fb x y * wd + fa x y)) wide y)) r) :
    ∀ d x : Nat, x + d = wide → Ev (fun k => impl_Image_made.l1 cl k (wide : Int) (y : Int) (high : Int) (y : Int) (wide : Int) (x : Int) a b wd h c p q0 q1 q2 q3 q4 (out ++ rowL (fun x y => rd p (fb x y * wd + fa x y)) x y)) r := by
  intro d
  induction d with
  | zero =>
    intro x hx
    obtain ⟨K, hK⟩ := hnext
    try dsimp only at hK
    try dsimp only at hK
    refine ⟨K + 1, fun k hk => ?_⟩
    try dsimp only
    obtain ⟨m, rfl⟩ : ∃ m, k = m + 1 := ⟨k - 1, by omega⟩
    have e : x = wide := by omega
    subst e
    try dsimp only
    rw [impl_Image_made.l1, if_neg (by omega), w64 (by omega)]
    exact hK m (by omega)
  | succ d ih =>
    intro x hx
    obtain ⟨K, hK⟩ := ih (x + 1) (by omega)
    try dsimp only at hK
    try dsimp only at hK
    obtain ⟨h1, h2, h3, h4⟩ := hcl x (by omega)
    have h5 : 0 ≤ fb x y * wd := Int.mul_nonneg h2.1 (by omega)
    have h6 : y * wide ≤ 20 * 20 := Nat.mul_le_mul (by omega) hw
    refine ⟨K + 1, fun k hk => ?_⟩
    try dsimp only
    obtain ⟨m, rfl⟩ : ∃ m, k = m + 1 := ⟨k - 1, by omega⟩
    have hm := hK m (by omega)
    try dsimp only
    rw [impl_Image_made.l1, if_pos (by omega), h1, Option.bind_some]
    try dsimp only
    rw [w64 (x := fb x y * wd) (by omega), w64 (x := fb x y * wd + fa x y) (by omega), if_pos (by omega), if_pos h4, if_pos (by rw [List.length_append, rowL_length]; omega), w64 (by omega), List.append_assoc, ← rowL_succ (fun x y => rd p (fb x y * wd + fa x y))]
    rw [show ((x + 1 : Nat) : Int) = (x : Int) + 1 by omega] at hm
    exact hm
theorem made_l0_ev (cl : Int → Int → Option (Int × Int)) (fa fb : Nat → Nat → Int) (a b wd h : Int) (c p : List Int) (q0 q1 q2 q3 : Int) (q4 : List Int) (wide high : Nat) (hw : wide ≤ 20) (hh : high ≤ 20) (hp : p.length ≤ 400) (hwd : 1 ≤ wd ∧ wd ≤ 20)
    (hcl : ∀ x y : Nat, x < wide → y < high → cl (x : Int) (y : Int) = some (fa x y, fb x y) ∧ (0 ≤ fb x y ∧ fb x y ≤ 20) ∧ (0 ≤ fa x y ∧ fa x y ≤ 20) ∧ fb x y * wd + fa x y < p.length) :
    ∀ d y : Nat, y + d = high → Ev (fun k => impl_Image_made.l0 cl k (wide : Int) (high : Int) (y : Int) a b wd h c p q0 q1 q2 q3 q4 (genL (fun x y => rd p (fb x y * wd + fa x y)) wide y)) (q0, q1, q2, q3, q4, genL (fun x y => rd p (fb x y * wd + fa x y)) wide high) := by
  intro d
  induction d with
  | zero =>
    intro y hy
    refine ⟨1, fun k hk => ?_⟩
    try dsimp only
    obtain ⟨m, rfl⟩ : ∃ m, k = m + 1 := ⟨k - 1, by omega⟩
    have e : y = high := by omega
    subst e
    try dsimp only
    rw [impl_Image_made.l0, if_neg (by omega)]
  | succ d ih =>
    intro y hy
    have hn := ih (y + 1) (by omega)
    rw [genL_succ, show ((y + 1 : Nat) : Int) = (y : Int) + 1 by omega] at hn
    obtain ⟨K, hK⟩ := made_l1_ev cl fa fb a b wd h c p q0 q1 q2 q3 q4 wide high y hw hh (by omega) hp hwd (fun x hx => hcl x y hx (by omega)) _ (by rw [genL_length]; omega) _ hn wide 0 (by omega)
    try dsimp only at hK
    try dsimp only at hK
    refine ⟨K + 1, fun k hk => ?_⟩
    try dsimp only
    obtain ⟨m, rfl⟩ : ∃ m, k = m + 1 := ⟨k - 1, by omega⟩
    have hm := hK m (by omega)
    try dsimp only
    rw [impl_Image_made.l0, if_pos (by omega)]
    simp only [rowL, List.range_zero, List.map_nil, List.append_nil] at hm
    exact hm
theorem made_ev (cl : Int → Int → Option (Int × Int)) (fa fb : Nat → Nat → Int) (a b wd h : Int) (c p : List Int) (wide high : Nat) (hw : wide ≤ 20) (hh : high ≤ 20) (hc : c.length ≤ 1048576) (hp : p.length ≤ 400) (hwd : 1 ≤ wd ∧ wd ≤ 20)
    (hcl : ∀ x y : Nat, x < wide → y < high → cl (x : Int) (y : Int) = some (fa x y, fb x y) ∧ (0 ≤ fb x y ∧ fb x y ≤ 20) ∧ (0 ≤ fa x y ∧ fa x y ≤ 20) ∧ fb x y * wd + fa x y < p.length) :
    Ev (fun k => impl_Image_made.f cl k a b wd h c p (wide : Int) (high : Int)) (a, b, (wide : Int), (high : Int), c, genL (fun x y => rd p (fb x y * wd + fa x y)) wide high) := by
  obtain ⟨K, hK⟩ := made_l0_ev cl fa fb a b wd h c p a b wide high c wide high hw hh hp hwd hcl high 0 (by omega)
  try dsimp only at hK
  try dsimp only at hK
  refine ⟨K, fun k hk => ?_⟩
  try dsimp only
  try dsimp only
  unfold impl_Image_made.f
  rw [clone_f c hc, Option.bind_some]
  exact hK k hk
theorem specCut_l0_ev (a b : Int) (W : Nat) (h : Int) (c p : List Int) (q0 q1 q2 q3 : Int) (q4 : List Int) (X Y wide high : Nat) (hW : 1 ≤ W ∧ W ≤ 20) (hY : Y + high ≤ 20) (hX : X + wide ≤ W) (hp : p.length ≤ 400) (hpl : (Y + high) * W ≤ p.length) :
    ∀ d i : Nat, i + d = high → Ev (fun k => spec_ImageCut.l0 k (X : Int) (Y : Int) (wide : Int) (high : Int) (i : Int) a b (W : Int) h c p q0 q1 q2 q3 q4 (genL (fun a b => rd p (((Y : Int) + (b : Int)) * (W : Int) + ((X : Int) + (a : Int)))) wide i)) (q0, q1, q2, q3, q4, genL (fun a b => rd p (((Y : Int) + (b : Int)) * (W : Int) + ((X : Int) + (a : Int)))) wide high, true) := by
  intro d
  induction d with
  | zero =>
    intro i hi
    refine ⟨1, fun k hk => ?_⟩
    try dsimp only
    obtain ⟨m, rfl⟩ : ∃ m, k = m + 1 := ⟨k - 1, by omega⟩
    have e : i = high := by omega
    subst e
    try dsimp only
    rw [spec_ImageCut.l0, if_neg (by omega)]
  | succ d ih =>
    intro i hi
    obtain ⟨K, hK⟩ := ih (i + 1) (by omega)
    try dsimp only at hK
    try dsimp only at hK
    have h1 : (Y + i + 1) * W ≤ (Y + high) * W := Nat.mul_le_mul_right _ (by omega)
    have h3 : (Y + i + 1) * W = (Y + i) * W + W := Nat.succ_mul _ _
    have e1 : ((Y : Int) + (i : Int)) * (W : Int) = (((Y + i) * W : Nat) : Int) := by simp
    obtain ⟨F, hF⟩ : ∃ F, F = (Y + i) * W + X := ⟨_, rfl⟩
    have e2 : (((Y + i) * W : Nat) : Int) + (X : Int) = (F : Int) := by rw [hF]; simp
    refine ⟨K + 1, fun k hk => ?_⟩
    try dsimp only
    obtain ⟨m, rfl⟩ : ∃ m, k = m + 1 := ⟨k - 1, by omega⟩
    have hm := hK m (by omega)
    try dsimp only
    have hgl := genL_length (fun a b => rd p (((Y : Int) + (b : Int)) * (W : Int) + ((X : Int) + (a : Int)))) wide i
    have hiW : i * wide ≤ 20 * 20 := Nat.mul_le_mul (by omega) (by omega)
    rw [spec_ImageCut.l0, if_pos (by omega), w64 (x := (Y : Int) + (i : Int)) (by omega), e1, w64 (x := (((Y + i) * W : Nat) : Int)) (by omega), e2, w64 (x := (F : Int)) (by omega), w64 (x := (F : Int) + (wide : Int)) (by omega), if_pos (by omega), if_pos (by omega), if_pos (by omega)]
    rw [show ((F : Int) + (wide : Int)).toNat = F + wide by omega, Int.toNat_natCast, cut_row p F wide (by omega)]
    rw [if_pos (by rw [hgl]; simp; omega), w64 (by omega)]
    rw [genL_succ, show ((i + 1 : Nat) : Int) = (i : Int) + 1 by omega] at hm
    rw [show (List.range wide).map (fun j : Nat => rd p ((F : Int) + (j : Int))) = rowL (fun a b => rd p (((Y : Int) + (b : Int)) * (W : Int) + ((X : Int) + (a : Int)))) wide i by
      unfold rowL
      refine List.map_congr_left fun j _ => ?_
      show rd p ((F : Int) + (j : Int)) = rd p (((Y : Int) + (i : Int)) * (W : Int) + ((X : Int) + (j : Int)))
      rw [e1, ← e2, Int.add_assoc]]
    exact hm
theorem cutP_nat {a b wd h : Int} {c p : List Int} {x y wide high : Int} (hi : imgP a b wd h c p) (hc : cutP wd h x y wide high) : ∃ W H X Y V U : Nat, wd = (W : Int) ∧ h = (H : Int) ∧ x = (X : Int) ∧ y = (Y : Int) ∧ wide = (V : Int) ∧ high = (U : Int) ∧ (1 ≤ W ∧ W ≤ 20) ∧ (1 ≤ H ∧ H ≤ 20) ∧ 1 ≤ V ∧ 1 ≤ U ∧ X + V ≤ W ∧ Y + U ≤ H ∧ p.length = H * W ∧ p.length ≤ 400 := by
  obtain ⟨-, hw, hh, hl, -⟩ := hi
  obtain ⟨c1, c2, c3, c4, c5, c6⟩ := hc
  have h4 := mul20 hw hh
  refine ⟨wd.toNat, h.toNat, x.toNat, y.toNat, wide.toNat, high.toNat, by omega, by omega, by omega, by omega, by omega, by omega, by omega, by omega, by omega, by omega, by omega, by omega, ?_, by omega⟩
  have e : (p.length : Int) = ((h.toNat * wd.toNat : Nat) : Int) := by
    rw [hl, Int.natCast_mul, Int.toNat_of_nonneg (by omega), Int.toNat_of_nonneg (by omega), Int.mul_comm]
  omega
theorem specCut_ev (a b wd h : Int) (c p : List Int) (x y wide high : Int) (hc : c.length ≤ 1048576) (hp : p.length ≤ 1048576) : Ev (fun k => spec_ImageCut.f k a b wd h c p x y wide high) (cutImg a b wd h c p x y wide high) := by
  obtain ⟨K1, h1⟩ := spec_ImageOk_ev a b wd h c p hc hp
  try dsimp only at h1
  try dsimp only at h1
  by_cases hi : imgP a b wd h c p
  · obtain ⟨-, hw, hh, -, -⟩ := id hi
    by_cases hcut : cutP wd h x y wide high
    · have e2 : cutImg a b wd h c p x y wide high = (a, b, wide, high, c, cutL wd p x y wide high, true) := if_pos ⟨hi, hcut⟩
      obtain ⟨W, H, X, Y, V, U, rfl, rfl, rfl, rfl, rfl, rfl, hW, hH, hV, hU, hX, hY, hpl, hp4⟩ := cutP_nat hi hcut
      obtain ⟨K2, h2⟩ := specCut_l0_ev a b W H c p a b V U c X Y V U hW (by omega) hX hp4 (by rw [hpl]; exact Nat.mul_le_mul_right _ hY) U 0 (by omega)
      try dsimp only at h2
      try dsimp only at h2
      refine ⟨K1 + K2 + 1, fun k hk => ?_⟩
      try dsimp only
      obtain ⟨m, rfl⟩ : ∃ m, k = m + 1 := ⟨k - 1, by omega⟩
      have h2' := h2 m (by omega)
      try dsimp only
      unfold spec_ImageCut.f
      rw [h1 _ (by omega), Option.bind_some]
      unfold imgM
      rw [if_pos (decide_eq_true hi), l1In_f, Option.bind_some, if_pos (decide_eq_true (by omega)), l1In_f, Option.bind_some, if_pos (decide_eq_true (by omega)), w64 (x := (W : Int) - (V : Int)) (by omega), l1In_f, Option.bind_some, if_pos (decide_eq_true (by omega)), w64 (x := (H : Int) - (U : Int)) (by omega), l1In_f, Option.bind_some, spec_ImageCut.j0, if_neg (by simp; omega), blank_f _ _ _ _ _ _ _ _ hc, Option.bind_some, e2]
      try dsimp only
      unfold cutL
      rw [Int.toNat_natCast, Int.toNat_natCast]
      exact h2'
    · have e2 : cutImg a b wd h c p x y wide high = (0, 0, 0, 0, [], [], false) := if_neg (fun e => hcut e.2)
      refine ⟨K1 + 1, fun k hk => ?_⟩
      try dsimp only
      obtain ⟨m, rfl⟩ : ∃ m, k = m + 1 := ⟨k - 1, by omega⟩
      try dsimp only
      unfold spec_ImageCut.f
      rw [h1 _ (by omega), Option.bind_some, e2]
      unfold imgM
      rw [if_pos (decide_eq_true hi), l1In_f, Option.bind_some]
      by_cases c1 : 1 ≤ wide ∧ wide ≤ wd
      · rw [if_pos (decide_eq_true c1), l1In_f, Option.bind_some]
        by_cases c2 : 1 ≤ high ∧ high ≤ h
        · rw [if_pos (decide_eq_true c2), w64 (x := wd - wide) (by omega), l1In_f, Option.bind_some]
          by_cases c3 : 0 ≤ x ∧ x ≤ wd - wide
          · rw [if_pos (decide_eq_true c3), w64 (x := h - high) (by omega), l1In_f, Option.bind_some]
            have c4 : ¬ (0 ≤ y ∧ y ≤ h - high) := fun e => hcut ⟨c3.1, e.1, c1.1, c2.1, by omega, by omega⟩
            rw [spec_ImageCut.j0, if_pos (by rw [decide_eq_false c4]; rfl)]
          · rw [if_neg (by simpa using c3), spec_ImageCut.j0, if_pos rfl]
        · rw [if_neg (by simpa using c2), spec_ImageCut.j0, if_pos rfl]
      · rw [if_neg (by simpa using c1), spec_ImageCut.j0, if_pos rfl]
  · have e2 : cutImg a b wd h c p x y wide high = (0, 0, 0, 0, [], [], false) := if_neg (fun e => hi e.1)
    refine ⟨K1 + 1, fun k hk => ?_⟩
    try dsimp only
    obtain ⟨m, rfl⟩ : ∃ m, k = m + 1 := ⟨k - 1, by omega⟩
    try dsimp only
    unfold spec_ImageCut.f
    rw [h1 _ (by omega), Option.bind_some]
    unfold imgM
    rw [if_neg (by simpa using hi), spec_ImageCut.j0, if_pos rfl, e2]
theorem has_f (a b wd h : Int) (c p : List Int) (x y : Int) (hw : 1 ≤ wd ∧ wd ≤ 20) (hh : 1 ≤ h ∧ h ≤ 20) : impl_Image_has.f a b wd h c p x y = some (decide ((0 ≤ x ∧ x ≤ wd - 1) ∧ (0 ≤ y ∧ y ≤ h - 1))) := by
  unfold impl_Image_has.f
  rw [w64 (x := wd - 1) (by omega), in_f, Option.bind_some]
  by_cases c1 : 0 ≤ x ∧ x ≤ wd - 1
  · rw [if_pos (decide_eq_true c1), w64 (x := h - 1) (by omega), in_f, Option.bind_some]
    by_cases c2 : 0 ≤ y ∧ y ≤ h - 1
    · rw [decide_eq_true c2, decide_eq_true ⟨c1, c2⟩]
    · rw [decide_eq_false c2, decide_eq_false (fun e => c2 e.2)]
  · rw [if_neg (by simpa using c1), decide_eq_false (fun e => c1 e.1)]
theorem implCut_ev (a b wd h : Int) (c p : List Int) (x y wide high : Int) (hc : c.length ≤ 1048576) (hp : p.length ≤ 1048576) : Ev (fun k => impl_ImageCut.f k a b wd h c p x y wide high) (cutImg a b wd h c p x y wide high) := by
  have h1 := fun k => impl_ImageOk_f k a b wd h c p hc hp
  by_cases hi : imgP a b wd h c p
  · obtain ⟨-, hw, hh, hl, -⟩ := id hi
    by_cases hcut : cutP wd h x y wide high
    · have e2 : cutImg a b wd h c p x y wide high = (a, b, wide, high, c, cutL wd p x y wide high, true) := if_pos ⟨hi, hcut⟩
      obtain ⟨W, H, X, Y, V, U, rfl, rfl, rfl, rfl, rfl, rfl, hW, hH, hV, hU, hX, hY, hpl, hp4⟩ := cutP_nat hi hcut
      obtain ⟨K2, h2⟩ := made_ev (fun x' y' => some (wrap64 ((X : Int) + x'), wrap64 ((Y : Int) + y'))) (fun x' _ => (X : Int) + (x' : Int)) (fun _ y' => (Y : Int) + (y' : Int)) a b W H c p V U (by omega) (by omega) hc (by omega) (by omega) (fun x' y' hx hy => by
        refine ⟨?_, by omega, by omega, ?_⟩
        · try dsimp only
          rw [w64 (x := (X : Int) + (x' : Int)) (by omega), w64 (x := (Y : Int) + (y' : Int)) (by omega)]
        · have := (place_lt hw hh (x := (X : Int) + (x' : Int)) (y := (Y : Int) + (y' : Int)) (by omega) (by omega)).2.1
          rw [hl]; exact this)
      try dsimp only at h2
      try dsimp only at h2
      refine ⟨K2 + 1, fun k hk => ?_⟩
      try dsimp only
      obtain ⟨m, rfl⟩ : ∃ m, k = m + 1 := ⟨k - 1, by omega⟩
      have h2' := h2 (m + 1) (by omega)
      try dsimp only
      unfold impl_ImageCut.f
      rw [h1, Option.bind_some]
      unfold imgM
      rw [if_pos (decide_eq_true hi), has_f _ _ _ _ _ _ _ _ hw hh, Option.bind_some, if_pos (decide_eq_true (by omega)), w64 (x := (W : Int) - (X : Int)) (by omega), in_f, Option.bind_some, if_pos (decide_eq_true (by omega)), w64 (x := (H : Int) - (Y : Int)) (by omega), in_f, Option.bind_some, if_pos (decide_eq_true (by omega)), h2', Option.bind_some, e2]
      try dsimp only
      unfold cutL
      rw [Int.toNat_natCast, Int.toNat_natCast]
    · have e2 : cutImg a b wd h c p x y wide high = (0, 0, 0, 0, [], [], false) := if_neg (fun e => hcut e.2)
      refine ⟨1, fun k hk => ?_⟩
      try dsimp only
      obtain ⟨m, rfl⟩ : ∃ m, k = m + 1 := ⟨k - 1, by omega⟩
      try dsimp only
      unfold impl_ImageCut.f
      rw [h1, Option.bind_some, e2]
      unfold imgM
      rw [if_pos (decide_eq_true hi), has_f _ _ _ _ _ _ _ _ hw hh, Option.bind_some]
      by_cases c1 : (0 ≤ x ∧ x ≤ wd - 1) ∧ (0 ≤ y ∧ y ≤ h - 1)
      · rw [if_pos (decide_eq_true c1), w64 (x := wd - x) (by omega), in_f, Option.bind_some]
        by_cases c2 : 1 ≤ wide ∧ wide ≤ wd - x
        · rw [if_pos (decide_eq_true c2), w64 (x := h - y) (by omega), in_f, Option.bind_some]
          have c4 : ¬ (1 ≤ high ∧ high ≤ h - y) := fun e => hcut ⟨c1.1.1, c1.2.1, c2.1, e.1, by omega, by omega⟩
          rw [if_neg (by simpa using c4)]
        · rw [if_neg (by simpa using c2)]
      · rw [if_neg (by rw [decide_eq_false c1]; decide)]
  · have e2 : cutImg a b wd h c p x y wide high = (0, 0, 0, 0, [], [], false) := if_neg (fun e => hi e.1)
    refine ⟨1, fun k hk => ?_⟩
    try dsimp only
    obtain ⟨m, rfl⟩ : ∃ m, k = m + 1 := ⟨k - 1, by omega⟩
    try dsimp only
    unfold impl_ImageCut.f
    rw [h1, Option.bind_some]
    unfold imgM
    rw [if_neg (by simpa using hi), e2]
theorem cutImg_small (a b wd h : Int) (c p : List Int) (x y wide high : Int) (hc : c.length ≤ 1048576) : (cutImg a b wd h c p x y wide high).2.2.2.2.1.length ≤ 1048576 ∧ (cutImg a b wd h c p x y wide high).2.2.2.2.2.1.length ≤ 400 := by
  unfold cutImg
  split
  · rename_i e
    obtain ⟨⟨-, hw, hh, -, -⟩, c1, c2, c3, c4, c5, c6⟩ := e
    exact ⟨hc, genL_small _ (by omega) (by omega)⟩
  · simp
theorem toIntS_l0_ev (l : List Int) (hl : l.length ≤ 35184372088832) : ∀ (suf pre : List Int), l = pre ++ suf → Ev (fun k => laws_toIntS.l0 k l (pre ++ List.replicate suf.length 0) (pre.length : Int)) l := by
  intro suf
  induction suf with
  | nil =>
    intro pre hp
    refine ⟨1, fun k hk => ?_⟩
    try dsimp only
    obtain ⟨m, rfl⟩ : ∃ m, k = m + 1 := ⟨k - 1, by omega⟩
    subst hp
    rw [laws_toIntS.l0, if_neg (by simp)]
    simp
  | cons x suf ih =>
    intro pre hp
    obtain ⟨K, hK⟩ := ih (pre ++ [x]) (by simp [hp])
    try dsimp only at hK
    refine ⟨K + 1, fun k hk => ?_⟩
    try dsimp only
    obtain ⟨m, rfl⟩ : ∃ m, k = m + 1 := ⟨k - 1, by omega⟩
    have hm := hK m (by omega)
    have hll : l.length = pre.length + suf.length + 1 := by rw [hp]; simp; omega
    have hx : rd l (pre.length : Int) = x := by rw [hp]; exact rd_at _ _ _ rfl
    rw [laws_toIntS.l0, if_pos (by omega), if_pos (by omega), if_pos (by simp; omega), hx, w64 (by omega), List.length_cons, List.replicate_succ, set_at _ _ _ _ (by omega)]
    simp only [List.append_assoc, List.singleton_append, List.length_append, List.length_singleton] at hm
    rw [show ((pre.length + 1 : Nat) : Int) = (pre.length : Int) + 1 by omega] at hm
    exact hm
theorem toIntS_ev (l : List Int) (hl : l.length ≤ 35184372088832) : Ev (fun k => laws_toIntS.f k l) l := by
  obtain ⟨K, hK⟩ := toIntS_l0_ev l hl l [] rfl
  try dsimp only at hK
  refine ⟨K, fun k hk => ?_⟩
  try dsimp only
  have hm := hK k hk
  unfold laws_toIntS.f
  rw [if_pos (by omega), if_pos (by omega), Int.toNat_natCast]
  exact hm
theorem eqIntS_l0_ev (a b : List Int) (hl : a.length ≤ 35184372088832) (hab : a.length = b.length) : ∀ (sa sb pa pb : List Int), a = pa ++ sa → b = pb ++ sb → pa.length = pb.length → Ev (fun k => laws_eqIntS.l0 k a b (pa.length : Int)) (decide (sa = sb)) := by
  intro sa
  induction sa with
  | nil =>
    intro sb pa pb ha hb hp
    have hsb : sb = [] := by
      cases sb with
      | nil => rfl
      | cons y sb => rw [ha, hb] at hab; simp at hab; omega
    subst hsb
    refine ⟨1, fun k hk => ?_⟩
    try dsimp only
    obtain ⟨m, rfl⟩ : ∃ m, k = m + 1 := ⟨k - 1, by omega⟩
    rw [laws_eqIntS.l0, if_neg (by rw [ha]; simp)]
    simp
  | cons x sa ih =>
    intro sb pa pb ha hb hp
    cases sb with
    | nil => rw [ha, hb] at hab; simp at hab; omega
    | cons y sb =>
      have hll : a.length = pa.length + sa.length + 1 := by rw [ha]; simp; omega
      have hx : rd a (pa.length : Int) = x := by rw [ha]; exact rd_at _ _ _ rfl
      have hy : rd b (pa.length : Int) = y := by rw [hb]; exact rd_at _ _ _ (by omega)
      by_cases hxy : x = y
      · obtain ⟨K, hK⟩ := ih sb (pa ++ [x]) (pb ++ [y]) (by simp [ha]) (by simp [hb]) (by simp [hp])
        try dsimp only at hK
        refine ⟨K + 1, fun k hk => ?_⟩
        try dsimp only
        obtain ⟨m, rfl⟩ : ∃ m, k = m + 1 := ⟨k - 1, by omega⟩
        have hm := hK m (by omega)
        rw [laws_eqIntS.l0, if_pos (by omega), if_pos (by omega), if_pos (by omega), hx, hy, if_pos hxy, w64 (by omega)]
        rw [List.length_append, List.length_singleton, show ((pa.length + 1 : Nat) : Int) = (pa.length : Int) + 1 by omega] at hm
        rw [hm]
        simp [hxy]
      · refine ⟨1, fun k hk => ?_⟩
        try dsimp only
        obtain ⟨m, rfl⟩ : ∃ m, k = m + 1 := ⟨k - 1, by omega⟩
        rw [laws_eqIntS.l0, if_pos (by omega), if_pos (by omega), if_pos (by omega), hx, hy, if_neg hxy]
        simp [hxy]
theorem eqIntS_ev (a b : List Int) (hl : a.length ≤ 35184372088832) (hl2 : b.length ≤ 35184372088832) : Ev (fun k => laws_eqIntS.f k a b) (decide (a = b)) := by
  unfold laws_eqIntS.f
  by_cases h : a.length = b.length
  · obtain ⟨K, hK⟩ := eqIntS_l0_ev a b hl h a b [] [] rfl rfl rfl
    try dsimp only at hK
    refine ⟨K, fun k hk => ?_⟩
    try dsimp only
    rw [if_pos (by omega)]
    exact hK k hk
  · refine ⟨0, fun k hk => ?_⟩
    try dsimp only
    rw [if_neg (by omega), decide_eq_false (fun e => h (by rw [e]))]
theorem szIntS_f (l : List Int) (a : Int) (h0 : 0 ≤ a) (h1 : a ≤ 1048576) (hl : l.length ≤ maxLen) : laws_szIntS.f l a = some (if (l.length : Int) ≤ a then a - l.length else -1) := by
  have hm : maxLen = 9223372036854775807 := rfl
  unfold laws_szIntS.f
  rw [w64 (x := a - (l.length : Int)) (by omega)]
  by_cases h : (l.length : Int) ≤ a
  · rw [if_neg (by omega), if_pos h]
  · rw [if_pos (by omega), if_neg h]
theorem szImage_f (a b c d : Int) (l p : List Int) (z : Int) (h0 : 0 ≤ z) (h1 : z ≤ 1048576) (hl : l.length ≤ maxLen) (hp : p.length ≤ maxLen) : laws_szImage.f a b c d l p z = some (if (l.length : Int) + p.length ≤ z then z - l.length - p.length else -1) := by
  unfold laws_szImage.f
  rw [szIntS_f l z h0 h1 hl, Option.bind_some]
  by_cases h : (l.length : Int) ≤ z
  · rw [if_pos h, if_neg (by omega), szIntS_f p _ (by omega) (by omega) hp, Option.bind_some]
    by_cases h2 : (p.length : Int) ≤ z - l.length
    · rw [if_pos h2, if_neg (by omega), if_pos (by omega)]
    · rw [if_neg h2, if_pos (by omega), if_neg (by omega)]
  · rw [if_neg h, if_pos (by omega), if_neg (by omega)]
theorem toImage_ev (a b c d : Int) (l p : List Int) (hl : l.length ≤ 1048576) (hp : p.length ≤ 1048576) : Ev (fun k => laws_toImage.f k a b c d l p) (a, b, c, d, l, p) := by
  obtain ⟨K1, h1⟩ := toIntS_ev l (by omega)
  try dsimp only at h1
  obtain ⟨K2, h2⟩ := toIntS_ev p (by omega)
  try dsimp only at h2
  try dsimp only at h1 h2
  refine ⟨K1 + K2, fun k hk => ?_⟩
  try dsimp only
  try dsimp only
  unfold laws_toImage.f
  rw [h1 k (by omega), Option.bind_some, h2 k (by omega), Option.bind_some]
theorem eqImage_ev (a b c d : Int) (l p : List Int) (hl : l.length ≤ 1048576) (hp : p.length ≤ 1048576) : Ev (fun k => laws_eqImage.f k a b c d l p a b c d l p) true := by
  obtain ⟨K1, h1⟩ := eqIntS_ev l l (by omega) (by omega)
  try dsimp only at h1
  obtain ⟨K2, h2⟩ := eqIntS_ev p p (by omega) (by omega)
  try dsimp only at h2
  try dsimp only at h1 h2
  refine ⟨K1 + K2, fun k hk => ?_⟩
  try dsimp only
  try dsimp only
  unfold laws_eqImage.f
  rw [if_pos rfl, if_pos rfl, if_pos rfl, if_pos rfl, h1 k (by omega), Option.bind_some, if_pos (decide_eq_true rfl), h2 k (by omega), Option.bind_some, if_pos (decide_eq_true rfl)]
theorem markIntS_l0_ev (m0 : Int) (hm0 : 0 ≤ m0 ∧ m0 ≤ 1099511627776) : ∀ (suf : List Int) (i : Nat), i + suf.length ≤ 1099511627776 → Ev (fun k => laws_markIntS.l0 k (marks m0 i ++ suf) (m0 + i) (i : Int)) (m0 + (i + suf.length : Nat), marks m0 (i + suf.length)) := by
  intro suf
  induction suf with
  | nil =>
    intro i hi
    refine ⟨1, fun k hk => ?_⟩
    try dsimp only
    obtain ⟨m, rfl⟩ : ∃ m, k = m + 1 := ⟨k - 1, by omega⟩
    rw [laws_markIntS.l0, if_neg (by simp [marks_length])]
    simp
  | cons x suf ih =>
    intro i hi
    simp only [List.length_cons] at hi
    obtain ⟨K, hK⟩ := ih (i + 1) (by omega)
    try dsimp only at hK
    refine ⟨K + 1, fun k hk => ?_⟩
    try dsimp only
    obtain ⟨m, rfl⟩ : ∃ m, k = m + 1 := ⟨k - 1, by omega⟩
    have hm := hK m (by omega)
    rw [laws_markIntS.l0, if_pos (by simp [marks_length]; omega), if_pos (by omega), Int.toNat_natCast, set_at _ _ _ _ (by rw [marks_length]), w64 (by omega), w64 (by omega)]
    simp only [marks, List.append_assoc, List.singleton_append] at hm
    rw [show m0 + ((i + 1 : Nat) : Int) = m0 + i + 1 by omega, show ((i + 1 : Nat) : Int) = (i : Int) + 1 by omega, show i + 1 + suf.length = i + (suf.length + 1) by omega] at hm
    exact hm
theorem markIntS_ev (l : List Int) (m0 : Int) (hm0 : 0 ≤ m0 ∧ m0 ≤ 1099511627776) (hl : l.length ≤ 1099511627776) : Ev (fun k => laws_markIntS.f k l m0) (m0 + (l.length : Int), marks m0 l.length) := by
  have h := markIntS_l0_ev m0 hm0 l 0 (by omega)
  simp only [marks, List.nil_append, Nat.zero_add] at h
  rw [show m0 + ((0 : Nat) : Int) = m0 by omega] at h
  exact h
theorem heldIntS_l0_ev (m0 : Int) (hm0 : 0 ≤ m0 ∧ m0 ≤ 1099511627776) (n : Nat) (hn : n ≤ 1099511627776) : ∀ d i : Nat, i + d = n → Ev (fun k => laws_heldIntS.l0 k (marks m0 n) (m0 + i) (i : Int)) (m0 + n) := by
  intro d
  induction d with
  | zero =>
    intro i hi
    refine ⟨1, fun k hk => ?_⟩
    try dsimp only
    obtain ⟨m, rfl⟩ : ∃ m, k = m + 1 := ⟨k - 1, by omega⟩
    rw [laws_heldIntS.l0, if_neg (by rw [marks_length]; omega), show i = n by omega]
  | succ d ih =>
    intro i hi
    obtain ⟨K, hK⟩ := ih (i + 1) (by omega)
    try dsimp only at hK
    refine ⟨K + 1, fun k hk => ?_⟩
    try dsimp only
    obtain ⟨m, rfl⟩ : ∃ m, k = m + 1 := ⟨k - 1, by omega⟩
    have hm := hK m (by omega)
    rw [laws_heldIntS.l0, if_pos (by rw [marks_length]; omega), if_pos (by omega), rd_marks _ _ _ (by omega), if_pos rfl, w64 (by omega), w64 (by omega)]
    rw [show m0 + ((i + 1 : Nat) : Int) = m0 + i + 1 by omega, show ((i + 1 : Nat) : Int) = (i : Int) + 1 by omega] at hm
    exact hm
theorem heldIntS_ev (m0 : Int) (hm0 : 0 ≤ m0 ∧ m0 ≤ 1099511627776) (n : Nat) (hn : n ≤ 1099511627776) : Ev (fun k => laws_heldIntS.f k (marks m0 n) m0) (m0 + n) := by
  have h := heldIntS_l0_ev m0 hm0 n hn n 0 (by omega)
  rw [show m0 + ((0 : Nat) : Int) = m0 by omega] at h
  exact h
theorem markImage_ev (a b c d : Int) (l p : List Int) (hl : l.length ≤ 1048576) (hp : p.length ≤ 1048576) : Ev (fun k => laws_markImage.f k a b c d l p 1) (1 + (l.length : Int) + (p.length : Int), marks 1 l.length, marks (1 + (l.length : Int)) p.length) := by
  obtain ⟨K1, h1⟩ := markIntS_ev l 1 (by omega) (by omega)
  try dsimp only at h1
  obtain ⟨K2, h2⟩ := markIntS_ev p (1 + (l.length : Int)) (by omega) (by omega)
  try dsimp only at h2
  try dsimp only at h1 h2
  refine ⟨K1 + K2, fun k hk => ?_⟩
  try dsimp only
  try dsimp only
  unfold laws_markImage.f
  rw [h1 k (by omega), Option.bind_some]
  try dsimp only
  rw [h2 k (by omega), Option.bind_some]
theorem heldImage_ev (a b c d : Int) (n m : Nat) (hn : n ≤ 1048576) (hm : m ≤ 1048576) : Ev (fun k => laws_heldImage.f k a b c d (marks 1 n) (marks (1 + (n : Int)) m) 1) (1 + (n : Int) + (m : Int)) := by
  obtain ⟨K1, h1⟩ := heldIntS_ev 1 (by omega) n (by omega)
  try dsimp only at h1
  obtain ⟨K2, h2⟩ := heldIntS_ev (1 + (n : Int)) (by omega) m (by omega)
  try dsimp only at h2
  try dsimp only at h1 h2
  refine ⟨K1 + K2, fun k hk => ?_⟩
  try dsimp only
  try dsimp only
  unfold laws_heldImage.f
  rw [h1 k (by omega), Option.bind_some, if_neg (by omega), h2 k (by omega), Option.bind_some, if_neg (by omega)]

theorem FnExactImageCut : laws_FnExactImageCut.Pure := by
  intro a b wd h c p x y wide high ha hb hw hh hc hcw hp hpw hx1 hx2 hx3 hx4
  unfold laws_FnExactImageCut.f
  by_cases hz : (c.length : Int) + p.length ≤ 1048576
  · obtain ⟨K1, h1⟩ := toImage_ev a b wd h c p (by omega) (by omega)
    try dsimp only at h1
    obtain ⟨K2, h2⟩ := specCut_ev a b wd h c p x y wide high (by omega) (by omega)
    try dsimp only at h2
    obtain ⟨K3, h3⟩ := implCut_ev a b wd h c p x y wide high (by omega) (by omega)
    try dsimp only at h3
    obtain ⟨K4, h4⟩ := eqImage_ev a b wd h c p (by omega) (by omega)
    try dsimp only at h4
    obtain ⟨K5, h5⟩ := markImage_ev a b wd h c p (by omega) (by omega)
    try dsimp only at h5
    have hs := cutImg_small a b wd h c p x y wide high (by omega)
    try dsimp only at h1 h2 h3 h4 h5
    generalize cutImg a b wd h c p x y wide high = R at h2 h3 hs
    obtain ⟨r0, r1, r2, r3, r4, r5, r6⟩ := R
    try dsimp only at hs
    obtain ⟨K6, h6⟩ := eqImage_ev r0 r1 r2 r3 r4 r5 (by omega) (by omega)
    try dsimp only at h6
    obtain ⟨K7, h7⟩ := markImage_ev r0 r1 r2 r3 r4 r5 (by omega) (by omega)
    try dsimp only at h7
    obtain ⟨K8, h8⟩ := heldImage_ev r0 r1 r2 r3 r4.length r5.length (by omega) (by omega)
    try dsimp only at h8
    try dsimp only at h6 h7 h8
    obtain ⟨K, hK⟩ : ∃ K, K = K1 + K2 + K3 + K4 + K5 + K6 + K7 + K8 := ⟨_, rfl⟩
    refine ⟨K + 3, ?_⟩
    rw [szImage_f a b wd h c p _ (by omega) (by omega) hc hp, Option.bind_some, if_pos hz, if_neg (by omega), h1 _ (by omega), Option.bind_some]
    try dsimp only
    rw [h2 _ (by omega), Option.bind_some, Option.bind_some]
    try dsimp only
    rw [h3 _ (by omega), Option.bind_some]
    try dsimp only
    rw [h6 _ (by omega), Option.bind_some, if_pos rfl, bne_self_eq_false, laws_FnExactImageCut.j0, if_neg (by decide), h1 _ (by omega), Option.bind_some]
    try dsimp only
    rw [h4 _ (by omega), Option.bind_some, if_pos rfl, h5 _ (by omega), Option.bind_some]
    try dsimp only
    rw [if_neg (by omega), h6 _ (by omega), Option.bind_some, if_pos rfl, laws_FnExactImageCut.j1, bne_self_eq_false, if_neg (by decide), h7 _ (by omega), Option.bind_some]
    try dsimp only
    rw [h8 _ (by omega), Option.bind_some, if_neg (by omega), if_pos rfl, h1 _ (by omega), Option.bind_some]
    try dsimp only
    rw [h3 _ (by omega), Option.bind_some]
    try dsimp only
    rw [h6 _ (by omega), Option.bind_some, if_pos rfl, bne_self_eq_false, laws_FnExactImageCut.j2, if_neg (by decide), h8 _ (by omega), Option.bind_some, if_neg (by omega), if_pos rfl]
  · refine ⟨0, ?_⟩
    rw [szImage_f a b wd h c p _ (by omega) (by omega) hc hp, Option.bind_some, if_neg hz, if_pos (by omega)]

end Go.Proofs.Ytkjfefiphdloiaa.Pure
