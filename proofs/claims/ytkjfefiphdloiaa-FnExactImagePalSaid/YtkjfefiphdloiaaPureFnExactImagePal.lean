/- The program's ImagePal and the reference's answer the same, at every picture of at most 1048576 colours and points together (a longer one is let by); the picture is left as it was, and the answer is its own memory. -/
import Derived.Test.YtkjfefiphdloiaaHFnExactImagePalx10
import Derived.Test.YtkjfefiphdloiaaThNum
import Derived.Test.YtkjfefiphdloiaaThImg
import Derived.Test.YtkjfefiphdloiaaThMark
namespace Go.Proofs.Ytkjfefiphdloiaa.Pure
open Go.RowKit Go.Proofs.Ytkjfefiphdloiaa.PFnExactImagePal Go.Proofs.YtkjfefiphdloiaaW.PrintWords Go.Proofs.YtkjfefiphdloiaaW.PrintLast Go.Proofs.YtkjfefiphdloiaaW.PrintMore Go.Proofs.Ytkjfefiphdloiaa.Th
set_option linter.unusedVariables false
set_option linter.unusedSimpArgs false

theorem in_f (a b c : Int) : impl_in.f a b c = some (decide (b ≤ a ∧ a ≤ c)) := by
  unfold impl_in.f
  by_cases h : b ≤ a
  · rw [if_pos h]; simp [h]
  · rw [if_neg h]; simp [h]
theorem l1In_f (a b c : Int) : spec_l1In.f a b c = some (decide (b ≤ a ∧ a ≤ c)) := by
  unfold spec_l1In.f
  by_cases h : b ≤ a
  · rw [if_pos h]; simp [h]
  · rw [if_neg h]; simp [h]
theorem l1Pow_l0_ev (n : Nat) (hn : n ≤ 62) : ∀ d i : Nat, i + d = n → Ev (fun k => spec_l1Pow.l0 k (n : Int) (P2 i) (i : Int)) (P2 n) := by
  intro d
  induction d with
  | zero =>
    intro i hi
    refine ⟨1, fun k hk => ?_⟩
    try dsimp only
    obtain ⟨m, rfl⟩ : ∃ m, k = m + 1 := ⟨k - 1, by omega⟩
    rw [spec_l1Pow.l0, if_neg (by omega), show i = n by omega]
  | succ d ih =>
    intro i hi
    obtain ⟨K, hK⟩ := ih (i + 1) (by omega)
    try dsimp only at hK
    refine ⟨K + 1, fun k hk => ?_⟩
    try dsimp only
    obtain ⟨m, rfl⟩ : ∃ m, k = m + 1 := ⟨k - 1, by omega⟩
    have hm := hK m (by omega)
    have hb := P2_62b (n := i) (by omega)
    have hb' := P2_62b (n := i + 1) (by omega)
    have hs := P2_succ i
    rw [spec_l1Pow.l0, if_pos (by omega), w64 (by omega), w64 (by omega), show P2 i * 2 = P2 (i + 1) by omega, show (i : Int) + 1 = ((i + 1 : Nat) : Int) by omega]
    exact hm
theorem l1Pow_ev (n : Nat) (hn : n ≤ 62) : Ev (fun k => spec_l1Pow.f k (n : Int)) (P2 n) := l1Pow_l0_ev n hn n 0 (by omega)
theorem l1Pow_evI (n : Int) (h0 : 0 ≤ n) (hn : n ≤ 62) : Ev (fun k => spec_l1Pow.f k n) (P2 n.toNat) := by
  have h := l1Pow_ev n.toNat (by omega)
  rw [Int.toNat_of_nonneg h0] at h
  exact h
theorem l8Depth_f (k : Nat) (a b : Int) : spec_l8Depth.f (k + 1) a b = some (decide (depP a b)) := by
  have hj : ∀ t : Bool, spec_l8Depth.j0 (k + 1) b a t = if t = true then some (decide (b = 1 ∨ b = 2 ∨ b = 4 ∨ b = 8)) else some (decide ((a = 2 ∧ b = 24) ∨ (a = 3 ∧ b = 32))) := by
    intro t
    rw [spec_l8Depth.j0]
    by_cases h : t = true
    · rw [if_pos h, if_pos h]
      by_cases h1 : b = 1
      · rw [if_pos h1]; simp [h1]
      · rw [if_neg h1]
        by_cases h2 : b = 2
        · rw [if_pos h2]; simp [h2]
        · rw [if_neg h2]
          by_cases h4 : b = 4
          · rw [if_pos h4]; simp [h4]
          · rw [if_neg h4]; congr 1; rw [Bool.eq_iff_iff]; simp [h1, h2, h4]
    · rw [if_neg h, if_neg h]
      by_cases h1 : a = 2
      · rw [if_pos h1]; congr 1; rw [Bool.eq_iff_iff]; simp [h1]
      · rw [if_neg h1]
        by_cases h2 : a = 3
        · rw [if_pos h2]; congr 1; rw [Bool.eq_iff_iff]; simp [h2]
        · rw [if_neg h2]; congr 1; simp [h1, h2]
  unfold spec_l8Depth.f
  rw [hj, hj]
  unfold depP
  by_cases h : a = 1
  · rw [if_pos h, if_pos (by simp [h])]; congr 1; simp [h]
  · rw [if_neg h]
    by_cases h4 : a = 4
    · rw [if_pos (by simp [h4])]; congr 1; simp [h4]
    · rw [if_neg (by simp [h4])]; congr 1; simp [h, h4]
theorem l8Colors_l0_ev (a b wd h : Int) (c p : List Int) (hd : depP a b) (hc : c.length ≤ 1048576) : ∀ (suf pre : List Int), c = pre ++ suf → Ev (fun k => spec_l8Colors.l0 k (pre.length : Int) a b wd h c p) (decide (inAll suf 16777215 ∧ if a = 4 then 1 ≤ (c.length : Int) ∧ (c.length : Int) ≤ P2 b.toNat else c = [])) := by
  have hb := depP_b hd
  intro suf
  induction suf with
  | nil =>
    intro pre hp
    obtain ⟨K, hK⟩ := l1Pow_evI b (by omega) (by omega)
    try dsimp only at hK
    try dsimp only at hK
    refine ⟨K + 1, fun k hk => ?_⟩
    try dsimp only
    obtain ⟨m, rfl⟩ : ∃ m, k = m + 1 := ⟨k - 1, by omega⟩
    try dsimp only
    rw [spec_l8Colors.l0, if_neg (by rw [hp]; simp)]
    by_cases h4 : a = 4
    · rw [if_pos h4, hK m (by omega), Option.bind_some, l1In_f, Option.bind_some]
      congr 1
      rw [Bool.eq_iff_iff]; simp [inAll_nil, h4]
    · rw [if_neg h4]
      congr 1
      rw [Bool.eq_iff_iff]; simp [inAll_nil, h4]
  | cons x suf ih =>
    intro pre hp
    have hll : c.length = pre.length + suf.length + 1 := by rw [hp]; simp; omega
    have hx : rd c (pre.length : Int) = x := by rw [hp]; exact rd_at _ _ _ rfl
    obtain ⟨K, hK⟩ := ih (pre ++ [x]) (by simp [hp])
    try dsimp only at hK
    try dsimp only at hK
    refine ⟨K + 1, fun k hk => ?_⟩
    try dsimp only
    obtain ⟨m, rfl⟩ : ∃ m, k = m + 1 := ⟨k - 1, by omega⟩
    try dsimp only
    have hm := hK m (by omega)
    rw [List.length_append, List.length_singleton, show ((pre.length + 1 : Nat) : Int) = (pre.length : Int) + 1 by omega] at hm
    rw [spec_l8Colors.l0, if_pos (by omega), if_pos (by omega), hx, l1In_f, Option.bind_some]
    by_cases hr : 0 ≤ x ∧ x ≤ 16777215
    · rw [if_pos (decide_eq_true hr), w64 (by omega), hm]
      congr 1
      rw [Bool.eq_iff_iff, decide_eq_true_iff, decide_eq_true_iff, inAll_cons]
      simp [hr]
    · rw [if_neg (by simpa using hr)]
      congr 1
      symm
      rw [decide_eq_false_iff_not, inAll_cons]
      exact fun h => hr h.1.1
theorem specImageOk_l0_ev (most a b wd h : Int) (c p : List Int) (hp8 : p.length ≤ 1048576) : ∀ (suf pre : List Int), p = pre ++ suf → Ev (fun k => spec_ImageOk.l0 k most (pre.length : Int) a b wd h c p) (decide (inAll suf most)) := by
  intro suf
  induction suf with
  | nil =>
    intro pre hp
    refine ⟨1, fun k hk => ?_⟩
    try dsimp only
    obtain ⟨m, rfl⟩ : ∃ m, k = m + 1 := ⟨k - 1, by omega⟩
    try dsimp only
    rw [spec_ImageOk.l0, if_neg (by rw [hp]; simp), decide_eq_true (inAll_nil most)]
  | cons x suf ih =>
    intro pre hp
    have hll : p.length = pre.length + suf.length + 1 := by rw [hp]; simp; omega
    have hx : rd p (pre.length : Int) = x := by rw [hp]; exact rd_at _ _ _ rfl
    obtain ⟨K, hK⟩ := ih (pre ++ [x]) (by simp [hp])
    try dsimp only at hK
    try dsimp only at hK
    refine ⟨K + 1, fun k hk => ?_⟩
    try dsimp only
    obtain ⟨m, rfl⟩ : ∃ m, k = m + 1 := ⟨k - 1, by omega⟩
    try dsimp only
    have hm := hK m (by omega)
    rw [List.length_append, List.length_singleton, show ((pre.length + 1 : Nat) : Int) = (pre.length : Int) + 1 by omega] at hm
    rw [spec_ImageOk.l0, if_pos (by omega), if_pos (by omega), hx, l1In_f, Option.bind_some]
    by_cases hr : 0 ≤ x ∧ x ≤ most
    · rw [if_pos (decide_eq_true hr), w64 (by omega), hm]
      congr 1
      rw [Bool.eq_iff_iff, decide_eq_true_iff, decide_eq_true_iff, inAll_cons]
      simp [hr]
    · rw [if_neg (by simpa using hr)]
      congr 1
      symm
      rw [decide_eq_false_iff_not, inAll_cons]
      exact fun h => hr h.1
theorem spec_ImageOk_ev (a b wd h : Int) (c p : List Int) (hc : c.length ≤ 1048576) (hp : p.length ≤ 1048576) : Ev (fun k => spec_ImageOk.f k a b wd h c p) (imgM a b wd h c p) := by
  have hfalse : ∀ K : Nat, ∀ k, K + 2 ≤ k → spec_ImageOk.j0 k true a b wd h c p = some false := by
    intro K k hk
    obtain ⟨m, rfl⟩ : ∃ m, k = m + 1 := ⟨k - 1, by omega⟩
    rw [spec_ImageOk.j0, if_pos rfl]
  by_cases hd : depP a b
  · have hb := depP_b hd
    obtain ⟨K1, h1⟩ := l8Colors_l0_ev a b wd h c p hd hc c [] rfl
    try dsimp only at h1
    obtain ⟨K2, h2⟩ := l1Pow_evI b (by omega) (by omega)
    try dsimp only at h2
    try dsimp only at h1 h2
    obtain ⟨K3, h3⟩ := specImageOk_l0_ev ((c.length : Int) - 1) a b wd h c p hp p [] rfl
    try dsimp only at h3
    obtain ⟨K4, h4⟩ := specImageOk_l0_ev (P2 b.toNat - 1) a b wd h c p hp p [] rfl
    try dsimp only at h4
    try dsimp only at h3 h4
    have hpb := P2_62b (n := b.toNat) (by omega)
    refine ⟨K1 + K2 + K3 + K4 + 4, fun k hk => ?_⟩
    try dsimp only
    obtain ⟨m, rfl⟩ : ∃ m, k = m + 1 := ⟨k - 1, by omega⟩
    try dsimp only
    unfold spec_ImageOk.f
    rw [l8Depth_f, Option.bind_some, if_pos (decide_eq_true hd), l1In_f, Option.bind_some, l1In_f, Option.bind_some]
    unfold imgM
    by_cases hw : 1 ≤ wd ∧ wd ≤ 20
    · rw [if_pos (decide_eq_true hw)]
      by_cases hh : 1 ≤ h ∧ h ≤ 20
      · have hm := mul20 hw hh
        rw [if_pos (decide_eq_true hh), w64 (by omega)]
        by_cases hl : (p.length : Int) = wd * h
        · have hcc : spec_l8Colors.f (m + 1) a b wd h c p = some (decide (inAll c 16777215 ∧ if a = 4 then 1 ≤ (c.length : Int) ∧ (c.length : Int) ≤ P2 b.toNat else c = [])) := by
            unfold spec_l8Colors.f; exact h1 (m + 1) (by omega)
          rw [if_pos hl, hcc, Option.bind_some]
          by_cases hcol : inAll c 16777215 ∧ if a = 4 then 1 ≤ (c.length : Int) ∧ (c.length : Int) ≤ P2 b.toNat else c = []
          · obtain ⟨m', rfl⟩ : ∃ m', m = m' + 2 := ⟨m - 2, by omega⟩
            rw [decide_eq_true hcol, spec_ImageOk.j0, if_neg (by decide), h2 _ (by omega), Option.bind_some]
            by_cases ha : a = 4
            · rw [if_pos ha] at hcol
              have := h3 (m' + 1) (by omega)
              rw [if_pos ha, spec_ImageOk.j1, w64 (by omega)]
              rw [show (([] : List Int).length : Int) = 0 from rfl] at this
              rw [this]
              congr 1
              rw [Bool.eq_iff_iff, decide_eq_true_iff, decide_eq_true_iff]
              unfold imgP
              exact ⟨fun h => ⟨hd, hw, hh, hl, .inl ⟨ha, hcol.2, hcol.1, h⟩⟩, fun h => h.2.2.2.2.elim (fun h => h.2.2.2) (fun h => absurd ha h.1)⟩
            · rw [if_neg ha] at hcol
              have := h4 (m' + 1) (by omega)
              rw [if_neg ha, spec_ImageOk.j1, w64 (by omega)]
              rw [show (([] : List Int).length : Int) = 0 from rfl] at this
              rw [this]
              congr 1
              rw [Bool.eq_iff_iff, decide_eq_true_iff, decide_eq_true_iff]
              unfold imgP
              exact ⟨fun h => ⟨hd, hw, hh, hl, .inr ⟨ha, hcol.2, h⟩⟩, fun h => h.2.2.2.2.elim (fun h => absurd h.1 ha) (fun h => h.2.2)⟩
          · rw [decide_eq_false hcol, Bool.not_false, hfalse 0 _ (by omega)]
            congr 1
            symm
            rw [decide_eq_false_iff_not]
            rintro ⟨-, -, -, -, ⟨ha, h5, h6, h7⟩ | ⟨ha, h5, h6⟩⟩
            · exact hcol ⟨h6, by rw [if_pos ha]; exact h5⟩
            · exact hcol ⟨by rw [h5]; exact inAll_nil _, by rw [if_neg ha]; exact h5⟩
        · rw [if_neg hl, hfalse 0 _ (by omega)]
          congr 1; symm; rw [decide_eq_false_iff_not]; exact fun h => hl h.2.2.2.1
      · rw [if_neg (by simpa using hh), hfalse 0 _ (by omega)]
        congr 1; symm; rw [decide_eq_false_iff_not]; exact fun h => hh h.2.2.1
    · rw [if_neg (by simpa using hw), hfalse 0 _ (by omega)]
      congr 1; symm; rw [decide_eq_false_iff_not]; exact fun h => hw h.2.1
  · refine ⟨2, fun k hk => ?_⟩
    try dsimp only
    obtain ⟨m, rfl⟩ : ∃ m, k = m + 1 := ⟨k - 1, by omega⟩
    try dsimp only
    unfold spec_ImageOk.f imgM
    rw [l8Depth_f, Option.bind_some, if_neg (by simpa using hd), hfalse 0 _ (by omega)]
    congr 1; symm; rw [decide_eq_false_iff_not]; exact fun h => hd h.1
theorem smallDepth_f (b : Int) : impl_smallDepth.f b = some (decide (b = 1 ∨ b = 2 ∨ b = 4 ∨ b = 8)) := by
  unfold impl_smallDepth.f
  by_cases h1 : b = 1
  · rw [if_pos h1]; simp [h1]
  · rw [if_neg h1]
    by_cases h2 : b = 2
    · rw [if_pos h2]; simp [h2]
    · rw [if_neg h2]
      by_cases h4 : b = 4
      · rw [if_pos h4]; simp [h4]
      · rw [if_neg h4]; congr 1; rw [Bool.eq_iff_iff]; simp [h1, h2, h4]
theorem depthOk_f (k : Nat) (a b : Int) : impl_depthOk.f (k + 1) a b = some (decide (depP a b)) := by
  have hj : ∀ t : Bool, impl_depthOk.j0 (k + 1) b a t = if t = true then some (decide (b = 1 ∨ b = 2 ∨ b = 4 ∨ b = 8)) else some (decide ((a = 2 ∧ b = 24) ∨ (a = 3 ∧ b = 32))) := by
    intro t
    rw [impl_depthOk.j0]
    by_cases h : t = true
    · rw [if_pos h, if_pos h, smallDepth_f, Option.bind_some]
    · rw [if_neg h, if_neg h]
      by_cases h1 : a = 2
      · rw [if_pos h1]; congr 1; rw [Bool.eq_iff_iff]; simp [h1]
      · rw [if_neg h1]
        by_cases h2 : a = 3
        · rw [if_pos h2]; congr 1; rw [Bool.eq_iff_iff]; simp [h2]
        · rw [if_neg h2]; congr 1; simp [h1, h2]
  unfold impl_depthOk.f
  rw [hj, hj]
  unfold depP
  by_cases h : a = 1
  · rw [if_pos h, if_pos (by simp [h])]; congr 1; simp [h]
  · rw [if_neg h]
    by_cases h4 : a = 4
    · rw [if_pos (by simp [h4])]; congr 1; simp [h4]
    · rw [if_neg (by simp [h4])]; congr 1; simp [h, h4]
theorem outside_f (l : List Int) (m : Int) : impl_outside.f l m = some (!(decide (inAll l m))) := by unfold impl_outside.f; rw [any_inAll]
theorem impl_ImageOk_f (k : Nat) (a b wd h : Int) (c p : List Int) (hc : c.length ≤ 1048576) (hp : p.length ≤ 1048576) : impl_ImageOk.f (k + 1) a b wd h c p = some (imgM a b wd h c p) := by
  have hfalse : impl_ImageOk.j0 (k + 1) true a b wd h c p = some false := by rw [impl_ImageOk.j0, if_pos rfl]
  unfold impl_ImageOk.f imgM
  rw [depthOk_f, Option.bind_some]
  by_cases hd : depP a b
  · have hb := depP_b hd
    have hpb := P2_62b (n := b.toNat) (by omega)
    rw [if_pos (decide_eq_true hd), in_f, Option.bind_some, in_f, Option.bind_some]
    by_cases hw : 1 ≤ wd ∧ wd ≤ 20
    · rw [if_pos (decide_eq_true hw)]
      by_cases hh : 1 ≤ h ∧ h ≤ 20
      · have hm := mul20 hw hh
        rw [if_pos (decide_eq_true hh), w64 (by omega)]
        by_cases hl : (p.length : Int) = wd * h
        · rw [show ((p.length : Int) != wd * h) = false by simp [hl], impl_ImageOk.j0, if_neg (by decide), shl1_P2 (by omega) (by omega)]
          by_cases ha : a = 4
          · rw [if_pos ha, if_pos (show 0 ≤ b by omega), in_f, Option.bind_some, outside_f, Option.bind_some, outside_f, Option.bind_some, w64 (x := (c.length : Int) - 1) (by omega), Bool.not_not]
            by_cases h5 : 1 ≤ (c.length : Int) ∧ (c.length : Int) ≤ P2 b.toNat
            · rw [if_pos (decide_eq_true h5)]
              by_cases h6 : inAll c 16777215
              · rw [if_neg (by simpa using h6)]
                congr 1
                rw [Bool.eq_iff_iff, decide_eq_true_iff, decide_eq_true_iff]
                exact ⟨fun h => ⟨hd, hw, hh, hl, .inl ⟨ha, h5, h6, h⟩⟩, fun h => h.2.2.2.2.elim (fun h => h.2.2.2) (fun h => absurd ha h.1)⟩
              · rw [if_pos (by simpa using h6)]
                congr 1; symm; rw [decide_eq_false_iff_not]
                exact fun h => h.2.2.2.2.elim (fun h => h6 h.2.2.1) (fun h => h.1 ha)
            · rw [if_neg (by simpa using h5)]
              congr 1; symm; rw [decide_eq_false_iff_not]
              exact fun h => h.2.2.2.2.elim (fun h => h5 h.2.1) (fun h => h.1 ha)
          · rw [if_neg ha, if_pos (show 0 ≤ b by omega), w64 (x := P2 b.toNat - 1) (by omega), outside_f, Option.bind_some, Bool.not_not]
            by_cases h5 : (c.length : Int) = 0
            · have h6 : c = [] := List.eq_nil_of_length_eq_zero (by omega)
              rw [if_pos h5]
              congr 1
              rw [Bool.eq_iff_iff, decide_eq_true_iff, decide_eq_true_iff]
              exact ⟨fun h => ⟨hd, hw, hh, hl, .inr ⟨ha, h6, h⟩⟩, fun h => h.2.2.2.2.elim (fun h => absurd h.1 ha) (fun h => h.2.2)⟩
            · rw [if_neg h5]
              congr 1; symm; rw [decide_eq_false_iff_not]
              exact fun h => h.2.2.2.2.elim (fun h => ha h.1) (fun h => h5 (by rw [h.2.1]; rfl))
        · rw [show ((p.length : Int) != wd * h) = true by simp [hl], hfalse]
          congr 1; symm; rw [decide_eq_false_iff_not]; exact fun h => hl h.2.2.2.1
      · rw [if_neg (by simpa using hh), hfalse]
        congr 1; symm; rw [decide_eq_false_iff_not]; exact fun h => hh h.2.2.1
    · rw [if_neg (by simpa using hw), hfalse]
      congr 1; symm; rw [decide_eq_false_iff_not]; exact fun h => hw h.2.1
  · rw [if_neg (by simpa using hd), hfalse]
    congr 1; symm; rw [decide_eq_false_iff_not]; exact fun h => hd h.1
theorem implColor_f {a b wd h : Int} {c p : List Int} {x : Int} (hd : depP a b) (hx : ptP a b c x) : impl_Image_color.f a b wd h c p x = some (colM a b c x) := by
  have hp := depP_pow hd
  have hb := depP_b hd
  unfold impl_Image_color.f colM
  by_cases h1 : a = 1
  · rcases hx with hx | hx
    · omega
    · have hg := gray_b (x := x) (m := P2 b.toNat - 1) (by omega) (by omega)
      rw [if_pos h1, if_pos h1, if_pos (by omega), shl1_P2 (by omega) (by omega), w64 (x := P2 b.toNat - 1) (by omega), if_neg (by omega), w64 (x := x * 255) (by omega), tdiv_pos (by omega), w64 (x := x * 255 / (P2 b.toNat - 1)) (by omega)]
      generalize x * 255 / (P2 b.toNat - 1) = g at hg ⊢
      rw [w64 (x := g * 65793) (by omega), w64 (x := g * 65793 * 256) (by omega), w64 (by omega)]
      congr 1; omega
  · rw [if_neg h1, if_neg h1]
    by_cases h2 : a = 2
    · rcases hx with hx | hx
      · omega
      · rw [if_pos h2, if_pos h2, w64 (x := 256 * x) (by omega), w64 (by omega)]
    · rw [if_neg h2, if_neg h2]
      by_cases h4 : a = 4
      · rcases hx with hx | hx
        · rw [if_neg (by omega), if_pos h4, if_pos hx.2.1, if_pos hx.2.2.1, w64 (x := 256 * rd c x) (by omega), w64 (by omega)]
        · omega
      · rw [if_pos (by omega), if_neg h4]
theorem specColor_ev {a b wd h : Int} {c p : List Int} {x : Int} (hd : depP a b) (hx : ptP a b c x) : Ev (fun k => spec_l8Color.f k a b wd h c p x) (colM a b c x) := by
  have hp := depP_pow hd
  have hb := depP_b hd
  obtain ⟨K, hK⟩ := l1Pow_evI b (by omega) (by omega)
  try dsimp only at hK
  try dsimp only at hK
  refine ⟨K, fun k hk => ?_⟩
  try dsimp only
  try dsimp only
  unfold spec_l8Color.f colM
  by_cases h1 : a = 1
  · rcases hx with hx | hx
    · omega
    · have hg := gray_b (x := x) (m := P2 b.toNat - 1) (by omega) (by omega)
      rw [if_pos h1, if_pos h1, hK k hk, Option.bind_some, w64 (x := P2 b.toNat - 1) (by omega), if_neg (by omega), w64 (x := x * 255) (by omega), tdiv_pos (by omega), w64 (x := x * 255 / (P2 b.toNat - 1)) (by omega)]
      generalize x * 255 / (P2 b.toNat - 1) = g at hg ⊢
      rw [w64 (x := g * 16777216) (by omega), w64 (x := g * 65536) (by omega), w64 (x := g * 256) (by omega), w64 (x := g * 16777216 + g * 65536) (by omega), w64 (x := g * 16777216 + g * 65536 + g * 256) (by omega), w64 (by omega)]
      congr 1; omega
  · rw [if_neg h1, if_neg h1]
    by_cases h2 : a = 2
    · rcases hx with hx | hx
      · omega
      · rw [if_pos h2, if_pos h2, w64 (x := x * 256) (by omega), w64 (by omega)]; congr 1; omega
    · rw [if_neg h2, if_neg h2]
      by_cases h4 : a = 4
      · rcases hx with hx | hx
        · rw [if_pos h4, if_pos h4, if_pos hx.2.1, if_pos hx.2.2.1, w64 (x := rd c x * 256) (by omega), w64 (by omega)]; congr 1; omega
        · omega
      · rw [if_neg h4, if_neg h4]
theorem denseP_cons (k d : Int) (c : List Int) (x : Int) (l : List Int) : denseP k d c (x :: l) ↔ colM k d c x % 256 = 255 ∧ denseP k d c l := by simp [denseP]
theorem specRgb_l0_ev {a b wd h : Int} {c p : List Int} (hd : depP a b) (hp : ∀ x ∈ p, ptP a b c x) (hn : p.length ≤ 400) : ∀ (suf pre : List Int), p = pre ++ suf → Ev (fun k => spec_ImageRgb.l0 k (pre.length : Int) a b wd h c p 2 24 wd h (rgbL a b c pre)) (if denseP a b c suf then (2, 24, wd, h, [], rgbL a b c p, true) else (0, 0, 0, 0, [], [], false)) := by
  intro suf
  induction suf with
  | nil =>
    intro pre e
    refine ⟨1, fun k hk => ?_⟩
    try dsimp only
    obtain ⟨m, rfl⟩ : ∃ m, k = m + 1 := ⟨k - 1, by omega⟩
    try dsimp only
    rw [spec_ImageRgb.l0, if_neg (by rw [e]; simp), if_pos (by simp [denseP])]
    rw [e]; simp
  | cons x suf ih =>
    intro pre e
    have hll : p.length = pre.length + suf.length + 1 := by rw [e]; simp; omega
    have hx : rd p (pre.length : Int) = x := by rw [e]; exact rd_at _ _ _ rfl
    have hpx := hp x (by rw [e]; simp)
    have hcb := colM_b hd hpx
    obtain ⟨K1, h1⟩ := specColor_ev (wd := wd) (h := h) (p := p) hd hpx
    try dsimp only at h1
    try dsimp only at h1
    by_cases hc : colM a b c x % 256 = 255
    · obtain ⟨K, hK⟩ := ih (pre ++ [x]) (by simp [e])
      try dsimp only at hK
      try dsimp only at hK
      refine ⟨K + K1 + 1, fun k hk => ?_⟩
      try dsimp only
      obtain ⟨m, rfl⟩ : ∃ m, k = m + 1 := ⟨k - 1, by omega⟩
      have hm := hK m (by omega)
      rw [List.length_append, List.length_singleton, show ((pre.length + 1 : Nat) : Int) = (pre.length : Int) + 1 by omega] at hm
      try dsimp only
      rw [spec_ImageRgb.l0, if_pos (by omega), if_pos (by omega), hx, h1 m (by omega), Option.bind_some, tmod_pos hcb.1, if_pos hc, if_pos (by simp [rgbL]; omega), w64 (x := (pre.length : Int) + 1) (by omega), tdiv_pos hcb.1, w64 (by omega)]
      rw [show rgbL a b c (pre ++ [x]) = rgbL a b c pre ++ [colM a b c x / 256] by simp [rgbL]] at hm
      rw [hm]
      congr 1
      by_cases c9 : denseP a b c suf
      · rw [if_pos c9, if_pos ((denseP_cons a b c x suf).2 ⟨hc, c9⟩)]
      · rw [if_neg c9, if_neg (fun h9 => c9 ((denseP_cons a b c x suf).1 h9).2)]
    · refine ⟨K1 + 1, fun k hk => ?_⟩
      try dsimp only
      obtain ⟨m, rfl⟩ : ∃ m, k = m + 1 := ⟨k - 1, by omega⟩
      try dsimp only
      rw [spec_ImageRgb.l0, if_pos (by omega), if_pos (by omega), hx, h1 m (by omega), Option.bind_some, tmod_pos hcb.1, if_neg hc, if_neg (fun h9 => hc ((denseP_cons a b c x suf).1 h9).1)]
theorem implRgb_l0_ev {a b wd h : Int} {c p : List Int} (hd : depP a b) (hp : ∀ x ∈ p, ptP a b c x) (hn : p.length ≤ 400) : ∀ (suf pre : List Int), p = pre ++ suf → Ev (fun k => impl_ImageRgb.l0 k p (p.length : Int) (pre.length : Int) a b wd h c p 2 24 wd h (rgbL a b c pre)) (if denseP a b c suf then (2, 24, wd, h, [], rgbL a b c p, true) else (0, 0, 0, 0, [], [], false)) := by
  intro suf
  induction suf with
  | nil =>
    intro pre e
    refine ⟨1, fun k hk => ?_⟩
    try dsimp only
    obtain ⟨m, rfl⟩ : ∃ m, k = m + 1 := ⟨k - 1, by omega⟩
    try dsimp only
    rw [impl_ImageRgb.l0, if_neg (by rw [e]; simp), if_pos (by simp [denseP])]
    rw [e]; simp
  | cons x suf ih =>
    intro pre e
    have hll : p.length = pre.length + suf.length + 1 := by rw [e]; simp; omega
    have hx : rd p (pre.length : Int) = x := by rw [e]; exact rd_at _ _ _ rfl
    have hpx := hp x (by rw [e]; simp)
    have hcb := colM_b hd hpx
    have h1 := implColor_f (wd := wd) (h := h) (p := p) hd hpx
    by_cases hc : colM a b c x % 256 = 255
    · obtain ⟨K, hK⟩ := ih (pre ++ [x]) (by simp [e])
      try dsimp only at hK
      try dsimp only at hK
      refine ⟨K + 1, fun k hk => ?_⟩
      try dsimp only
      obtain ⟨m, rfl⟩ : ∃ m, k = m + 1 := ⟨k - 1, by omega⟩
      have hm := hK m (by omega)
      rw [List.length_append, List.length_singleton, show ((pre.length + 1 : Nat) : Int) = (pre.length : Int) + 1 by omega] at hm
      try dsimp only
      rw [impl_ImageRgb.l0, if_pos (by omega), if_pos (by omega), if_pos (by omega), hx, h1, Option.bind_some, tmod_pos hcb.1, if_pos hc, if_pos (by simp [rgbL]; omega), w64 (x := (pre.length : Int) + 1) (by omega), tdiv_pos hcb.1, w64 (by omega)]
      rw [show rgbL a b c (pre ++ [x]) = rgbL a b c pre ++ [colM a b c x / 256] by simp [rgbL]] at hm
      rw [hm]
      congr 1
      by_cases c9 : denseP a b c suf
      · rw [if_pos c9, if_pos ((denseP_cons a b c x suf).2 ⟨hc, c9⟩)]
      · rw [if_neg c9, if_neg (fun h9 => c9 ((denseP_cons a b c x suf).1 h9).2)]
    · refine ⟨1, fun k hk => ?_⟩
      try dsimp only
      obtain ⟨m, rfl⟩ : ∃ m, k = m + 1 := ⟨k - 1, by omega⟩
      try dsimp only
      rw [impl_ImageRgb.l0, if_pos (by omega), if_pos (by omega), if_pos (by omega), hx, h1, Option.bind_some, tmod_pos hcb.1, if_neg hc, if_neg (fun h9 => hc ((denseP_cons a b c x suf).1 h9).1)]
theorem imgP_len' {a b wd h : Int} {c p : List Int} (hi : imgP a b wd h c p) : (p.length : Int) = wd * h ∧ p.length ≤ 400 := by
  obtain ⟨-, hw, hh, hl, -⟩ := hi
  have := mul20 hw hh
  omega
theorem specRgb_ev (a b wd h : Int) (c p : List Int) (hc : c.length ≤ 1048576) (hp : p.length ≤ 1048576) : Ev (fun k => spec_ImageRgb.f k a b wd h c p) (rgbM a b wd h c p) := by
  obtain ⟨K1, h1⟩ := spec_ImageOk_ev a b wd h c p hc hp
  try dsimp only at h1
  try dsimp only at h1
  unfold rgbM
  by_cases hi : imgP a b wd h c p
  · obtain ⟨K2, h2⟩ := specRgb_l0_ev (wd := wd) (h := h) hi.1 (fun x hx => imgP_pt hi hx) (imgP_len' hi).2 p [] rfl
    try dsimp only at h2
    try dsimp only at h2
    refine ⟨K1 + K2, fun k hk => ?_⟩
    try dsimp only
    have h2' := h2 k (by omega)
    try dsimp only
    unfold spec_ImageRgb.f
    rw [h1 k (by omega), Option.bind_some]
    unfold imgM
    rw [if_pos (decide_eq_true hi)]
    refine h2'.trans ?_
    congr 1
    by_cases c9 : denseP a b c p
    · rw [if_pos c9, if_pos ⟨hi, c9⟩]
    · rw [if_neg c9, if_neg (fun e => c9 e.2)]
  · refine ⟨K1, fun k hk => ?_⟩
    try dsimp only
    try dsimp only
    unfold spec_ImageRgb.f
    rw [h1 k (by omega), Option.bind_some]
    unfold imgM
    rw [if_neg (by simpa using hi), if_neg (fun e => hi e.1)]
theorem implRgb_ev (a b wd h : Int) (c p : List Int) (hc : c.length ≤ 1048576) (hp : p.length ≤ 1048576) : Ev (fun k => impl_ImageRgb.f k a b wd h c p) (rgbM a b wd h c p) := by
  have h1 := fun k => impl_ImageOk_f k a b wd h c p hc hp
  unfold rgbM
  by_cases hi : imgP a b wd h c p
  · obtain ⟨K2, h2⟩ := implRgb_l0_ev (wd := wd) (h := h) hi.1 (fun x hx => imgP_pt hi hx) (imgP_len' hi).2 p [] rfl
    try dsimp only at h2
    try dsimp only at h2
    refine ⟨K2 + 1, fun k hk => ?_⟩
    try dsimp only
    obtain ⟨m, rfl⟩ : ∃ m, k = m + 1 := ⟨k - 1, by omega⟩
    have h2' := h2 (m + 1) (by omega)
    try dsimp only
    unfold impl_ImageRgb.f
    rw [h1, Option.bind_some]
    unfold imgM
    rw [if_pos (decide_eq_true hi)]
    refine h2'.trans ?_
    congr 1
    by_cases c9 : denseP a b c p
    · rw [if_pos c9, if_pos ⟨hi, c9⟩]
    · rw [if_neg c9, if_neg (fun e => c9 e.2)]
  · refine ⟨1, fun k hk => ?_⟩
    try dsimp only
    obtain ⟨m, rfl⟩ : ∃ m, k = m + 1 := ⟨k - 1, by omega⟩
    try dsimp only
    unfold impl_ImageRgb.f
    rw [h1, Option.bind_some]
    unfold imgM
    rw [if_neg (by simpa using hi), if_neg (fun e => hi e.1)]
theorem rgbM_small (a b wd h : Int) (c p : List Int) : (rgbM a b wd h c p).2.2.2.2.1.length ≤ 400 ∧ (rgbM a b wd h c p).2.2.2.2.2.1.length ≤ 400 := by
  unfold rgbM
  split
  · rename_i e
    have := (imgP_len' e.1).2
    simp [rgbL]; omega
  · simp
theorem l8Find_l0_ev (L : List Int) (x : Int) (hl : L.length ≤ 1000) : ∀ (suf pre : List Int), L = pre ++ suf → Ev (fun k => spec_l8Find.l0 k L x (pre.length : Int)) (findM suf x (pre.length : Int)) := by
  intro suf
  induction suf with
  | nil =>
    intro pre e
    refine ⟨1, fun k hk => ?_⟩
    try dsimp only
    obtain ⟨m, rfl⟩ : ∃ m, k = m + 1 := ⟨k - 1, by omega⟩
    try dsimp only
    rw [spec_l8Find.l0, if_neg (by rw [e]; simp)]; rfl
  | cons y suf ih =>
    intro pre e
    have hll : L.length = pre.length + suf.length + 1 := by rw [e]; simp; omega
    have hy : rd L (pre.length : Int) = y := by rw [e]; exact rd_at _ _ _ rfl
    obtain ⟨K, hK⟩ := ih (pre ++ [y]) (by simp [e])
    try dsimp only at hK
    try dsimp only at hK
    refine ⟨K + 1, fun k hk => ?_⟩
    try dsimp only
    obtain ⟨m, rfl⟩ : ∃ m, k = m + 1 := ⟨k - 1, by omega⟩
    have hm := hK m (by omega)
    rw [List.length_append, List.length_singleton, show ((pre.length + 1 : Nat) : Int) = (pre.length : Int) + 1 by omega] at hm
    try dsimp only
    rw [spec_l8Find.l0, if_pos (by omega), if_pos (by omega), hy]
    simp only [findM]
    by_cases c : y = x
    · rw [if_pos c, if_pos c]
    · rw [if_neg c, if_neg c, w64 (by omega)]; exact hm
theorem l8Find_ev (L : List Int) (x : Int) (hl : L.length ≤ 1000) : Ev (fun k => spec_l8Find.f k L x) (findM L x 0) := by
  obtain ⟨K, hK⟩ := l8Find_l0_ev L x hl L [] rfl
  try dsimp only at hK
  exact ⟨K, fun k hk => hK k hk⟩
theorem index_l0_ev (L : List Int) (x : Int) (hl : L.length ≤ 1000) : ∀ (suf pre : List Int), L = pre ++ suf → Ev (fun k => slices_Index_int_int.l0 k L x (L.length : Int) (pre.length : Int)) (findM suf x (pre.length : Int)) := by
  intro suf
  induction suf with
  | nil =>
    intro pre e
    refine ⟨1, fun k hk => ?_⟩
    try dsimp only
    obtain ⟨m, rfl⟩ : ∃ m, k = m + 1 := ⟨k - 1, by omega⟩
    try dsimp only
    rw [slices_Index_int_int.l0, if_neg (by rw [e]; simp)]; rfl
  | cons y suf ih =>
    intro pre e
    have hll : L.length = pre.length + suf.length + 1 := by rw [e]; simp; omega
    have hy : rd L (pre.length : Int) = y := by rw [e]; exact rd_at _ _ _ rfl
    obtain ⟨K, hK⟩ := ih (pre ++ [y]) (by simp [e])
    try dsimp only at hK
    try dsimp only at hK
    refine ⟨K + 1, fun k hk => ?_⟩
    try dsimp only
    obtain ⟨m, rfl⟩ : ∃ m, k = m + 1 := ⟨k - 1, by omega⟩
    have hm := hK m (by omega)
    rw [List.length_append, List.length_singleton, show ((pre.length + 1 : Nat) : Int) = (pre.length : Int) + 1 by omega] at hm
    try dsimp only
    rw [slices_Index_int_int.l0, if_pos (by omega), if_pos (by omega), if_pos (by omega), hy]
    simp only [findM]
    by_cases c : y = x
    · rw [if_pos c.symm, if_pos c]
    · rw [if_neg (fun e => c e.symm), if_neg c, w64 (by omega)]; exact hm
theorem index_ev (L : List Int) (x : Int) (hl : L.length ≤ 1000) : Ev (fun k => slices_Index_int_int.f k L x) (findM L x 0) := by
  obtain ⟨K, hK⟩ := index_l0_ev L x hl L [] rfl
  try dsimp only at hK
  exact ⟨K, fun k hk => hK k hk⟩
def palR (wd h : Int) (q : List Int × List Int) : Int × Int × Int × Int × List Int × List Int × Bool :=
  if q.1.length ≤ 256 then (4, depOf q.1.length, wd, h, q.1, q.2, true) else (0, 0, 0, 0, [], [], false)
theorem specPal_l1_ev (wd h : Int) (cs out : List Int) : Ev (fun k => spec_ImagePal.l1 k 4 1 wd h cs out) (palR wd h (cs, out)) ∨ 65536 < cs.length := by
  by_cases hl : 65536 < cs.length
  · exact .inr hl
  left
  obtain ⟨K1, h1⟩ := l1Pow_evI 1 (by omega) (by omega)
  try dsimp only at h1
  obtain ⟨K2, h2⟩ := l1Pow_evI 2 (by omega) (by omega)
  try dsimp only at h2
  obtain ⟨K4, h4⟩ := l1Pow_evI 4 (by omega) (by omega)
  try dsimp only at h4
  obtain ⟨K8, h8⟩ := l1Pow_evI 8 (by omega) (by omega)
  try dsimp only at h8
  obtain ⟨K16, h16⟩ := l1Pow_evI 16 (by omega) (by omega)
  try dsimp only at h16
  try dsimp only at h1 h2 h4 h8 h16
  rw [show P2 (1 : Int).toNat = 2 from rfl] at h1
  rw [show P2 (2 : Int).toNat = 4 from rfl] at h2
  rw [show P2 (4 : Int).toNat = 16 from rfl] at h4
  rw [show P2 (8 : Int).toNat = 256 from rfl] at h8
  rw [show P2 (16 : Int).toNat = 65536 from rfl] at h16
  refine ⟨K1 + K2 + K4 + K8 + K16 + 5, fun k hk => ?_⟩
  try dsimp only
  obtain ⟨m, rfl⟩ : ∃ m, k = m + 5 := ⟨k - 5, by omega⟩
  try dsimp only
  unfold palR depOf
  try dsimp only
  rw [spec_ImagePal.l1, h1 _ (by omega), Option.bind_some]
  by_cases c1 : 2 < (cs.length : Int)
  · rw [if_pos c1, show wrap64 ((1 : Int) * 2) = 2 from by rw [w64 (by omega)]; rfl, spec_ImagePal.l1, h2 _ (by omega), Option.bind_some]
    by_cases c2 : 4 < (cs.length : Int)
    · rw [if_pos c2, show wrap64 ((2 : Int) * 2) = 4 from by rw [w64 (by omega)]; rfl, spec_ImagePal.l1, h4 _ (by omega), Option.bind_some]
      by_cases c4 : 16 < (cs.length : Int)
      · rw [if_pos c4, show wrap64 ((4 : Int) * 2) = 8 from by rw [w64 (by omega)]; rfl, spec_ImagePal.l1, h8 _ (by omega), Option.bind_some]
        by_cases c8 : 256 < (cs.length : Int)
        · rw [if_pos c8, show wrap64 ((8 : Int) * 2) = 16 from by rw [w64 (by omega)]; rfl, spec_ImagePal.l1, h16 _ (by omega), Option.bind_some, if_neg (by omega), if_pos (by omega), if_neg (by omega)]
        · rw [if_neg c8, if_neg (by omega), if_pos (by omega), if_neg (by omega), if_neg (by omega), if_neg (by omega)]
      · rw [if_neg c4, if_neg (by omega), if_pos (by omega), if_neg (by omega), if_neg (by omega), if_pos (by omega)]
    · rw [if_neg c2, if_neg (by omega), if_pos (by omega), if_neg (by omega), if_pos (by omega)]
  · rw [if_neg c1, if_neg (by omega), if_pos (by omega), if_pos (by omega)]
theorem implPal_l1_ev (wd h : Int) (cs out : List Int) : Ev (fun k => impl_ImagePal.l1 k 4 1 wd h cs out) (palR wd h (cs, out)) := by
  refine ⟨5, fun k hk => ?_⟩
  try dsimp only
  obtain ⟨m, rfl⟩ : ∃ m, k = m + 5 := ⟨k - 5, by omega⟩
  have h1 : shl .i64 1 1 = 2 := by rw [shl1_P2 (by omega) (by omega)]; rfl
  have h2 : shl .i64 1 2 = 4 := by rw [shl1_P2 (by omega) (by omega)]; rfl
  have h4 : shl .i64 1 4 = 16 := by rw [shl1_P2 (by omega) (by omega)]; rfl
  have h8 : shl .i64 1 8 = 256 := by rw [shl1_P2 (by omega) (by omega)]; rfl
  try dsimp only
  unfold palR depOf
  try dsimp only
  rw [impl_ImagePal.l1, if_pos (by omega), if_pos (by omega), h1]
  by_cases c1 : (cs.length : Int) > 2
  · rw [if_pos c1, show wrap64 ((1 : Int) * 2) = 2 from by rw [w64 (by omega)]; rfl, impl_ImagePal.l1, if_pos (by omega), if_pos (by omega), h2]
    by_cases c2 : (cs.length : Int) > 4
    · rw [if_pos c2, show wrap64 ((2 : Int) * 2) = 4 from by rw [w64 (by omega)]; rfl, impl_ImagePal.l1, if_pos (by omega), if_pos (by omega), h4]
      by_cases c4 : (cs.length : Int) > 16
      · rw [if_pos c4, show wrap64 ((4 : Int) * 2) = 8 from by rw [w64 (by omega)]; rfl, impl_ImagePal.l1, if_neg (by omega), if_pos (by omega), h8]
        by_cases c8 : (cs.length : Int) > 256
        · rw [if_pos c8, if_neg (by omega)]
        · rw [if_neg c8, if_pos (by omega), if_neg (by omega), if_neg (by omega), if_neg (by omega)]
      · rw [if_neg c4, if_pos (by omega), if_neg (by omega), if_neg (by omega), if_pos (by omega)]
    · rw [if_neg c2, if_pos (by omega), if_neg (by omega), if_pos (by omega)]
  · rw [if_neg c1, if_pos (by omega), if_pos (by omega)]
theorem specPal_l0_ev (q0 q1 q2 q3 : Int) (q4 : List Int) (wd h : Int) (p : List Int) (hn : p.length ≤ 400) : ∀ (suf pre cs out : List Int), p = pre ++ suf → cs.length ≤ pre.length → out.length = pre.length → Ev (fun k => spec_ImagePal.l0 k (pre.length : Int) q0 q1 q2 q3 q4 p 4 1 wd h cs out) (palR wd h (palL suf cs out)) := by
  intro suf
  induction suf with
  | nil =>
    intro pre cs out e hc ho
    have hpl : pre.length ≤ 400 := by rw [e] at hn; simp at hn; omega
    rcases specPal_l1_ev wd h cs out with ⟨K, hK⟩ | hK
    · refine ⟨K + 1, fun k hk => ?_⟩
      try dsimp only
      obtain ⟨m, rfl⟩ : ∃ m, k = m + 1 := ⟨k - 1, by omega⟩
      try dsimp only
      rw [spec_ImagePal.l0, if_neg (by rw [e]; simp)]
      exact hK m (by omega)
    · omega
  | cons x suf ih =>
    intro pre cs out e hc ho
    have hll : p.length = pre.length + suf.length + 1 := by rw [e]; simp; omega
    have hx : rd p (pre.length : Int) = x := by rw [e]; exact rd_at _ _ _ rfl
    obtain ⟨K1, h1⟩ := l8Find_ev cs x (by omega)
    try dsimp only at h1
    try dsimp only at h1
    simp only [palL]
    by_cases c : findM cs x 0 < 0
    · rw [if_pos c]
      obtain ⟨K, hK⟩ := ih (pre ++ [x]) (cs ++ [x]) (out ++ [(cs.length : Int)]) (by simp [e]) (by simp; omega) (by simp [ho])
      try dsimp only at hK
      try dsimp only at hK
      refine ⟨K + K1 + 1, fun k hk => ?_⟩
      try dsimp only
      obtain ⟨m, rfl⟩ : ∃ m, k = m + 1 := ⟨k - 1, by omega⟩
      have hm := hK m (by omega)
      rw [List.length_append, List.length_singleton, show ((pre.length + 1 : Nat) : Int) = (pre.length : Int) + 1 by omega] at hm
      try dsimp only
      rw [spec_ImagePal.l0, if_pos (by omega), if_pos (by omega), hx, h1 m (by omega), Option.bind_some, if_pos c, if_pos (by omega), if_pos (by omega), w64 (by omega)]
      exact hm
    · rw [if_neg c]
      obtain ⟨K, hK⟩ := ih (pre ++ [x]) cs (out ++ [findM cs x 0]) (by simp [e]) (by simp; omega) (by simp [ho])
      try dsimp only at hK
      try dsimp only at hK
      refine ⟨K + K1 + 1, fun k hk => ?_⟩
      try dsimp only
      obtain ⟨m, rfl⟩ : ∃ m, k = m + 1 := ⟨k - 1, by omega⟩
      have hm := hK m (by omega)
      rw [List.length_append, List.length_singleton, show ((pre.length + 1 : Nat) : Int) = (pre.length : Int) + 1 by omega] at hm
      try dsimp only
      rw [spec_ImagePal.l0, if_pos (by omega), if_pos (by omega), hx, h1 m (by omega), Option.bind_some, if_neg c, if_pos (by omega), w64 (by omega)]
      exact hm
theorem implPal_l0_ev (wd h : Int) (p : List Int) (hn : p.length ≤ 400) : ∀ (suf pre cs out : List Int), p = pre ++ suf → cs.length ≤ pre.length → out.length = pre.length → Ev (fun k => impl_ImagePal.l0 k p (p.length : Int) (pre.length : Int) 4 0 wd h cs out) (palR wd h (palL suf cs out)) := by
  intro suf
  induction suf with
  | nil =>
    intro pre cs out e hc ho
    obtain ⟨K, hK⟩ := implPal_l1_ev wd h cs out
    try dsimp only at hK
    refine ⟨K + 1, fun k hk => ?_⟩
    try dsimp only
    obtain ⟨m, rfl⟩ : ∃ m, k = m + 1 := ⟨k - 1, by omega⟩
    try dsimp only
    rw [impl_ImagePal.l0, if_neg (by rw [e]; simp)]
    exact hK m (by omega)
  | cons x suf ih =>
    intro pre cs out e hc ho
    have hll : p.length = pre.length + suf.length + 1 := by rw [e]; simp; omega
    have hx : rd p (pre.length : Int) = x := by rw [e]; exact rd_at _ _ _ rfl
    obtain ⟨K1, h1⟩ := index_ev cs x (by omega)
    try dsimp only at h1
    try dsimp only at h1
    simp only [palL]
    by_cases c : findM cs x 0 < 0
    · rw [if_pos c]
      obtain ⟨K, hK⟩ := ih (pre ++ [x]) (cs ++ [x]) (out ++ [(cs.length : Int)]) (by simp [e]) (by simp; omega) (by simp [ho])
      try dsimp only at hK
      try dsimp only at hK
      refine ⟨K + K1 + 1, fun k hk => ?_⟩
      try dsimp only
      obtain ⟨m, rfl⟩ : ∃ m, k = m + 1 := ⟨k - 1, by omega⟩
      have hm := hK m (by omega)
      rw [List.length_append, List.length_singleton, show ((pre.length + 1 : Nat) : Int) = (pre.length : Int) + 1 by omega] at hm
      try dsimp only
      rw [impl_ImagePal.l0, if_pos (by omega), if_pos (by omega), if_pos (by omega), hx, h1 m (by omega), Option.bind_some, if_pos c, if_pos (by omega), if_pos (by omega), w64 (by omega)]
      exact hm
    · rw [if_neg c]
      obtain ⟨K, hK⟩ := ih (pre ++ [x]) cs (out ++ [findM cs x 0]) (by simp [e]) (by simp; omega) (by simp [ho])
      try dsimp only at hK
      try dsimp only at hK
      refine ⟨K + K1 + 1, fun k hk => ?_⟩
      try dsimp only
      obtain ⟨m, rfl⟩ : ∃ m, k = m + 1 := ⟨k - 1, by omega⟩
      have hm := hK m (by omega)
      rw [List.length_append, List.length_singleton, show ((pre.length + 1 : Nat) : Int) = (pre.length : Int) + 1 by omega] at hm
      try dsimp only
      rw [impl_ImagePal.l0, if_pos (by omega), if_pos (by omega), if_pos (by omega), hx, h1 m (by omega), Option.bind_some, if_neg c, if_pos (by omega), w64 (by omega)]
      exact hm
theorem palM_of (a b wd h : Int) (c p : List Int) : palM a b wd h c p = if imgP a b wd h c p ∧ denseP a b c p then palR wd h (palL (rgbL a b c p) [] []) else (0, 0, 0, 0, [], [], false) := by
  unfold palM palR
  by_cases c9 : imgP a b wd h c p ∧ denseP a b c p
  · rw [if_pos c9]
    by_cases c8 : (palL (rgbL a b c p) [] []).1.length ≤ 256
    · rw [if_pos c8, if_pos ⟨c9.1, c9.2, c8⟩]
    · rw [if_neg c8, if_neg (fun e => c8 e.2.2)]
  · rw [if_neg c9, if_neg (fun e => c9 ⟨e.1, e.2.1⟩)]
theorem specPal_ev (a b wd h : Int) (c p : List Int) (hc : c.length ≤ 1048576) (hp : p.length ≤ 1048576) : Ev (fun k => spec_ImagePal.f k a b wd h c p) (palM a b wd h c p) := by
  obtain ⟨K1, h1⟩ := specRgb_ev a b wd h c p hc hp
  try dsimp only at h1
  try dsimp only at h1
  rw [palM_of]
  by_cases c9 : imgP a b wd h c p ∧ denseP a b c p
  · have hrl : (rgbL a b c p).length ≤ 400 := by have := (imgP_len' c9.1).2; simp [rgbL]; omega
    obtain ⟨K2, h2⟩ := specPal_l0_ev 2 24 wd h [] wd h (rgbL a b c p) hrl (rgbL a b c p) [] [] [] rfl (by simp) (by simp)
    try dsimp only at h2
    try dsimp only at h2
    have e1 : rgbM a b wd h c p = (2, 24, wd, h, [], rgbL a b c p, true) := by unfold rgbM; exact if_pos c9
    refine ⟨K1 + K2, fun k hk => ?_⟩
    try dsimp only
    try dsimp only
    unfold spec_ImagePal.f
    rw [h1 k (by omega), Option.bind_some, e1]
    try dsimp only
    rw [if_pos rfl, if_pos c9]
    exact h2 k (by omega)
  · have e1 : rgbM a b wd h c p = (0, 0, 0, 0, [], [], false) := by unfold rgbM; exact if_neg c9
    refine ⟨K1, fun k hk => ?_⟩
    try dsimp only
    try dsimp only
    unfold spec_ImagePal.f
    rw [h1 k (by omega), Option.bind_some, e1]
    try dsimp only
    rw [if_neg (by decide), if_neg c9]
theorem implPal_ev (a b wd h : Int) (c p : List Int) (hc : c.length ≤ 1048576) (hp : p.length ≤ 1048576) : Ev (fun k => impl_ImagePal.f k a b wd h c p) (palM a b wd h c p) := by
  obtain ⟨K1, h1⟩ := implRgb_ev a b wd h c p hc hp
  try dsimp only at h1
  try dsimp only at h1
  rw [palM_of]
  by_cases c9 : imgP a b wd h c p ∧ denseP a b c p
  · have hrl : (rgbL a b c p).length ≤ 400 := by have := (imgP_len' c9.1).2; simp [rgbL]; omega
    obtain ⟨K2, h2⟩ := implPal_l0_ev wd h (rgbL a b c p) hrl (rgbL a b c p) [] [] [] rfl (by simp) (by simp)
    try dsimp only at h2
    try dsimp only at h2
    have e1 : rgbM a b wd h c p = (2, 24, wd, h, [], rgbL a b c p, true) := by unfold rgbM; exact if_pos c9
    refine ⟨K1 + K2, fun k hk => ?_⟩
    try dsimp only
    try dsimp only
    unfold impl_ImagePal.f
    rw [h1 k (by omega), Option.bind_some, e1]
    try dsimp only
    rw [if_pos rfl, if_pos c9]
    exact h2 k (by omega)
  · have e1 : rgbM a b wd h c p = (0, 0, 0, 0, [], [], false) := by unfold rgbM; exact if_neg c9
    refine ⟨K1, fun k hk => ?_⟩
    try dsimp only
    try dsimp only
    unfold impl_ImagePal.f
    rw [h1 k (by omega), Option.bind_some, e1]
    try dsimp only
    rw [if_neg (by decide), if_neg c9]
theorem palM_small (a b wd h : Int) (c p : List Int) : (palM a b wd h c p).2.2.2.2.1.length ≤ 400 ∧ (palM a b wd h c p).2.2.2.2.2.1.length ≤ 400 := by
  unfold palM
  split
  · rename_i e
    have := (imgP_len' e.1).2
    have := palL_length (rgbL a b c p) [] []
    have h2 : (rgbL a b c p).length = p.length := by simp [rgbL]
    simp at this ⊢; omega
  · simp
theorem toIntS_l0_ev (l : List Int) (hl : l.length ≤ 35184372088832) : ∀ (suf pre : List Int), l = pre ++ suf → Ev (fun k => laws_toIntS.l0 k l (pre ++ List.replicate suf.length 0) (pre.length : Int)) l := by
  intro suf
  induction suf with
  | nil =>
    intro pre hp
    refine ⟨1, fun k hk => ?_⟩
    try dsimp only
    obtain ⟨m, rfl⟩ : ∃ m, k = m + 1 := ⟨k - 1, by omega⟩
    subst hp
    rw [laws_toIntS.l0, if_neg (by simp)]
    simp
  | cons x suf ih =>
    intro pre hp
    obtain ⟨K, hK⟩ := ih (pre ++ [x]) (by simp [hp])
    try dsimp only at hK
    refine ⟨K + 1, fun k hk => ?_⟩
    try dsimp only
    obtain ⟨m, rfl⟩ : ∃ m, k = m + 1 := ⟨k - 1, by omega⟩
    have hm := hK m (by omega)
    have hll : l.length = pre.length + suf.length + 1 := by rw [hp]; simp; omega
    have hx : rd l (pre.length : Int) = x := by rw [hp]; exact rd_at _ _ _ rfl
    rw [laws_toIntS.l0, if_pos (by omega), if_pos (by omega), if_pos (by simp; omega), hx, w64 (by omega), List.length_cons, List.replicate_succ, set_at _ _ _ _ (by omega)]
    simp only [List.append_assoc, List.singleton_append, List.length_append, List.length_singleton] at hm
    rw [show ((pre.length + 1 : Nat) : Int) = (pre.length : Int) + 1 by omega] at hm
    exact hm
theorem toIntS_ev (l : List Int) (hl : l.length ≤ 35184372088832) : Ev (fun k => laws_toIntS.f k l) l := by
  obtain ⟨K, hK⟩ := toIntS_l0_ev l hl l [] rfl
  try dsimp only at hK
  refine ⟨K, fun k hk => ?_⟩
  try dsimp only
  have hm := hK k hk
  unfold laws_toIntS.f
  rw [if_pos (by omega), if_pos (by omega), Int.toNat_natCast]
  exact hm
theorem eqIntS_l0_ev (a b : List Int) (hl : a.length ≤ 35184372088832) (hab : a.length = b.length) : ∀ (sa sb pa pb : List Int), a = pa ++ sa → b = pb ++ sb → pa.length = pb.length → Ev (fun k => laws_eqIntS.l0 k a b (pa.length : Int)) (decide (sa = sb)) := by
  intro sa
  induction sa with
  | nil =>
    intro sb pa pb ha hb hp
    have hsb : sb = [] := by
      cases sb with
      | nil => rfl
      | cons y sb => rw [ha, hb] at hab; simp at hab; omega
    subst hsb
    refine ⟨1, fun k hk => ?_⟩
    try dsimp only
    obtain ⟨m, rfl⟩ : ∃ m, k = m + 1 := ⟨k - 1, by omega⟩
    rw [laws_eqIntS.l0, if_neg (by rw [ha]; simp)]
    simp
  | cons x sa ih =>
    intro sb pa pb ha hb hp
    cases sb with
    | nil => rw [ha, hb] at hab; simp at hab; omega
    | cons y sb =>
      have hll : a.length = pa.length + sa.length + 1 := by rw [ha]; simp; omega
      have hx : rd a (pa.length : Int) = x := by rw [ha]; exact rd_at _ _ _ rfl
      have hy : rd b (pa.length : Int) = y := by rw [hb]; exact rd_at _ _ _ (by omega)
      by_cases hxy : x = y
      · obtain ⟨K, hK⟩ := ih sb (pa ++ [x]) (pb ++ [y]) (by simp [ha]) (by simp [hb]) (by simp [hp])
        try dsimp only at hK
        refine ⟨K + 1, fun k hk => ?_⟩
        try dsimp only
        obtain ⟨m, rfl⟩ : ∃ m, k = m + 1 := ⟨k - 1, by omega⟩
        have hm := hK m (by omega)
        rw [laws_eqIntS.l0, if_pos (by omega), if_pos (by omega), if_pos (by omega), hx, hy, if_pos hxy, w64 (by omega)]
        rw [List.length_append, List.length_singleton, show ((pa.length + 1 : Nat) : Int) = (pa.length : Int) + 1 by omega] at hm
        rw [hm]
        simp [hxy]
      · refine ⟨1, fun k hk => ?_⟩
        try dsimp only
        obtain ⟨m, rfl⟩ : ∃ m, k = m + 1 := ⟨k - 1, by omega⟩
        rw [laws_eqIntS.l0, if_pos (by omega), if_pos (by omega), if_pos (by omega), hx, hy, if_neg hxy]
        simp [hxy]
theorem eqIntS_ev (a b : List Int) (hl : a.length ≤ 35184372088832) (hl2 : b.length ≤ 35184372088832) : Ev (fun k => laws_eqIntS.f k a b) (decide (a = b)) := by
  unfold laws_eqIntS.f
  by_cases h : a.length = b.length
  · obtain ⟨K, hK⟩ := eqIntS_l0_ev a b hl h a b [] [] rfl rfl rfl
    try dsimp only at hK
    refine ⟨K, fun k hk => ?_⟩
    try dsimp only
    rw [if_pos (by omega)]
    exact hK k hk
  · refine ⟨0, fun k hk => ?_⟩
    try dsimp only
    rw [if_neg (by omega), decide_eq_false (fun e => h (by rw [e]))]
theorem szIntS_f (l : List Int) (a : Int) (h0 : 0 ≤ a) (h1 : a ≤ 1048576) (hl : l.length ≤ maxLen) : laws_szIntS.f l a = some (if (l.length : Int) ≤ a then a - l.length else -1) := by
  have hm : maxLen = 9223372036854775807 := rfl
  unfold laws_szIntS.f
  rw [w64 (x := a - (l.length : Int)) (by omega)]
  by_cases h : (l.length : Int) ≤ a
  · rw [if_neg (by omega), if_pos h]
  · rw [if_pos (by omega), if_neg h]
theorem szImage_f (a b c d : Int) (l p : List Int) (z : Int) (h0 : 0 ≤ z) (h1 : z ≤ 1048576) (hl : l.length ≤ maxLen) (hp : p.length ≤ maxLen) : laws_szImage.f a b c d l p z = some (if (l.length : Int) + p.length ≤ z then z - l.length - p.length else -1) := by
  unfold laws_szImage.f
  rw [szIntS_f l z h0 h1 hl, Option.bind_some]
  by_cases h : (l.length : Int) ≤ z
  · rw [if_pos h, if_neg (by omega), szIntS_f p _ (by omega) (by omega) hp, Option.bind_some]
    by_cases h2 : (p.length : Int) ≤ z - l.length
    · rw [if_pos h2, if_neg (by omega), if_pos (by omega)]
    · rw [if_neg h2, if_pos (by omega), if_neg (by omega)]
  · rw [if_neg h, if_pos (by omega), if_neg (by omega)]
theorem toImage_ev (a b c d : Int) (l p : List Int) (hl : l.length ≤ 1048576) (hp : p.length ≤ 1048576) : Ev (fun k => laws_toImage.f k a b c d l p) (a, b, c, d, l, p) := by
  obtain ⟨K1, h1⟩ := toIntS_ev l (by omega)
  try dsimp only at h1
  obtain ⟨K2, h2⟩ := toIntS_ev p (by omega)
  try dsimp only at h2
  try dsimp only at h1 h2
  refine ⟨K1 + K2, fun k hk => ?_⟩
  try dsimp only
  try dsimp only
  unfold laws_toImage.f
  rw [h1 k (by omega), Option.bind_some, h2 k (by omega), Option.bind_some]
theorem eqImage_ev (a b c d : Int) (l p : List Int) (hl : l.length ≤ 1048576) (hp : p.length ≤ 1048576) : Ev (fun k => laws_eqImage.f k a b c d l p a b c d l p) true := by
  obtain ⟨K1, h1⟩ := eqIntS_ev l l (by omega) (by omega)
  try dsimp only at h1
  obtain ⟨K2, h2⟩ := eqIntS_ev p p (by omega) (by omega)
  try dsimp only at h2
  try dsimp only at h1 h2
  refine ⟨K1 + K2, fun k hk => ?_⟩
  try dsimp only
  try dsimp only
  unfold laws_eqImage.f
  rw [if_pos rfl, if_pos rfl, if_pos rfl, if_pos rfl, h1 k (by omega), Option.bind_some, if_pos (decide_eq_true rfl), h2 k (by omega), Option.bind_some, if_pos (decide_eq_true rfl)]
theorem markIntS_l0_ev (m0 : Int) (hm0 : 0 ≤ m0 ∧ m0 ≤ 1099511627776) : ∀ (suf : List Int) (i : Nat), i + suf.length ≤ 1099511627776 → Ev (fun k => laws_markIntS.l0 k (marks m0 i ++ suf) (m0 + i) (i : Int)) (m0 + (i + suf.length : Nat), marks m0 (i + suf.length)) := by
  intro suf
  induction suf with
  | nil =>
    intro i hi
    refine ⟨1, fun k hk => ?_⟩
    try dsimp only
    obtain ⟨m, rfl⟩ : ∃ m, k = m + 1 := ⟨k - 1, by omega⟩
    rw [laws_markIntS.l0, if_neg (by simp [marks_length])]
    simp
  | cons x suf ih =>
    intro i hi
    simp only [List.length_cons] at hi
    obtain ⟨K, hK⟩ := ih (i + 1) (by omega)
    try dsimp only at hK
    refine ⟨K + 1, fun k hk => ?_⟩
    try dsimp only
    obtain ⟨m, rfl⟩ : ∃ m, k = m + 1 := ⟨k - 1, by omega⟩
    have hm := hK m (by omega)
    rw [laws_markIntS.l0, if_pos (by simp [marks_length]; omega), if_pos (by omega), Int.toNat_natCast, set_at _ _ _ _ (by rw [marks_length]), w64 (by omega), w64 (by omega)]
    simp only [marks, List.append_assoc, List.singleton_append] at hm
    rw [show m0 + ((i + 1 : Nat) : Int) = m0 + i + 1 by omega, show ((i + 1 : Nat) : Int) = (i : Int) + 1 by omega, show i + 1 + suf.length = i + (suf.length + 1) by omega] at hm
    exact hm
theorem markIntS_ev (l : List Int) (m0 : Int) (hm0 : 0 ≤ m0 ∧ m0 ≤ 1099511627776) (hl : l.length ≤ 1099511627776) : Ev (fun k => laws_markIntS.f k l m0) (m0 + (l.length : Int), marks m0 l.length) := by
  have h := markIntS_l0_ev m0 hm0 l 0 (by omega)
  simp only [marks, List.nil_append, Nat.zero_add] at h
  rw [show m0 + ((0 : Nat) : Int) = m0 by omega] at h
  exact h
theorem heldIntS_l0_ev (m0 : Int) (hm0 : 0 ≤ m0 ∧ m0 ≤ 1099511627776) (n : Nat) (hn : n ≤ 1099511627776) : ∀ d i : Nat, i + d = n → Ev (fun k => laws_heldIntS.l0 k (marks m0 n) (m0 + i) (i : Int)) (m0 + n) := by
  intro d
  induction d with
  | zero =>
    intro i hi
    refine ⟨1, fun k hk => ?_⟩
    try dsimp only
    obtain ⟨m, rfl⟩ : ∃ m, k = m + 1 := ⟨k - 1, by omega⟩
    rw [laws_heldIntS.l0, if_neg (by rw [marks_length]; omega), show i = n by omega]
  | succ d ih =>
    intro i hi
    obtain ⟨K, hK⟩ := ih (i + 1) (by omega)
    try dsimp only at hK
    refine ⟨K + 1, fun k hk => ?_⟩
    try dsimp only
    obtain ⟨m, rfl⟩ : ∃ m, k = m + 1 := ⟨k - 1, by omega⟩
    have hm := hK m (by omega)
    rw [laws_heldIntS.l0, if_pos (by rw [marks_length]; omega), if_pos (by omega), rd_marks _ _ _ (by omega), if_pos rfl, w64 (by omega), w64 (by omega)]
    rw [show m0 + ((i + 1 : Nat) : Int) = m0 + i + 1 by omega, show ((i + 1 : Nat) : Int) = (i : Int) + 1 by omega] at hm
    exact hm
theorem heldIntS_ev (m0 : Int) (hm0 : 0 ≤ m0 ∧ m0 ≤ 1099511627776) (n : Nat) (hn : n ≤ 1099511627776) : Ev (fun k => laws_heldIntS.f k (marks m0 n) m0) (m0 + n) := by
  have h := heldIntS_l0_ev m0 hm0 n hn n 0 (by omega)
  rw [show m0 + ((0 : Nat) : Int) = m0 by omega] at h
  exact h
theorem markImage_ev (a b c d : Int) (l p : List Int) (hl : l.length ≤ 1048576) (hp : p.length ≤ 1048576) : Ev (fun k => laws_markImage.f k a b c d l p 1) (1 + (l.length : Int) + (p.length : Int), marks 1 l.length, marks (1 + (l.length : Int)) p.length) := by
  obtain ⟨K1, h1⟩ := markIntS_ev l 1 (by omega) (by omega)
  try dsimp only at h1
  obtain ⟨K2, h2⟩ := markIntS_ev p (1 + (l.length : Int)) (by omega) (by omega)
  try dsimp only at h2
  try dsimp only at h1 h2
  refine ⟨K1 + K2, fun k hk => ?_⟩
  try dsimp only
  try dsimp only
  unfold laws_markImage.f
  rw [h1 k (by omega), Option.bind_some]
  try dsimp only
  rw [h2 k (by omega), Option.bind_some]
theorem heldImage_ev (a b c d : Int) (n m : Nat) (hn : n ≤ 1048576) (hm : m ≤ 1048576) : Ev (fun k => laws_heldImage.f k a b c d (marks 1 n) (marks (1 + (n : Int)) m) 1) (1 + (n : Int) + (m : Int)) := by
  obtain ⟨K1, h1⟩ := heldIntS_ev 1 (by omega) n (by omega)
  try dsimp only at h1
  obtain ⟨K2, h2⟩ := heldIntS_ev (1 + (n : Int)) (by omega) m (by omega)
  try dsimp only at h2
  try dsimp only at h1 h2
  refine ⟨K1 + K2, fun k hk => ?_⟩
  try dsimp only
  try dsimp only
  unfold laws_heldImage.f
  rw [h1 k (by omega), Option.bind_some, if_neg (by omega), h2 k (by omega), Option.bind_some, if_neg (by omega)]

theorem FnExactImagePal : laws_FnExactImagePal.Pure := by
  intro a b wd h c p ha hb hw hh hc hcw hp hpw
  unfold laws_FnExactImagePal.f
  by_cases hz : (c.length : Int) + p.length ≤ 1048576
  · obtain ⟨K1, h1⟩ := toImage_ev a b wd h c p (by omega) (by omega)
    try dsimp only at h1
    obtain ⟨K2, h2⟩ := specPal_ev a b wd h c p (by omega) (by omega)
    try dsimp only at h2
    obtain ⟨K3, h3⟩ := implPal_ev a b wd h c p (by omega) (by omega)
    try dsimp only at h3
    obtain ⟨K4, h4⟩ := eqImage_ev a b wd h c p (by omega) (by omega)
    try dsimp only at h4
    obtain ⟨K5, h5⟩ := markImage_ev a b wd h c p (by omega) (by omega)
    try dsimp only at h5
    have hs := palM_small a b wd h c p
    try dsimp only at h1 h2 h3 h4 h5
    generalize palM a b wd h c p = R at h2 h3 hs
    obtain ⟨r0, r1, r2, r3, r4, r5, r6⟩ := R
    try dsimp only at hs
    obtain ⟨K6, h6⟩ := eqImage_ev r0 r1 r2 r3 r4 r5 (by omega) (by omega)
    try dsimp only at h6
    obtain ⟨K7, h7⟩ := markImage_ev r0 r1 r2 r3 r4 r5 (by omega) (by omega)
    try dsimp only at h7
    obtain ⟨K8, h8⟩ := heldImage_ev r0 r1 r2 r3 r4.length r5.length (by omega) (by omega)
    try dsimp only at h8
    try dsimp only at h6 h7 h8
    obtain ⟨K, hK⟩ : ∃ K, K = K1 + K2 + K3 + K4 + K5 + K6 + K7 + K8 := ⟨_, rfl⟩
    refine ⟨K + 3, ?_⟩
    rw [szImage_f a b wd h c p _ (by omega) (by omega) hc hp, Option.bind_some, if_pos hz, if_neg (by omega), h1 _ (by omega), Option.bind_some]
    try dsimp only
    rw [h2 _ (by omega), Option.bind_some, Option.bind_some]
    try dsimp only
    rw [h3 _ (by omega), Option.bind_some]
    try dsimp only
    rw [h6 _ (by omega), Option.bind_some, if_pos rfl, bne_self_eq_false, laws_FnExactImagePal.j0, if_neg (by decide), h1 _ (by omega), Option.bind_some]
    try dsimp only
    rw [h4 _ (by omega), Option.bind_some, if_pos rfl, h5 _ (by omega), Option.bind_some]
    try dsimp only
    rw [if_neg (by omega), h6 _ (by omega), Option.bind_some, if_pos rfl, laws_FnExactImagePal.j1, bne_self_eq_false, if_neg (by decide), h7 _ (by omega), Option.bind_some]
    try dsimp only
    rw [h8 _ (by omega), Option.bind_some, if_neg (by omega), if_pos rfl, h1 _ (by omega), Option.bind_some]
    try dsimp only
    rw [h3 _ (by omega), Option.bind_some]
    try dsimp only
    rw [h6 _ (by omega), Option.bind_some, if_pos rfl, bne_self_eq_false, laws_FnExactImagePal.j2, if_neg (by decide), h8 _ (by omega), Option.bind_some, if_neg (by omega), if_pos rfl]
  · refine ⟨0, ?_⟩
    rw [szImage_f a b wd h c p _ (by omega) (by omega) hc hp, Option.bind_some, if_neg hz, if_pos (by omega)]

end Go.Proofs.Ytkjfefiphdloiaa.Pure
