/- Of every text and limit that the reference draws from a list of at most 1048576 bytes, and every second such list's text (longer ones are let by): the program's PackGet answers as the reference; a text that it answers is no longer than the limit, and two packed texts behind one another are read as both, unless that is too long; a status that is not 0 comes with no text. -/
import Derived.Test.YtfladcffgblfdaaHFnPackGetx5
import Derived.Test.YtfladcffgblfdaaThNum
import Derived.Test.YtfladcffgblfdaaThPack
import Derived.Test.YtfladcffgblfdaaThXor
import Derived.Test.YtfladcffgblfdaaThStr
import Derived.Test.YtfladcffgblfdaaThPackGet
namespace Go.Proofs.Ytfladcffgblfdaa.Pure
open Go.RowKit Go.Proofs.Ytfladcffgblfdaa.PFnPackGet Go.Proofs.YtfladcffgblfdaaW.PrintWords Go.Proofs.YtfladcffgblfdaaW.PrintLast Go.Proofs.YtfladcffgblfdaaW.PrintMore Go.Proofs.Ytfladcffgblfdaa.Th
set_option linter.unusedVariables false
set_option linter.unusedSimpArgs false

theorem alike_l0 (k : Nat) (s : ByteArray) (a m n : Int) : spec_l7Alike.l0 (k + 1) s a m n = if n < m then (if (wrap64 (a + n)) < ((bytesOf s).length : Int) then (if 0 ≤ (wrap64 (a + n)) then (if 0 ≤ a then (if a < ((bytesOf s).length : Int) then (if (rd (bytesOf s) (wrap64 (a + n))) = (rd (bytesOf s) a) then (spec_l7Alike.l0 k s a m (wrap64 (n + 1))) else (some n)) else (none)) else (none)) else (none)) else (some n)) else (some n) := by
  rw [spec_l7Alike.l0]; simp only [bytesOf_length, rd_bytesOf]
theorem fresh_l0 (k : Nat) (s : ByteArray) (a m n : Int) : spec_l7Fresh.l0 (k + 1) s a m n = if n < m then (if (wrap64 (a + n)) < ((bytesOf s).length : Int) then ((spec_l7Alike.f k s (wrap64 (a + n)) 3).bind fun t => (if t < 3 then (spec_l7Fresh.l0 k s a m (wrap64 (n + 1))) else (some n))) else (some n)) else (some n) := by
  rw [spec_l7Fresh.l0]; simp only [bytesOf_length]
theorem l7Alike_l0_ev (s : ByteArray) (at_ most : Int) (h0 : 0 ≤ at_) (h : at_ < (bytesOf s).length) (hl : (bytesOf s).length ≤ 1048576) (hm : 1 ≤ most ∧ most ≤ 1000) :
    ∀ (d : Nat) (n : Int), 1 ≤ n → n ≤ smM (bytesOf s) at_ → n + d = most → Ev (fun k => spec_l7Alike.l0 k s at_ most n) (if smM (bytesOf s) at_ < most then smM (bytesOf s) at_ else most) := by
  have hb := smM_b (bytesOf s) at_ h0 h
  intro d
  induction d with
  | zero =>
    intro n h1 h2 h3
    refine ⟨1, fun k hk => ?_⟩
    try dsimp only
    obtain ⟨m, rfl⟩ : ∃ m, k = m + 1 := ⟨k - 1, by omega⟩
    rw [alike_l0, if_neg (by omega), if_neg (by omega), show n = most by omega]
  | succ d ih =>
    intro n h1 h2 h3
    by_cases e : n = smM (bytesOf s) at_
    · have hf := hb.2.2.2
      rw [← e] at hf
      refine ⟨1, fun k hk => ?_⟩
      try dsimp only
      obtain ⟨m, rfl⟩ : ∃ m, k = m + 1 := ⟨k - 1, by omega⟩
      rw [alike_l0, if_pos (by omega), w64 (x := at_ + n) (by omega), if_pos (show smM (bytesOf s) at_ < most by omega), ← e]
      by_cases c : at_ + n < (bytesOf s).length
      · have c2 : ¬ rd (bytesOf s) (at_ + n) = rd (bytesOf s) at_ := fun e2 => by rw [show smB (bytesOf s) at_ n = true from decide_eq_true ⟨c, e2⟩] at hf; simp at hf
        rw [if_pos c, if_pos (by omega), if_pos h0, if_pos h, if_neg c2]
      · rw [if_neg c]
    · have ht := of_decide_eq_true (hb.2.2.1 n h1 (by omega))
      obtain ⟨K, hK⟩ := ih (n + 1) (by omega) (by omega) (by omega)
      try dsimp only at hK
      refine ⟨K + 1, fun k hk => ?_⟩
      try dsimp only
      obtain ⟨m, rfl⟩ : ∃ m, k = m + 1 := ⟨k - 1, by omega⟩
      rw [alike_l0, if_pos (by omega), w64 (x := at_ + n) (by omega), if_pos ht.1, if_pos (by omega), if_pos h0, if_pos h, if_pos ht.2, w64 (by omega)]
      exact hK m (by omega)
theorem l7Alike_ev (s : ByteArray) (at_ most : Int) (h0 : 0 ≤ at_) (h : at_ < (bytesOf s).length) (hl : (bytesOf s).length ≤ 1048576) (hm : 1 ≤ most ∧ most ≤ 1000) : Ev (fun k => spec_l7Alike.f k s at_ most) (if smM (bytesOf s) at_ < most then smM (bytesOf s) at_ else most) :=
  l7Alike_l0_ev s at_ most h0 h hl hm (most - 1).toNat 1 (by omega) (smM_b (bytesOf s) at_ h0 h).1 (by omega)
theorem l7Fresh_l0_ev (s : ByteArray) (at_ : Int) (h0 : 0 ≤ at_) (h : at_ < (bytesOf s).length) (hl : (bytesOf s).length ≤ 1048576) :
    ∀ (d : Nat) (n : Int), 1 ≤ n → n + d = 128 → Ev (fun k => spec_l7Fresh.l0 k s at_ 128 n) (otC (bytesOf s) at_ 3 d n) := by
  intro d
  induction d with
  | zero =>
    intro n h1 h3
    refine ⟨1, fun k hk => ?_⟩
    try dsimp only
    obtain ⟨m, rfl⟩ : ∃ m, k = m + 1 := ⟨k - 1, by omega⟩
    rw [fresh_l0, if_neg (by omega)]; rfl
  | succ d ih =>
    intro n h1 h3
    simp only [otC]
    by_cases c : at_ + n < (bytesOf s).length
    · obtain ⟨K1, hK1⟩ := l7Alike_ev s (at_ + n) 3 (by omega) c hl (by omega)
      try dsimp only at hK1
      obtain ⟨K, hK⟩ := ih (n + 1) (by omega) (by omega)
      try dsimp only at hK
      refine ⟨K + K1 + 1, fun k hk => ?_⟩
      try dsimp only
      obtain ⟨m, rfl⟩ : ∃ m, k = m + 1 := ⟨k - 1, by omega⟩
      have hm := hK m (by omega)
      rw [fresh_l0, if_pos (by omega), w64 (x := at_ + n) (by omega), if_pos c, hK1 m (by omega), Option.bind_some]
      by_cases c2 : smM (bytesOf s) (at_ + n) < 3
      · rw [if_pos (by rw [if_pos c2]; exact c2), if_pos (show otB (bytesOf s) at_ 3 n = true from decide_eq_true ⟨by omega, c, c2⟩), w64 (by omega)]; exact hm
      · rw [if_neg (by rw [if_neg c2]; omega), if_neg (show ¬ otB (bytesOf s) at_ 3 n = true from fun e => c2 (of_decide_eq_true e).2.2)]
    · refine ⟨1, fun k hk => ?_⟩
      try dsimp only
      obtain ⟨m, rfl⟩ : ∃ m, k = m + 1 := ⟨k - 1, by omega⟩
      rw [fresh_l0, if_pos (by omega), w64 (x := at_ + n) (by omega), if_neg c, if_neg (show ¬ otB (bytesOf s) at_ 3 n = true from fun e => c (of_decide_eq_true e).2.1)]
theorem spec_PackPut_l0_ev (s : ByteArray) (hs : s.size ≤ 5000) : ∀ (f : Nat) (at_ : Int) (out : List Int), 0 ≤ at_ → at_ ≤ (bytesOf s).length → ((bytesOf s).length : Int) ≤ at_ + f → out.length ≤ 130 * at_.toNat → Ev (fun k => spec_PackPut.l0 k s (strOfNums out) at_) (strOfNums (out ++ ppM (bytesOf s) f at_)) := by
  have hsz := bytesOf_length s
  intro f
  induction f with
  | zero =>
    intro at_ out h0 h1 h2 h3
    refine ⟨1, fun k hk => ?_⟩
    try dsimp only
    obtain ⟨m, rfl⟩ : ∃ m, k = m + 1 := ⟨k - 1, by omega⟩
    rw [spec_PackPut.l0, if_neg (by omega)]
    simp [ppM]
  | succ f ih =>
    intro at_ out h0 h1 h2 h3
    simp only [ppM]
    by_cases h : at_ < (bytesOf s).length
    · have hc := cutM_b (bytesOf s) at_ 3 h0 h (by omega)
      have hpl := ppP_length (bytesOf s) at_ h0 h
      have hnext := ih (at_ + (cutM (bytesOf s) at_ 3).1) (out ++ ppP (bytesOf s) at_) (by omega) (by omega) (by omega) (by rw [List.length_append]; omega)
      rw [if_pos h, ← List.append_assoc]
      obtain ⟨K, hK⟩ := hnext
      try dsimp only at hK
      obtain ⟨K1, hK1⟩ := l7Alike_ev s at_ 128 h0 h (by omega) (by omega)
      try dsimp only at hK1
      by_cases c : smM (bytesOf s) at_ ≥ 3
      · have hcm : cutM (bytesOf s) at_ 3 = (if smM (bytesOf s) at_ < 128 then smM (bytesOf s) at_ else 128, true) := by unfold cutM; rw [if_pos c]
        have e : (if smM (bytesOf s) at_ < 128 then smM (bytesOf s) at_ else 128) = (cutM (bytesOf s) at_ 3).1 := by rw [hcm]
        have hge := (hc.2.2.2 (by rw [hcm])).1
        rw [e] at hK1
        have hpi : ppP (bytesOf s) at_ = [257 - (cutM (bytesOf s) at_ 3).1] ++ [rd (bytesOf s) at_] := by
          unfold ppP; rw [if_pos (by rw [hcm])]; rfl
        have hex : s.extract at_.toNat (at_ + 1).toNat = strOfNums [rd (bytesOf s) at_] := by
          rw [extract_son, show (at_ + 1).toNat - at_.toNat = 0 + 1 by omega]
          have := take_rd (bytesOf s) at_.toNat 0 (by omega)
          rw [this, show ((at_.toNat : Nat) : Int) + ((0 : Nat) : Int) = at_ by omega]
          rfl
        refine ⟨K + K1 + 1, fun k hk => ?_⟩
        try dsimp only
        obtain ⟨m, rfl⟩ : ∃ m, k = m + 1 := ⟨k - 1, by omega⟩
        have hm := hK m (by omega)
        rw [spec_PackPut.l0, if_pos (by omega), hK1 m (by omega), Option.bind_some, if_pos hge, Option.bind_some, w64 (x := 257 - _) (by omega), show (257 - (cutM (bytesOf s) at_ 3).1) % 256 = 257 - (cutM (bytesOf s) at_ 3).1 by omega, if_pos (by rw [strOfNums_size, strOfNums_size]; simp; omega), if_pos h0, w64 (x := at_ + 1) (by omega), if_pos (by omega), if_pos (by omega), hex, ← son_append, if_pos (by rw [strOfNums_size, strOfNums_size, List.length_append]; simp; omega), ← son_append, w64 (by omega), List.append_assoc, ← hpi]
        exact hm
      · have hcm : cutM (bytesOf s) at_ 3 = (otM (bytesOf s) at_ 3, false) := by unfold cutM; rw [if_neg c]
        have e2 : ¬ ((if smM (bytesOf s) at_ < 128 then smM (bytesOf s) at_ else 128) ≥ 3) := by split <;> omega
        have e3 : (otM (bytesOf s) at_ 3) = (cutM (bytesOf s) at_ 3).1 := by rw [hcm]
        obtain ⟨K2, hK2⟩ := l7Fresh_l0_ev s at_ h0 h (by omega) 127 1 (by omega) (by omega)
        try dsimp only at hK2
        have hpi : ppP (bytesOf s) at_ = [(cutM (bytesOf s) at_ 3).1 - 1] ++ ((bytesOf s).drop at_.toNat).take (cutM (bytesOf s) at_ 3).1.toNat := by
          unfold ppP; rw [if_neg (by rw [hcm]; simp)]; rfl
        have hex : s.extract at_.toNat (at_ + (cutM (bytesOf s) at_ 3).1).toNat = strOfNums (((bytesOf s).drop at_.toNat).take (cutM (bytesOf s) at_ 3).1.toNat) := by
          rw [extract_son, show (at_ + (cutM (bytesOf s) at_ 3).1).toNat - at_.toNat = (cutM (bytesOf s) at_ 3).1.toNat by omega]
        have hK2' : ∀ k, K2 ≤ k → spec_l7Fresh.f k s at_ 128 = some (cutM (bytesOf s) at_ 3).1 := fun k hk => by rw [← e3]; exact hK2 k hk
        refine ⟨K + K1 + K2 + 1, fun k hk => ?_⟩
        try dsimp only
        obtain ⟨m, rfl⟩ : ∃ m, k = m + 1 := ⟨k - 1, by omega⟩
        have hm := hK m (by omega)
        rw [spec_PackPut.l0, if_pos (by omega), hK1 m (by omega), Option.bind_some, if_neg e2, hK2' m (by omega), Option.bind_some, Option.bind_some, w64 (x := (cutM (bytesOf s) at_ 3).1 - 1) (by omega), show ((cutM (bytesOf s) at_ 3).1 - 1) % 256 = (cutM (bytesOf s) at_ 3).1 - 1 by omega, if_pos (by rw [strOfNums_size, strOfNums_size]; simp; omega), if_pos h0, w64 (x := at_ + _) (by omega), if_pos (by omega), if_pos (by omega), hex, ← son_append, if_pos (by rw [strOfNums_size, strOfNums_size, List.length_append, List.length_take]; simp; omega), ← son_append, List.append_assoc, ← hpi]
        exact hm
    · rw [if_neg h]
      refine ⟨1, fun k hk => ?_⟩
      try dsimp only
      obtain ⟨m, rfl⟩ : ∃ m, k = m + 1 := ⟨k - 1, by omega⟩
      rw [spec_PackPut.l0, if_neg (by omega)]
      simp
theorem spec_PackPut_ev (s : ByteArray) : Ev (fun k => spec_PackPut.f k s) (packM s) := by
  unfold spec_PackPut.f packM
  by_cases h : s.size > 5000
  · exact ⟨0, fun k hk => by dsimp only; rw [if_pos (by omega), if_pos h]⟩
  · have hsz := bytesOf_length s
    obtain ⟨K, hK⟩ := spec_PackPut_l0_ev s (by omega) s.size 0 [] (by omega) (by omega) (by omega) (by simp)
    try dsimp only at hK
    refine ⟨K, fun k hk => ?_⟩
    try dsimp only
    try dsimp only
    rw [if_neg (by omega), if_neg h]
    exact hK k hk
theorem in_f (a b c : Int) : impl_in.f a b c = some (decide (b ≤ a ∧ a ≤ c)) := by
  unfold impl_in.f
  by_cases h : b ≤ a
  · rw [if_pos h]; simp [h]
  · rw [if_neg h]; simp [h]
theorem l1In_f (a b c : Int) : spec_l1In.f a b c = some (decide (b ≤ a ∧ a ≤ c)) := by
  unfold spec_l1In.f
  by_cases h : b ≤ a
  · rw [if_pos h]; simp [h]
  · rw [if_neg h]; simp [h]
/-- A drawing's bytes. -/
def Code (b : List Int) : Prop := b.length ≤ 2000 ∧ ∀ x ∈ b, 0 ≤ x ∧ x ≤ 255
theorem l1Open_f (l : List Int) : spec_l1Open.f l = some (l.take 2000, 0) := by
  unfold spec_l1Open.f
  by_cases h : (l.length : Int) > 2000
  · rw [if_pos h, if_pos (by omega)]
  · rw [if_neg h, List.take_of_length_le (by omega)]
theorem code_open {l : List Int} (h : ∀ x ∈ l, (Lit.int .u8 x).wf = true) : Code (l.take 2000) := by
  refine ⟨by rw [List.length_take]; omega, fun x hx => ?_⟩
  have := h x (List.mem_of_mem_take hx)
  simp [Lit.wf, IntKind.min, IntKind.max, IntKind.bits, IntKind.signed] at this
  omega
theorem code_rd {b : List Int} (h : Code b) (i : Int) : 0 ≤ rd b i ∧ rd b i ≤ 255 := by
  rcases rd_mem_or b i with h1 | h1
  · exact h.2 _ h1
  · omega
/-- What is picked is there, and the place is one further. -/
theorem pick_ev {b : List Int} (hb : Code b) {p n : Int} (hp : 0 ≤ p ∧ p ≤ 1099511627776) (hn : n ≤ 1099511627776) : ∃ v : Int, (0 ≤ v ∧ (v < n ∨ n < 1 ∧ v = 0)) ∧ Ev (fun k => spec_l1Rd_pick.f k b p n) (v, p + 1) := by
  unfold spec_l1Rd_pick.f
  rw [w64 (x := p + 1) (by omega)]
  by_cases h1 : n < 1
  · refine ⟨0, ⟨by omega, .inr ⟨h1, rfl⟩⟩, 1, fun k hk => ?_⟩
    try dsimp only
    obtain ⟨m, rfl⟩ : ∃ m, k = m + 1 := ⟨k - 1, by omega⟩
    try dsimp only
    rw [if_pos h1, spec_l1Rd_pick.j0, if_pos rfl]
  by_cases h2 : b.length = 0
  · refine ⟨0, ⟨by omega, .inl (by omega)⟩, 1, fun k hk => ?_⟩
    try dsimp only
    obtain ⟨m, rfl⟩ : ∃ m, k = m + 1 := ⟨k - 1, by omega⟩
    try dsimp only
    rw [if_neg h1, spec_l1Rd_pick.j0, if_pos (by simp [h2])]
  have e0 : wrap64 (p + 1 - 1) = p := by rw [w64 (by omega)]; omega
  by_cases h3 : p < b.length
  · have hr := code_rd hb p
    refine ⟨rd b p % n, ⟨Int.emod_nonneg _ (by omega), .inl (Int.emod_lt_of_pos _ (by omega))⟩, 1, fun k hk => ?_⟩
    try dsimp only
    obtain ⟨m, rfl⟩ : ∃ m, k = m + 1 := ⟨k - 1, by omega⟩
    try dsimp only
    rw [if_neg h1, spec_l1Rd_pick.j0, if_neg (by simpa using h2), e0, if_pos h3, if_pos hp.1, if_neg (by omega), w64 (by omega), tmod_pos hr.1]
  · have hl := hb.1
    have m1 : 0 ≤ p % (b.length : Int) ∧ p % (b.length : Int) < b.length := ⟨Int.emod_nonneg _ (by omega), Int.emod_lt_of_pos _ (by omega)⟩
    have m2 : 0 ≤ (p * 7 + 3) % (b.length : Int) ∧ (p * 7 + 3) % (b.length : Int) < b.length := ⟨Int.emod_nonneg _ (by omega), Int.emod_lt_of_pos _ (by omega)⟩
    have r1 := code_rd hb (p % (b.length : Int))
    have r2 := code_rd hb ((p * 7 + 3) % (b.length : Int))
    have q1 : 0 ≤ p / (b.length : Int) := Int.ediv_nonneg hp.1 (by omega)
    have q2 : p / (b.length : Int) ≤ p := Int.ediv_le_self _ hp.1
    obtain ⟨X, hX⟩ : ∃ X, X = rd b (p % (b.length : Int)) * 131 + rd b ((p * 7 + 3) % (b.length : Int)) * 1117 + p * 29 + p / (b.length : Int) * 53 := ⟨_, rfl⟩
    have bX : 0 ≤ X ∧ X ≤ 4611686018427387904 := by omega
    have hx := xor_b (x := X) (y := X / 64) (by omega) (by omega)
    refine ⟨Go.bits .xor .i64 X (X / 64) % n, ⟨Int.emod_nonneg _ (by omega), .inl (Int.emod_lt_of_pos _ (by omega))⟩, 1, fun k hk => ?_⟩
    try dsimp only
    obtain ⟨m, rfl⟩ : ∃ m, k = m + 1 := ⟨k - 1, by omega⟩
    try dsimp only
    rw [if_neg h1, spec_l1Rd_pick.j0, if_neg (by simpa using h2), e0, if_neg h3, if_neg (by omega)]
    rw [w64 (x := p * 7) (by omega), w64 (x := p * 7 + 3) (by omega), tmod_pos (a := p) hp.1, tmod_pos (a := p * 7 + 3) (by omega), tdiv_pos (a := p) hp.1]
    rw [if_pos m1.1, if_pos m1.2, if_pos m2.1, if_pos m2.2, if_neg (by omega)]
    rw [w64 (x := rd b (p % (b.length : Int))) (by omega), w64 (x := rd b ((p * 7 + 3) % (b.length : Int))) (by omega), w64 (x := p / (b.length : Int)) (by omega)]
    rw [w64 (x := rd b (p % (b.length : Int)) * 131) (by omega), w64 (x := rd b ((p * 7 + 3) % (b.length : Int)) * 1117) (by omega), w64 (x := p * 29) (by omega), w64 (x := p / (b.length : Int) * 53) (by omega)]
    rw [w64 (x := rd b (p % (b.length : Int)) * 131 + rd b ((p * 7 + 3) % (b.length : Int)) * 1117) (by omega), w64 (x := rd b (p % (b.length : Int)) * 131 + rd b ((p * 7 + 3) % (b.length : Int)) * 1117 + p * 29) (by omega), w64 (x := rd b (p % (b.length : Int)) * 131 + rd b ((p * 7 + 3) % (b.length : Int)) * 1117 + p * 29 + p / (b.length : Int) * 53) (by omega), ← hX]
    rw [tdiv_pos (by omega), w64 (x := X / 64) (by omega), tmod_pos hx.1]
theorem of_ev {b : List Int} (hb : Code b) {p : Int} (hp : 0 ≤ p ∧ p ≤ 1000000000) (l : List ByteArray) (hl : 1 ≤ l.length) (hl2 : l.length ≤ 1000) : ∃ s, s ∈ l ∧ Ev (fun k => spec_l1Rd_of.f k b p l) (s, p + 1) := by
  obtain ⟨v, hv, K, hK⟩ := pick_ev hb (p := p) (n := (l.length : Int)) (by omega) (by omega)
  try dsimp only at hK
  try dsimp only at hK
  have hvl : v.toNat < l.length := by omega
  have e : rdOf ByteArray.empty l v = l[v.toNat] := by
    unfold rdOf; rw [List.getD_eq_getElem?_getD, List.getElem?_eq_getElem hvl]; rfl
  refine ⟨l[v.toNat], List.getElem_mem _, K, fun k hk => ?_⟩
  try dsimp only
  try dsimp only
  unfold spec_l1Rd_of.f
  rw [hK k hk]
  simp only [Option.bind_some]
  rw [if_pos (by omega), if_pos (by omega), e]
def manyM (s : ByteArray) : Nat → ByteArray
  | 0 => ⟨#[]⟩
  | n + 1 => manyM s n ++ s
theorem manyM_size (s : ByteArray) (n : Nat) : (manyM s n).size = n * s.size := by
  induction n with
  | zero => rw [Nat.zero_mul]; rfl
  | succ n ih => simp only [manyM, ByteArray.size_append, ih, Nat.succ_mul]
theorem l1Many_l0_ev (s : ByteArray) (n : Nat) (hn : n ≤ 100000) (hs : s.size ≤ 100000) : ∀ d i : Nat, i + d = n → Ev (fun k => spec_l1Many.l0 k s (n : Int) (manyM s i) (i : Int)) (manyM s n) := by
  intro d
  induction d with
  | zero =>
    intro i hi
    refine ⟨1, fun k hk => ?_⟩
    try dsimp only
    obtain ⟨m, rfl⟩ : ∃ m, k = m + 1 := ⟨k - 1, by omega⟩
    rw [spec_l1Many.l0, if_neg (by omega), show i = n by omega]
  | succ d ih =>
    intro i hi
    obtain ⟨K, hK⟩ := ih (i + 1) (by omega)
    try dsimp only at hK
    refine ⟨K + 1, fun k hk => ?_⟩
    try dsimp only
    obtain ⟨m, rfl⟩ : ∃ m, k = m + 1 := ⟨k - 1, by omega⟩
    have hm := hK m (by omega)
    have hz := manyM_size s i
    have hz2 : i * s.size ≤ 100000 * 100000 := Nat.mul_le_mul (by omega) hs
    rw [spec_l1Many.l0, if_pos (by omega), if_pos (by omega), w64 (by omega)]
    simp only [manyM] at hm
    rw [show ((i + 1 : Nat) : Int) = (i : Int) + 1 by omega] at hm
    exact hm
theorem l1Many_ev (s : ByteArray) (n : Int) (h0 : 0 ≤ n) (hn : n ≤ 100000) (hs : s.size ≤ 100000) : Ev (fun k => spec_l1Many.f k s n) (manyM s n.toNat) := by
  have h := l1Many_l0_ev s n.toNat (by omega) hs n.toNat 0 (by omega)
  rw [Int.toNat_of_nonneg h0] at h
  exact h
/-- A drawn text: short, or as many t's as may be, or one more. -/
def Short (s : ByteArray) : Prop := s.size ≤ 300 ∨ ∃ n : Nat, (9000 ≤ n ∧ n ≤ 9001) ∧ s = manyM ⟨#[116]⟩ n
theorem short_size {s : ByteArray} (h : Short s) : s.size ≤ 9001 := by
  rcases h with h | ⟨n, hn, rfl⟩
  · omega
  · rw [manyM_size, show (⟨#[116]⟩ : ByteArray).size = 1 from rfl]; omega
theorem l14Text_l1_ev {b : List Int} (hb : Code b) (n : Int) (P : Int) (S A : Nat) (C : Int) (hP : P ≤ 1000000) (hS : S ≤ 300)
    (next : ∀ (s : ByteArray) (p : Int), 0 ≤ p → p ≤ P → s.size ≤ S → ∃ (s' : ByteArray) (p' : Int), (s'.size ≤ s.size + A ∧ p ≤ p' ∧ p' ≤ p + C) ∧ Ev (fun k => spec_l14Text.l0 k s (wrap64 (n - 1)) b p) (s', p')) :
    ∀ (d : Nat) (s : ByteArray) (p : Int), d ≤ 12 → 0 ≤ p → p + d ≤ P → s.size + d ≤ S → ∃ (s' : ByteArray) (p' : Int), (s'.size ≤ s.size + d + A ∧ p ≤ p' ∧ p' ≤ p + d + C) ∧ Ev (fun k => spec_l14Text.l1 k s n (d : Int) b p) (s', p') := by
  intro d
  induction d with
  | zero =>
    intro s p hd h0 hp hs
    obtain ⟨s', p', hh, K, hK⟩ := next s p h0 (by omega) (by omega)
    try dsimp only at hK
    refine ⟨s', p', by omega, K + 1, fun k hk => ?_⟩
    try dsimp only
    obtain ⟨m, rfl⟩ : ∃ m, k = m + 1 := ⟨k - 1, by omega⟩
    try dsimp only
    rw [spec_l14Text.l1, if_neg (by omega)]
    exact hK m (by omega)
  | succ d ih =>
    intro s p hd h0 hp hs
    obtain ⟨v, hv, K1, hK1⟩ := pick_ev hb (p := p) (n := 256) (by omega) (by omega)
    try dsimp only at hK1
    try dsimp only at hK1
    have hz : (s ++ strOfNums [v % 256]).size = s.size + 1 := by rw [ByteArray.size_append, strOfNums_size]; rfl
    have hz1 : (strOfNums [v % 256]).size = 1 := by rw [strOfNums_size]; rfl
    obtain ⟨s', p', hh, K, hK⟩ := ih (s ++ strOfNums [v % 256]) (p + 1) (by omega) (by omega) (by omega) (by omega)
    try dsimp only at hK
    refine ⟨s', p', by omega, K + K1 + 1, fun k hk => ?_⟩
    try dsimp only
    obtain ⟨m, rfl⟩ : ∃ m, k = m + 1 := ⟨k - 1, by omega⟩
    try dsimp only
    rw [spec_l14Text.l1, if_pos (by omega), hK1 m (by omega)]
    simp only [Option.bind_some]
    rw [if_pos (by omega), w64 (by omega), show ((d + 1 : Nat) : Int) - 1 = (d : Int) by omega]
    exact hK m (by omega)
theorem l14Text_l0_ev {b : List Int} (hb : Code b) : ∀ (n : Nat) (s : ByteArray) (p : Int), n ≤ 6 → 0 ≤ p → p ≤ 1000000 - 20 * n → s.size + 39 * n ≤ 300 → ∃ (s' : ByteArray) (p' : Int), (s'.size ≤ s.size + 39 * n ∧ p ≤ p' ∧ p' ≤ p + 20 * n) ∧ Ev (fun k => spec_l14Text.l0 k s (n : Int) b p) (s', p') := by
  intro n
  induction n with
  | zero =>
    intro s p hn h0 hp hs
    refine ⟨s, p, by omega, 1, fun k hk => ?_⟩
    try dsimp only
    obtain ⟨m, rfl⟩ : ∃ m, k = m + 1 := ⟨k - 1, by omega⟩
    try dsimp only
    rw [spec_l14Text.l0, if_neg (by omega)]
  | succ n ih =>
    intro s p hn h0 hp hs
    obtain ⟨v, hv, K1, hK1⟩ := pick_ev hb (p := p) (n := 5) (by omega) (by omega)
    try dsimp only at hK1
    try dsimp only at hK1
    have en : wrap64 (((n + 1 : Nat) : Int) - 1) = (n : Int) := by rw [w64 (by omega)]; omega
    by_cases v0 : v = 0
    · obtain ⟨t, ht, K2, hK2⟩ := of_ev hb (p := p + 1) (by omega) [(⟨#[97]⟩ : ByteArray), (⟨#[98]⟩ : ByteArray), (⟨#[0]⟩ : ByteArray), (⟨#[255]⟩ : ByteArray)] (by decide) (by decide)
      try dsimp only at hK2
      try dsimp only at hK2
      have hts : t.size = 1 := by simp at ht; rcases ht with rfl | rfl | rfl | rfl <;> rfl
      obtain ⟨u, hu, K3, hK3⟩ := pick_ev hb (p := p + 1 + 1) (n := 40) (by omega) (by omega)
      try dsimp only at hK3
      try dsimp only at hK3
      obtain ⟨K4, hK4⟩ := l1Many_ev t u (by omega) (by omega) (by omega)
      try dsimp only at hK4
      try dsimp only at hK4
      have hz := manyM_size t u.toNat
      rw [hts, Nat.mul_one] at hz
      obtain ⟨s', p', hh, K, hK⟩ := ih (s ++ manyM t u.toNat) (p + 1 + 1 + 1) (by omega) (by omega) (by omega) (by rw [ByteArray.size_append]; omega)
      try dsimp only at hK
      rw [ByteArray.size_append] at hh
      refine ⟨s', p', by omega, K + K1 + K2 + K3 + K4 + 1, fun k hk => ?_⟩
      try dsimp only
      obtain ⟨m, rfl⟩ : ∃ m, k = m + 1 := ⟨k - 1, by omega⟩
      try dsimp only
      rw [spec_l14Text.l0, if_pos (by omega), hK1 m (by omega)]
      simp only [Option.bind_some]
      rw [if_pos v0, hK2 m (by omega)]
      simp only [Option.bind_some]
      rw [hK3 m (by omega)]
      simp only [Option.bind_some]
      rw [hK4 m (by omega)]
      simp only [Option.bind_some]
      rw [if_pos (by omega), en]
      exact hK m (by omega)
    by_cases v1 : v = 1
    · obtain ⟨s', p', hh, K, hK⟩ := ih (s ++ (⟨#[97, 32, 116, 101, 120, 116, 32, 116, 104, 97, 116, 32, 99, 111, 109, 101, 115, 32, 97, 103, 97, 105, 110, 44, 32]⟩ : ByteArray)) (p + 1) (by omega) (by omega) (by omega) (by rw [ByteArray.size_append, show (⟨#[97, 32, 116, 101, 120, 116, 32, 116, 104, 97, 116, 32, 99, 111, 109, 101, 115, 32, 97, 103, 97, 105, 110, 44, 32]⟩ : ByteArray).size = 25 from rfl]; omega)
      try dsimp only at hK
      rw [ByteArray.size_append, show (⟨#[97, 32, 116, 101, 120, 116, 32, 116, 104, 97, 116, 32, 99, 111, 109, 101, 115, 32, 97, 103, 97, 105, 110, 44, 32]⟩ : ByteArray).size = 25 from rfl] at hh
      refine ⟨s', p', by omega, K + K1 + 1, fun k hk => ?_⟩
      try dsimp only
      obtain ⟨m, rfl⟩ : ∃ m, k = m + 1 := ⟨k - 1, by omega⟩
      try dsimp only
      rw [spec_l14Text.l0, if_pos (by omega), hK1 m (by omega)]
      simp only [Option.bind_some]
      rw [if_neg v0, if_pos v1, if_pos (by omega), en]
      exact hK m (by omega)
    by_cases v2 : v = 2
    · obtain ⟨u, hu, K3, hK3⟩ := pick_ev hb (p := p + 1) (n := 12) (by omega) (by omega)
      try dsimp only at hK3
      try dsimp only at hK3
      obtain ⟨s', p', hh, K, hK⟩ := l14Text_l1_ev hb ((n + 1 : Nat) : Int) (1000000 - 20 * n) (300 - 39 * n) (39 * n) (20 * n) (by omega) (by omega) (fun s p a1 a2 a3 => by rw [en]; exact ih s p (by omega) a1 a2 (by omega)) u.toNat s (p + 1 + 1) (by omega) (by omega) (by omega) (by omega)
      try dsimp only at hK
      rw [Int.toNat_of_nonneg (by omega)] at hK
      refine ⟨s', p', by omega, K + K1 + K3 + 1, fun k hk => ?_⟩
      try dsimp only
      obtain ⟨m, rfl⟩ : ∃ m, k = m + 1 := ⟨k - 1, by omega⟩
      try dsimp only
      rw [spec_l14Text.l0, if_pos (by omega), hK1 m (by omega)]
      simp only [Option.bind_some]
      rw [if_neg v0, if_neg v1, if_pos v2, hK3 m (by omega)]
      simp only [Option.bind_some]
      exact hK m (by omega)
    · obtain ⟨t, ht, K2, hK2⟩ := of_ev hb (p := p + 1) (by omega) [(⟨#[120]⟩ : ByteArray), (⟨#[97, 98, 99]⟩ : ByteArray), (⟨#[97, 98, 99, 97, 98, 99, 97, 98, 99, 100]⟩ : ByteArray), (⟨#[32]⟩ : ByteArray)] (by decide) (by decide)
      try dsimp only at hK2
      try dsimp only at hK2
      have hts : t.size ≤ 10 := by simp at ht; rcases ht with rfl | rfl | rfl | rfl <;> decide
      obtain ⟨s', p', hh, K, hK⟩ := ih (s ++ t) (p + 1 + 1) (by omega) (by omega) (by omega) (by rw [ByteArray.size_append]; omega)
      try dsimp only at hK
      rw [ByteArray.size_append] at hh
      refine ⟨s', p', by omega, K + K1 + K2 + 1, fun k hk => ?_⟩
      try dsimp only
      obtain ⟨m, rfl⟩ : ∃ m, k = m + 1 := ⟨k - 1, by omega⟩
      try dsimp only
      rw [spec_l14Text.l0, if_pos (by omega), hK1 m (by omega)]
      simp only [Option.bind_some]
      rw [if_neg v0, if_neg v1, if_neg v2, hK2 m (by omega)]
      simp only [Option.bind_some]
      rw [if_pos (by omega), en]
      exact hK m (by omega)
theorem l14Text_ev {b : List Int} (hb : Code b) {p : Int} (hp : 0 ≤ p ∧ p ≤ 900000) : ∃ (s : ByteArray) (p' : Int), (Short s ∧ p ≤ p' ∧ p' ≤ p + 200) ∧ Ev (fun k => spec_l14Text.f k b p) (s, p') := by
  obtain ⟨v, hv, K1, hK1⟩ := pick_ev hb (p := p) (n := 150) (by omega) (by omega)
  try dsimp only at hK1
  try dsimp only at hK1
  by_cases v0 : v = 0
  · obtain ⟨u, hu, K2, hK2⟩ := pick_ev hb (p := p + 1) (n := 2) (by omega) (by omega)
    try dsimp only at hK2
    try dsimp only at hK2
    obtain ⟨K3, hK3⟩ := l1Many_ev (⟨#[116]⟩ : ByteArray) (9000 + u) (by omega) (by omega) (by decide)
    try dsimp only at hK3
    try dsimp only at hK3
    refine ⟨manyM ⟨#[116]⟩ (9000 + u).toNat, p + 1 + 1, ⟨?_, by omega, by omega⟩, K1 + K2 + K3, fun k hk => ?_⟩
    try dsimp only
    · exact .inr ⟨_, by omega, rfl⟩
    · dsimp only
      unfold spec_l14Text.f
      rw [hK1 k (by omega)]
      simp only [Option.bind_some]
      rw [if_pos v0, hK2 k (by omega)]
      simp only [Option.bind_some]
      rw [w64 (by omega), hK3 k (by omega)]
      rfl
  · obtain ⟨u, hu, K2, hK2⟩ := pick_ev hb (p := p + 1) (n := 7) (by omega) (by omega)
    try dsimp only at hK2
    try dsimp only at hK2
    obtain ⟨s', p', hh, K, hK⟩ := l14Text_l0_ev hb u.toNat (⟨#[]⟩ : ByteArray) (p + 1 + 1) (by omega) (by omega) (by omega) (by rw [show (⟨#[]⟩ : ByteArray).size = 0 from rfl]; omega)
    try dsimp only at hK
    rw [show (⟨#[]⟩ : ByteArray).size = 0 from rfl] at hh
    rw [Int.toNat_of_nonneg (by omega)] at hK
    refine ⟨s', p', ⟨.inl (by omega), by omega, by omega⟩, K + K1 + K2, fun k hk => ?_⟩
    try dsimp only
    try dsimp only
    unfold spec_l14Text.f
    rw [hK1 k (by omega)]
    simp only [Option.bind_some]
    rw [if_neg v0, hK2 k (by omega)]
    simp only [Option.bind_some]
    exact hK k (by omega)
def pgR (r : List Int × Int) : ByteArray × Int := (strOfNums r.1, r.2)
theorem PackGetA_l1_ev (s : ByteArray) (limit q need : Int) (hs : s.size ≤ 9000) (hl : limit ≤ 5000) (h0 : 0 ≤ q) (hn : 1 ≤ need) (hq : q + need ≤ s.size) (C : List Int) (hC : bytesOf (s.extract q.toNat (q + need).toNat) = C) (hCl : C.length ≤ 200) (out : List Int) (ho : out.length ≤ 5000) (times : Nat) (ht : times ≤ 200) (r : ByteArray × Int)
    (hnext : Ev (fun k => if ((out ++ repC C times).length : Int) > limit then some ((⟨#[]⟩ : ByteArray), 3) else impl_PackGet.l0 k s limit (out ++ repC C times) (q + need)) r) :
    ∀ d j : Nat, j + d = times → Ev (fun k => impl_PackGet.l1 k s limit (out ++ repC C j) q need (times : Int) (j : Int)) r := by
  intro d
  induction d with
  | zero =>
    intro j hj
    obtain ⟨K, hK⟩ := hnext
    try dsimp only at hK
    refine ⟨K + 1, fun k hk => ?_⟩
    try dsimp only
    obtain ⟨m, rfl⟩ : ∃ m, k = m + 1 := ⟨k - 1, by omega⟩
    have hm := hK m (by omega)
    rw [impl_PackGet.l1, if_neg (by omega), show j = times by omega, w64 (by omega)]
    exact hm
  | succ d ih =>
    intro j hj
    obtain ⟨K, hK⟩ := ih (j + 1) (by omega)
    try dsimp only at hK
    refine ⟨K + 1, fun k hk => ?_⟩
    try dsimp only
    obtain ⟨m, rfl⟩ : ∃ m, k = m + 1 := ⟨k - 1, by omega⟩
    have hm := hK m (by omega)
    have hmul : j * C.length ≤ 200 * 200 := Nat.mul_le_mul (by omega) hCl
    have hbs : (s.extract q.toNat (q + need).toNat).size ≤ 9000 := by rw [ByteArray.size_extract]; omega
    rw [impl_PackGet.l1, if_pos (by omega), if_pos h0, w64 (x := q + need) (by omega), if_pos (by omega), if_pos hq, if_pos (by rw [List.length_append, repC_length]; omega), w64 (by omega), List.append_assoc, hC]
    simp only [repC] at hm
    rw [show ((j + 1 : Nat) : Int) = (j : Int) + 1 by omega] at hm
    exact hm
theorem pgNeed_b (s : ByteArray) (at_ : Nat) : 1 ≤ pgNeed (bt s at_) ∧ pgNeed (bt s at_) ≤ 128 ∧ pgTimes (bt s at_) ≤ 129 := by
  have hb := bt_range s at_
  unfold pgNeed pgTimes
  split
  · omega
  · omega
theorem PackGetA_l0_ev (s : ByteArray) (limit : Int) (hs : s.size ≤ 9000) (hl : 0 ≤ limit ∧ limit ≤ 5000) : ∀ (f at_ : Nat) (out : List Int), at_ ≤ s.size → s.size ≤ at_ + f → out.length ≤ 5000 → Ev (fun k => impl_PackGet.l0 k s limit out (at_ : Int)) (pgR (pgM s limit f at_ out)) := by
  intro f
  induction f with
  | zero =>
    intro at_ out h1 h2 h3
    refine ⟨1, fun k hk => ?_⟩
    try dsimp only
    obtain ⟨m, rfl⟩ : ∃ m, k = m + 1 := ⟨k - 1, by omega⟩
    rw [impl_PackGet.l0, if_neg (by omega)]
    rfl
  | succ f ih =>
    intro at_ out h1 h2 h3
    simp only [pgM]
    by_cases c1 : at_ < s.size
    · have hb := bt_range s at_
      have hn := pgNeed_b s at_
      rw [if_pos c1]
      have hj : ∀ m : Nat, impl_PackGet.l0 (m + 1) s limit out (at_ : Int) = impl_PackGet.j2 m s limit out ((at_ + 1 : Nat) : Int) (bt s at_) (pgNeed (bt s at_) : Int) (pgTimes (bt s at_) : Int) := by
        intro m
        rw [impl_PackGet.l0, if_pos (by omega), if_pos (by omega), w64 (x := bt s at_) (by omega), w64 (x := (at_ : Int) + 1) (by omega), w64 (x := 257 - bt s at_) (by omega), w64 (x := bt s at_ + 1) (by omega)]
        unfold pgNeed pgTimes
        by_cases c : bt s at_ ≥ 128
        · rw [if_pos c, if_pos c, if_pos c, show ((257 - bt s at_).toNat : Int) = 257 - bt s at_ by omega]; rfl
        · rw [if_neg c, if_neg c, if_neg c, show (((bt s at_).toNat + 1 : Nat) : Int) = bt s at_ + 1 by omega]; rfl
      by_cases c2 : bt s at_ = 128
      · rw [if_pos c2]
        obtain ⟨K, hK⟩ := ih (at_ + 1) out (by omega) (by omega) h3
        try dsimp only at hK
        refine ⟨K + 2, fun k hk => ?_⟩
        try dsimp only
        obtain ⟨m, rfl⟩ : ∃ m, k = m + 2 := ⟨k - 2, by omega⟩
        have hm := hK m (by omega)
        rw [hj, impl_PackGet.j2, if_pos c2]
        exact hm
      · rw [if_neg c2]
        by_cases c3 : s.size < at_ + 1 + pgNeed (bt s at_)
        · rw [if_pos c3]
          refine ⟨2, fun k hk => ?_⟩
          try dsimp only
          obtain ⟨m, rfl⟩ : ∃ m, k = m + 2 := ⟨k - 2, by omega⟩
          rw [hj, impl_PackGet.j2, if_neg c2, w64 (by omega), if_pos (by omega)]
          rfl
        · rw [if_neg c3]
          have hC : bytesOf (s.extract ((at_ + 1 : Nat) : Int).toNat (((at_ + 1 : Nat) : Int) + (pgNeed (bt s at_) : Int)).toNat) = ((bytesOf s).drop (at_ + 1)).take (pgNeed (bt s at_)) := by
            rw [bytesOf_extract, Int.toNat_natCast, show (((at_ + 1 : Nat) : Int) + (pgNeed (bt s at_) : Int)).toNat - (at_ + 1) = pgNeed (bt s at_) by omega]
          obtain ⟨K, hK⟩ := PackGetA_l1_ev s limit ((at_ + 1 : Nat) : Int) (pgNeed (bt s at_) : Int) hs hl.2 (by omega) (by omega) (by omega) _ hC (by rw [List.length_take]; omega) out h3 (pgTimes (bt s at_)) (by omega) (pgR (if ((out ++ pgChunk s at_).length : Int) > limit then ([], 3) else pgM s limit f (at_ + 1 + pgNeed (bt s at_)) (out ++ pgChunk s at_))) (by
            by_cases c4 : ((out ++ pgChunk s at_).length : Int) > limit
            · refine ⟨0, fun k hk => ?_⟩
              try dsimp only
              rw [if_pos c4]
              unfold pgChunk at c4
              rw [if_pos c4]; rfl
            · obtain ⟨K, hK⟩ := ih (at_ + 1 + pgNeed (bt s at_)) (out ++ pgChunk s at_) (by omega) (by omega) (by omega)
              refine ⟨K, fun k hk => ?_⟩
              try dsimp only
              have hm := hK k hk
              rw [if_neg c4]
              unfold pgChunk at c4 hm ⊢
              rw [if_neg c4, show ((at_ + 1 : Nat) : Int) + (pgNeed (bt s at_) : Int) = ((at_ + 1 + pgNeed (bt s at_) : Nat) : Int) by omega]
              exact hm) (pgTimes (bt s at_)) 0 (by omega)
          try dsimp only at hK
          refine ⟨K + 2, fun k hk => ?_⟩
          try dsimp only
          obtain ⟨m, rfl⟩ : ∃ m, k = m + 2 := ⟨k - 2, by omega⟩
          have hm := hK m (by omega)
          simp only [repC, List.append_nil] at hm
          rw [hj, impl_PackGet.j2, if_neg c2, w64 (by omega), if_neg (by omega)]
          exact hm
    · rw [if_neg c1]
      refine ⟨1, fun k hk => ?_⟩
      try dsimp only
      obtain ⟨m, rfl⟩ : ∃ m, k = m + 1 := ⟨k - 1, by omega⟩
      rw [impl_PackGet.l0, if_neg (by omega)]
      rfl
/-- What both answer. -/
def packGetM (s : ByteArray) (limit : Int) : ByteArray × Int := if s.size ≤ 9000 ∧ 0 ≤ limit ∧ limit ≤ 5000 then pgR (pgM s limit s.size 0 []) else (⟨#[]⟩, 1)
theorem impl_PackGet_ev (s : ByteArray) (limit : Int) : Ev (fun k => impl_PackGet.f k s limit) (packGetM s limit) := by
  unfold packGetM
  by_cases h : s.size ≤ 9000 ∧ 0 ≤ limit ∧ limit ≤ 5000
  · obtain ⟨K, hK⟩ := PackGetA_l0_ev s limit h.1 h.2 s.size 0 [] (by omega) (by omega) (by simp)
    try dsimp only at hK
    refine ⟨K + 1, fun k hk => ?_⟩
    try dsimp only
    obtain ⟨m, rfl⟩ : ∃ m, k = m + 1 := ⟨k - 1, by omega⟩
    try dsimp only
    unfold impl_PackGet.f
    rw [if_pos h, if_neg (by omega), in_f, Option.bind_some, impl_PackGet.j0, decide_eq_true h.2, if_neg (by decide)]
    exact hK m (by omega)
  · refine ⟨1, fun k hk => ?_⟩
    try dsimp only
    obtain ⟨m, rfl⟩ : ∃ m, k = m + 1 := ⟨k - 1, by omega⟩
    try dsimp only
    unfold impl_PackGet.f
    rw [if_neg h]
    by_cases h9 : (s.size : Int) > 9000
    · rw [if_pos h9, impl_PackGet.j0, if_pos rfl]
    · rw [if_neg h9, in_f, Option.bind_some, decide_eq_false (by omega), impl_PackGet.j0, if_pos (by decide)]
theorem manyM_repC (s : ByteArray) (n : Nat) : bytesOf (manyM s n) = repC (bytesOf s) n := by
  induction n with
  | zero => rfl
  | succ n ih => simp only [manyM, repC]; rw [bytesOf_append, ih]
theorem spec_PackGet_l0_ev (s : ByteArray) (limit : Int) (hs : s.size ≤ 9000) (hl : 0 ≤ limit ∧ limit ≤ 5000) : ∀ (f at_ : Nat) (out : List Int), at_ ≤ s.size → s.size ≤ at_ + f → (out.length : Int) ≤ limit → Ev (fun k => spec_PackGet.l0 k s limit out (at_ : Int)) (pgR (pgM s limit f at_ out)) := by
  intro f
  induction f with
  | zero =>
    intro at_ out h1 h2 h3
    refine ⟨1, fun k hk => ?_⟩
    try dsimp only
    obtain ⟨m, rfl⟩ : ∃ m, k = m + 1 := ⟨k - 1, by omega⟩
    rw [spec_PackGet.l0, if_neg (by omega)]
    rfl
  | succ f ih =>
    intro at_ out h1 h2 h3
    simp only [pgM]
    by_cases c1 : at_ < s.size
    · have hb := bt_range s at_
      have hn := pgNeed_b s at_
      rw [if_pos c1]
      by_cases c2 : bt s at_ = 128
      · rw [if_pos c2]
        obtain ⟨K, hK⟩ := ih (at_ + 1) out (by omega) (by omega) h3
        try dsimp only at hK
        refine ⟨K + 3, fun k hk => ?_⟩
        try dsimp only
        obtain ⟨m, rfl⟩ : ∃ m, k = m + 3 := ⟨k - 3, by omega⟩
        have hm := hK m (by omega)
        rw [spec_PackGet.l0, if_pos (by omega), if_pos (by omega), w64 (x := bt s at_) (by omega), if_neg (by omega), w64 (by omega), spec_PackGet.j2, if_neg (by decide), if_neg (by omega), spec_PackGet.j3, if_neg (by decide), if_neg (by omega), if_neg (by omega), if_neg (by omega)]
        exact hm
      · rw [if_neg c2]
        by_cases c : bt s at_ < 128
        · have hnd : (pgNeed (bt s at_) : Int) = bt s at_ + 1 := by unfold pgNeed; rw [if_neg (by omega)]; omega
          have htm : pgTimes (bt s at_) = 1 := by unfold pgTimes; rw [if_neg (by omega)]
          by_cases c3 : s.size < at_ + 1 + pgNeed (bt s at_)
          · rw [if_pos c3]
            refine ⟨3, fun k hk => ?_⟩
            try dsimp only
            obtain ⟨m, rfl⟩ : ∃ m, k = m + 3 := ⟨k - 3, by omega⟩
            rw [spec_PackGet.l0, if_pos (by omega), if_pos (by omega), w64 (x := bt s at_) (by omega), if_pos c, w64 (x := (at_ : Int) + 1) (by omega), w64 (x := (at_ : Int) + 1 + bt s at_) (by omega), w64 (by omega), decide_eq_true (by omega), spec_PackGet.j2, if_pos rfl, spec_PackGet.j3, if_pos rfl]
            rfl
          · rw [if_neg c3]
            have hch : bytesOf (s.extract ((at_ : Int) + 1).toNat ((at_ : Int) + 1 + bt s at_ + 1).toNat) = pgChunk s at_ := by
              unfold pgChunk
              rw [htm, bytesOf_extract, show ((at_ : Int) + 1 + bt s at_ + 1).toNat - ((at_ : Int) + 1).toNat = pgNeed (bt s at_) by omega, show ((at_ : Int) + 1).toNat = at_ + 1 by omega]
              simp [repC]
            have hcl : (pgChunk s at_).length ≤ 128 := by unfold pgChunk; rw [htm, repC_length, List.length_take]; omega
            have hbs : (s.extract ((at_ : Int) + 1).toNat ((at_ : Int) + 1 + bt s at_ + 1).toNat).size ≤ 9000 := by rw [ByteArray.size_extract]; omega
            have hgo : ∀ m : Nat, spec_PackGet.l0 (m + 3) s limit out (at_ : Int) = if ((out ++ pgChunk s at_).length : Int) > limit then some ((⟨#[]⟩ : ByteArray), 3) else spec_PackGet.l0 m s limit (out ++ pgChunk s at_) ((at_ : Int) + 1 + bt s at_ + 1) := by
              intro m
              rw [spec_PackGet.l0, if_pos (by omega), if_pos (by omega), w64 (x := bt s at_) (by omega), if_pos c, w64 (x := (at_ : Int) + 1) (by omega), w64 (x := (at_ : Int) + 1 + bt s at_) (by omega), w64 (x := (at_ : Int) + 1 + bt s at_ + 1) (by omega), decide_eq_false (by omega), spec_PackGet.j2, if_neg (by decide), if_neg (by omega), spec_PackGet.j3, if_neg (by decide), if_pos c, if_pos (by omega), w64 (x := (at_ : Int) + 1 + bt s at_) (by omega), w64 (x := (at_ : Int) + 1 + bt s at_ + 1) (by omega), if_pos (by omega), if_pos (by omega), if_pos (by omega), hch, Option.bind_some]
            by_cases c4 : ((out ++ pgChunk s at_).length : Int) > limit
            · rw [if_pos c4]
              refine ⟨3, fun k hk => ?_⟩
              try dsimp only
              obtain ⟨m, rfl⟩ : ∃ m, k = m + 3 := ⟨k - 3, by omega⟩
              rw [hgo, if_pos c4]
              rfl
            · rw [if_neg c4]
              obtain ⟨K, hK⟩ := ih (at_ + 1 + pgNeed (bt s at_)) (out ++ pgChunk s at_) (by omega) (by omega) (by omega)
              try dsimp only at hK
              refine ⟨K + 3, fun k hk => ?_⟩
              try dsimp only
              obtain ⟨m, rfl⟩ : ∃ m, k = m + 3 := ⟨k - 3, by omega⟩
              have hm := hK m (by omega)
              rw [hgo, if_neg c4, show (at_ : Int) + 1 + bt s at_ + 1 = ((at_ + 1 + pgNeed (bt s at_) : Nat) : Int) by omega]
              exact hm
        · have hnd : pgNeed (bt s at_) = 1 := by unfold pgNeed; rw [if_pos (by omega)]
          have htm : (pgTimes (bt s at_) : Int) = 257 - bt s at_ := by unfold pgTimes; rw [if_pos (by omega)]; omega
          by_cases c3 : s.size < at_ + 1 + pgNeed (bt s at_)
          · rw [if_pos c3]
            refine ⟨3, fun k hk => ?_⟩
            try dsimp only
            obtain ⟨m, rfl⟩ : ∃ m, k = m + 3 := ⟨k - 3, by omega⟩
            rw [spec_PackGet.l0, if_pos (by omega), if_pos (by omega), w64 (x := bt s at_) (by omega), if_neg c, w64 (x := (at_ : Int) + 1) (by omega), spec_PackGet.j2, if_neg (by decide), if_pos (by omega), decide_eq_true (by omega), spec_PackGet.j3, if_pos rfl]
            rfl
          · rw [if_neg c3]
            have hex : (s.extract ((at_ : Int) + 1).toNat ((at_ : Int) + 1 + 1).toNat).size = 1 := by rw [ByteArray.size_extract]; omega
            obtain ⟨K1, hK1⟩ := l1Many_ev (s.extract ((at_ : Int) + 1).toNat ((at_ : Int) + 1 + 1).toNat) (257 - bt s at_) (by omega) (by omega) (by omega)
            try dsimp only at hK1
            try dsimp only at hK1
            have hch : bytesOf (manyM (s.extract ((at_ : Int) + 1).toNat ((at_ : Int) + 1 + 1).toNat) (257 - bt s at_).toNat) = pgChunk s at_ := by
              rw [manyM_repC]
              unfold pgChunk
              rw [hnd, bytesOf_extract, show ((at_ : Int) + 1 + 1).toNat - ((at_ : Int) + 1).toNat = 1 by omega, show ((at_ : Int) + 1).toNat = at_ + 1 by omega, show (257 - bt s at_).toNat = pgTimes (bt s at_) by omega]
            have hms : (manyM (s.extract ((at_ : Int) + 1).toNat ((at_ : Int) + 1 + 1).toNat) (257 - bt s at_).toNat).size ≤ 200 := by rw [manyM_size, hex]; omega
            have hgo : ∀ m : Nat, K1 ≤ m → spec_PackGet.l0 (m + 3) s limit out (at_ : Int) = if ((out ++ pgChunk s at_).length : Int) > limit then some ((⟨#[]⟩ : ByteArray), 3) else spec_PackGet.l0 m s limit (out ++ pgChunk s at_) ((at_ : Int) + 1 + 1) := by
              intro m hm
              rw [spec_PackGet.l0, if_pos (by omega), if_pos (by omega), w64 (x := bt s at_) (by omega), if_neg c, w64 (x := (at_ : Int) + 1) (by omega), spec_PackGet.j2, if_neg (by decide), if_pos (by omega), decide_eq_false (by omega), spec_PackGet.j3, if_neg (by decide), if_neg c, if_pos (by omega), if_pos (by omega), w64 (x := (at_ : Int) + 1 + 1) (by omega), if_pos (by omega), if_pos (by omega), w64 (x := 257 - bt s at_) (by omega), hK1 m hm, Option.bind_some, if_pos (by omega), hch, Option.bind_some]
            by_cases c4 : ((out ++ pgChunk s at_).length : Int) > limit
            · rw [if_pos c4]
              refine ⟨K1 + 3, fun k hk => ?_⟩
              try dsimp only
              obtain ⟨m, rfl⟩ : ∃ m, k = m + 3 := ⟨k - 3, by omega⟩
              rw [hgo m (by omega), if_pos c4]
              rfl
            · rw [if_neg c4]
              obtain ⟨K, hK⟩ := ih (at_ + 1 + pgNeed (bt s at_)) (out ++ pgChunk s at_) (by omega) (by omega) (by omega)
              try dsimp only at hK
              refine ⟨K + K1 + 3, fun k hk => ?_⟩
              try dsimp only
              obtain ⟨m, rfl⟩ : ∃ m, k = m + 3 := ⟨k - 3, by omega⟩
              have hm := hK m (by omega)
              rw [hgo m (by omega), if_neg c4, show (at_ : Int) + 1 + 1 = ((at_ + 1 + pgNeed (bt s at_) : Nat) : Int) by omega]
              exact hm
    · rw [if_neg c1]
      refine ⟨1, fun k hk => ?_⟩
      try dsimp only
      obtain ⟨m, rfl⟩ : ∃ m, k = m + 1 := ⟨k - 1, by omega⟩
      rw [spec_PackGet.l0, if_neg (by omega)]
      rfl
theorem spec_PackGet_ev (s : ByteArray) (limit : Int) : Ev (fun k => spec_PackGet.f k s limit) (packGetM s limit) := by
  unfold packGetM
  by_cases h : s.size ≤ 9000 ∧ 0 ≤ limit ∧ limit ≤ 5000
  · obtain ⟨K, hK⟩ := spec_PackGet_l0_ev s limit h.1 h.2 s.size 0 [] (by omega) (by omega) (by simp; omega)
    try dsimp only at hK
    refine ⟨K + 1, fun k hk => ?_⟩
    try dsimp only
    obtain ⟨m, rfl⟩ : ∃ m, k = m + 1 := ⟨k - 1, by omega⟩
    try dsimp only
    unfold spec_PackGet.f
    rw [Option.bind_some, if_pos h, if_neg (by omega), l1In_f, Option.bind_some, spec_PackGet.j0, decide_eq_true h.2, if_neg (by decide)]
    exact hK m (by omega)
  · refine ⟨1, fun k hk => ?_⟩
    try dsimp only
    obtain ⟨m, rfl⟩ : ∃ m, k = m + 1 := ⟨k - 1, by omega⟩
    try dsimp only
    unfold spec_PackGet.f
    rw [Option.bind_some, if_neg h]
    by_cases h9 : (s.size : Int) > 9000
    · rw [if_pos h9, spec_PackGet.j0, if_pos rfl]
    · rw [if_neg h9, l1In_f, Option.bind_some, decide_eq_false (by omega), spec_PackGet.j0, if_pos (by decide)]
theorem drawPackPut_ev {b : List Int} (hb : ∀ x ∈ b, (Lit.int .u8 x).wf = true) : ∃ s : ByteArray, (s.size ≤ 9001 ∧ (s.size ≤ 756 ∨ 9000 ≤ s.size)) ∧ Ev (fun k => spec_DrawPackPut.f k b) s := by
  have hc := code_open hb
  obtain ⟨v, hv, K1, hK1⟩ := pick_ev hc (p := 0) (n := 8) (by omega) (by omega)
  try dsimp only at hK1
  try dsimp only at hK1
  by_cases h : v = 0
  · obtain ⟨s, hs, K2, hK2⟩ := of_ev hc (p := 0 + 1) (by omega) ([(⟨#[97]⟩ : ByteArray), (⟨#[97, 98]⟩ : ByteArray), (⟨#[97, 97, 98]⟩ : ByteArray), (⟨#[97, 98, 99, 100]⟩ : ByteArray)] : List ByteArray) (by simp) (by simp)
    try dsimp only at hK2
    try dsimp only at hK2
    obtain ⟨u, hu, K3, hK3⟩ := pick_ev hc (p := 0 + 1 + 1) (n := 90) (by omega) (by omega)
    try dsimp only at hK3
    try dsimp only at hK3
    have hsz : s.size ≤ 4 := by
      simp only [List.mem_cons, List.not_mem_nil, or_false] at hs
      rcases hs with rfl | rfl | rfl | rfl <;> decide
    obtain ⟨K4, hK4⟩ := l1Many_ev s (100 + u) (by omega) (by omega) (by omega)
    try dsimp only at hK4
    try dsimp only at hK4
    refine ⟨manyM s (100 + u).toNat, ?_, K1 + K2 + K3 + K4, fun k hk => ?_⟩
    try dsimp only
    · rw [manyM_size]
      have : (100 + u).toNat * s.size ≤ 189 * 4 := Nat.mul_le_mul (by omega) hsz
      omega
    · dsimp only
      unfold spec_DrawPackPut.f
      rw [l1Open_f, Option.bind_some]
      try dsimp only
      rw [hK1 k (by omega), Option.bind_some]
      try dsimp only
      rw [if_pos h, hK2 k (by omega), Option.bind_some]
      try dsimp only
      rw [hK3 k (by omega), Option.bind_some]
      try dsimp only
      rw [w64 (by omega), hK4 k (by omega), Option.bind_some]
  · obtain ⟨s, p1, hs, K2, hK2⟩ := l14Text_ev hc (p := 0 + 1) (by omega)
    try dsimp only at hK2
    try dsimp only at hK2
    have hz := short_size hs.1
    have hz2 : s.size ≤ 756 ∨ 9000 ≤ s.size := by
      rcases hs.1 with h1 | ⟨n, hn, rfl⟩
      · left; omega
      · right; rw [manyM_size]; show 9000 ≤ n * 1; omega
    refine ⟨s, ⟨hz, hz2⟩, K1 + K2, fun k hk => ?_⟩
    try dsimp only
    try dsimp only
    unfold spec_DrawPackPut.f
    rw [l1Open_f, Option.bind_some]
    try dsimp only
    rw [hK1 k (by omega), Option.bind_some]
    try dsimp only
    rw [if_neg h, hK2 k (by omega), Option.bind_some]
theorem l14Bend_ev {b : List Int} (hb : Code b) {p : Int} (hp : 0 ≤ p ∧ p ≤ 1000000000) (s : ByteArray) (hs : s.size ≤ 100000) : ∃ (s' : ByteArray) (p' : Int), (s'.size = s.size ∧ p ≤ p' ∧ p' ≤ p + 2) ∧ Ev (fun k => spec_l14Bend.f k b p s) (s', p') := by
  by_cases h : s.toList = ([] : List UInt8)
  · refine ⟨s, p, by omega, 0, fun k hk => ?_⟩
    try dsimp only
    try dsimp only
    unfold spec_l14Bend.f
    rw [if_pos h]
  · have hbl := bytesOf_length s
    have hne : s.size ≠ 0 := by
      intro e0
      apply h
      rw [byte_toList]
      exact List.eq_nil_of_length_eq_zero (by rw [data_length]; exact e0)
    obtain ⟨v, hv, K1, hK1⟩ := pick_ev hb (p := p) (n := ((bytesOf s).length : Int)) (by omega) (by omega)
    try dsimp only at hK1
    try dsimp only at hK1
    obtain ⟨u, hu, K2, hK2⟩ := pick_ev hb (p := p + 1) (n := 255) (by omega) (by omega)
    try dsimp only at hK2
    try dsimp only at hK2
    refine ⟨strOfNums ((bytesOf s).set v.toNat (Go.bits .xor .u8 (rd (bytesOf s) v) ((wrap64 (1 + u)) % 256))), p + 1 + 1, ⟨?_, by omega, by omega⟩, K1 + K2, fun k hk => ?_⟩
    try dsimp only
    rotate_left
    · dsimp only
      unfold spec_l14Bend.f
      rw [if_neg h, if_pos (by omega), Option.bind_some, hK1 k (by omega), Option.bind_some]
      try dsimp only
      rw [if_pos (by omega), if_pos (by omega), hK2 k (by omega), Option.bind_some]
    · rw [strOfNums_size, List.length_set, hbl]

theorem packM_size (s : ByteArray) (h : s.size ≤ 756 ∨ 9000 ≤ s.size) : (packM s).size ≤ 800 := by
  unfold packM
  split
  · show 0 ≤ 800; omega
  · have hbl := bytesOf_length s
    have hlen := (ppM_length (bytesOf s) s.size 0 s.size (by omega) (by omega) (by omega)).1
    rw [strOfNums_size]; omega
theorem l14Limit_ev {b : List Int} (hb : Code b) {p : Int} (hp : 0 ≤ p ∧ p ≤ 1000000000) : ∃ lim : Int, (-1 ≤ lim ∧ lim ≤ 5001) ∧ Ev (fun k => spec_l14Limit.f k b p) (lim, p + 1 + 1) := by
  obtain ⟨v, hv, K1, hK1⟩ := pick_ev hb (p := p) (n := 40) (by omega) (by omega)
  try dsimp only at hK1
  try dsimp only at hK1
  obtain ⟨u, hu, K2, hK2⟩ := pick_ev hb (p := p + 1) (n := 14) (by omega) (by omega)
  try dsimp only at hK2
  try dsimp only at hK2
  refine ⟨rd [5000, 5000, v, 5001, -1] (u * 5 / 14), ?_, K1 + K2, fun k hk => ?_⟩
  try dsimp only
  · rcases (show u * 5 / 14 = 0 ∨ u * 5 / 14 = 1 ∨ u * 5 / 14 = 2 ∨ u * 5 / 14 = 3 ∨ u * 5 / 14 = 4 by omega) with e | e | e | e | e <;> rw [e] <;> simp [rd] <;> omega
  · dsimp only
    unfold spec_l14Limit.f
    rw [hK1 k (by omega), Option.bind_some, Option.bind_some]
    try dsimp only
    rw [hK2 k (by omega), Option.bind_some]
    try dsimp only
    rw [w64 (x := u * 5) (by omega), tdiv_pos (by omega), w64 (by omega), if_pos (by omega), if_pos (by simp; omega)]
theorem drawPackGet_ev {b : List Int} (hb : ∀ x ∈ b, (Lit.int .u8 x).wf = true) : ∃ (s : ByteArray) (lim : Int), (s.size ≤ 800 ∧ -1 ≤ lim ∧ lim ≤ 5001) ∧ Ev (fun k => spec_DrawPackGet.f k b) (s, lim) := by
  have hc := code_open hb
  obtain ⟨s0, hs0, K1, hK1⟩ := drawPackPut_ev hb
  try dsimp only at hK1
  try dsimp only at hK1
  obtain ⟨K2, hK2⟩ := spec_PackPut_ev s0
  try dsimp only at hK2
  try dsimp only at hK2
  have hsz := packM_size s0 hs0.2
  generalize packM s0 = s at hK2 hsz
  obtain ⟨v, hv, K3, hK3⟩ := pick_ev hc (p := 0) (n := 5) (by omega) (by omega)
  try dsimp only at hK3
  try dsimp only at hK3
  by_cases h0 : v = 0
  · obtain ⟨s', p', hs', K4, hK4⟩ := l14Bend_ev hc (p := 0 + 1) (by omega) s (by omega)
    try dsimp only at hK4
    obtain ⟨lim, hlim, K5, hK5⟩ := l14Limit_ev hc (p := p') (by omega)
    try dsimp only at hK5
    try dsimp only at hK5
    refine ⟨s', lim, by omega, K1 + K2 + K3 + K4 + K5, fun k hk => ?_⟩
    try dsimp only
    try dsimp only
    unfold spec_DrawPackGet.f
    rw [l1Open_f, Option.bind_some, hK1 k (by omega), Option.bind_some, hK2 k (by omega), Option.bind_some]
    try dsimp only
    rw [hK3 k (by omega), Option.bind_some]
    try dsimp only
    rw [if_pos h0, hK4 k (by omega), Option.bind_some]
    try dsimp only
    rw [hK5 k (by omega), Option.bind_some]
  · by_cases h1 : v = 1
    · obtain ⟨g, hg, K4, hK4⟩ := pick_ev hc (p := 0 + 1) (n := (s.size : Int) + 1) (by omega) (by omega)
      try dsimp only at hK4
      try dsimp only at hK4
      obtain ⟨lim, hlim, K5, hK5⟩ := l14Limit_ev hc (p := 0 + 1 + 1) (by omega)
      try dsimp only at hK5
      try dsimp only at hK5
      refine ⟨s.extract 0 g.toNat, lim, ⟨by rw [ByteArray.size_extract]; omega, by omega, by omega⟩, K1 + K2 + K3 + K4 + K5, fun k hk => ?_⟩
      try dsimp only
      try dsimp only
      unfold spec_DrawPackGet.f
      rw [l1Open_f, Option.bind_some, hK1 k (by omega), Option.bind_some, hK2 k (by omega), Option.bind_some]
      try dsimp only
      rw [hK3 k (by omega), Option.bind_some]
      try dsimp only
      rw [if_neg h0, if_pos h1, w64 (by omega), hK4 k (by omega), Option.bind_some]
      try dsimp only
      rw [if_pos (by omega), if_pos (by omega), hK5 k (by omega), Option.bind_some]
    · obtain ⟨lim, hlim, K5, hK5⟩ := l14Limit_ev hc (p := 0 + 1) (by omega)
      try dsimp only at hK5
      try dsimp only at hK5
      refine ⟨s, lim, by omega, K1 + K2 + K3 + K5, fun k hk => ?_⟩
      try dsimp only
      try dsimp only
      unfold spec_DrawPackGet.f
      rw [l1Open_f, Option.bind_some, hK1 k (by omega), Option.bind_some, hK2 k (by omega), Option.bind_some]
      try dsimp only
      rw [hK3 k (by omega), Option.bind_some]
      try dsimp only
      rw [if_neg h0, if_neg h1, hK5 k (by omega), Option.bind_some]
theorem pgM_le (s : ByteArray) (limit : Int) : ∀ (f at_ : Nat) (out o : List Int), (out.length : Int) ≤ limit → pgM s limit f at_ out = (o, 0) → (o.length : Int) ≤ limit := by
  intro f
  induction f with
  | zero => intro at_ out o h1 h; simp only [pgM, Prod.mk.injEq] at h; rw [← h.1]; exact h1
  | succ f ih =>
    intro at_ out o h1 h
    simp only [pgM] at h
    split at h
    · split at h
      · exact ih _ _ _ h1 h
      · split at h
        · simp at h
        · split at h
          · simp at h
          · exact ih _ _ _ (by omega) h
    · simp only [Prod.mk.injEq] at h; rw [← h.1]; exact h1
theorem pgM_bad (s : ByteArray) (limit : Int) : ∀ (f at_ : Nat) (out : List Int), (pgM s limit f at_ out).2 ≠ 0 → (pgM s limit f at_ out).1 = [] := by
  intro f
  induction f with
  | zero => intro at_ out h; simp [pgM] at h
  | succ f ih =>
    intro at_ out h
    simp only [pgM] at h ⊢
    split
    · rename_i c1
      rw [if_pos c1] at h
      split
      · rename_i c2
        rw [if_pos c2] at h
        exact ih _ _ h
      · rename_i c2
        rw [if_neg c2] at h
        split
        · rfl
        · rename_i c3
          rw [if_neg c3] at h
          split
          · rfl
          · rename_i c4
            rw [if_neg c4] at h
            exact ih _ _ h
    · rename_i c1
      rw [if_neg c1] at h; simp at h
theorem packGetM_bad (s : ByteArray) (limit : Int) (h : (packGetM s limit).2 ≠ 0) : (packGetM s limit).1.toList = ([] : List UInt8) := by
  unfold packGetM at h ⊢
  split
  · rename_i c
    rw [if_pos c] at h
    unfold pgR at h ⊢
    try dsimp only at h ⊢
    rw [pgM_bad s limit _ _ _ h, byte_toList]; rfl
  · rw [byte_toList]
theorem packGetM_ok (s : ByteArray) (limit : Int) (h : (packGetM s limit).2 = 0) : (s.size ≤ 9000 ∧ 0 ≤ limit ∧ limit ≤ 5000) ∧ ∃ o, pgM s limit s.size 0 [] = (o, 0) ∧ packGetM s limit = (strOfNums o, 0) ∧ (o.length : Int) ≤ limit := by
  unfold packGetM at h ⊢
  by_cases c : s.size ≤ 9000 ∧ 0 ≤ limit ∧ limit ≤ 5000
  · rw [if_pos c] at h
    rw [if_pos c]
    unfold pgR at h ⊢
    try dsimp only at h ⊢
    have e : pgM s limit s.size 0 [] = ((pgM s limit s.size 0 []).1, 0) := by rw [← h]
    exact ⟨c, _, e, by rw [h], pgM_le s limit _ _ _ _ (by simpa using c.2.1) e⟩
  · rw [if_neg c] at h; simp at h
/-- Two packed texts behind one another. -/
theorem packGetM_two (s t : ByteArray) (limit : Int) (hs : s.size ≤ 800) (ht : t.size ≤ 800) (o o2 : List Int) (hl : limit ≤ 5000) (h : pgM s limit s.size 0 [] = (o, 0)) (h2 : pgM t 5000 t.size 0 [] = (o2, 0)) (hle : o.length + o2.length ≤ 5000) : packGetM (s ++ t) 5000 = (strOfNums o ++ strOfNums o2, 0) := by
  have hsz : (s ++ t).size = s.size + t.size := ByteArray.size_append
  unfold packGetM
  rw [if_pos (by omega)]
  obtain ⟨F', hF, e⟩ := pgM_front s t limit hl s.size 0 [] o (by omega) (by omega) h (s ++ t).size (by omega)
  have hb := pgM_back s t o t.size 0 [] o2 (by omega) (by omega) h2 hle F' (by omega)
  rw [Nat.add_zero, List.append_nil] at hb
  rw [e, hb]
  unfold pgR
  rw [son_append]
theorem FnPackGet : laws_FnPackGet.Pure := by
  intro l0 l1 hl hl1 hw hm hm1 hwm
  by_cases h : (l0.length : Int) > 1048576 ∨ (l1.length : Int) > 1048576
  · refine ⟨1, ?_⟩
    unfold laws_FnPackGet.f
    by_cases h1 : (l0.length : Int) > 1048576
    · rw [if_pos h1, laws_FnPackGet.j0, if_pos rfl]
    · rw [if_neg h1, laws_FnPackGet.j0, if_pos (decide_eq_true (by omega))]
  obtain ⟨s, lim, hs, K1, hK1⟩ := drawPackGet_ev hw
  try dsimp only at hK1
  try dsimp only at hK1
  obtain ⟨K2, h2⟩ := impl_PackGet_ev s lim
  try dsimp only at h2
  obtain ⟨K3, h3⟩ := spec_PackGet_ev s lim
  try dsimp only at h3
  try dsimp only at h2 h3
  by_cases hz : (packGetM s lim).2 = 0
  · obtain ⟨hlim, o, ho, he, hol⟩ := packGetM_ok s lim hz
    obtain ⟨t, lim2, ht, K4, hK4⟩ := drawPackGet_ev hwm
    try dsimp only at hK4
    try dsimp only at hK4
    obtain ⟨K5, h5⟩ := impl_PackGet_ev t 5000
    try dsimp only at h5
    obtain ⟨K6, h6⟩ := impl_PackGet_ev (s ++ t) 5000
    try dsimp only at h6
    try dsimp only at h5 h6
    have hos : (strOfNums o).size = o.length := strOfNums_size o
    refine ⟨K1 + K2 + K3 + K4 + K5 + K6 + 2, ?_⟩
    unfold laws_FnPackGet.f
    rw [if_neg (by omega), laws_FnPackGet.j0, if_neg (by simp; omega), hK1 _ (by omega), Option.bind_some]
    try dsimp only
    rw [h2 _ (by omega), Option.bind_some, h3 _ (by omega), Option.bind_some, if_pos rfl, if_pos rfl, he]
    try dsimp only
    rw [show ((0 : Int) != 0) = false from rfl, laws_FnPackGet.j1, if_neg (by decide), hK4 _ (by omega), Option.bind_some]
    try dsimp only
    rw [h5 _ (by omega), Option.bind_some, if_pos (by omega), h6 _ (by omega), Option.bind_some, if_pos (by omega)]
    by_cases h2z : (packGetM t 5000).2 = 0
    · obtain ⟨_, o2, ho2, he2, hol2⟩ := packGetM_ok t 5000 h2z
      have hos2 : (strOfNums o2).size = o2.length := strOfNums_size o2
      rw [if_pos h2z, he2]
      try dsimp only
      rw [w64 (by omega)]
      by_cases hbig : ((strOfNums o).size : Int) + ((strOfNums o2).size : Int) > 5000
      · rw [if_pos hbig]
      · rw [if_neg hbig, packGetM_two s t lim hs.1 ht.1 o o2 hlim.2.2 ho ho2 (by omega)]
        try dsimp only
        rw [if_pos rfl, if_pos (by omega), beq_self_eq_true]
    · rw [if_neg h2z]
  · have hbad := packGetM_bad s lim hz
    refine ⟨K1 + K2 + K3 + 2, ?_⟩
    unfold laws_FnPackGet.f
    rw [if_neg (by omega), laws_FnPackGet.j0, if_neg (by simp; omega), hK1 _ (by omega), Option.bind_some]
    try dsimp only
    rw [h2 _ (by omega), Option.bind_some, h3 _ (by omega), Option.bind_some, if_pos rfl, if_pos rfl, bne_iff_ne.2 hz, laws_FnPackGet.j1, if_pos rfl, if_pos rfl, if_pos rfl, if_neg hz, hbad]
    rfl

end Go.Proofs.Ytfladcffgblfdaa.Pure
