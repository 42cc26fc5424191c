/- Of every text that the reference draws from a list of at most 1048576 bytes (a longer one is let by): the program's packed text is the reference's; of a text of more than 5000 bytes it is none; else it is read again as the text, and it is no longer than the law says. -/
import Derived.Test.YtfladcffgblfdaaHFnPackx4
import Derived.Test.YtfladcffgblfdaaThNum
import Derived.Test.YtfladcffgblfdaaThPack
import Derived.Test.YtfladcffgblfdaaThXor
import Derived.Test.YtfladcffgblfdaaThStr
namespace Go.Proofs.Ytfladcffgblfdaa.Pure
open Go.RowKit Go.Proofs.Ytfladcffgblfdaa.PFnPack Go.Proofs.YtfladcffgblfdaaW.PrintWords Go.Proofs.YtfladcffgblfdaaW.PrintLast Go.Proofs.YtfladcffgblfdaaW.PrintMore Go.Proofs.Ytfladcffgblfdaa.Th
set_option linter.unusedVariables false
set_option linter.unusedSimpArgs false

theorem alike_l0 (k : Nat) (s : ByteArray) (a m n : Int) : spec_l7Alike.l0 (k + 1) s a m n = if n < m then (if (wrap64 (a + n)) < ((bytesOf s).length : Int) then (if 0 ≤ (wrap64 (a + n)) then (if 0 ≤ a then (if a < ((bytesOf s).length : Int) then (if (rd (bytesOf s) (wrap64 (a + n))) = (rd (bytesOf s) a) then (spec_l7Alike.l0 k s a m (wrap64 (n + 1))) else (some n)) else (none)) else (none)) else (none)) else (some n)) else (some n) := by
  rw [spec_l7Alike.l0]; simp only [bytesOf_length, rd_bytesOf]
theorem fresh_l0 (k : Nat) (s : ByteArray) (a m n : Int) : spec_l7Fresh.l0 (k + 1) s a m n = if n < m then (if (wrap64 (a + n)) < ((bytesOf s).length : Int) then ((spec_l7Alike.f k s (wrap64 (a + n)) 3).bind fun t => (if t < 3 then (spec_l7Fresh.l0 k s a m (wrap64 (n + 1))) else (some n))) else (some n)) else (some n) := by
  rw [spec_l7Fresh.l0]; simp only [bytesOf_length]
theorem l7Alike_l0_ev (s : ByteArray) (at_ most : Int) (h0 : 0 ≤ at_) (h : at_ < (bytesOf s).length) (hl : (bytesOf s).length ≤ 1048576) (hm : 1 ≤ most ∧ most ≤ 1000) :
    ∀ (d : Nat) (n : Int), 1 ≤ n → n ≤ smM (bytesOf s) at_ → n + d = most → Ev (fun k => spec_l7Alike.l0 k s at_ most n) (if smM (bytesOf s) at_ < most then smM (bytesOf s) at_ else most) := by
  have hb := smM_b (bytesOf s) at_ h0 h
  intro d
  induction d with
  | zero =>
    intro n h1 h2 h3
    refine ⟨1, fun k hk => ?_⟩
    try dsimp only
    obtain ⟨m, rfl⟩ : ∃ m, k = m + 1 := ⟨k - 1, by omega⟩
    rw [alike_l0, if_neg (by omega), if_neg (by omega), show n = most by omega]
  | succ d ih =>
    intro n h1 h2 h3
    by_cases e : n = smM (bytesOf s) at_
    · have hf := hb.2.2.2
      rw [← e] at hf
      refine ⟨1, fun k hk => ?_⟩
      try dsimp only
      obtain ⟨m, rfl⟩ : ∃ m, k = m + 1 := ⟨k - 1, by omega⟩
      rw [alike_l0, if_pos (by omega), w64 (x := at_ + n) (by omega), if_pos (show smM (bytesOf s) at_ < most by omega), ← e]
      by_cases c : at_ + n < (bytesOf s).length
      · have c2 : ¬ rd (bytesOf s) (at_ + n) = rd (bytesOf s) at_ := fun e2 => by rw [show smB (bytesOf s) at_ n = true from decide_eq_true ⟨c, e2⟩] at hf; simp at hf
        rw [if_pos c, if_pos (by omega), if_pos h0, if_pos h, if_neg c2]
      · rw [if_neg c]
    · have ht := of_decide_eq_true (hb.2.2.1 n h1 (by omega))
      obtain ⟨K, hK⟩ := ih (n + 1) (by omega) (by omega) (by omega)
      try dsimp only at hK
      refine ⟨K + 1, fun k hk => ?_⟩
      try dsimp only
      obtain ⟨m, rfl⟩ : ∃ m, k = m + 1 := ⟨k - 1, by omega⟩
      rw [alike_l0, if_pos (by omega), w64 (x := at_ + n) (by omega), if_pos ht.1, if_pos (by omega), if_pos h0, if_pos h, if_pos ht.2, w64 (by omega)]
      exact hK m (by omega)
theorem l7Alike_ev (s : ByteArray) (at_ most : Int) (h0 : 0 ≤ at_) (h : at_ < (bytesOf s).length) (hl : (bytesOf s).length ≤ 1048576) (hm : 1 ≤ most ∧ most ≤ 1000) : Ev (fun k => spec_l7Alike.f k s at_ most) (if smM (bytesOf s) at_ < most then smM (bytesOf s) at_ else most) :=
  l7Alike_l0_ev s at_ most h0 h hl hm (most - 1).toNat 1 (by omega) (smM_b (bytesOf s) at_ h0 h).1 (by omega)
theorem sameB_l0_ev (L : List Int) (at_ : Int) (h0 : 0 ≤ at_) (h : at_ < L.length) (hl : L.length ≤ 1048576) :
    ∀ (d : Nat) (n : Int), 1 ≤ n → n + d = smM L at_ → Ev (fun k => impl_same_byte.l0 k L at_ n) (smM L at_) := by
  have hb := smM_b L at_ h0 h
  intro d
  induction d with
  | zero =>
    intro n h1 h3
    have e : n = smM L at_ := by omega
    have hf := hb.2.2.2
    rw [← e] at hf
    refine ⟨1, fun k hk => ?_⟩
    try dsimp only
    obtain ⟨m, rfl⟩ : ∃ m, k = m + 1 := ⟨k - 1, by omega⟩
    rw [impl_same_byte.l0, w64 (x := at_ + n) (by omega), ← e]
    by_cases c : at_ + n < L.length
    · have c2 : ¬ rd L (at_ + n) = rd L at_ := fun e2 => by rw [show smB L at_ n = true from decide_eq_true ⟨c, e2⟩] at hf; simp at hf
      rw [if_pos c, if_pos (by omega), if_pos h0, if_pos h, if_neg c2]
    · rw [if_neg c]
  | succ d ih =>
    intro n h1 h3
    have ht := of_decide_eq_true (hb.2.2.1 n h1 (by omega))
    obtain ⟨K, hK⟩ := ih (n + 1) (by omega) (by omega)
    try dsimp only at hK
    refine ⟨K + 1, fun k hk => ?_⟩
    try dsimp only
    obtain ⟨m, rfl⟩ : ∃ m, k = m + 1 := ⟨k - 1, by omega⟩
    rw [impl_same_byte.l0, w64 (x := at_ + n) (by omega), if_pos ht.1, if_pos (by omega), if_pos h0, if_pos h, if_pos ht.2, w64 (by omega)]
    exact hK m (by omega)
theorem sameB_ev (L : List Int) (at_ : Int) (h0 : 0 ≤ at_) (h : at_ < L.length) (hl : L.length ≤ 1048576) : Ev (fun k => impl_same_byte.f k L at_) (smM L at_) := by
  have hb := smM_b L at_ h0 h
  exact sameB_l0_ev L at_ h0 h hl (smM L at_ - 1).toNat 1 (by omega) (by omega)
theorem l7Fresh_l0_ev (s : ByteArray) (at_ : Int) (h0 : 0 ≤ at_) (h : at_ < (bytesOf s).length) (hl : (bytesOf s).length ≤ 1048576) :
    ∀ (d : Nat) (n : Int), 1 ≤ n → n + d = 128 → Ev (fun k => spec_l7Fresh.l0 k s at_ 128 n) (otC (bytesOf s) at_ 3 d n) := by
  intro d
  induction d with
  | zero =>
    intro n h1 h3
    refine ⟨1, fun k hk => ?_⟩
    try dsimp only
    obtain ⟨m, rfl⟩ : ∃ m, k = m + 1 := ⟨k - 1, by omega⟩
    rw [fresh_l0, if_neg (by omega)]; rfl
  | succ d ih =>
    intro n h1 h3
    simp only [otC]
    by_cases c : at_ + n < (bytesOf s).length
    · obtain ⟨K1, hK1⟩ := l7Alike_ev s (at_ + n) 3 (by omega) c hl (by omega)
      try dsimp only at hK1
      obtain ⟨K, hK⟩ := ih (n + 1) (by omega) (by omega)
      try dsimp only at hK
      refine ⟨K + K1 + 1, fun k hk => ?_⟩
      try dsimp only
      obtain ⟨m, rfl⟩ : ∃ m, k = m + 1 := ⟨k - 1, by omega⟩
      have hm := hK m (by omega)
      rw [fresh_l0, if_pos (by omega), w64 (x := at_ + n) (by omega), if_pos c, hK1 m (by omega), Option.bind_some]
      by_cases c2 : smM (bytesOf s) (at_ + n) < 3
      · rw [if_pos (by rw [if_pos c2]; exact c2), if_pos (show otB (bytesOf s) at_ 3 n = true from decide_eq_true ⟨by omega, c, c2⟩), w64 (by omega)]; exact hm
      · rw [if_neg (by rw [if_neg c2]; omega), if_neg (show ¬ otB (bytesOf s) at_ 3 n = true from fun e => c2 (of_decide_eq_true e).2.2)]
    · refine ⟨1, fun k hk => ?_⟩
      try dsimp only
      obtain ⟨m, rfl⟩ : ∃ m, k = m + 1 := ⟨k - 1, by omega⟩
      rw [fresh_l0, if_pos (by omega), w64 (x := at_ + n) (by omega), if_neg c, if_neg (show ¬ otB (bytesOf s) at_ 3 n = true from fun e => c (of_decide_eq_true e).2.1)]
theorem cutB_l0_ev (L : List Int) (at_ : Int) (h0 : 0 ≤ at_) (h : at_ < L.length) (hl : L.length ≤ 1048576) :
    ∀ (d : Nat) (n : Int), 1 ≤ n → n + d = 128 → Ev (fun k => impl_cut_byte.l0 k L at_ 3 n) (otC L at_ 3 d n, false) := by
  intro d
  induction d with
  | zero =>
    intro n h1 h3
    refine ⟨1, fun k hk => ?_⟩
    try dsimp only
    obtain ⟨m, rfl⟩ : ∃ m, k = m + 1 := ⟨k - 1, by omega⟩
    rw [impl_cut_byte.l0, if_neg (by omega)]; rfl
  | succ d ih =>
    intro n h1 h3
    simp only [otC]
    by_cases c : at_ + n < L.length
    · obtain ⟨K1, hK1⟩ := sameB_ev L (at_ + n) (by omega) c hl
      try dsimp only at hK1
      obtain ⟨K, hK⟩ := ih (n + 1) (by omega) (by omega)
      try dsimp only at hK
      refine ⟨K + K1 + 1, fun k hk => ?_⟩
      try dsimp only
      obtain ⟨m, rfl⟩ : ∃ m, k = m + 1 := ⟨k - 1, by omega⟩
      have hm := hK m (by omega)
      rw [impl_cut_byte.l0, if_pos (by omega), w64 (x := at_ + n) (by omega), if_pos c, hK1 m (by omega), Option.bind_some]
      by_cases c2 : smM L (at_ + n) < 3
      · rw [if_pos c2, if_pos (show otB L at_ 3 n = true from decide_eq_true ⟨by omega, c, c2⟩), w64 (by omega)]; exact hm
      · rw [if_neg c2, if_neg (show ¬ otB L at_ 3 n = true from fun e => c2 (of_decide_eq_true e).2.2)]
    · refine ⟨1, fun k hk => ?_⟩
      try dsimp only
      obtain ⟨m, rfl⟩ : ∃ m, k = m + 1 := ⟨k - 1, by omega⟩
      rw [impl_cut_byte.l0, if_pos (by omega), w64 (x := at_ + n) (by omega), if_neg c, if_neg (show ¬ otB L at_ 3 n = true from fun e => c (of_decide_eq_true e).2.1)]
theorem cutB_ev (L : List Int) (at_ : Int) (h0 : 0 ≤ at_) (h : at_ < L.length) (hl : L.length ≤ 1048576) : Ev (fun k => impl_cut_byte.f k L at_ 3) (cutM L at_ 3) := by
  obtain ⟨K1, hK1⟩ := sameB_ev L at_ h0 h hl
  try dsimp only at hK1
  obtain ⟨K, hK⟩ := cutB_l0_ev L at_ h0 h hl 127 1 (by omega) (by omega)
  try dsimp only at hK
  refine ⟨K + K1, fun k hk => ?_⟩
  try dsimp only
  unfold impl_cut_byte.f cutM
  rw [hK1 k (by omega), Option.bind_some]
  by_cases c : smM L at_ ≥ 3
  · rw [if_pos c, if_pos c]
    unfold mn
    by_cases c2 : smM L at_ < 128
    · rw [if_pos c2, if_neg (by omega)]
    · rw [if_neg c2]
      by_cases c3 : 128 < smM L at_
      · rw [if_pos c3]
      · rw [if_neg c3, show smM L at_ = 128 by omega]
  · rw [if_neg c, if_neg c]
    exact hK k (by omega)
theorem spec_PackPut_l0_ev (s : ByteArray) (hs : s.size ≤ 5000) : ∀ (f : Nat) (at_ : Int) (out : List Int), 0 ≤ at_ → at_ ≤ (bytesOf s).length → ((bytesOf s).length : Int) ≤ at_ + f → out.length ≤ 130 * at_.toNat → Ev (fun k => spec_PackPut.l0 k s (strOfNums out) at_) (strOfNums (out ++ ppM (bytesOf s) f at_)) := by
  have hsz := bytesOf_length s
  intro f
  induction f with
  | zero =>
    intro at_ out h0 h1 h2 h3
    refine ⟨1, fun k hk => ?_⟩
    try dsimp only
    obtain ⟨m, rfl⟩ : ∃ m, k = m + 1 := ⟨k - 1, by omega⟩
    rw [spec_PackPut.l0, if_neg (by omega)]
    simp [ppM]
  | succ f ih =>
    intro at_ out h0 h1 h2 h3
    simp only [ppM]
    by_cases h : at_ < (bytesOf s).length
    · have hc := cutM_b (bytesOf s) at_ 3 h0 h (by omega)
      have hpl := ppP_length (bytesOf s) at_ h0 h
      have hnext := ih (at_ + (cutM (bytesOf s) at_ 3).1) (out ++ ppP (bytesOf s) at_) (by omega) (by omega) (by omega) (by rw [List.length_append]; omega)
      rw [if_pos h, ← List.append_assoc]
      obtain ⟨K, hK⟩ := hnext
      try dsimp only at hK
      obtain ⟨K1, hK1⟩ := l7Alike_ev s at_ 128 h0 h (by omega) (by omega)
      try dsimp only at hK1
      by_cases c : smM (bytesOf s) at_ ≥ 3
      · have hcm : cutM (bytesOf s) at_ 3 = (if smM (bytesOf s) at_ < 128 then smM (bytesOf s) at_ else 128, true) := by unfold cutM; rw [if_pos c]
        have e : (if smM (bytesOf s) at_ < 128 then smM (bytesOf s) at_ else 128) = (cutM (bytesOf s) at_ 3).1 := by rw [hcm]
        have hge := (hc.2.2.2 (by rw [hcm])).1
        rw [e] at hK1
        have hpi : ppP (bytesOf s) at_ = [257 - (cutM (bytesOf s) at_ 3).1] ++ [rd (bytesOf s) at_] := by
          unfold ppP; rw [if_pos (by rw [hcm])]; rfl
        have hex : s.extract at_.toNat (at_ + 1).toNat = strOfNums [rd (bytesOf s) at_] := by
          rw [extract_son, show (at_ + 1).toNat - at_.toNat = 0 + 1 by omega]
          have := take_rd (bytesOf s) at_.toNat 0 (by omega)
          rw [this, show ((at_.toNat : Nat) : Int) + ((0 : Nat) : Int) = at_ by omega]
          rfl
        refine ⟨K + K1 + 1, fun k hk => ?_⟩
        try dsimp only
        obtain ⟨m, rfl⟩ : ∃ m, k = m + 1 := ⟨k - 1, by omega⟩
        have hm := hK m (by omega)
        rw [spec_PackPut.l0, if_pos (by omega), hK1 m (by omega), Option.bind_some, if_pos hge, Option.bind_some, w64 (x := 257 - _) (by omega), show (257 - (cutM (bytesOf s) at_ 3).1) % 256 = 257 - (cutM (bytesOf s) at_ 3).1 by omega, if_pos (by rw [strOfNums_size, strOfNums_size]; simp; omega), if_pos h0, w64 (x := at_ + 1) (by omega), if_pos (by omega), if_pos (by omega), hex, ← son_append, if_pos (by rw [strOfNums_size, strOfNums_size, List.length_append]; simp; omega), ← son_append, w64 (by omega), List.append_assoc, ← hpi]
        exact hm
      · have hcm : cutM (bytesOf s) at_ 3 = (otM (bytesOf s) at_ 3, false) := by unfold cutM; rw [if_neg c]
        have e2 : ¬ ((if smM (bytesOf s) at_ < 128 then smM (bytesOf s) at_ else 128) ≥ 3) := by split <;> omega
        have e3 : (otM (bytesOf s) at_ 3) = (cutM (bytesOf s) at_ 3).1 := by rw [hcm]
        obtain ⟨K2, hK2⟩ := l7Fresh_l0_ev s at_ h0 h (by omega) 127 1 (by omega) (by omega)
        try dsimp only at hK2
        have hpi : ppP (bytesOf s) at_ = [(cutM (bytesOf s) at_ 3).1 - 1] ++ ((bytesOf s).drop at_.toNat).take (cutM (bytesOf s) at_ 3).1.toNat := by
          unfold ppP; rw [if_neg (by rw [hcm]; simp)]; rfl
        have hex : s.extract at_.toNat (at_ + (cutM (bytesOf s) at_ 3).1).toNat = strOfNums (((bytesOf s).drop at_.toNat).take (cutM (bytesOf s) at_ 3).1.toNat) := by
          rw [extract_son, show (at_ + (cutM (bytesOf s) at_ 3).1).toNat - at_.toNat = (cutM (bytesOf s) at_ 3).1.toNat by omega]
        have hK2' : ∀ k, K2 ≤ k → spec_l7Fresh.f k s at_ 128 = some (cutM (bytesOf s) at_ 3).1 := fun k hk => by rw [← e3]; exact hK2 k hk
        refine ⟨K + K1 + K2 + 1, fun k hk => ?_⟩
        try dsimp only
        obtain ⟨m, rfl⟩ : ∃ m, k = m + 1 := ⟨k - 1, by omega⟩
        have hm := hK m (by omega)
        rw [spec_PackPut.l0, if_pos (by omega), hK1 m (by omega), Option.bind_some, if_neg e2, hK2' m (by omega), Option.bind_some, Option.bind_some, w64 (x := (cutM (bytesOf s) at_ 3).1 - 1) (by omega), show ((cutM (bytesOf s) at_ 3).1 - 1) % 256 = (cutM (bytesOf s) at_ 3).1 - 1 by omega, if_pos (by rw [strOfNums_size, strOfNums_size]; simp; omega), if_pos h0, w64 (x := at_ + _) (by omega), if_pos (by omega), if_pos (by omega), hex, ← son_append, if_pos (by rw [strOfNums_size, strOfNums_size, List.length_append, List.length_take]; simp; omega), ← son_append, List.append_assoc, ← hpi]
        exact hm
    · rw [if_neg h]
      refine ⟨1, fun k hk => ?_⟩
      try dsimp only
      obtain ⟨m, rfl⟩ : ∃ m, k = m + 1 := ⟨k - 1, by omega⟩
      rw [spec_PackPut.l0, if_neg (by omega)]
      simp
theorem spec_PackPut_ev (s : ByteArray) : Ev (fun k => spec_PackPut.f k s) (packM s) := by
  unfold spec_PackPut.f packM
  by_cases h : s.size > 5000
  · exact ⟨0, fun k hk => by dsimp only; rw [if_pos (by omega), if_pos h]⟩
  · have hsz := bytesOf_length s
    obtain ⟨K, hK⟩ := spec_PackPut_l0_ev s (by omega) s.size 0 [] (by omega) (by omega) (by omega) (by simp)
    try dsimp only at hK
    refine ⟨K, fun k hk => ?_⟩
    try dsimp only
    try dsimp only
    rw [if_neg (by omega), if_neg h]
    exact hK k hk
theorem impl_PackPut_l0_ev (L : List Int) (hl : L.length ≤ 5000) : ∀ (f : Nat) (at_ : Int) (out : List Int), 0 ≤ at_ → at_ ≤ L.length → (L.length : Int) ≤ at_ + f → out.length ≤ 130 * at_.toNat → Ev (fun k => impl_PackPut.l0 k L out at_) (strOfNums (out ++ ppM L f at_)) := by
  intro f
  induction f with
  | zero =>
    intro at_ out h0 h1 h2 h3
    refine ⟨1, fun k hk => ?_⟩
    try dsimp only
    obtain ⟨m, rfl⟩ : ∃ m, k = m + 1 := ⟨k - 1, by omega⟩
    rw [impl_PackPut.l0, if_neg (by omega)]
    simp [ppM]
  | succ f ih =>
    intro at_ out h0 h1 h2 h3
    simp only [ppM]
    by_cases h : at_ < L.length
    · have hc := cutM_b L at_ 3 h0 h (by omega)
      have hpl := ppP_length L at_ h0 h
      have hnext := ih (at_ + (cutM L at_ 3).1) (out ++ ppP L at_) (by omega) (by omega) (by omega) (by rw [List.length_append]; omega)
      rw [if_pos h, ← List.append_assoc]
      obtain ⟨K, hK⟩ := hnext
      try dsimp only at hK
      obtain ⟨K1, hK1⟩ := cutB_ev L at_ h0 h (by omega)
      try dsimp only at hK1
      by_cases c : (cutM L at_ 3).2 = true
      · have hge := (hc.2.2.2 c).1
        have hpi : ppP L at_ = [257 - (cutM L at_ 3).1, rd L at_] := by unfold ppP; rw [if_pos c]
        refine ⟨K + K1 + 1, fun k hk => ?_⟩
        try dsimp only
        obtain ⟨m, rfl⟩ : ∃ m, k = m + 1 := ⟨k - 1, by omega⟩
        have hm := hK m (by omega)
        rw [impl_PackPut.l0, if_pos (by omega), hK1 m (by omega), Option.bind_some, if_pos c, if_pos h0, Option.bind_some, w64 (x := 257 - _) (by omega), show (257 - (cutM L at_ 3).1) % 256 = 257 - (cutM L at_ 3).1 by omega, if_pos (by simp; omega), w64 (by omega), ← hpi]
        exact hm
      · have hpi : ppP L at_ = [(cutM L at_ 3).1 - 1] ++ (L.drop at_.toNat).take (cutM L at_ 3).1.toNat := by unfold ppP; rw [if_neg c]; rfl
        have hdt : (L.take (at_ + (cutM L at_ 3).1).toNat).drop at_.toNat = (L.drop at_.toNat).take (cutM L at_ 3).1.toNat := by
          rw [List.take_drop, show at_.toNat + (cutM L at_ 3).1.toNat = (at_ + (cutM L at_ 3).1).toNat by omega]
        refine ⟨K + K1 + 1, fun k hk => ?_⟩
        try dsimp only
        obtain ⟨m, rfl⟩ : ∃ m, k = m + 1 := ⟨k - 1, by omega⟩
        have hm := hK m (by omega)
        rw [impl_PackPut.l0, if_pos (by omega), hK1 m (by omega), Option.bind_some, if_neg c, if_pos (by omega), Option.bind_some, if_pos h0, w64 (x := at_ + _) (by omega), if_pos (by omega), if_pos (by omega), hdt, w64 (x := (cutM L at_ 3).1 - 1) (by omega), show ((cutM L at_ 3).1 - 1) % 256 = (cutM L at_ 3).1 - 1 by omega, if_pos (by rw [List.length_append, List.length_take]; simp; omega), List.append_assoc, ← hpi]
        exact hm
    · rw [if_neg h]
      refine ⟨1, fun k hk => ?_⟩
      try dsimp only
      obtain ⟨m, rfl⟩ : ∃ m, k = m + 1 := ⟨k - 1, by omega⟩
      rw [impl_PackPut.l0, if_neg (by omega)]
      simp
theorem impl_PackPut_ev (s : ByteArray) : Ev (fun k => impl_PackPut.f k s) (packM s) := by
  unfold impl_PackPut.f packM
  by_cases h : s.size > 5000
  · exact ⟨0, fun k hk => by dsimp only; rw [if_pos (by omega), if_pos h]⟩
  · have hsz := bytesOf_length s
    obtain ⟨K, hK⟩ := impl_PackPut_l0_ev (bytesOf s) (by omega) s.size 0 [] (by omega) (by omega) (by omega) (by simp)
    try dsimp only at hK
    refine ⟨K, fun k hk => ?_⟩
    try dsimp only
    try dsimp only
    rw [if_neg (by omega), if_pos (by omega), if_neg h]
    exact hK k hk
theorem in_f (a b c : Int) : impl_in.f a b c = some (decide (b ≤ a ∧ a ≤ c)) := by
  unfold impl_in.f
  by_cases h : b ≤ a
  · rw [if_pos h]; simp [h]
  · rw [if_neg h]; simp [h]
theorem PackGet_l1_ev (s : ByteArray) (limit q need : Int) (hs : s.size ≤ 9000) (hl : limit ≤ 5000) (h0 : 0 ≤ q) (hn : 1 ≤ need) (hq : q + need ≤ s.size) (out : List Int) (times : Nat) (ht : times ≤ 200) (r : ByteArray × Int) (hlen : out.length + times * (bytesOf (s.extract q.toNat (q + need).toNat)).length ≤ 100000)
    (hfit : ((out ++ repC (bytesOf (s.extract q.toNat (q + need).toNat)) times).length : Int) ≤ limit) (hnext : Ev (fun k => impl_PackGet.l0 k s limit (out ++ repC (bytesOf (s.extract q.toNat (q + need).toNat)) times) (q + need)) r) :
    ∀ d j : Nat, j + d = times → Ev (fun k => impl_PackGet.l1 k s limit (out ++ repC (bytesOf (s.extract q.toNat (q + need).toNat)) j) q need (times : Int) (j : Int)) r := by
  intro d
  induction d with
  | zero =>
    intro j hj
    obtain ⟨K, hK⟩ := hnext
    try dsimp only at hK
    refine ⟨K + 1, fun k hk => ?_⟩
    try dsimp only
    obtain ⟨m, rfl⟩ : ∃ m, k = m + 1 := ⟨k - 1, by omega⟩
    have hm := hK m (by omega)
    rw [impl_PackGet.l1, if_neg (by omega), show j = times by omega, if_neg (by omega), w64 (by omega)]
    exact hm
  | succ d ih =>
    intro j hj
    obtain ⟨K, hK⟩ := ih (j + 1) (by omega)
    try dsimp only at hK
    refine ⟨K + 1, fun k hk => ?_⟩
    try dsimp only
    obtain ⟨m, rfl⟩ : ∃ m, k = m + 1 := ⟨k - 1, by omega⟩
    have hm := hK m (by omega)
    have hmul : j * (bytesOf (s.extract q.toNat (q + need).toNat)).length ≤ times * (bytesOf (s.extract q.toNat (q + need).toNat)).length := Nat.mul_le_mul_right _ (by omega)
    have hbl := bytesOf_length (s.extract q.toNat (q + need).toNat)
    have hbs : (s.extract q.toNat (q + need).toNat).size ≤ 9000 := by rw [ByteArray.size_extract]; omega
    rw [impl_PackGet.l1, if_pos (by omega), if_pos h0, w64 (x := q + need) (by omega), if_pos (by omega), if_pos hq, if_pos (by rw [List.length_append, repC_length]; omega), w64 (by omega), List.append_assoc]
    simp only [repC] at hm
    rw [show ((j + 1 : Nat) : Int) = (j : Int) + 1 by omega] at hm
    exact hm
theorem PackGet_l0_ev (s : ByteArray) (L : List Int) (hs : s.size ≤ 9000) (hl : L.length ≤ 5000) : ∀ (f a : Nat), a ≤ L.length → L.length ≤ a + f → ∀ pre : List Int, bytesOf s = pre ++ ppM L f (a : Int) → Ev (fun k => impl_PackGet.l0 k s 5000 (L.take a) (pre.length : Int)) (strOfNums L, 0) := by
  have hsz := bytesOf_length s
  have hend : ∀ (a : Nat) (pre : List Int), L.length ≤ a → bytesOf s = pre → Ev (fun k => impl_PackGet.l0 k s 5000 (L.take a) (pre.length : Int)) (strOfNums L, 0) := by
    intro a pre h1 hb
    refine ⟨1, fun k hk => ?_⟩
    try dsimp only
    obtain ⟨m, rfl⟩ : ∃ m, k = m + 1 := ⟨k - 1, by omega⟩
    rw [impl_PackGet.l0, if_neg (by rw [← hb]; omega), List.take_of_length_le h1]
  intro f
  induction f with
  | zero =>
    intro a h1 h2 pre hb
    exact hend a pre (by omega) (by simpa [ppM] using hb)
  | succ f ih =>
    intro a h1 h2 pre hb
    by_cases h : (a : Int) < L.length
    · have hc := cutM_b L a 3 (by omega) h (by omega)
      have htl : (L.take a).length = a := by rw [List.length_take]; omega
      obtain ⟨n, hn⟩ : ∃ n : Nat, (cutM L a 3).1 = (n : Int) := ⟨(cutM L a 3).1.toNat, by omega⟩
      simp only [ppM, if_pos h] at hb
      rw [hn, show (a : Int) + (n : Int) = ((a + n : Nat) : Int) by omega] at hb
      rw [hn] at hc
      by_cases c : (cutM L a 3).2 = true
      · have hs3 := hc.2.2.2 c
        have hp : ppP L a = [257 - (n : Int), rd L a] := by unfold ppP; rw [if_pos c, hn]
        rw [hp] at hb
        have hlen : s.size = pre.length + 2 + (ppM L f ((a + n : Nat) : Int)).length := by rw [← hsz, hb]; simp; omega
        have hbt : bt s (pre.length : Int) = 257 - (n : Int) := bt_split (pre := pre) (suf := rd L a :: ppM L f ((a + n : Nat) : Int)) (by rw [hb]; simp) rfl
        have hex : bytesOf (s.extract ((pre.length : Int) + 1).toNat ((pre.length : Int) + 1 + 1).toNat) = [rd L a] :=
          bytes_mid s (pre ++ [257 - (n : Int)]) [rd L a] (ppM L f ((a + n : Nat) : Int)) (by rw [hb]; simp) (by rw [List.length_append]; simp only [List.length_cons, List.length_nil]; omega) (by rw [List.length_append]; simp only [List.length_cons, List.length_nil]; omega)
        have hrep := repC_same L a n (by omega) hs3.2 n (by omega)
        have hnx := ih (a + n) (by omega) (by omega) (pre ++ [257 - (n : Int), rd L a]) (by rw [hb]; simp)
        have e1 : (((pre ++ [257 - (n : Int), rd L a]).length : Nat) : Int) = (pre.length : Int) + 1 + 1 := by rw [List.length_append]; simp only [List.length_cons, List.length_nil]; omega
        rw [e1] at hnx
        have h9 : (L.take a ++ repC [rd L a] n) = L.take (a + n) := by rw [hrep, take_more2]
        obtain ⟨K, hK⟩ := PackGet_l1_ev s 5000 ((pre.length : Int) + 1) 1 hs (by omega) (by omega) (by omega) (by omega) (L.take a) n (by omega) (strOfNums L, 0) (by rw [hex, htl]; simp; omega) (by rw [hex, h9, List.length_take]; omega) (by rw [hex, h9]; exact hnx) n 0 (by omega)
        try dsimp only at hK
        refine ⟨K + 2, fun k hk => ?_⟩
        try dsimp only
        obtain ⟨m, rfl⟩ : ∃ m, k = m + 2 := ⟨k - 2, by omega⟩
        have hm := hK m (by omega)
        simp only [repC, List.append_nil] at hm
        rw [impl_PackGet.l0, if_pos (by omega), if_pos (by omega), hbt, w64 (x := 257 - (n : Int)) (by omega), if_pos (by omega), w64 (x := (pre.length : Int) + 1) (by omega), show 257 - (257 - (n : Int)) = (n : Int) by omega, w64 (x := (n : Int)) (by omega), impl_PackGet.j2, if_neg (by omega), w64 (x := (s.size : Int) - _) (by omega), if_neg (by omega)]
        exact hm
      · have hp : ppP L a = ((n : Int) - 1) :: (L.drop a).take n := by unfold ppP; rw [if_neg c, hn, Int.toNat_natCast, Int.toNat_natCast]
        have hdl : ((L.drop a).take n).length = n := by rw [List.length_take, List.length_drop]; omega
        rw [hp] at hb
        have hlen : s.size = pre.length + 1 + n + (ppM L f ((a + n : Nat) : Int)).length := by rw [← hsz, hb]; simp only [List.length_append, List.length_cons, hdl]; omega
        have hbt : bt s (pre.length : Int) = (n : Int) - 1 := bt_split (pre := pre) (suf := (L.drop a).take n ++ ppM L f ((a + n : Nat) : Int)) (by rw [hb]; simp) rfl
        have hex : bytesOf (s.extract ((pre.length : Int) + 1).toNat ((pre.length : Int) + 1 + (n : Int)).toNat) = (L.drop a).take n :=
          bytes_mid s (pre ++ [(n : Int) - 1]) ((L.drop a).take n) (ppM L f ((a + n : Nat) : Int)) (by rw [hb]; simp) (by rw [List.length_append]; simp only [List.length_cons, List.length_nil]; omega) (by rw [hdl, List.length_append]; simp only [List.length_cons, List.length_nil]; omega)
        have hnx := ih (a + n) (by omega) (by omega) (pre ++ ((n : Int) - 1) :: (L.drop a).take n) (by rw [hb]; simp)
        have e1 : (((pre ++ ((n : Int) - 1) :: (L.drop a).take n).length : Nat) : Int) = (pre.length : Int) + 1 + (n : Int) := by rw [List.length_append, List.length_cons, hdl]; omega
        rw [e1] at hnx
        have h9 : (L.take a ++ repC ((L.drop a).take n) 1) = L.take (a + n) := by simp only [repC, List.nil_append]; rw [take_more2]
        obtain ⟨K, hK⟩ := PackGet_l1_ev s 5000 ((pre.length : Int) + 1) (n : Int) hs (by omega) (by omega) (by omega) (by omega) (L.take a) 1 (by omega) (strOfNums L, 0) (by rw [hex, htl, hdl]; omega) (by rw [hex, h9, List.length_take]; omega) (by rw [hex, h9]; exact hnx) 1 0 (by omega)
        try dsimp only at hK
        refine ⟨K + 2, fun k hk => ?_⟩
        try dsimp only
        obtain ⟨m, rfl⟩ : ∃ m, k = m + 2 := ⟨k - 2, by omega⟩
        have hm := hK m (by omega)
        simp only [repC, List.append_nil] at hm
        rw [impl_PackGet.l0, if_pos (by omega), if_pos (by omega), hbt, w64 (x := (n : Int) - 1) (by omega), if_neg (by omega), w64 (x := (pre.length : Int) + 1) (by omega), show (n : Int) - 1 + 1 = (n : Int) by omega, w64 (x := (n : Int)) (by omega), impl_PackGet.j2, if_neg (by omega), w64 (x := (s.size : Int) - _) (by omega), if_neg (by omega)]
        exact hm
    · exact hend a pre (by omega) (by simpa [ppM, h] using hb)
/-- A drawing's bytes. -/
def Code (b : List Int) : Prop := b.length ≤ 2000 ∧ ∀ x ∈ b, 0 ≤ x ∧ x ≤ 255
theorem l1Open_f (l : List Int) : spec_l1Open.f l = some (l.take 2000, 0) := by
  unfold spec_l1Open.f
  by_cases h : (l.length : Int) > 2000
  · rw [if_pos h, if_pos (by omega)]
  · rw [if_neg h, List.take_of_length_le (by omega)]
theorem code_open {l : List Int} (h : ∀ x ∈ l, (Lit.int .u8 x).wf = true) : Code (l.take 2000) := by
  refine ⟨by rw [List.length_take]; omega, fun x hx => ?_⟩
  have := h x (List.mem_of_mem_take hx)
  simp [Lit.wf, IntKind.min, IntKind.max, IntKind.bits, IntKind.signed] at this
  omega
theorem code_rd {b : List Int} (h : Code b) (i : Int) : 0 ≤ rd b i ∧ rd b i ≤ 255 := by
  rcases rd_mem_or b i with h1 | h1
  · exact h.2 _ h1
  · omega
/-- What is picked is there, and the place is one further. -/
theorem pick_ev {b : List Int} (hb : Code b) {p n : Int} (hp : 0 ≤ p ∧ p ≤ 1099511627776) (hn : n ≤ 1099511627776) : ∃ v : Int, (0 ≤ v ∧ (v < n ∨ n < 1 ∧ v = 0)) ∧ Ev (fun k => spec_l1Rd_pick.f k b p n) (v, p + 1) := by
  unfold spec_l1Rd_pick.f
  rw [w64 (x := p + 1) (by omega)]
  by_cases h1 : n < 1
  · refine ⟨0, ⟨by omega, .inr ⟨h1, rfl⟩⟩, 1, fun k hk => ?_⟩
    try dsimp only
    obtain ⟨m, rfl⟩ : ∃ m, k = m + 1 := ⟨k - 1, by omega⟩
    try dsimp only
    rw [if_pos h1, spec_l1Rd_pick.j0, if_pos rfl]
  by_cases h2 : b.length = 0
  · refine ⟨0, ⟨by omega, .inl (by omega)⟩, 1, fun k hk => ?_⟩
    try dsimp only
    obtain ⟨m, rfl⟩ : ∃ m, k = m + 1 := ⟨k - 1, by omega⟩
    try dsimp only
    rw [if_neg h1, spec_l1Rd_pick.j0, if_pos (by simp [h2])]
  have e0 : wrap64 (p + 1 - 1) = p := by rw [w64 (by omega)]; omega
  by_cases h3 : p < b.length
  · have hr := code_rd hb p
    refine ⟨rd b p % n, ⟨Int.emod_nonneg _ (by omega), .inl (Int.emod_lt_of_pos _ (by omega))⟩, 1, fun k hk => ?_⟩
    try dsimp only
    obtain ⟨m, rfl⟩ : ∃ m, k = m + 1 := ⟨k - 1, by omega⟩
    try dsimp only
    rw [if_neg h1, spec_l1Rd_pick.j0, if_neg (by simpa using h2), e0, if_pos h3, if_pos hp.1, if_neg (by omega), w64 (by omega), tmod_pos hr.1]
  · have hl := hb.1
    have m1 : 0 ≤ p % (b.length : Int) ∧ p % (b.length : Int) < b.length := ⟨Int.emod_nonneg _ (by omega), Int.emod_lt_of_pos _ (by omega)⟩
    have m2 : 0 ≤ (p * 7 + 3) % (b.length : Int) ∧ (p * 7 + 3) % (b.length : Int) < b.length := ⟨Int.emod_nonneg _ (by omega), Int.emod_lt_of_pos _ (by omega)⟩
    have r1 := code_rd hb (p % (b.length : Int))
    have r2 := code_rd hb ((p * 7 + 3) % (b.length : Int))
    have q1 : 0 ≤ p / (b.length : Int) := Int.ediv_nonneg hp.1 (by omega)
    have q2 : p / (b.length : Int) ≤ p := Int.ediv_le_self _ hp.1
    obtain ⟨X, hX⟩ : ∃ X, X = rd b (p % (b.length : Int)) * 131 + rd b ((p * 7 + 3) % (b.length : Int)) * 1117 + p * 29 + p / (b.length : Int) * 53 := ⟨_, rfl⟩
    have bX : 0 ≤ X ∧ X ≤ 4611686018427387904 := by omega
    have hx := xor_b (x := X) (y := X / 64) (by omega) (by omega)
    refine ⟨Go.bits .xor .i64 X (X / 64) % n, ⟨Int.emod_nonneg _ (by omega), .inl (Int.emod_lt_of_pos _ (by omega))⟩, 1, fun k hk => ?_⟩
    try dsimp only
    obtain ⟨m, rfl⟩ : ∃ m, k = m + 1 := ⟨k - 1, by omega⟩
    try dsimp only
    rw [if_neg h1, spec_l1Rd_pick.j0, if_neg (by simpa using h2), e0, if_neg h3, if_neg (by omega)]
    rw [w64 (x := p * 7) (by omega), w64 (x := p * 7 + 3) (by omega), tmod_pos (a := p) hp.1, tmod_pos (a := p * 7 + 3) (by omega), tdiv_pos (a := p) hp.1]
    rw [if_pos m1.1, if_pos m1.2, if_pos m2.1, if_pos m2.2, if_neg (by omega)]
    rw [w64 (x := rd b (p % (b.length : Int))) (by omega), w64 (x := rd b ((p * 7 + 3) % (b.length : Int))) (by omega), w64 (x := p / (b.length : Int)) (by omega)]
    rw [w64 (x := rd b (p % (b.length : Int)) * 131) (by omega), w64 (x := rd b ((p * 7 + 3) % (b.length : Int)) * 1117) (by omega), w64 (x := p * 29) (by omega), w64 (x := p / (b.length : Int) * 53) (by omega)]
    rw [w64 (x := rd b (p % (b.length : Int)) * 131 + rd b ((p * 7 + 3) % (b.length : Int)) * 1117) (by omega), w64 (x := rd b (p % (b.length : Int)) * 131 + rd b ((p * 7 + 3) % (b.length : Int)) * 1117 + p * 29) (by omega), w64 (x := rd b (p % (b.length : Int)) * 131 + rd b ((p * 7 + 3) % (b.length : Int)) * 1117 + p * 29 + p / (b.length : Int) * 53) (by omega), ← hX]
    rw [tdiv_pos (by omega), w64 (x := X / 64) (by omega), tmod_pos hx.1]
theorem of_ev {b : List Int} (hb : Code b) {p : Int} (hp : 0 ≤ p ∧ p ≤ 1000000000) (l : List ByteArray) (hl : 1 ≤ l.length) (hl2 : l.length ≤ 1000) : ∃ s, s ∈ l ∧ Ev (fun k => spec_l1Rd_of.f k b p l) (s, p + 1) := by
  obtain ⟨v, hv, K, hK⟩ := pick_ev hb (p := p) (n := (l.length : Int)) (by omega) (by omega)
  try dsimp only at hK
  try dsimp only at hK
  have hvl : v.toNat < l.length := by omega
  have e : rdOf ByteArray.empty l v = l[v.toNat] := by
    unfold rdOf; rw [List.getD_eq_getElem?_getD, List.getElem?_eq_getElem hvl]; rfl
  refine ⟨l[v.toNat], List.getElem_mem _, K, fun k hk => ?_⟩
  try dsimp only
  try dsimp only
  unfold spec_l1Rd_of.f
  rw [hK k hk]
  simp only [Option.bind_some]
  rw [if_pos (by omega), if_pos (by omega), e]
def manyM (s : ByteArray) : Nat → ByteArray
  | 0 => ⟨#[]⟩
  | n + 1 => manyM s n ++ s
theorem manyM_size (s : ByteArray) (n : Nat) : (manyM s n).size = n * s.size := by
  induction n with
  | zero => rw [Nat.zero_mul]; rfl
  | succ n ih => simp only [manyM, ByteArray.size_append, ih, Nat.succ_mul]
theorem l1Many_l0_ev (s : ByteArray) (n : Nat) (hn : n ≤ 100000) (hs : s.size ≤ 100000) : ∀ d i : Nat, i + d = n → Ev (fun k => spec_l1Many.l0 k s (n : Int) (manyM s i) (i : Int)) (manyM s n) := by
  intro d
  induction d with
  | zero =>
    intro i hi
    refine ⟨1, fun k hk => ?_⟩
    try dsimp only
    obtain ⟨m, rfl⟩ : ∃ m, k = m + 1 := ⟨k - 1, by omega⟩
    rw [spec_l1Many.l0, if_neg (by omega), show i = n by omega]
  | succ d ih =>
    intro i hi
    obtain ⟨K, hK⟩ := ih (i + 1) (by omega)
    try dsimp only at hK
    refine ⟨K + 1, fun k hk => ?_⟩
    try dsimp only
    obtain ⟨m, rfl⟩ : ∃ m, k = m + 1 := ⟨k - 1, by omega⟩
    have hm := hK m (by omega)
    have hz := manyM_size s i
    have hz2 : i * s.size ≤ 100000 * 100000 := Nat.mul_le_mul (by omega) hs
    rw [spec_l1Many.l0, if_pos (by omega), if_pos (by omega), w64 (by omega)]
    simp only [manyM] at hm
    rw [show ((i + 1 : Nat) : Int) = (i : Int) + 1 by omega] at hm
    exact hm
theorem l1Many_ev (s : ByteArray) (n : Int) (h0 : 0 ≤ n) (hn : n ≤ 100000) (hs : s.size ≤ 100000) : Ev (fun k => spec_l1Many.f k s n) (manyM s n.toNat) := by
  have h := l1Many_l0_ev s n.toNat (by omega) hs n.toNat 0 (by omega)
  rw [Int.toNat_of_nonneg h0] at h
  exact h
/-- A drawn text: short, or as many t's as may be, or one more. -/
def Short (s : ByteArray) : Prop := s.size ≤ 300 ∨ ∃ n : Nat, (9000 ≤ n ∧ n ≤ 9001) ∧ s = manyM ⟨#[116]⟩ n
theorem short_size {s : ByteArray} (h : Short s) : s.size ≤ 9001 := by
  rcases h with h | ⟨n, hn, rfl⟩
  · omega
  · rw [manyM_size, show (⟨#[116]⟩ : ByteArray).size = 1 from rfl]; omega
theorem l14Text_l1_ev {b : List Int} (hb : Code b) (n : Int) (P : Int) (S A : Nat) (C : Int) (hP : P ≤ 1000000) (hS : S ≤ 300)
    (next : ∀ (s : ByteArray) (p : Int), 0 ≤ p → p ≤ P → s.size ≤ S → ∃ (s' : ByteArray) (p' : Int), (s'.size ≤ s.size + A ∧ p ≤ p' ∧ p' ≤ p + C) ∧ Ev (fun k => spec_l14Text.l0 k s (wrap64 (n - 1)) b p) (s', p')) :
    ∀ (d : Nat) (s : ByteArray) (p : Int), d ≤ 12 → 0 ≤ p → p + d ≤ P → s.size + d ≤ S → ∃ (s' : ByteArray) (p' : Int), (s'.size ≤ s.size + d + A ∧ p ≤ p' ∧ p' ≤ p + d + C) ∧ Ev (fun k => spec_l14Text.l1 k s n (d : Int) b p) (s', p') := by
  intro d
  induction d with
  | zero =>
    intro s p hd h0 hp hs
    obtain ⟨s', p', hh, K, hK⟩ := next s p h0 (by omega) (by omega)
    try dsimp only at hK
    refine ⟨s', p', by omega, K + 1, fun k hk => ?_⟩
    try dsimp only
    obtain ⟨m, rfl⟩ : ∃ m, k = m + 1 := ⟨k - 1, by omega⟩
    try dsimp only
    rw [spec_l14Text.l1, if_neg (by omega)]
    exact hK m (by omega)
  | succ d ih =>
    intro s p hd h0 hp hs
    obtain ⟨v, hv, K1, hK1⟩ := pick_ev hb (p := p) (n := 256) (by omega) (by omega)
    try dsimp only at hK1
    try dsimp only at hK1
    have hz : (s ++ strOfNums [v % 256]).size = s.size + 1 := by rw [ByteArray.size_append, strOfNums_size]; rfl
    have hz1 : (strOfNums [v % 256]).size = 1 := by rw [strOfNums_size]; rfl
    obtain ⟨s', p', hh, K, hK⟩ := ih (s ++ strOfNums [v % 256]) (p + 1) (by omega) (by omega) (by omega) (by omega)
    try dsimp only at hK
    refine ⟨s', p', by omega, K + K1 + 1, fun k hk => ?_⟩
    try dsimp only
    obtain ⟨m, rfl⟩ : ∃ m, k = m + 1 := ⟨k - 1, by omega⟩
    try dsimp only
    rw [spec_l14Text.l1, if_pos (by omega), hK1 m (by omega)]
    simp only [Option.bind_some]
    rw [if_pos (by omega), w64 (by omega), show ((d + 1 : Nat) : Int) - 1 = (d : Int) by omega]
    exact hK m (by omega)
theorem l14Text_l0_ev {b : List Int} (hb : Code b) : ∀ (n : Nat) (s : ByteArray) (p : Int), n ≤ 6 → 0 ≤ p → p ≤ 1000000 - 20 * n → s.size + 39 * n ≤ 300 → ∃ (s' : ByteArray) (p' : Int), (s'.size ≤ s.size + 39 * n ∧ p ≤ p' ∧ p' ≤ p + 20 * n) ∧ Ev (fun k => spec_l14Text.l0 k s (n : Int) b p) (s', p') := by
  intro n
  induction n with
  | zero =>
    intro s p hn h0 hp hs
    refine ⟨s, p, by omega, 1, fun k hk => ?_⟩
    try dsimp only
    obtain ⟨m, rfl⟩ : ∃ m, k = m + 1 := ⟨k - 1, by omega⟩
    try dsimp only
    rw [spec_l14Text.l0, if_neg (by omega)]
  | succ n ih =>
    intro s p hn h0 hp hs
    obtain ⟨v, hv, K1, hK1⟩ := pick_ev hb (p := p) (n := 5) (by omega) (by omega)
    try dsimp only at hK1
    try dsimp only at hK1
    have en : wrap64 (((n + 1 : Nat) : Int) - 1) = (n : Int) := by rw [w64 (by omega)]; omega
    by_cases v0 : v = 0
    · obtain ⟨t, ht, K2, hK2⟩ := of_ev hb (p := p + 1) (by omega) [(⟨#[97]⟩ : ByteArray), (⟨#[98]⟩ : ByteArray), (⟨#[0]⟩ : ByteArray), (⟨#[255]⟩ : ByteArray)] (by decide) (by decide)
      try dsimp only at hK2
      try dsimp only at hK2
      have hts : t.size = 1 := by simp at ht; rcases ht with rfl | rfl | rfl | rfl <;> rfl
      obtain ⟨u, hu, K3, hK3⟩ := pick_ev hb (p := p + 1 + 1) (n := 40) (by omega) (by omega)
      try dsimp only at hK3
      try dsimp only at hK3
      obtain ⟨K4, hK4⟩ := l1Many_ev t u (by omega) (by omega) (by omega)
      try dsimp only at hK4
      try dsimp only at hK4
      have hz := manyM_size t u.toNat
      rw [hts, Nat.mul_one] at hz
      obtain ⟨s', p', hh, K, hK⟩ := ih (s ++ manyM t u.toNat) (p + 1 + 1 + 1) (by omega) (by omega) (by omega) (by rw [ByteArray.size_append]; omega)
      try dsimp only at hK
      rw [ByteArray.size_append] at hh
      refine ⟨s', p', by omega, K + K1 + K2 + K3 + K4 + 1, fun k hk => ?_⟩
      try dsimp only
      obtain ⟨m, rfl⟩ : ∃ m, k = m + 1 := ⟨k - 1, by omega⟩
      try dsimp only
      rw [spec_l14Text.l0, if_pos (by omega), hK1 m (by omega)]
      simp only [Option.bind_some]
      rw [if_pos v0, hK2 m (by omega)]
      simp only [Option.bind_some]
      rw [hK3 m (by omega)]
      simp only [Option.bind_some]
      rw [hK4 m (by omega)]
      simp only [Option.bind_some]
      rw [if_pos (by omega), en]
      exact hK m (by omega)
    by_cases v1 : v = 1
    · obtain ⟨s', p', hh, K, hK⟩ := ih (s ++ (⟨#[97, 32, 116, 101, 120, 116, 32, 116, 104, 97, 116, 32, 99, 111, 109, 101, 115, 32, 97, 103, 97, 105, 110, 44, 32]⟩ : ByteArray)) (p + 1) (by omega) (by omega) (by omega) (by rw [ByteArray.size_append, show (⟨#[97, 32, 116, 101, 120, 116, 32, 116, 104, 97, 116, 32, 99, 111, 109, 101, 115, 32, 97, 103, 97, 105, 110, 44, 32]⟩ : ByteArray).size = 25 from rfl]; omega)
      try dsimp only at hK
      rw [ByteArray.size_append, show (⟨#[97, 32, 116, 101, 120, 116, 32, 116, 104, 97, 116, 32, 99, 111, 109, 101, 115, 32, 97, 103, 97, 105, 110, 44, 32]⟩ : ByteArray).size = 25 from rfl] at hh
      refine ⟨s', p', by omega, K + K1 + 1, fun k hk => ?_⟩
      try dsimp only
      obtain ⟨m, rfl⟩ : ∃ m, k = m + 1 := ⟨k - 1, by omega⟩
      try dsimp only
      rw [spec_l14Text.l0, if_pos (by omega), hK1 m (by omega)]
      simp only [Option.bind_some]
      rw [if_neg v0, if_pos v1, if_pos (by omega), en]
      exact hK m (by omega)
    by_cases v2 : v = 2
    · obtain ⟨u, hu, K3, hK3⟩ := pick_ev hb (p := p + 1) (n := 12) (by omega) (by omega)
      try dsimp only at hK3
      try dsimp only at hK3
      obtain ⟨s', p', hh, K, hK⟩ := l14Text_l1_ev hb ((n + 1 : Nat) : Int) (1000000 - 20 * n) (300 - 39 * n) (39 * n) (20 * n) (by omega) (by omega) (fun s p a1 a2 a3 => by rw [en]; exact ih s p (by omega) a1 a2 (by omega)) u.toNat s (p + 1 + 1) (by omega) (by omega) (by omega) (by omega)
      try dsimp only at hK
      rw [Int.toNat_of_nonneg (by omega)] at hK
      refine ⟨s', p', by omega, K + K1 + K3 + 1, fun k hk => ?_⟩
      try dsimp only
      obtain ⟨m, rfl⟩ : ∃ m, k = m + 1 := ⟨k - 1, by omega⟩
      try dsimp only
      rw [spec_l14Text.l0, if_pos (by omega), hK1 m (by omega)]
      simp only [Option.bind_some]
      rw [if_neg v0, if_neg v1, if_pos v2, hK3 m (by omega)]
      simp only [Option.bind_some]
      exact hK m (by omega)
    · obtain ⟨t, ht, K2, hK2⟩ := of_ev hb (p := p + 1) (by omega) [(⟨#[120]⟩ : ByteArray), (⟨#[97, 98, 99]⟩ : ByteArray), (⟨#[97, 98, 99, 97, 98, 99, 97, 98, 99, 100]⟩ : ByteArray), (⟨#[32]⟩ : ByteArray)] (by decide) (by decide)
      try dsimp only at hK2
      try dsimp only at hK2
      have hts : t.size ≤ 10 := by simp at ht; rcases ht with rfl | rfl | rfl | rfl <;> decide
      obtain ⟨s', p', hh, K, hK⟩ := ih (s ++ t) (p + 1 + 1) (by omega) (by omega) (by omega) (by rw [ByteArray.size_append]; omega)
      try dsimp only at hK
      rw [ByteArray.size_append] at hh
      refine ⟨s', p', by omega, K + K1 + K2 + 1, fun k hk => ?_⟩
      try dsimp only
      obtain ⟨m, rfl⟩ : ∃ m, k = m + 1 := ⟨k - 1, by omega⟩
      try dsimp only
      rw [spec_l14Text.l0, if_pos (by omega), hK1 m (by omega)]
      simp only [Option.bind_some]
      rw [if_neg v0, if_neg v1, if_neg v2, hK2 m (by omega)]
      simp only [Option.bind_some]
      rw [if_pos (by omega), en]
      exact hK m (by omega)
theorem l14Text_ev {b : List Int} (hb : Code b) {p : Int} (hp : 0 ≤ p ∧ p ≤ 900000) : ∃ (s : ByteArray) (p' : Int), (Short s ∧ p ≤ p' ∧ p' ≤ p + 200) ∧ Ev (fun k => spec_l14Text.f k b p) (s, p') := by
  obtain ⟨v, hv, K1, hK1⟩ := pick_ev hb (p := p) (n := 150) (by omega) (by omega)
  try dsimp only at hK1
  try dsimp only at hK1
  by_cases v0 : v = 0
  · obtain ⟨u, hu, K2, hK2⟩ := pick_ev hb (p := p + 1) (n := 2) (by omega) (by omega)
    try dsimp only at hK2
    try dsimp only at hK2
    obtain ⟨K3, hK3⟩ := l1Many_ev (⟨#[116]⟩ : ByteArray) (9000 + u) (by omega) (by omega) (by decide)
    try dsimp only at hK3
    try dsimp only at hK3
    refine ⟨manyM ⟨#[116]⟩ (9000 + u).toNat, p + 1 + 1, ⟨?_, by omega, by omega⟩, K1 + K2 + K3, fun k hk => ?_⟩
    try dsimp only
    · exact .inr ⟨_, by omega, rfl⟩
    · dsimp only
      unfold spec_l14Text.f
      rw [hK1 k (by omega)]
      simp only [Option.bind_some]
      rw [if_pos v0, hK2 k (by omega)]
      simp only [Option.bind_some]
      rw [w64 (by omega), hK3 k (by omega)]
      rfl
  · obtain ⟨u, hu, K2, hK2⟩ := pick_ev hb (p := p + 1) (n := 7) (by omega) (by omega)
    try dsimp only at hK2
    try dsimp only at hK2
    obtain ⟨s', p', hh, K, hK⟩ := l14Text_l0_ev hb u.toNat (⟨#[]⟩ : ByteArray) (p + 1 + 1) (by omega) (by omega) (by omega) (by rw [show (⟨#[]⟩ : ByteArray).size = 0 from rfl]; omega)
    try dsimp only at hK
    rw [show (⟨#[]⟩ : ByteArray).size = 0 from rfl] at hh
    rw [Int.toNat_of_nonneg (by omega)] at hK
    refine ⟨s', p', ⟨.inl (by omega), by omega, by omega⟩, K + K1 + K2, fun k hk => ?_⟩
    try dsimp only
    try dsimp only
    unfold spec_l14Text.f
    rw [hK1 k (by omega)]
    simp only [Option.bind_some]
    rw [if_neg v0, hK2 k (by omega)]
    simp only [Option.bind_some]
    exact hK k (by omega)

theorem drawPackPut_ev {b : List Int} (hb : ∀ x ∈ b, (Lit.int .u8 x).wf = true) : ∃ s : ByteArray, s.size ≤ 9001 ∧ Ev (fun k => spec_DrawPackPut.f k b) s := by
  have hc := code_open hb
  obtain ⟨v, hv, K1, hK1⟩ := pick_ev hc (p := 0) (n := 8) (by omega) (by omega)
  try dsimp only at hK1
  try dsimp only at hK1
  by_cases h : v = 0
  · obtain ⟨s, hs, K2, hK2⟩ := of_ev hc (p := 0 + 1) (by omega) ([(⟨#[97]⟩ : ByteArray), (⟨#[97, 98]⟩ : ByteArray), (⟨#[97, 97, 98]⟩ : ByteArray), (⟨#[97, 98, 99, 100]⟩ : ByteArray)] : List ByteArray) (by simp) (by simp)
    try dsimp only at hK2
    try dsimp only at hK2
    obtain ⟨u, hu, K3, hK3⟩ := pick_ev hc (p := 0 + 1 + 1) (n := 90) (by omega) (by omega)
    try dsimp only at hK3
    try dsimp only at hK3
    have hsz : s.size ≤ 4 := by
      simp only [List.mem_cons, List.not_mem_nil, or_false] at hs
      rcases hs with rfl | rfl | rfl | rfl <;> decide
    obtain ⟨K4, hK4⟩ := l1Many_ev s (100 + u) (by omega) (by omega) (by omega)
    try dsimp only at hK4
    try dsimp only at hK4
    refine ⟨manyM s (100 + u).toNat, ?_, K1 + K2 + K3 + K4, fun k hk => ?_⟩
    try dsimp only
    · rw [manyM_size]
      have : (100 + u).toNat * s.size ≤ 189 * 4 := Nat.mul_le_mul (by omega) hsz
      omega
    · dsimp only
      unfold spec_DrawPackPut.f
      rw [l1Open_f, Option.bind_some]
      try dsimp only
      rw [hK1 k (by omega), Option.bind_some]
      try dsimp only
      rw [if_pos h, hK2 k (by omega), Option.bind_some]
      try dsimp only
      rw [hK3 k (by omega), Option.bind_some]
      try dsimp only
      rw [w64 (by omega), hK4 k (by omega), Option.bind_some]
  · obtain ⟨s, p1, hs, K2, hK2⟩ := l14Text_ev hc (p := 0 + 1) (by omega)
    try dsimp only at hK2
    try dsimp only at hK2
    refine ⟨s, short_size hs.1, K1 + K2, fun k hk => ?_⟩
    try dsimp only
    try dsimp only
    unfold spec_DrawPackPut.f
    rw [l1Open_f, Option.bind_some]
    try dsimp only
    rw [hK1 k (by omega), Option.bind_some]
    try dsimp only
    rw [if_neg h, hK2 k (by omega), Option.bind_some]
theorem FnPack : laws_FnPack.Pure := by
  intro l hl hl1 hw
  unfold laws_FnPack.f
  by_cases h : (l.length : Int) > 1048576
  · exact ⟨0, by rw [if_pos h]⟩
  obtain ⟨s, hs, K1, hK1⟩ := drawPackPut_ev hw
  try dsimp only at hK1
  try dsimp only at hK1
  obtain ⟨K2, hK2⟩ := impl_PackPut_ev s
  try dsimp only at hK2
  obtain ⟨K3, hK3⟩ := spec_PackPut_ev s
  try dsimp only at hK3
  try dsimp only at hK2 hK3
  by_cases h5 : s.size > 5000
  · have e : packM s = (⟨#[]⟩ : ByteArray) := by unfold packM; rw [if_pos h5]
    refine ⟨K1 + K2 + K3, ?_⟩
    rw [if_neg h, hK1 _ (by omega), Option.bind_some, hK2 _ (by omega), Option.bind_some, hK3 _ (by omega), Option.bind_some, if_pos rfl, if_pos (by omega), e]
    rw [byte_toList]; rfl
  · have e : packM s = strOfNums (ppM (bytesOf s) s.size 0) := by unfold packM; rw [if_neg h5]
    have hbl := bytesOf_length s
    have hlen := (ppM_length (bytesOf s) s.size 0 s.size (by omega) (by omega) (by omega)).1
    have hps : (packM s).size = (ppM (bytesOf s) s.size 0).length := by rw [e, strOfNums_size]
    have hpb : bytesOf (packM s) = ppM (bytesOf s) s.size 0 := by rw [e, bytesOf_son (ppM_bytes (bytesOf s) (bytesOf_b s) s.size 0 (by omega))]
    obtain ⟨K4, hK4⟩ := PackGet_l0_ev (packM s) (bytesOf s) (by omega) (by omega) s.size 0 (by omega) (by omega) [] (by rw [hpb]; rfl)
    try dsimp only at hK4
    try dsimp only at hK4
    rw [son_bytesOf] at hK4
    refine ⟨K1 + K2 + K3 + K4 + 1, ?_⟩
    rw [if_neg h, hK1 _ (by omega), Option.bind_some, hK2 _ (by omega), Option.bind_some, hK3 _ (by omega), Option.bind_some, if_pos rfl, if_neg (by omega)]
    have hg : impl_PackGet.f (K1 + K2 + K3 + K4 + 1) (packM s) 5000 = some (s, 0) := by
      unfold impl_PackGet.f
      rw [if_neg (by omega), in_f, Option.bind_some, impl_PackGet.j0, decide_eq_true (by omega), if_neg (by decide)]
      exact hK4 _ (by omega)
    rw [hg, Option.bind_some]
    try dsimp only
    rw [if_pos rfl, if_pos rfl, tdiv_pos (by rw [w64 (by omega)]; omega), w64 (x := (s.size : Int) + 127) (by omega), w64 (x := ((s.size : Int) + 127) / 128) (by omega), w64 (by omega), decide_eq_true (by omega)]

end Go.Proofs.Ytfladcffgblfdaa.Pure
