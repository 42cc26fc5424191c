/- The program's PackPut and the reference's answer the same, at every text of at most 1048576 bytes (a longer one is let by). -/
import Derived.Test.YtehjfjngnofgmaaHFnExactPackPutx2
import Derived.Test.YtehjfjngnofgmaaThNum
import Derived.Test.YtehjfjngnofgmaaThPack
namespace Go.Proofs.Ytehjfjngnofgmaa.Pure
open Go.RowKit Go.Proofs.Ytehjfjngnofgmaa.PFnExactPackPut Go.Proofs.YtehjfjngnofgmaaW.PrintWords Go.Proofs.YtehjfjngnofgmaaW.PrintLast Go.Proofs.YtehjfjngnofgmaaW.PrintMore Go.Proofs.Ytehjfjngnofgmaa.Th
set_option linter.unusedVariables false
set_option linter.unusedSimpArgs false

theorem alike_l0 (k : Nat) (s : ByteArray) (a m n : Int) : spec_l7Alike.l0 (k + 1) s a m n = if n < m then (if (wrap64 (a + n)) < ((bytesOf s).length : Int) then (if 0 ≤ (wrap64 (a + n)) then (if 0 ≤ a then (if a < ((bytesOf s).length : Int) then (if (rd (bytesOf s) (wrap64 (a + n))) = (rd (bytesOf s) a) then (spec_l7Alike.l0 k s a m (wrap64 (n + 1))) else (some n)) else (none)) else (none)) else (none)) else (some n)) else (some n) := by
  rw [spec_l7Alike.l0]; simp only [bytesOf_length, rd_bytesOf]
theorem fresh_l0 (k : Nat) (s : ByteArray) (a m n : Int) : spec_l7Fresh.l0 (k + 1) s a m n = if n < m then (if (wrap64 (a + n)) < ((bytesOf s).length : Int) then ((spec_l7Alike.f k s (wrap64 (a + n)) 3).bind fun t => (if t < 3 then (spec_l7Fresh.l0 k s a m (wrap64 (n + 1))) else (some n))) else (some n)) else (some n) := by
  rw [spec_l7Fresh.l0]; simp only [bytesOf_length]
theorem l7Alike_l0_ev (s : ByteArray) (at_ most : Int) (h0 : 0 ≤ at_) (h : at_ < (bytesOf s).length) (hl : (bytesOf s).length ≤ 1048576) (hm : 1 ≤ most ∧ most ≤ 1000) :
    ∀ (d : Nat) (n : Int), 1 ≤ n → n ≤ smM (bytesOf s) at_ → n + d = most → Ev (fun k => spec_l7Alike.l0 k s at_ most n) (if smM (bytesOf s) at_ < most then smM (bytesOf s) at_ else most) := by
  have hb := smM_b (bytesOf s) at_ h0 h
  intro d
  induction d with
  | zero =>
    intro n h1 h2 h3
    refine ⟨1, fun k hk => ?_⟩
    try dsimp only
    obtain ⟨m, rfl⟩ : ∃ m, k = m + 1 := ⟨k - 1, by omega⟩
    rw [alike_l0, if_neg (by omega), if_neg (by omega), show n = most by omega]
  | succ d ih =>
    intro n h1 h2 h3
    by_cases e : n = smM (bytesOf s) at_
    · have hf := hb.2.2.2
      rw [← e] at hf
      refine ⟨1, fun k hk => ?_⟩
      try dsimp only
      obtain ⟨m, rfl⟩ : ∃ m, k = m + 1 := ⟨k - 1, by omega⟩
      rw [alike_l0, if_pos (by omega), w64 (x := at_ + n) (by omega), if_pos (show smM (bytesOf s) at_ < most by omega), ← e]
      by_cases c : at_ + n < (bytesOf s).length
      · have c2 : ¬ rd (bytesOf s) (at_ + n) = rd (bytesOf s) at_ := fun e2 => by rw [show smB (bytesOf s) at_ n = true from decide_eq_true ⟨c, e2⟩] at hf; simp at hf
        rw [if_pos c, if_pos (by omega), if_pos h0, if_pos h, if_neg c2]
      · rw [if_neg c]
    · have ht := of_decide_eq_true (hb.2.2.1 n h1 (by omega))
      obtain ⟨K, hK⟩ := ih (n + 1) (by omega) (by omega) (by omega)
      try dsimp only at hK
      refine ⟨K + 1, fun k hk => ?_⟩
      try dsimp only
      obtain ⟨m, rfl⟩ : ∃ m, k = m + 1 := ⟨k - 1, by omega⟩
      rw [alike_l0, if_pos (by omega), w64 (x := at_ + n) (by omega), if_pos ht.1, if_pos (by omega), if_pos h0, if_pos h, if_pos ht.2, w64 (by omega)]
      exact hK m (by omega)
theorem l7Alike_ev (s : ByteArray) (at_ most : Int) (h0 : 0 ≤ at_) (h : at_ < (bytesOf s).length) (hl : (bytesOf s).length ≤ 1048576) (hm : 1 ≤ most ∧ most ≤ 1000) : Ev (fun k => spec_l7Alike.f k s at_ most) (if smM (bytesOf s) at_ < most then smM (bytesOf s) at_ else most) :=
  l7Alike_l0_ev s at_ most h0 h hl hm (most - 1).toNat 1 (by omega) (smM_b (bytesOf s) at_ h0 h).1 (by omega)
theorem sameB_l0_ev (L : List Int) (at_ : Int) (h0 : 0 ≤ at_) (h : at_ < L.length) (hl : L.length ≤ 1048576) :
    ∀ (d : Nat) (n : Int), 1 ≤ n → n + d = smM L at_ → Ev (fun k => impl_same_byte.l0 k L at_ n) (smM L at_) := by
  have hb := smM_b L at_ h0 h
  intro d
  induction d with
  | zero =>
    intro n h1 h3
    have e : n = smM L at_ := by omega
    have hf := hb.2.2.2
    rw [← e] at hf
    refine ⟨1, fun k hk => ?_⟩
    try dsimp only
    obtain ⟨m, rfl⟩ : ∃ m, k = m + 1 := ⟨k - 1, by omega⟩
    rw [impl_same_byte.l0, w64 (x := at_ + n) (by omega), ← e]
    by_cases c : at_ + n < L.length
    · have c2 : ¬ rd L (at_ + n) = rd L at_ := fun e2 => by rw [show smB L at_ n = true from decide_eq_true ⟨c, e2⟩] at hf; simp at hf
      rw [if_pos c, if_pos (by omega), if_pos h0, if_pos h, if_neg c2]
    · rw [if_neg c]
  | succ d ih =>
    intro n h1 h3
    have ht := of_decide_eq_true (hb.2.2.1 n h1 (by omega))
    obtain ⟨K, hK⟩ := ih (n + 1) (by omega) (by omega)
    try dsimp only at hK
    refine ⟨K + 1, fun k hk => ?_⟩
    try dsimp only
    obtain ⟨m, rfl⟩ : ∃ m, k = m + 1 := ⟨k - 1, by omega⟩
    rw [impl_same_byte.l0, w64 (x := at_ + n) (by omega), if_pos ht.1, if_pos (by omega), if_pos h0, if_pos h, if_pos ht.2, w64 (by omega)]
    exact hK m (by omega)
theorem sameB_ev (L : List Int) (at_ : Int) (h0 : 0 ≤ at_) (h : at_ < L.length) (hl : L.length ≤ 1048576) : Ev (fun k => impl_same_byte.f k L at_) (smM L at_) := by
  have hb := smM_b L at_ h0 h
  exact sameB_l0_ev L at_ h0 h hl (smM L at_ - 1).toNat 1 (by omega) (by omega)
theorem l7Fresh_l0_ev (s : ByteArray) (at_ : Int) (h0 : 0 ≤ at_) (h : at_ < (bytesOf s).length) (hl : (bytesOf s).length ≤ 1048576) :
    ∀ (d : Nat) (n : Int), 1 ≤ n → n + d = 128 → Ev (fun k => spec_l7Fresh.l0 k s at_ 128 n) (otC (bytesOf s) at_ 3 d n) := by
  intro d
  induction d with
  | zero =>
    intro n h1 h3
    refine ⟨1, fun k hk => ?_⟩
    try dsimp only
    obtain ⟨m, rfl⟩ : ∃ m, k = m + 1 := ⟨k - 1, by omega⟩
    rw [fresh_l0, if_neg (by omega)]; rfl
  | succ d ih =>
    intro n h1 h3
    simp only [otC]
    by_cases c : at_ + n < (bytesOf s).length
    · obtain ⟨K1, hK1⟩ := l7Alike_ev s (at_ + n) 3 (by omega) c hl (by omega)
      try dsimp only at hK1
      obtain ⟨K, hK⟩ := ih (n + 1) (by omega) (by omega)
      try dsimp only at hK
      refine ⟨K + K1 + 1, fun k hk => ?_⟩
      try dsimp only
      obtain ⟨m, rfl⟩ : ∃ m, k = m + 1 := ⟨k - 1, by omega⟩
      have hm := hK m (by omega)
      rw [fresh_l0, if_pos (by omega), w64 (x := at_ + n) (by omega), if_pos c, hK1 m (by omega), Option.bind_some]
      by_cases c2 : smM (bytesOf s) (at_ + n) < 3
      · rw [if_pos (by rw [if_pos c2]; exact c2), if_pos (show otB (bytesOf s) at_ 3 n = true from decide_eq_true ⟨by omega, c, c2⟩), w64 (by omega)]; exact hm
      · rw [if_neg (by rw [if_neg c2]; omega), if_neg (show ¬ otB (bytesOf s) at_ 3 n = true from fun e => c2 (of_decide_eq_true e).2.2)]
    · refine ⟨1, fun k hk => ?_⟩
      try dsimp only
      obtain ⟨m, rfl⟩ : ∃ m, k = m + 1 := ⟨k - 1, by omega⟩
      rw [fresh_l0, if_pos (by omega), w64 (x := at_ + n) (by omega), if_neg c, if_neg (show ¬ otB (bytesOf s) at_ 3 n = true from fun e => c (of_decide_eq_true e).2.1)]
theorem cutB_l0_ev (L : List Int) (at_ : Int) (h0 : 0 ≤ at_) (h : at_ < L.length) (hl : L.length ≤ 1048576) :
    ∀ (d : Nat) (n : Int), 1 ≤ n → n + d = 128 → Ev (fun k => impl_cut_byte.l0 k L at_ 3 n) (otC L at_ 3 d n, false) := by
  intro d
  induction d with
  | zero =>
    intro n h1 h3
    refine ⟨1, fun k hk => ?_⟩
    try dsimp only
    obtain ⟨m, rfl⟩ : ∃ m, k = m + 1 := ⟨k - 1, by omega⟩
    rw [impl_cut_byte.l0, if_neg (by omega)]; rfl
  | succ d ih =>
    intro n h1 h3
    simp only [otC]
    by_cases c : at_ + n < L.length
    · obtain ⟨K1, hK1⟩ := sameB_ev L (at_ + n) (by omega) c hl
      try dsimp only at hK1
      obtain ⟨K, hK⟩ := ih (n + 1) (by omega) (by omega)
      try dsimp only at hK
      refine ⟨K + K1 + 1, fun k hk => ?_⟩
      try dsimp only
      obtain ⟨m, rfl⟩ : ∃ m, k = m + 1 := ⟨k - 1, by omega⟩
      have hm := hK m (by omega)
      rw [impl_cut_byte.l0, if_pos (by omega), w64 (x := at_ + n) (by omega), if_pos c, hK1 m (by omega), Option.bind_some]
      by_cases c2 : smM L (at_ + n) < 3
      · rw [if_pos c2, if_pos (show otB L at_ 3 n = true from decide_eq_true ⟨by omega, c, c2⟩), w64 (by omega)]; exact hm
      · rw [if_neg c2, if_neg (show ¬ otB L at_ 3 n = true from fun e => c2 (of_decide_eq_true e).2.2)]
    · refine ⟨1, fun k hk => ?_⟩
      try dsimp only
      obtain ⟨m, rfl⟩ : ∃ m, k = m + 1 := ⟨k - 1, by omega⟩
      rw [impl_cut_byte.l0, if_pos (by omega), w64 (x := at_ + n) (by omega), if_neg c, if_neg (show ¬ otB L at_ 3 n = true from fun e => c (of_decide_eq_true e).2.1)]
theorem cutB_ev (L : List Int) (at_ : Int) (h0 : 0 ≤ at_) (h : at_ < L.length) (hl : L.length ≤ 1048576) : Ev (fun k => impl_cut_byte.f k L at_ 3) (cutM L at_ 3) := by
  obtain ⟨K1, hK1⟩ := sameB_ev L at_ h0 h hl
  try dsimp only at hK1
  obtain ⟨K, hK⟩ := cutB_l0_ev L at_ h0 h hl 127 1 (by omega) (by omega)
  try dsimp only at hK
  refine ⟨K + K1, fun k hk => ?_⟩
  try dsimp only
  unfold impl_cut_byte.f cutM
  rw [hK1 k (by omega), Option.bind_some]
  by_cases c : smM L at_ ≥ 3
  · rw [if_pos c, if_pos c]
    unfold mn
    by_cases c2 : smM L at_ < 128
    · rw [if_pos c2, if_neg (by omega)]
    · rw [if_neg c2]
      by_cases c3 : 128 < smM L at_
      · rw [if_pos c3]
      · rw [if_neg c3, show smM L at_ = 128 by omega]
  · rw [if_neg c, if_neg c]
    exact hK k (by omega)
theorem spec_PackPut_l0_ev (s : ByteArray) (hs : s.size ≤ 5000) : ∀ (f : Nat) (at_ : Int) (out : List Int), 0 ≤ at_ → at_ ≤ (bytesOf s).length → ((bytesOf s).length : Int) ≤ at_ + f → out.length ≤ 130 * at_.toNat → Ev (fun k => spec_PackPut.l0 k s (strOfNums out) at_) (strOfNums (out ++ ppM (bytesOf s) f at_)) := by
  have hsz := bytesOf_length s
  intro f
  induction f with
  | zero =>
    intro at_ out h0 h1 h2 h3
    refine ⟨1, fun k hk => ?_⟩
    try dsimp only
    obtain ⟨m, rfl⟩ : ∃ m, k = m + 1 := ⟨k - 1, by omega⟩
    rw [spec_PackPut.l0, if_neg (by omega)]
    simp [ppM]
  | succ f ih =>
    intro at_ out h0 h1 h2 h3
    simp only [ppM]
    by_cases h : at_ < (bytesOf s).length
    · have hc := cutM_b (bytesOf s) at_ 3 h0 h (by omega)
      have hpl := ppP_length (bytesOf s) at_ h0 h
      have hnext := ih (at_ + (cutM (bytesOf s) at_ 3).1) (out ++ ppP (bytesOf s) at_) (by omega) (by omega) (by omega) (by rw [List.length_append]; omega)
      rw [if_pos h, ← List.append_assoc]
      obtain ⟨K, hK⟩ := hnext
      try dsimp only at hK
      obtain ⟨K1, hK1⟩ := l7Alike_ev s at_ 128 h0 h (by omega) (by omega)
      try dsimp only at hK1
      by_cases c : smM (bytesOf s) at_ ≥ 3
      · have hcm : cutM (bytesOf s) at_ 3 = (if smM (bytesOf s) at_ < 128 then smM (bytesOf s) at_ else 128, true) := by unfold cutM; rw [if_pos c]
        have e : (if smM (bytesOf s) at_ < 128 then smM (bytesOf s) at_ else 128) = (cutM (bytesOf s) at_ 3).1 := by rw [hcm]
        have hge := (hc.2.2.2 (by rw [hcm])).1
        rw [e] at hK1
        have hpi : ppP (bytesOf s) at_ = [257 - (cutM (bytesOf s) at_ 3).1] ++ [rd (bytesOf s) at_] := by
          unfold ppP; rw [if_pos (by rw [hcm])]; rfl
        have hex : s.extract at_.toNat (at_ + 1).toNat = strOfNums [rd (bytesOf s) at_] := by
          rw [extract_son, show (at_ + 1).toNat - at_.toNat = 0 + 1 by omega]
          have := take_rd (bytesOf s) at_.toNat 0 (by omega)
          rw [this, show ((at_.toNat : Nat) : Int) + ((0 : Nat) : Int) = at_ by omega]
          rfl
        refine ⟨K + K1 + 1, fun k hk => ?_⟩
        try dsimp only
        obtain ⟨m, rfl⟩ : ∃ m, k = m + 1 := ⟨k - 1, by omega⟩
        have hm := hK m (by omega)
        rw [spec_PackPut.l0, if_pos (by omega), hK1 m (by omega), Option.bind_some, if_pos hge, Option.bind_some, w64 (x := 257 - _) (by omega), show (257 - (cutM (bytesOf s) at_ 3).1) % 256 = 257 - (cutM (bytesOf s) at_ 3).1 by omega, if_pos (by rw [strOfNums_size, strOfNums_size]; simp; omega), if_pos h0, w64 (x := at_ + 1) (by omega), if_pos (by omega), if_pos (by omega), hex, ← son_append, if_pos (by rw [strOfNums_size, strOfNums_size, List.length_append]; simp; omega), ← son_append, w64 (by omega), List.append_assoc, ← hpi]
        exact hm
      · have hcm : cutM (bytesOf s) at_ 3 = (otM (bytesOf s) at_ 3, false) := by unfold cutM; rw [if_neg c]
        have e2 : ¬ ((if smM (bytesOf s) at_ < 128 then smM (bytesOf s) at_ else 128) ≥ 3) := by split <;> omega
        have e3 : (otM (bytesOf s) at_ 3) = (cutM (bytesOf s) at_ 3).1 := by rw [hcm]
        obtain ⟨K2, hK2⟩ := l7Fresh_l0_ev s at_ h0 h (by omega) 127 1 (by omega) (by omega)
        try dsimp only at hK2
        have hpi : ppP (bytesOf s) at_ = [(cutM (bytesOf s) at_ 3).1 - 1] ++ ((bytesOf s).drop at_.toNat).take (cutM (bytesOf s) at_ 3).1.toNat := by
          unfold ppP; rw [if_neg (by rw [hcm]; simp)]; rfl
        have hex : s.extract at_.toNat (at_ + (cutM (bytesOf s) at_ 3).1).toNat = strOfNums (((bytesOf s).drop at_.toNat).take (cutM (bytesOf s) at_ 3).1.toNat) := by
          rw [extract_son, show (at_ + (cutM (bytesOf s) at_ 3).1).toNat - at_.toNat = (cutM (bytesOf s) at_ 3).1.toNat by omega]
        have hK2' : ∀ k, K2 ≤ k → spec_l7Fresh.f k s at_ 128 = some (cutM (bytesOf s) at_ 3).1 := fun k hk => by rw [← e3]; exact hK2 k hk
        refine ⟨K + K1 + K2 + 1, fun k hk => ?_⟩
        try dsimp only
        obtain ⟨m, rfl⟩ : ∃ m, k = m + 1 := ⟨k - 1, by omega⟩
        have hm := hK m (by omega)
        rw [spec_PackPut.l0, if_pos (by omega), hK1 m (by omega), Option.bind_some, if_neg e2, hK2' m (by omega), Option.bind_some, Option.bind_some, w64 (x := (cutM (bytesOf s) at_ 3).1 - 1) (by omega), show ((cutM (bytesOf s) at_ 3).1 - 1) % 256 = (cutM (bytesOf s) at_ 3).1 - 1 by omega, if_pos (by rw [strOfNums_size, strOfNums_size]; simp; omega), if_pos h0, w64 (x := at_ + _) (by omega), if_pos (by omega), if_pos (by omega), hex, ← son_append, if_pos (by rw [strOfNums_size, strOfNums_size, List.length_append, List.length_take]; simp; omega), ← son_append, List.append_assoc, ← hpi]
        exact hm
    · rw [if_neg h]
      refine ⟨1, fun k hk => ?_⟩
      try dsimp only
      obtain ⟨m, rfl⟩ : ∃ m, k = m + 1 := ⟨k - 1, by omega⟩
      rw [spec_PackPut.l0, if_neg (by omega)]
      simp
theorem spec_PackPut_ev (s : ByteArray) : Ev (fun k => spec_PackPut.f k s) (packM s) := by
  unfold spec_PackPut.f packM
  by_cases h : s.size > 5000
  · exact ⟨0, fun k hk => by dsimp only; rw [if_pos (by omega), if_pos h]⟩
  · have hsz := bytesOf_length s
    obtain ⟨K, hK⟩ := spec_PackPut_l0_ev s (by omega) s.size 0 [] (by omega) (by omega) (by omega) (by simp)
    try dsimp only at hK
    refine ⟨K, fun k hk => ?_⟩
    try dsimp only
    try dsimp only
    rw [if_neg (by omega), if_neg h]
    exact hK k hk
theorem impl_PackPut_l0_ev (L : List Int) (hl : L.length ≤ 5000) : ∀ (f : Nat) (at_ : Int) (out : List Int), 0 ≤ at_ → at_ ≤ L.length → (L.length : Int) ≤ at_ + f → out.length ≤ 130 * at_.toNat → Ev (fun k => impl_PackPut.l0 k L out at_) (strOfNums (out ++ ppM L f at_)) := by
  intro f
  induction f with
  | zero =>
    intro at_ out h0 h1 h2 h3
    refine ⟨1, fun k hk => ?_⟩
    try dsimp only
    obtain ⟨m, rfl⟩ : ∃ m, k = m + 1 := ⟨k - 1, by omega⟩
    rw [impl_PackPut.l0, if_neg (by omega)]
    simp [ppM]
  | succ f ih =>
    intro at_ out h0 h1 h2 h3
    simp only [ppM]
    by_cases h : at_ < L.length
    · have hc := cutM_b L at_ 3 h0 h (by omega)
      have hpl := ppP_length L at_ h0 h
      have hnext := ih (at_ + (cutM L at_ 3).1) (out ++ ppP L at_) (by omega) (by omega) (by omega) (by rw [List.length_append]; omega)
      rw [if_pos h, ← List.append_assoc]
      obtain ⟨K, hK⟩ := hnext
      try dsimp only at hK
      obtain ⟨K1, hK1⟩ := cutB_ev L at_ h0 h (by omega)
      try dsimp only at hK1
      by_cases c : (cutM L at_ 3).2 = true
      · have hge := (hc.2.2.2 c).1
        have hpi : ppP L at_ = [257 - (cutM L at_ 3).1, rd L at_] := by unfold ppP; rw [if_pos c]
        refine ⟨K + K1 + 1, fun k hk => ?_⟩
        try dsimp only
        obtain ⟨m, rfl⟩ : ∃ m, k = m + 1 := ⟨k - 1, by omega⟩
        have hm := hK m (by omega)
        rw [impl_PackPut.l0, if_pos (by omega), hK1 m (by omega), Option.bind_some, if_pos c, if_pos h0, Option.bind_some, w64 (x := 257 - _) (by omega), show (257 - (cutM L at_ 3).1) % 256 = 257 - (cutM L at_ 3).1 by omega, if_pos (by simp; omega), w64 (by omega), ← hpi]
        exact hm
      · have hpi : ppP L at_ = [(cutM L at_ 3).1 - 1] ++ (L.drop at_.toNat).take (cutM L at_ 3).1.toNat := by unfold ppP; rw [if_neg c]; rfl
        have hdt : (L.take (at_ + (cutM L at_ 3).1).toNat).drop at_.toNat = (L.drop at_.toNat).take (cutM L at_ 3).1.toNat := by
          rw [List.take_drop, show at_.toNat + (cutM L at_ 3).1.toNat = (at_ + (cutM L at_ 3).1).toNat by omega]
        refine ⟨K + K1 + 1, fun k hk => ?_⟩
        try dsimp only
        obtain ⟨m, rfl⟩ : ∃ m, k = m + 1 := ⟨k - 1, by omega⟩
        have hm := hK m (by omega)
        rw [impl_PackPut.l0, if_pos (by omega), hK1 m (by omega), Option.bind_some, if_neg c, if_pos (by omega), Option.bind_some, if_pos h0, w64 (x := at_ + _) (by omega), if_pos (by omega), if_pos (by omega), hdt, w64 (x := (cutM L at_ 3).1 - 1) (by omega), show ((cutM L at_ 3).1 - 1) % 256 = (cutM L at_ 3).1 - 1 by omega, if_pos (by rw [List.length_append, List.length_take]; simp; omega), List.append_assoc, ← hpi]
        exact hm
    · rw [if_neg h]
      refine ⟨1, fun k hk => ?_⟩
      try dsimp only
      obtain ⟨m, rfl⟩ : ∃ m, k = m + 1 := ⟨k - 1, by omega⟩
      rw [impl_PackPut.l0, if_neg (by omega)]
      simp
theorem impl_PackPut_ev (s : ByteArray) : Ev (fun k => impl_PackPut.f k s) (packM s) := by
  unfold impl_PackPut.f packM
  by_cases h : s.size > 5000
  · exact ⟨0, fun k hk => by dsimp only; rw [if_pos (by omega), if_pos h]⟩
  · have hsz := bytesOf_length s
    obtain ⟨K, hK⟩ := impl_PackPut_l0_ev (bytesOf s) (by omega) s.size 0 [] (by omega) (by omega) (by omega) (by simp)
    try dsimp only at hK
    refine ⟨K, fun k hk => ?_⟩
    try dsimp only
    try dsimp only
    rw [if_neg (by omega), if_pos (by omega), if_neg h]
    exact hK k hk

theorem FnExactPackPut : laws_FnExactPackPut.Pure := by
  intro s hs
  unfold laws_FnExactPackPut.f
  by_cases h : (s.size : Int) > 1048576
  · exact ⟨0, by rw [if_pos h]⟩
  obtain ⟨K1, h1⟩ := spec_PackPut_ev s
  try dsimp only at h1
  obtain ⟨K2, h2⟩ := impl_PackPut_ev s
  try dsimp only at h2
  refine ⟨K1 + K2, ?_⟩
  rw [if_neg h, h1 _ (by omega), Option.bind_some, h2 _ (by omega), Option.bind_some, if_pos rfl]

end Go.Proofs.Ytehjfjngnofgmaa.Pure
