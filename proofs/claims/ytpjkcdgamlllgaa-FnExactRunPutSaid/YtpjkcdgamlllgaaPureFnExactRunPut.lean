/- The program's RunPut and the reference's answer the same, at every list of at most 1048576 numbers (a longer one is let by) and every size, and leave the list as it was. -/
import Derived.Test.YtpjkcdgamlllgaaHFnExactRunPutx4
import Derived.Test.YtpjkcdgamlllgaaThNum
import Derived.Test.YtpjkcdgamlllgaaThRunPut
import Derived.Test.YtpjkcdgamlllgaaThPut
namespace Go.Proofs.Ytpjkcdgamlllgaa.Pure
open Go.RowKit Go.Proofs.Ytpjkcdgamlllgaa.PFnExactRunPut Go.Proofs.YtpjkcdgamlllgaaW.PrintWords Go.Proofs.YtpjkcdgamlllgaaW.PrintLast Go.Proofs.YtpjkcdgamlllgaaW.PrintMore Go.Proofs.Ytpjkcdgamlllgaa.Th
set_option linter.unusedVariables false
set_option linter.unusedSimpArgs false

theorem l7Equal_l0_ev (L : List Int) (at_ most : Int) (h0 : 0 ≤ at_) (h : at_ < L.length) (hl : L.length ≤ 1048576) (hm : 1 ≤ most ∧ most ≤ 1000) :
    ∀ (d : Nat) (n : Int), 1 ≤ n → n ≤ smM L at_ → n + d = most → Ev (fun k => spec_l7Equal.l0 k L at_ most n) (if smM L at_ < most then smM L at_ else most) := by
  have hb := smM_b L at_ h0 h
  intro d
  induction d with
  | zero =>
    intro n h1 h2 h3
    refine ⟨1, fun k hk => ?_⟩
    try dsimp only
    obtain ⟨m, rfl⟩ : ∃ m, k = m + 1 := ⟨k - 1, by omega⟩
    rw [spec_l7Equal.l0, if_neg (by omega), if_neg (by omega), show n = most by omega]
  | succ d ih =>
    intro n h1 h2 h3
    by_cases e : n = smM L at_
    · have hf := hb.2.2.2
      rw [← e] at hf
      refine ⟨1, fun k hk => ?_⟩
      try dsimp only
      obtain ⟨m, rfl⟩ : ∃ m, k = m + 1 := ⟨k - 1, by omega⟩
      rw [spec_l7Equal.l0, if_pos (by omega), w64 (x := at_ + n) (by omega), if_pos (show smM L at_ < most by omega), ← e]
      by_cases c : at_ + n < L.length
      · have c2 : ¬ rd L (at_ + n) = rd L at_ := fun e2 => by rw [show smB L at_ n = true from decide_eq_true ⟨c, e2⟩] at hf; simp at hf
        rw [if_pos c, if_pos (by omega), if_pos h0, if_pos h, if_neg c2]
      · rw [if_neg c]
    · have ht := of_decide_eq_true (hb.2.2.1 n h1 (by omega))
      obtain ⟨K, hK⟩ := ih (n + 1) (by omega) (by omega) (by omega)
      try dsimp only at hK
      refine ⟨K + 1, fun k hk => ?_⟩
      try dsimp only
      obtain ⟨m, rfl⟩ : ∃ m, k = m + 1 := ⟨k - 1, by omega⟩
      rw [spec_l7Equal.l0, if_pos (by omega), w64 (x := at_ + n) (by omega), if_pos ht.1, if_pos (by omega), if_pos h0, if_pos h, if_pos ht.2, w64 (by omega)]
      exact hK m (by omega)
theorem l7Equal_ev (L : List Int) (at_ most : Int) (h0 : 0 ≤ at_) (h : at_ < L.length) (hl : L.length ≤ 1048576) (hm : 1 ≤ most ∧ most ≤ 1000) : Ev (fun k => spec_l7Equal.f k L at_ most) (if smM L at_ < most then smM L at_ else most) :=
  l7Equal_l0_ev L at_ most h0 h hl hm (most - 1).toNat 1 (by omega) (smM_b L at_ h0 h).1 (by omega)
theorem same_l0_ev (L : List Int) (at_ : Int) (h0 : 0 ≤ at_) (h : at_ < L.length) (hl : L.length ≤ 1048576) :
    ∀ (d : Nat) (n : Int), 1 ≤ n → n + d = smM L at_ → Ev (fun k => impl_same_int.l0 k L at_ n) (smM L at_) := by
  have hb := smM_b L at_ h0 h
  intro d
  induction d with
  | zero =>
    intro n h1 h3
    have e : n = smM L at_ := by omega
    have hf := hb.2.2.2
    rw [← e] at hf
    refine ⟨1, fun k hk => ?_⟩
    try dsimp only
    obtain ⟨m, rfl⟩ : ∃ m, k = m + 1 := ⟨k - 1, by omega⟩
    rw [impl_same_int.l0, w64 (x := at_ + n) (by omega), ← e]
    by_cases c : at_ + n < L.length
    · have c2 : ¬ rd L (at_ + n) = rd L at_ := fun e2 => by rw [show smB L at_ n = true from decide_eq_true ⟨c, e2⟩] at hf; simp at hf
      rw [if_pos c, if_pos (by omega), if_pos h0, if_pos h, if_neg c2]
    · rw [if_neg c]
  | succ d ih =>
    intro n h1 h3
    have ht := of_decide_eq_true (hb.2.2.1 n h1 (by omega))
    obtain ⟨K, hK⟩ := ih (n + 1) (by omega) (by omega)
    try dsimp only at hK
    refine ⟨K + 1, fun k hk => ?_⟩
    try dsimp only
    obtain ⟨m, rfl⟩ : ∃ m, k = m + 1 := ⟨k - 1, by omega⟩
    rw [impl_same_int.l0, w64 (x := at_ + n) (by omega), if_pos ht.1, if_pos (by omega), if_pos h0, if_pos h, if_pos ht.2, w64 (by omega)]
    exact hK m (by omega)
theorem same_ev (L : List Int) (at_ : Int) (h0 : 0 ≤ at_) (h : at_ < L.length) (hl : L.length ≤ 1048576) : Ev (fun k => impl_same_int.f k L at_) (smM L at_) := by
  have hb := smM_b L at_ h0 h
  exact same_l0_ev L at_ h0 h hl (smM L at_ - 1).toNat 1 (by omega) (by omega)
theorem l7Other_l0_ev (L : List Int) (at_ : Int) (h0 : 0 ≤ at_) (h : at_ < L.length) (hl : L.length ≤ 1048576) :
    ∀ (d : Nat) (n : Int), 1 ≤ n → n + d = 128 → Ev (fun k => spec_l7Other.l0 k L at_ 128 n) (otC L at_ 2 d n) := by
  intro d
  induction d with
  | zero =>
    intro n h1 h3
    refine ⟨1, fun k hk => ?_⟩
    try dsimp only
    obtain ⟨m, rfl⟩ : ∃ m, k = m + 1 := ⟨k - 1, by omega⟩
    rw [spec_l7Other.l0, if_neg (by omega)]; rfl
  | succ d ih =>
    intro n h1 h3
    simp only [otC]
    by_cases c : at_ + n < L.length
    · obtain ⟨K1, hK1⟩ := l7Equal_ev L (at_ + n) 2 (by omega) c hl (by omega)
      try dsimp only at hK1
      obtain ⟨K, hK⟩ := ih (n + 1) (by omega) (by omega)
      try dsimp only at hK
      refine ⟨K + K1 + 1, fun k hk => ?_⟩
      try dsimp only
      obtain ⟨m, rfl⟩ : ∃ m, k = m + 1 := ⟨k - 1, by omega⟩
      have hm := hK m (by omega)
      rw [spec_l7Other.l0, if_pos (by omega), w64 (x := at_ + n) (by omega), if_pos c, hK1 m (by omega), Option.bind_some]
      by_cases c2 : smM L (at_ + n) < 2
      · rw [if_pos (by rw [if_pos c2]; exact c2), if_pos (show otB L at_ 2 n = true from decide_eq_true ⟨by omega, c, c2⟩), w64 (by omega)]; exact hm
      · rw [if_neg (by rw [if_neg c2]; omega), if_neg (show ¬ otB L at_ 2 n = true from fun e => c2 (of_decide_eq_true e).2.2)]
    · refine ⟨1, fun k hk => ?_⟩
      try dsimp only
      obtain ⟨m, rfl⟩ : ∃ m, k = m + 1 := ⟨k - 1, by omega⟩
      rw [spec_l7Other.l0, if_pos (by omega), w64 (x := at_ + n) (by omega), if_neg c, if_neg (show ¬ otB L at_ 2 n = true from fun e => c (of_decide_eq_true e).2.1)]
theorem cut_l0_ev (L : List Int) (at_ : Int) (h0 : 0 ≤ at_) (h : at_ < L.length) (hl : L.length ≤ 1048576) :
    ∀ (d : Nat) (n : Int), 1 ≤ n → n + d = 128 → Ev (fun k => impl_cut_int.l0 k L at_ 2 n) (otC L at_ 2 d n, false) := by
  intro d
  induction d with
  | zero =>
    intro n h1 h3
    refine ⟨1, fun k hk => ?_⟩
    try dsimp only
    obtain ⟨m, rfl⟩ : ∃ m, k = m + 1 := ⟨k - 1, by omega⟩
    rw [impl_cut_int.l0, if_neg (by omega)]; rfl
  | succ d ih =>
    intro n h1 h3
    simp only [otC]
    by_cases c : at_ + n < L.length
    · obtain ⟨K1, hK1⟩ := same_ev L (at_ + n) (by omega) c hl
      try dsimp only at hK1
      obtain ⟨K, hK⟩ := ih (n + 1) (by omega) (by omega)
      try dsimp only at hK
      refine ⟨K + K1 + 1, fun k hk => ?_⟩
      try dsimp only
      obtain ⟨m, rfl⟩ : ∃ m, k = m + 1 := ⟨k - 1, by omega⟩
      have hm := hK m (by omega)
      rw [impl_cut_int.l0, if_pos (by omega), w64 (x := at_ + n) (by omega), if_pos c, hK1 m (by omega), Option.bind_some]
      by_cases c2 : smM L (at_ + n) < 2
      · rw [if_pos c2, if_pos (show otB L at_ 2 n = true from decide_eq_true ⟨by omega, c, c2⟩), w64 (by omega)]; exact hm
      · rw [if_neg c2, if_neg (show ¬ otB L at_ 2 n = true from fun e => c2 (of_decide_eq_true e).2.2)]
    · refine ⟨1, fun k hk => ?_⟩
      try dsimp only
      obtain ⟨m, rfl⟩ : ∃ m, k = m + 1 := ⟨k - 1, by omega⟩
      rw [impl_cut_int.l0, if_pos (by omega), w64 (x := at_ + n) (by omega), if_neg c, if_neg (show ¬ otB L at_ 2 n = true from fun e => c (of_decide_eq_true e).2.1)]
theorem cut_ev (L : List Int) (at_ : Int) (h0 : 0 ≤ at_) (h : at_ < L.length) (hl : L.length ≤ 1048576) : Ev (fun k => impl_cut_int.f k L at_ 2) (cutM L at_ 2) := by
  obtain ⟨K1, hK1⟩ := same_ev L at_ h0 h hl
  try dsimp only at hK1
  obtain ⟨K, hK⟩ := cut_l0_ev L at_ h0 h hl 127 1 (by omega) (by omega)
  try dsimp only at hK
  refine ⟨K + K1, fun k hk => ?_⟩
  try dsimp only
  unfold impl_cut_int.f cutM
  rw [hK1 k (by omega), Option.bind_some]
  by_cases c : smM L at_ ≥ 2
  · rw [if_pos c, if_pos c]
    unfold mn
    by_cases c2 : smM L at_ < 128
    · rw [if_pos c2, if_neg (by omega)]
    · rw [if_neg c2]
      by_cases c3 : 128 < smM L at_
      · rw [if_pos c3]
      · rw [if_neg c3, show smM L at_ = 128 by omega]
  · rw [if_neg c, if_neg c]
    exact hK k (by omega)
theorem in_f (a b c : Int) : impl_in.f a b c = some (decide (b ≤ a ∧ a ≤ c)) := by
  unfold impl_in.f
  by_cases h : b ≤ a
  · rw [if_pos h]; simp [h]
  · rw [if_neg h]; simp [h]
theorem l1In_f (a b c : Int) : spec_l1In.f a b c = some (decide (b ≤ a ∧ a ≤ c)) := by
  unfold spec_l1In.f
  by_cases h : b ≤ a
  · rw [if_pos h]; simp [h]
  · rw [if_neg h]; simp [h]
theorem l1Pow_l0_ev (n : Nat) (hn : n ≤ 62) : ∀ d i : Nat, i + d = n → Ev (fun k => spec_l1Pow.l0 k (n : Int) (P2 i) (i : Int)) (P2 n) := by
  intro d
  induction d with
  | zero =>
    intro i hi
    refine ⟨1, fun k hk => ?_⟩
    try dsimp only
    obtain ⟨m, rfl⟩ : ∃ m, k = m + 1 := ⟨k - 1, by omega⟩
    rw [spec_l1Pow.l0, if_neg (by omega), show i = n by omega]
  | succ d ih =>
    intro i hi
    obtain ⟨K, hK⟩ := ih (i + 1) (by omega)
    try dsimp only at hK
    refine ⟨K + 1, fun k hk => ?_⟩
    try dsimp only
    obtain ⟨m, rfl⟩ : ∃ m, k = m + 1 := ⟨k - 1, by omega⟩
    have hm := hK m (by omega)
    have hb := P2_62b (n := i) (by omega)
    have hb' := P2_62b (n := i + 1) (by omega)
    have hs := P2_succ i
    rw [spec_l1Pow.l0, if_pos (by omega), w64 (by omega), w64 (by omega), show P2 i * 2 = P2 (i + 1) by omega, show (i : Int) + 1 = ((i + 1 : Nat) : Int) by omega]
    exact hm
theorem l1Pow_ev (n : Nat) (hn : n ≤ 62) : Ev (fun k => spec_l1Pow.f k (n : Int)) (P2 n) := l1Pow_l0_ev n hn n 0 (by omega)
theorem l1Pow_evI (n : Int) (h0 : 0 ≤ n) (hn : n ≤ 62) : Ev (fun k => spec_l1Pow.f k n) (P2 n.toNat) := by
  have h := l1Pow_ev n.toNat (by omega)
  rw [Int.toNat_of_nonneg h0] at h
  exact h
theorem l1Num_l0_ev (n0 : Int) (size : Nat) (big : Bool) (h2 : size ≤ 4) (hn : 0 ≤ n0) (hn2 : n0 ≤ 9223372036854775807) :
    ∀ d i : Nat, i + d = size → Ev (fun k => spec_l1Num.l0 k (n0 / P2 (8 * i)) (size : Int) big (strOfNums (if big = true then (bytesLo n0 i).reverse else bytesLo n0 i)) (i : Int)) (numPutM n0 size big) := by
  intro d
  induction d with
  | zero =>
    intro i hi
    refine ⟨1, fun k hk => ?_⟩
    try dsimp only
    obtain ⟨m, rfl⟩ : ∃ m, k = m + 1 := ⟨k - 1, by omega⟩
    rw [spec_l1Num.l0, if_neg (by omega), show i = size by omega]
    rfl
  | succ d ih =>
    intro i hi
    obtain ⟨K, hK⟩ := ih (i + 1) (by omega)
    try dsimp only at hK
    refine ⟨K + 1, fun k hk => ?_⟩
    try dsimp only
    obtain ⟨m, rfl⟩ : ∃ m, k = m + 1 := ⟨k - 1, by omega⟩
    have hm := hK m (by omega)
    have hp := P2_pos (8 * i)
    have hq : 0 ≤ n0 / P2 (8 * i) := Int.ediv_nonneg hn (by omega)
    have hq2 : n0 / P2 (8 * i) ≤ n0 := Int.ediv_le_self _ hn
    have hdiv : n0 / P2 (8 * i) / 256 = n0 / P2 (8 * (i + 1)) := by
      rw [Int.ediv_ediv_of_nonneg (by omega), show 8 * (i + 1) = 8 * i + 8 by omega, P2_add]; rfl
    have hmod : Int.tmod (n0 / P2 (8 * i)) 256 % 256 = n0 / P2 (8 * i) % 256 := by rw [tmod_pos hq]; omega
    have hsz := strOfNums_size (if big = true then (bytesLo n0 i).reverse else bytesLo n0 i)
    have hl : (if big = true then (bytesLo n0 i).reverse else bytesLo n0 i).length = i := by cases big <;> simp [bytesLo_length]
    rw [hl] at hsz
    rw [spec_l1Num.l0, if_pos (by omega)]
    simp only [Option.bind_some, hmod, tdiv_pos hq]
    rw [w64 (x := n0 / P2 (8 * i) / 256) (by omega), w64 (x := (i : Int) + 1) (by omega), hdiv, show (i : Int) + 1 = ((i + 1 : Nat) : Int) by omega]
    have h1 := strOfNums_size [n0 / P2 (8 * i) % 256]
    simp only [List.length_singleton] at h1
    cases big
    · simp only [Bool.false_eq_true, if_false] at hsz hm ⊢
      rw [if_pos (by omega), ← son_append]
      simpa only [bytesLo] using hm
    · simp only [if_true] at hsz hm ⊢
      rw [if_pos (by omega), ← son_append]
      simpa only [bytesLo, List.reverse_append, List.reverse_cons, List.reverse_nil, List.nil_append, List.singleton_append, List.cons_append] using hm
theorem l1Num_ev (n0 size : Int) (big : Bool) (h0 : 0 ≤ size) (h2 : size ≤ 4) (hn : 0 ≤ n0) (hn2 : n0 ≤ 9223372036854775807) : Ev (fun k => spec_l1Num.f k n0 size big) (numPutM n0 size.toNat big) := by
  have h := l1Num_l0_ev n0 size.toNat big (by omega) hn hn2 size.toNat 0 (by omega)
  rw [Int.toNat_of_nonneg h0] at h
  have e : n0 / P2 (8 * 0) = n0 := by simp [P2]
  rw [e] at h
  have e2 : strOfNums (if big = true then (bytesLo n0 0).reverse else bytesLo n0 0) = (⟨#[]⟩ : ByteArray) := by cases big <;> simp [bytesLo, son_nil]
  rw [e2] at h
  exact h
def numPutA (n size : Int) (big : Bool) : ByteArray := if 1 ≤ size ∧ size ≤ 4 ∧ 0 ≤ n ∧ n ≤ P2 (8 * size).toNat - 1 then numPutM n size.toNat big else ⟨#[]⟩
theorem impl_NumPut_l0_ev (n0 : Int) (size : Nat) (big : Bool) (h2 : size ≤ 4) (hn : 0 ≤ n0) (hn2 : n0 ≤ 9223372036854775807) :
    ∀ d i : Nat, i + d = size → Ev (fun k => impl_NumPut.l0 k n0 (size : Int) big (if big = true then List.replicate d 0 ++ (bytesLo n0 i).reverse else bytesLo n0 i ++ List.replicate d 0) (size : Int) (i : Int)) (numPutM n0 size big) := by
  intro d
  induction d with
  | zero =>
    intro i hi
    refine ⟨1, fun k hk => ?_⟩
    try dsimp only
    obtain ⟨m, rfl⟩ : ∃ m, k = m + 1 := ⟨k - 1, by omega⟩
    rw [impl_NumPut.l0, if_neg (by omega), show i = size by omega]
    unfold numPutM
    cases big <;> simp
  | succ d ih =>
    intro i hi
    obtain ⟨K, hK⟩ := ih (i + 1) (by omega)
    try dsimp only at hK
    refine ⟨K + 1, fun k hk => ?_⟩
    try dsimp only
    obtain ⟨m, rfl⟩ : ∃ m, k = m + 1 := ⟨k - 1, by omega⟩
    have hm := hK m (by omega)
    have e8 : (8 * (i : Int)).toNat = 8 * i := by omega
    rw [impl_NumPut.l0, if_pos (by omega)]
    simp (disch := omega) only [w64, shr_P2, e8]
    cases big
    · simp only [Bool.false_eq_true, if_false] at hm ⊢
      have hl := bytesLo_length n0 i
      rw [if_pos (by omega), if_pos (by omega), if_pos (by simp; omega), List.replicate_succ, set_at _ _ _ _ (by omega)]
      simp only [bytesLo, List.append_assoc, List.singleton_append] at hm
      exact hm
    · simp only [if_true] at hm ⊢
      have hl := bytesLo_length n0 i
      rw [if_pos (by omega), if_pos (by omega), if_pos (by simp; omega), List.replicate_succ', List.append_assoc, List.singleton_append, set_at _ _ _ _ (by simp; omega)]
      simp only [bytesLo, List.reverse_append, List.reverse_cons, List.reverse_nil, List.nil_append, List.singleton_append, List.cons_append] at hm
      exact hm
theorem impl_NumPut_ev (n size : Int) (big : Bool) (hw : -9223372036854775808 ≤ n ∧ n ≤ 9223372036854775807) : Ev (fun k => impl_NumPut.f k n size big) (numPutA n size big) := by
  unfold impl_NumPut.f numPutA
  simp only [in_f, Option.bind_some, decide_eq_true_eq]
  by_cases h1 : 1 ≤ size ∧ size ≤ 4
  · have hb := P2_62b (n := (8 * size).toNat) (by omega)
    rw [w64 (x := 8 * size) (by omega), shl1_P2 (by omega) (by omega), w64 (x := P2 (8 * size).toNat - 1) (by omega)]
    by_cases h3 : 0 ≤ n ∧ n ≤ P2 (8 * size).toNat - 1
    · obtain ⟨K, hK⟩ := impl_NumPut_l0_ev n size.toNat big (by omega) h3.1 hw.2 size.toNat 0 (by omega)
      try dsimp only at hK
      refine ⟨K + 1, fun k hk => ?_⟩
      try dsimp only
      obtain ⟨m, rfl⟩ : ∃ m, k = m + 1 := ⟨k - 1, by omega⟩
      have hm := hK m (by omega)
      rw [Int.toNat_of_nonneg (by omega)] at hm
      rw [if_pos h1, if_pos (by omega), decide_eq_true h3, if_pos ⟨h1.1, h1.2, h3.1, h3.2⟩, impl_NumPut.j0]
      simp only [Bool.not_true, Bool.false_eq_true, if_false, Option.bind_some]
      rw [if_pos (by omega), if_pos (by omega), List.length_replicate, Int.toNat_of_nonneg (by omega)]
      cases big <;> simpa [bytesLo] using hm
    · refine ⟨1, fun k hk => ?_⟩
      try dsimp only
      obtain ⟨m, rfl⟩ : ∃ m, k = m + 1 := ⟨k - 1, by omega⟩
      rw [if_pos h1, if_pos (by omega), decide_eq_false h3, if_neg (by omega), impl_NumPut.j0]
      simp
  · refine ⟨1, fun k hk => ?_⟩
    try dsimp only
    obtain ⟨m, rfl⟩ : ∃ m, k = m + 1 := ⟨k - 1, by omega⟩
    rw [if_neg h1, if_neg (by omega), impl_NumPut.j0]
    simp
theorem numPutA_in (x size : Int) (hz : 1 ≤ size ∧ size ≤ 4) (hx : 0 ≤ x ∧ x ≤ P2 (8 * size).toNat - 1) : numPutA x size false = strOfNums (bytesLo x size.toNat) := by
  unfold numPutA numPutM; rw [if_pos ⟨hz.1, hz.2, hx.1, hx.2⟩]; rfl
theorem rd_in {L : List Int} {P : Int → Prop} (h : ∀ x ∈ L, P x) {i : Int} (h0 : 0 ≤ i) (hi : i < L.length) : P (rd L i) := by
  have hl : i.toNat < L.length := by omega
  unfold rd
  rw [List.getD_eq_getElem?_getD, List.getElem?_eq_getElem hl]
  exact h _ (List.getElem_mem _)
theorem spec_l7Run_l1_ev (L : List Int) (size : Int) (hz : 1 ≤ size ∧ size ≤ 4) (hl : L.length ≤ 1000) (hx : ∀ x ∈ L, 0 ≤ x ∧ x ≤ P2 (8 * size).toNat - 1) (at_ : Int) (h0 : 0 ≤ at_) (n : Nat) (hn : n ≤ 128) (hfit : at_ + n ≤ L.length) (out : List Int) (ho : out.length ≤ 1000000) (r : ByteArray)
    (hnext : Ev (fun k => spec_l7Run.l0 k L size (strOfNums (out ++ nmM L at_ size.toNat n)) (at_ + n)) r) :
    ∀ d j : Nat, j + d = n → Ev (fun k => spec_l7Run.l1 k L size (strOfNums (out ++ nmM L at_ size.toNat j)) at_ (n : Int) (j : Int)) r := by
  intro d
  induction d with
  | zero =>
    intro j hj
    obtain ⟨K, hK⟩ := hnext
    try dsimp only at hK
    refine ⟨K + 1, fun k hk => ?_⟩
    try dsimp only
    obtain ⟨m, rfl⟩ : ∃ m, k = m + 1 := ⟨k - 1, by omega⟩
    have hm := hK m (by omega)
    rw [spec_l7Run.l1, if_neg (by omega), w64 (by omega), show j = n by omega]
    exact hm
  | succ d ih =>
    intro j hj
    obtain ⟨K, hK⟩ := ih (j + 1) (by omega)
    try dsimp only at hK
    have hxj := rd_in hx (i := at_ + j) (by omega) (by omega)
    have hp := P2_62b (n := (8 * size).toNat) (by omega)
    obtain ⟨K1, hK1⟩ := l1Num_ev (rd L (at_ + j)) size false (by omega) hz.2 hxj.1 (by omega)
    try dsimp only at hK1
    refine ⟨K + K1 + 1, fun k hk => ?_⟩
    try dsimp only
    obtain ⟨m, rfl⟩ : ∃ m, k = m + 1 := ⟨k - 1, by omega⟩
    have hm := hK m (by omega)
    have hnl := nmM_length L at_ size.toNat j
    have hnb : j * size.toNat ≤ 128 * 4 := Nat.mul_le_mul (by omega) (by omega)
    have e1 : numPutM (rd L (at_ + j)) size.toNat false = strOfNums (bytesLo (rd L (at_ + j)) size.toNat) := by unfold numPutM; rfl
    rw [spec_l7Run.l1, if_pos (by omega), w64 (x := at_ + j) (by omega), if_pos (by omega), if_pos (by omega), hK1 m (by omega), Option.bind_some, e1, if_pos (by rw [strOfNums_size, strOfNums_size, List.length_append, bytesLo_length]; omega), ← son_append, w64 (by omega)]
    simp only [nmM] at hm
    rw [← List.append_assoc, show ((j + 1 : Nat) : Int) = (j : Int) + 1 by omega] at hm
    exact hm
theorem spec_l7Run_l0_ev (L : List Int) (size : Int) (hz : 1 ≤ size ∧ size ≤ 4) (hl : L.length ≤ 1000) (hx : ∀ x ∈ L, 0 ≤ x ∧ x ≤ P2 (8 * size).toNat - 1) : ∀ (f : Nat) (at_ : Int) (out : List Int), 0 ≤ at_ → at_ ≤ L.length → (L.length : Int) ≤ at_ + f → out.length ≤ 513 * at_.toNat → Ev (fun k => spec_l7Run.l0 k L size (strOfNums out) at_) (strOfNums (out ++ rpM L size.toNat f at_)) := by
  intro f
  induction f with
  | zero =>
    intro at_ out h0 h1 h2 h3
    refine ⟨1, fun k hk => ?_⟩
    try dsimp only
    obtain ⟨m, rfl⟩ : ∃ m, k = m + 1 := ⟨k - 1, by omega⟩
    rw [spec_l7Run.l0, if_neg (by omega)]
    simp [rpM]
  | succ f ih =>
    intro at_ out h0 h1 h2 h3
    simp only [rpM]
    by_cases h : at_ < L.length
    · have hc := cutM_b L at_ 2 h0 h (by omega)
      have hpl := pieceM_length L at_ size.toNat (by omega) h0 h
      have hnext := ih (at_ + (cutM L at_ 2).1) (out ++ pieceM L at_ size.toNat) (by omega) (by omega) (by omega) (by rw [List.length_append]; omega)
      rw [if_pos h, ← List.append_assoc]
      obtain ⟨K1, hK1⟩ := l7Equal_ev L at_ 128 h0 h (by omega) (by omega)
      try dsimp only at hK1
      by_cases c : smM L at_ ≥ 2
      · have hcm : cutM L at_ 2 = (if smM L at_ < 128 then smM L at_ else 128, true) := by unfold cutM; rw [if_pos c]
        have e : (if smM L at_ < 128 then smM L at_ else 128) = (cutM L at_ 2).1 := by rw [hcm]
        rw [e] at hK1
        have hpi : pieceM L at_ size.toNat = [127 + (cutM L at_ 2).1] ++ bytesLo (rd L at_) size.toNat := by
          unfold pieceM; rw [if_pos (by rw [hcm])]; simp [nmM]
        obtain ⟨K, hK⟩ := hnext
        try dsimp only at hK
        have hxj := rd_in hx (i := at_) h0 h
        have hp := P2_62b (n := (8 * size).toNat) (by omega)
        obtain ⟨K2, hK2⟩ := l1Num_ev (rd L at_) size false (by omega) hz.2 hxj.1 (by omega)
        try dsimp only at hK2
        refine ⟨K + K1 + K2 + 1, fun k hk => ?_⟩
        try dsimp only
        obtain ⟨m, rfl⟩ : ∃ m, k = m + 1 := ⟨k - 1, by omega⟩
        have hm := hK m (by omega)
        have e1 : numPutM (rd L at_) size.toNat false = strOfNums (bytesLo (rd L at_) size.toNat) := by unfold numPutM; rfl
        rw [spec_l7Run.l0, if_pos h, hK1 m (by omega), Option.bind_some, if_pos (by have := hc.2.2.2 (by rw [hcm]); omega), Option.bind_some, w64 (x := 127 + _) (by omega), show (127 + (cutM L at_ 2).1) % 256 = 127 + (cutM L at_ 2).1 by omega, if_pos (by rw [strOfNums_size, strOfNums_size]; simp; omega), if_pos h0, hK2 m (by omega), Option.bind_some, e1, ← son_append, if_pos (by rw [strOfNums_size, strOfNums_size, List.length_append, bytesLo_length]; simp; omega), ← son_append, w64 (by omega), List.append_assoc, ← hpi]
        exact hm
      · have hcm : cutM L at_ 2 = (otM L at_ 2, false) := by unfold cutM; rw [if_neg c]
        have e2 : ¬ ((if smM L at_ < 128 then smM L at_ else 128) ≥ 2) := by split <;> omega
        have e3 : (otM L at_ 2) = (cutM L at_ 2).1 := by rw [hcm]
        obtain ⟨K2, hK2⟩ := l7Other_l0_ev L at_ h0 h (by omega) 127 1 (by omega) (by omega)
        try dsimp only at hK2
        have hpi : pieceM L at_ size.toNat = [(cutM L at_ 2).1 - 1] ++ nmM L at_ size.toNat (cutM L at_ 2).1.toNat := by
          unfold pieceM; rw [if_neg (by rw [hcm]; simp)]; rfl
        have hp : ((cutM L at_ 2).1.toNat : Int) = (cutM L at_ 2).1 := Int.toNat_of_nonneg (by omega)
        obtain ⟨K, hK⟩ := spec_l7Run_l1_ev L size hz hl hx at_ h0 (cutM L at_ 2).1.toNat (by omega) (by omega) (out ++ [(cutM L at_ 2).1 - 1]) (by simp; omega) (strOfNums (out ++ pieceM L at_ size.toNat ++ rpM L size.toNat f (at_ + (cutM L at_ 2).1))) (by
          rw [hp, List.append_assoc, ← hpi]; exact hnext) (cutM L at_ 2).1.toNat 0 (by omega)
        try dsimp only at hK
        refine ⟨K + K1 + K2 + 1, fun k hk => ?_⟩
        try dsimp only
        obtain ⟨m, rfl⟩ : ∃ m, k = m + 1 := ⟨k - 1, by omega⟩
        have hm := hK m (by omega)
        rw [hp] at hm
        have hot : spec_l7Other.f m L at_ 128 = some (cutM L at_ 2).1 := by unfold spec_l7Other.f; rw [hK2 m (by omega), ← e3]; rfl
        rw [spec_l7Run.l0, if_pos h, hK1 m (by omega), Option.bind_some, if_neg e2, hot, Option.bind_some, Option.bind_some, w64 (x := (cutM L at_ 2).1 - 1) (by omega), show ((cutM L at_ 2).1 - 1) % 256 = (cutM L at_ 2).1 - 1 by omega, if_pos (by rw [strOfNums_size, strOfNums_size]; simp; omega), ← son_append]
        simp only [nmM, List.append_nil] at hm
        exact hm
    · rw [if_neg h]
      refine ⟨1, fun k hk => ?_⟩
      try dsimp only
      obtain ⟨m, rfl⟩ : ∃ m, k = m + 1 := ⟨k - 1, by omega⟩
      rw [spec_l7Run.l0, if_neg h]
      simp
theorem spec_RunPut_l0_ev (L : List Int) (size : Int) (hz : 1 ≤ size ∧ size ≤ 4) (hl : L.length ≤ 1000) (r : ByteArray) : ∀ (suf pre : List Int), L = pre ++ suf → ((∀ x ∈ suf, 0 ≤ x ∧ x ≤ P2 (8 * size).toNat - 1) → Ev (fun k => spec_l7Run.f k L size) r) → ((¬ ∀ x ∈ suf, 0 ≤ x ∧ x ≤ P2 (8 * size).toNat - 1) → r = ⟨#[]⟩) → Ev (fun k => spec_RunPut.l0 k L size (pre.length : Int)) r := by
  have hp := P2_62b (n := (8 * size).toNat) (by omega)
  intro suf
  induction suf with
  | nil =>
    intro pre hpre hy hn
    obtain ⟨K, hK⟩ := hy (by simp)
    try dsimp only at hK
    refine ⟨K + 1, fun k hk => ?_⟩
    try dsimp only
    obtain ⟨m, rfl⟩ : ∃ m, k = m + 1 := ⟨k - 1, by omega⟩
    rw [spec_RunPut.l0, if_neg (by rw [hpre]; simp), hK m (by omega)]; rfl
  | cons x suf ih =>
    intro pre hpre hy hn
    have hll : L.length = pre.length + suf.length + 1 := by rw [hpre]; simp; omega
    have hx : rd L (pre.length : Int) = x := by rw [hpre]; exact rd_at _ _ _ rfl
    obtain ⟨K1, hK1⟩ := l1Pow_evI (8 * size) (by omega) (by omega)
    try dsimp only at hK1
    by_cases hr : 0 ≤ x ∧ x ≤ P2 (8 * size).toNat - 1
    · obtain ⟨K, hK⟩ := ih (pre ++ [x]) (by simp [hpre]) (fun h => hy (by intro y hyy; rcases List.mem_cons.1 hyy with rfl | hyy; exact hr; exact h y hyy)) (fun h => hn (fun e => h (fun y hyy => e y (List.mem_cons_of_mem _ hyy))))
      try dsimp only at hK
      refine ⟨K + K1 + 1, fun k hk => ?_⟩
      try dsimp only
      obtain ⟨m, rfl⟩ : ∃ m, k = m + 1 := ⟨k - 1, by omega⟩
      have hm := hK m (by omega)
      rw [spec_RunPut.l0, if_pos (by omega), if_pos (by omega), w64 (x := 8 * size) (by omega), hK1 m (by omega), Option.bind_some, w64 (x := P2 _ - 1) (by omega), hx, l1In_f, Option.bind_some, if_pos (decide_eq_true hr), w64 (by omega)]
      rw [List.length_append, List.length_singleton, show ((pre.length + 1 : Nat) : Int) = (pre.length : Int) + 1 by omega] at hm
      exact hm
    · refine ⟨K1 + 1, fun k hk => ?_⟩
      try dsimp only
      obtain ⟨m, rfl⟩ : ∃ m, k = m + 1 := ⟨k - 1, by omega⟩
      rw [spec_RunPut.l0, if_pos (by omega), if_pos (by omega), w64 (x := 8 * size) (by omega), hK1 m (by omega), Option.bind_some, w64 (x := P2 _ - 1) (by omega), hx, l1In_f, Option.bind_some, if_neg (by simpa using hr), hn (fun e => hr (e x (by simp)))]
theorem spec_RunPut_ev (L : List Int) (size : Int) : Ev (fun k => spec_RunPut.f k L size) (runPutM L size) := by
  unfold spec_RunPut.f runPutM
  simp only [l1In_f, Option.bind_some, decide_eq_true_eq]
  by_cases h1 : 1 ≤ size ∧ size ≤ 4
  · by_cases h2 : L.length ≤ 1000
    · obtain ⟨K, hK⟩ := spec_RunPut_l0_ev L size h1 h2 (if runPutOk L size = true then strOfNums (rpM L size.toNat L.length 0) else ⟨#[]⟩) L [] rfl (fun hx => by
        rw [if_pos (show runPutOk L size = true from decide_eq_true ⟨h1, h2, hx⟩)]
        have h := spec_l7Run_l0_ev L size h1 h2 hx L.length 0 [] (by omega) (by omega) (by omega) (by simp)
        exact h) (fun hx => by rw [if_neg (show ¬ runPutOk L size = true from fun e => hx (of_decide_eq_true e).2.2)])
      try dsimp only at hK
      refine ⟨K + 1, fun k hk => ?_⟩
      try dsimp only
      obtain ⟨m, rfl⟩ : ∃ m, k = m + 1 := ⟨k - 1, by omega⟩
      rw [if_pos h1, spec_RunPut.j0, if_neg (by simp; omega)]
      exact hK m (by omega)
    · refine ⟨1, fun k hk => ?_⟩
      try dsimp only
      obtain ⟨m, rfl⟩ : ∃ m, k = m + 1 := ⟨k - 1, by omega⟩
      rw [if_pos h1, spec_RunPut.j0, if_pos (decide_eq_true (by omega)), if_neg (show ¬ runPutOk L size = true from fun e => h2 (of_decide_eq_true e).2.1)]
  · refine ⟨1, fun k hk => ?_⟩
    try dsimp only
    obtain ⟨m, rfl⟩ : ∃ m, k = m + 1 := ⟨k - 1, by omega⟩
    rw [if_neg h1, spec_RunPut.j0, if_pos rfl, if_neg (show ¬ runPutOk L size = true from fun e => h1 (of_decide_eq_true e).1)]
theorem impl_RunPut_l2_ev (L : List Int) (size : Int) (hz : 1 ≤ size ∧ size ≤ 4) (at_ n : Int) (r : ByteArray) (told : List Int) (ht : told.length ≤ 1000) (hx : ∀ x ∈ told, 0 ≤ x ∧ x ≤ P2 (8 * size).toNat - 1) :
    ∀ (suf pre : List Int) (out : List Int), told = pre ++ suf → out.length + 4 * suf.length ≤ 1000000 → (Ev (fun k => impl_RunPut.l1 k L size (strOfNums (out ++ suf.flatMap fun x => bytesLo x size.toNat)) (wrap64 (at_ + n))) r) → Ev (fun k => impl_RunPut.l2 k L size (strOfNums out) at_ n told (told.length : Int) (pre.length : Int)) r := by
  have hp := P2_62b (n := (8 * size).toNat) (by omega)
  intro suf
  induction suf with
  | nil =>
    intro pre out hpre ho hnext
    obtain ⟨K, hK⟩ := hnext
    try dsimp only at hK
    refine ⟨K + 1, fun k hk => ?_⟩
    try dsimp only
    obtain ⟨m, rfl⟩ : ∃ m, k = m + 1 := ⟨k - 1, by omega⟩
    have hm := hK m (by omega)
    rw [impl_RunPut.l2, if_neg (by rw [hpre]; simp)]
    simpa using hm
  | cons x suf ih =>
    intro pre out hpre ho hnext
    have hll : told.length = pre.length + suf.length + 1 := by rw [hpre]; simp; omega
    have hxx : rd told (pre.length : Int) = x := by rw [hpre]; exact rd_at _ _ _ rfl
    have hxb := hx x (by rw [hpre]; simp)
    obtain ⟨K1, hK1⟩ := impl_NumPut_ev x size false (by omega)
    try dsimp only at hK1
    rw [numPutA_in x size hz hxb] at hK1
    simp only [List.length_cons] at ho
    obtain ⟨K, hK⟩ := ih (pre ++ [x]) (out ++ bytesLo x size.toNat) (by simp [hpre]) (by rw [List.length_append, bytesLo_length]; omega) (by
      simp only [List.flatMap_cons] at hnext
      rw [List.append_assoc]; exact hnext)
    try dsimp only at hK
    refine ⟨K + K1 + 1, fun k hk => ?_⟩
    try dsimp only
    obtain ⟨m, rfl⟩ : ∃ m, k = m + 1 := ⟨k - 1, by omega⟩
    have hm := hK m (by omega)
    rw [impl_RunPut.l2, if_pos (by omega), if_pos (by omega), if_pos (by omega), hxx, hK1 m (by omega), Option.bind_some, if_pos (by rw [strOfNums_size, strOfNums_size, bytesLo_length]; omega), ← son_append, w64 (by omega)]
    rw [List.length_append, List.length_singleton, show ((pre.length + 1 : Nat) : Int) = (pre.length : Int) + 1 by omega] at hm
    exact hm
theorem nmM_flat (L : List Int) (size : Nat) (at_ : Nat) : ∀ n : Nat, at_ + n ≤ L.length → ((L.take (at_ + n)).drop at_).flatMap (fun x => bytesLo x size) = nmM L at_ size n := by
  intro n
  induction n with
  | zero => intro h; rw [Nat.add_zero, List.drop_eq_nil_of_le (by rw [List.length_take]; omega)]; rfl
  | succ n ih =>
    intro h
    have hl : at_ + n < L.length := by omega
    have e : (L.take (at_ + (n + 1))).drop at_ = (L.take (at_ + n)).drop at_ ++ [L[at_ + n]] := by
      rw [← Nat.add_assoc, List.take_succ_eq_append_getElem hl, List.drop_append_of_le_length (by rw [List.length_take]; omega)]
    rw [e, List.flatMap_append, ih (by omega)]
    simp only [nmM, List.flatMap_cons, List.flatMap_nil, List.append_nil]
    congr 2
    have e2 : ((at_ : Int) + (n : Int)).toNat = at_ + n := by omega
    simp [rd, e2, List.getD_eq_getElem?_getD, List.getElem?_eq_getElem hl]
theorem impl_RunPut_l1_ev (L : List Int) (size : Int) (hz : 1 ≤ size ∧ size ≤ 4) (hl : L.length ≤ 1000) (hx : ∀ x ∈ L, 0 ≤ x ∧ x ≤ P2 (8 * size).toNat - 1) : ∀ (f : Nat) (at_ : Int) (out : List Int), 0 ≤ at_ → at_ ≤ L.length → (L.length : Int) ≤ at_ + f → out.length ≤ 513 * at_.toNat → Ev (fun k => impl_RunPut.l1 k L size (strOfNums out) at_) (strOfNums (out ++ rpM L size.toNat f at_)) := by
  intro f
  induction f with
  | zero =>
    intro at_ out h0 h1 h2 h3
    refine ⟨1, fun k hk => ?_⟩
    try dsimp only
    obtain ⟨m, rfl⟩ : ∃ m, k = m + 1 := ⟨k - 1, by omega⟩
    rw [impl_RunPut.l1, if_neg (by omega)]
    simp [rpM]
  | succ f ih =>
    intro at_ out h0 h1 h2 h3
    simp only [rpM]
    by_cases h : at_ < L.length
    · have hc := cutM_b L at_ 2 h0 h (by omega)
      have hpl := pieceM_length L at_ size.toNat (by omega) h0 h
      have hnext := ih (at_ + (cutM L at_ 2).1) (out ++ pieceM L at_ size.toNat) (by omega) (by omega) (by omega) (by rw [List.length_append]; omega)
      rw [if_pos h, ← List.append_assoc]
      obtain ⟨K1, hK1⟩ := cut_ev L at_ h0 h (by omega)
      try dsimp only at hK1
      have hea : (at_.toNat : Int) = at_ := Int.toNat_of_nonneg h0
      have hn1 : (at_ + (cutM L at_ 2).1).toNat = at_.toNat + (cutM L at_ 2).1.toNat := by omega
      have hflat := nmM_flat L size.toNat at_.toNat (cutM L at_ 2).1.toNat (by omega)
      rw [hea] at hflat
      have htl : ((L.take (at_.toNat + (cutM L at_ 2).1.toNat)).drop at_.toNat).length = (cutM L at_ 2).1.toNat := by rw [List.length_drop, List.length_take]; omega
      have hti : ∀ x ∈ (L.take (at_.toNat + (cutM L at_ 2).1.toNat)).drop at_.toNat, 0 ≤ x ∧ x ≤ P2 (8 * size).toNat - 1 := fun x hxx => hx x (List.mem_of_mem_take (List.mem_of_mem_drop hxx))
      by_cases c : (cutM L at_ 2).2 = true
      · have hpi : pieceM L at_ size.toNat = [127 + (cutM L at_ 2).1] ++ nmM L at_ size.toNat 1 := by
          unfold pieceM; rw [if_pos c]; rfl
        have hone : (((L.take (at_.toNat + (cutM L at_ 2).1.toNat)).drop at_.toNat).take 1).flatMap (fun x => bytesLo x size.toNat) = nmM L at_ size.toNat 1 := by
          have h1 := nmM_flat L size.toNat at_.toNat 1 (by omega)
          rw [hea] at h1
          rw [← h1, List.take_drop, List.take_take, Nat.min_eq_left (by omega)]
        obtain ⟨K, hK⟩ := impl_RunPut_l2_ev L size hz at_ (cutM L at_ 2).1 (strOfNums (out ++ pieceM L at_ size.toNat ++ rpM L size.toNat f (at_ + (cutM L at_ 2).1))) (((L.take (at_.toNat + (cutM L at_ 2).1.toNat)).drop at_.toNat).take 1) (by rw [List.length_take]; omega) (fun x hxx => hti x (List.mem_of_mem_take hxx)) (((L.take (at_.toNat + (cutM L at_ 2).1.toNat)).drop at_.toNat).take 1) [] (out ++ [127 + (cutM L at_ 2).1]) rfl (by rw [List.length_take, List.length_append, List.length_singleton]; omega) (by
          rw [hone, List.append_assoc, ← hpi, w64 (by omega)]; exact hnext)
        try dsimp only at hK
        refine ⟨K + K1 + 2, fun k hk => ?_⟩
        try dsimp only
        obtain ⟨m, rfl⟩ : ∃ m, k = m + 2 := ⟨k - 2, by omega⟩
        have hm := hK m (by omega)
        rw [impl_RunPut.l1, if_pos h, hK1 (m + 1) (by omega), Option.bind_some, w64 (x := at_ + (cutM L at_ 2).1) (by omega), if_pos h0, if_pos (by omega), if_pos (by omega), hn1, Option.bind_some, if_pos c, Option.bind_some, w64 (x := 127 + _) (by omega), show (127 + (cutM L at_ 2).1) % 256 = 127 + (cutM L at_ 2).1 by omega, if_pos (by rw [strOfNums_size, strOfNums_size]; simp; omega), if_pos (by omega), impl_RunPut.j3, ← son_append]
        exact hm
      · have hpi : pieceM L at_ size.toNat = [(cutM L at_ 2).1 - 1] ++ nmM L at_ size.toNat (cutM L at_ 2).1.toNat := by
          unfold pieceM; rw [if_neg c]; rfl
        obtain ⟨K, hK⟩ := impl_RunPut_l2_ev L size hz at_ (cutM L at_ 2).1 (strOfNums (out ++ pieceM L at_ size.toNat ++ rpM L size.toNat f (at_ + (cutM L at_ 2).1))) ((L.take (at_.toNat + (cutM L at_ 2).1.toNat)).drop at_.toNat) (by omega) hti ((L.take (at_.toNat + (cutM L at_ 2).1.toNat)).drop at_.toNat) [] (out ++ [(cutM L at_ 2).1 - 1]) rfl (by rw [List.length_append, List.length_singleton]; omega) (by
          rw [hflat, List.append_assoc, ← hpi, w64 (by omega)]; exact hnext)
        try dsimp only at hK
        refine ⟨K + K1 + 2, fun k hk => ?_⟩
        try dsimp only
        obtain ⟨m, rfl⟩ : ∃ m, k = m + 2 := ⟨k - 2, by omega⟩
        have hm := hK m (by omega)
        rw [impl_RunPut.l1, if_pos h, hK1 (m + 1) (by omega), Option.bind_some, w64 (x := at_ + (cutM L at_ 2).1) (by omega), if_pos h0, if_pos (by omega), if_pos (by omega), hn1, Option.bind_some, if_neg c, Option.bind_some, w64 (x := (cutM L at_ 2).1 - 1) (by omega), show ((cutM L at_ 2).1 - 1) % 256 = (cutM L at_ 2).1 - 1 by omega, if_pos (by rw [strOfNums_size, strOfNums_size]; simp; omega), impl_RunPut.j3, ← son_append]
        exact hm
    · rw [if_neg h]
      refine ⟨1, fun k hk => ?_⟩
      try dsimp only
      obtain ⟨m, rfl⟩ : ∃ m, k = m + 1 := ⟨k - 1, by omega⟩
      rw [impl_RunPut.l1, if_neg h]
      simp
theorem impl_RunPut_l0_ev (L : List Int) (size : Int) (hz : 1 ≤ size ∧ size ≤ 4) (hl : L.length ≤ 1000) (r : ByteArray) : ∀ (suf pre : List Int), L = pre ++ suf → ((∀ x ∈ suf, 0 ≤ x ∧ x ≤ P2 (8 * size).toNat - 1) → Ev (fun k => impl_RunPut.l1 k L size (⟨#[]⟩ : ByteArray) 0) r) → ((¬ ∀ x ∈ suf, 0 ≤ x ∧ x ≤ P2 (8 * size).toNat - 1) → r = ⟨#[]⟩) → Ev (fun k => impl_RunPut.l0 k L size L (L.length : Int) (pre.length : Int)) r := by
  have hp := P2_62b (n := (8 * size).toNat) (by omega)
  intro suf
  induction suf with
  | nil =>
    intro pre hpre hy hn
    obtain ⟨K, hK⟩ := hy (by simp)
    try dsimp only at hK
    refine ⟨K + 1, fun k hk => ?_⟩
    try dsimp only
    obtain ⟨m, rfl⟩ : ∃ m, k = m + 1 := ⟨k - 1, by omega⟩
    rw [impl_RunPut.l0, if_neg (by rw [hpre]; simp), hK m (by omega)]
  | cons x suf ih =>
    intro pre hpre hy hn
    have hll : L.length = pre.length + suf.length + 1 := by rw [hpre]; simp; omega
    have hx : rd L (pre.length : Int) = x := by rw [hpre]; exact rd_at _ _ _ rfl
    by_cases hr : 0 ≤ x ∧ x ≤ P2 (8 * size).toNat - 1
    · obtain ⟨K, hK⟩ := ih (pre ++ [x]) (by simp [hpre]) (fun h => hy (by intro y hyy; rcases List.mem_cons.1 hyy with rfl | hyy; exact hr; exact h y hyy)) (fun h => hn (fun e => h (fun y hyy => e y (List.mem_cons_of_mem _ hyy))))
      try dsimp only at hK
      refine ⟨K + 1, fun k hk => ?_⟩
      try dsimp only
      obtain ⟨m, rfl⟩ : ∃ m, k = m + 1 := ⟨k - 1, by omega⟩
      have hm := hK m (by omega)
      rw [impl_RunPut.l0, if_pos (by omega), if_pos (by omega), if_pos (by omega), w64 (x := 8 * size) (by omega), if_pos (by omega), shl1_P2 (by omega) (by omega), w64 (x := P2 _ - 1) (by omega), hx, in_f, Option.bind_some, if_pos (decide_eq_true hr), w64 (by omega)]
      rw [List.length_append, List.length_singleton, show ((pre.length + 1 : Nat) : Int) = (pre.length : Int) + 1 by omega] at hm
      exact hm
    · refine ⟨1, fun k hk => ?_⟩
      try dsimp only
      obtain ⟨m, rfl⟩ : ∃ m, k = m + 1 := ⟨k - 1, by omega⟩
      rw [impl_RunPut.l0, if_pos (by omega), if_pos (by omega), if_pos (by omega), w64 (x := 8 * size) (by omega), if_pos (by omega), shl1_P2 (by omega) (by omega), w64 (x := P2 _ - 1) (by omega), hx, in_f, Option.bind_some, if_neg (by simpa using hr), hn (fun e => hr (e x (by simp)))]
theorem impl_RunPut_ev (L : List Int) (size : Int) : Ev (fun k => impl_RunPut.f k L size) (runPutM L size) := by
  unfold impl_RunPut.f runPutM
  simp only [in_f, Option.bind_some]
  by_cases h2 : L.length ≤ 1000
  · by_cases h1 : 1 ≤ size ∧ size ≤ 4
    · obtain ⟨K, hK⟩ := impl_RunPut_l0_ev L size h1 h2 (if runPutOk L size = true then strOfNums (rpM L size.toNat L.length 0) else ⟨#[]⟩) L [] rfl (fun hx => by
        rw [if_pos (show runPutOk L size = true from decide_eq_true ⟨h1, h2, hx⟩)]
        have h := impl_RunPut_l1_ev L size h1 h2 hx L.length 0 [] (by omega) (by omega) (by omega) (by simp)
        exact h) (fun hx => by rw [if_neg (show ¬ runPutOk L size = true from fun e => hx (of_decide_eq_true e).2.2)])
      try dsimp only at hK
      refine ⟨K + 1, fun k hk => ?_⟩
      try dsimp only
      obtain ⟨m, rfl⟩ : ∃ m, k = m + 1 := ⟨k - 1, by omega⟩
      rw [if_neg (by omega), impl_RunPut.j0, if_neg (by simp; omega)]
      exact hK m (by omega)
    · refine ⟨1, fun k hk => ?_⟩
      try dsimp only
      obtain ⟨m, rfl⟩ : ∃ m, k = m + 1 := ⟨k - 1, by omega⟩
      rw [if_neg (by omega), impl_RunPut.j0, if_pos (by simp; omega), if_neg (show ¬ runPutOk L size = true from fun e => h1 (of_decide_eq_true e).1)]
  · refine ⟨1, fun k hk => ?_⟩
    try dsimp only
    obtain ⟨m, rfl⟩ : ∃ m, k = m + 1 := ⟨k - 1, by omega⟩
    rw [if_pos (by omega), impl_RunPut.j0, if_pos rfl, if_neg (show ¬ runPutOk L size = true from fun e => h2 (of_decide_eq_true e).2.1)]
theorem toIntS_l0_ev (l : List Int) (hl : l.length ≤ 35184372088832) : ∀ (suf pre : List Int), l = pre ++ suf → Ev (fun k => laws_toIntS.l0 k l (pre ++ List.replicate suf.length 0) (pre.length : Int)) l := by
  intro suf
  induction suf with
  | nil =>
    intro pre hp
    refine ⟨1, fun k hk => ?_⟩
    try dsimp only
    obtain ⟨m, rfl⟩ : ∃ m, k = m + 1 := ⟨k - 1, by omega⟩
    subst hp
    rw [laws_toIntS.l0, if_neg (by simp)]
    simp
  | cons x suf ih =>
    intro pre hp
    obtain ⟨K, hK⟩ := ih (pre ++ [x]) (by simp [hp])
    try dsimp only at hK
    refine ⟨K + 1, fun k hk => ?_⟩
    try dsimp only
    obtain ⟨m, rfl⟩ : ∃ m, k = m + 1 := ⟨k - 1, by omega⟩
    have hm := hK m (by omega)
    have hll : l.length = pre.length + suf.length + 1 := by rw [hp]; simp; omega
    have hx : rd l (pre.length : Int) = x := by rw [hp]; exact rd_at _ _ _ rfl
    rw [laws_toIntS.l0, if_pos (by omega), if_pos (by omega), if_pos (by simp; omega), hx, w64 (by omega), List.length_cons, List.replicate_succ, set_at _ _ _ _ (by omega)]
    simp only [List.append_assoc, List.singleton_append, List.length_append, List.length_singleton] at hm
    rw [show ((pre.length + 1 : Nat) : Int) = (pre.length : Int) + 1 by omega] at hm
    exact hm
theorem toIntS_ev (l : List Int) (hl : l.length ≤ 35184372088832) : Ev (fun k => laws_toIntS.f k l) l := by
  obtain ⟨K, hK⟩ := toIntS_l0_ev l hl l [] rfl
  try dsimp only at hK
  refine ⟨K, fun k hk => ?_⟩
  try dsimp only
  have hm := hK k hk
  unfold laws_toIntS.f
  rw [if_pos (by omega), if_pos (by omega), Int.toNat_natCast]
  exact hm
theorem eqIntS_l0_ev (a b : List Int) (hl : a.length ≤ 35184372088832) (hab : a.length = b.length) : ∀ (sa sb pa pb : List Int), a = pa ++ sa → b = pb ++ sb → pa.length = pb.length → Ev (fun k => laws_eqIntS.l0 k a b (pa.length : Int)) (decide (sa = sb)) := by
  intro sa
  induction sa with
  | nil =>
    intro sb pa pb ha hb hp
    have hsb : sb = [] := by
      cases sb with
      | nil => rfl
      | cons y sb => rw [ha, hb] at hab; simp at hab; omega
    subst hsb
    refine ⟨1, fun k hk => ?_⟩
    try dsimp only
    obtain ⟨m, rfl⟩ : ∃ m, k = m + 1 := ⟨k - 1, by omega⟩
    rw [laws_eqIntS.l0, if_neg (by rw [ha]; simp)]
    simp
  | cons x sa ih =>
    intro sb pa pb ha hb hp
    cases sb with
    | nil => rw [ha, hb] at hab; simp at hab; omega
    | cons y sb =>
      have hll : a.length = pa.length + sa.length + 1 := by rw [ha]; simp; omega
      have hx : rd a (pa.length : Int) = x := by rw [ha]; exact rd_at _ _ _ rfl
      have hy : rd b (pa.length : Int) = y := by rw [hb]; exact rd_at _ _ _ (by omega)
      by_cases hxy : x = y
      · obtain ⟨K, hK⟩ := ih sb (pa ++ [x]) (pb ++ [y]) (by simp [ha]) (by simp [hb]) (by simp [hp])
        try dsimp only at hK
        refine ⟨K + 1, fun k hk => ?_⟩
        try dsimp only
        obtain ⟨m, rfl⟩ : ∃ m, k = m + 1 := ⟨k - 1, by omega⟩
        have hm := hK m (by omega)
        rw [laws_eqIntS.l0, if_pos (by omega), if_pos (by omega), if_pos (by omega), hx, hy, if_pos hxy, w64 (by omega)]
        rw [List.length_append, List.length_singleton, show ((pa.length + 1 : Nat) : Int) = (pa.length : Int) + 1 by omega] at hm
        rw [hm]
        simp [hxy]
      · refine ⟨1, fun k hk => ?_⟩
        try dsimp only
        obtain ⟨m, rfl⟩ : ∃ m, k = m + 1 := ⟨k - 1, by omega⟩
        rw [laws_eqIntS.l0, if_pos (by omega), if_pos (by omega), if_pos (by omega), hx, hy, if_neg hxy]
        simp [hxy]
theorem eqIntS_ev (a b : List Int) (hl : a.length ≤ 35184372088832) (hl2 : b.length ≤ 35184372088832) : Ev (fun k => laws_eqIntS.f k a b) (decide (a = b)) := by
  unfold laws_eqIntS.f
  by_cases h : a.length = b.length
  · obtain ⟨K, hK⟩ := eqIntS_l0_ev a b hl h a b [] [] rfl rfl rfl
    try dsimp only at hK
    refine ⟨K, fun k hk => ?_⟩
    try dsimp only
    rw [if_pos (by omega)]
    exact hK k hk
  · refine ⟨0, fun k hk => ?_⟩
    try dsimp only
    rw [if_neg (by omega), decide_eq_false (fun e => h (by rw [e]))]

theorem FnExactRunPut : laws_FnExactRunPut.Pure := by
  intro l size hl hl8 hw w1
  unfold laws_FnExactRunPut.f
  by_cases h : (l.length : Int) > 1048576
  · exact ⟨0, by rw [if_pos h]⟩
  obtain ⟨K1, h1⟩ := toIntS_ev l (by omega)
  try dsimp only at h1
  obtain ⟨K2, h2⟩ := spec_RunPut_ev l size
  try dsimp only at h2
  obtain ⟨K3, h3⟩ := impl_RunPut_ev l size
  try dsimp only at h3
  obtain ⟨K4, h4⟩ := eqIntS_ev l l (by omega) (by omega)
  try dsimp only at h4
  refine ⟨K1 + K2 + K3 + K4, ?_⟩
  rw [if_neg h, h1 _ (by omega), Option.bind_some, h2 _ (by omega), Option.bind_some, Option.bind_some, h3 _ (by omega), Option.bind_some, if_pos rfl, Option.bind_some, h4 _ (by omega), Option.bind_some, if_pos (decide_eq_true rfl)]

end Go.Proofs.Ytpjkcdgamlllgaa.Pure
