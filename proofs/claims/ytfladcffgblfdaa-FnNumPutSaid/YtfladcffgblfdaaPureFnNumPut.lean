/- Of every number, size and order, and every text, place, size and order that the reference draws from two lists of at most 1048576 bytes (longer ones are let by): the program's NumPut and NumGet answer as the reference, a number that is put is got again, the other order has the bytes turned round, and what is got and put again stands there. -/
import Derived.Test.YtfladcffgblfdaaHFnNumPutx5
import Derived.Test.YtfladcffgblfdaaThNum
import Derived.Test.YtfladcffgblfdaaThPut
import Derived.Test.YtfladcffgblfdaaThXor
import Derived.Test.YtfladcffgblfdaaThStr
import Derived.Test.YtfladcffgblfdaaThNumGP
namespace Go.Proofs.Ytfladcffgblfdaa.Pure
open Go.RowKit Go.Proofs.Ytfladcffgblfdaa.PFnNumPut Go.Proofs.YtfladcffgblfdaaW.PrintWords Go.Proofs.YtfladcffgblfdaaW.PrintLast Go.Proofs.YtfladcffgblfdaaW.PrintMore Go.Proofs.Ytfladcffgblfdaa.Th
set_option linter.unusedVariables false
set_option linter.unusedSimpArgs false

theorem in_f (a b c : Int) : impl_in.f a b c = some (decide (b ≤ a ∧ a ≤ c)) := by
  unfold impl_in.f
  by_cases h : b ≤ a
  · rw [if_pos h]; simp [h]
  · rw [if_neg h]; simp [h]
theorem l1In_f (a b c : Int) : spec_l1In.f a b c = some (decide (b ≤ a ∧ a ≤ c)) := by
  unfold spec_l1In.f
  by_cases h : b ≤ a
  · rw [if_pos h]; simp [h]
  · rw [if_neg h]; simp [h]
theorem l1Pow_l0_ev (n : Nat) (hn : n ≤ 62) : ∀ d i : Nat, i + d = n → Ev (fun k => spec_l1Pow.l0 k (n : Int) (P2 i) (i : Int)) (P2 n) := by
  intro d
  induction d with
  | zero =>
    intro i hi
    refine ⟨1, fun k hk => ?_⟩
    try dsimp only
    obtain ⟨m, rfl⟩ : ∃ m, k = m + 1 := ⟨k - 1, by omega⟩
    rw [spec_l1Pow.l0, if_neg (by omega), show i = n by omega]
  | succ d ih =>
    intro i hi
    obtain ⟨K, hK⟩ := ih (i + 1) (by omega)
    try dsimp only at hK
    refine ⟨K + 1, fun k hk => ?_⟩
    try dsimp only
    obtain ⟨m, rfl⟩ : ∃ m, k = m + 1 := ⟨k - 1, by omega⟩
    have hm := hK m (by omega)
    have hb := P2_62b (n := i) (by omega)
    have hb' := P2_62b (n := i + 1) (by omega)
    have hs := P2_succ i
    rw [spec_l1Pow.l0, if_pos (by omega), w64 (by omega), w64 (by omega), show P2 i * 2 = P2 (i + 1) by omega, show (i : Int) + 1 = ((i + 1 : Nat) : Int) by omega]
    exact hm
theorem l1Pow_ev (n : Nat) (hn : n ≤ 62) : Ev (fun k => spec_l1Pow.f k (n : Int)) (P2 n) := l1Pow_l0_ev n hn n 0 (by omega)
theorem l1Pow_evI (n : Int) (h0 : 0 ≤ n) (hn : n ≤ 62) : Ev (fun k => spec_l1Pow.f k n) (P2 n.toNat) := by
  have h := l1Pow_ev n.toNat (by omega)
  rw [Int.toNat_of_nonneg h0] at h
  exact h
theorem l1Num_l0_ev (n0 : Int) (size : Nat) (big : Bool) (h2 : size ≤ 4) (hn : 0 ≤ n0) (hn2 : n0 ≤ 9223372036854775807) :
    ∀ d i : Nat, i + d = size → Ev (fun k => spec_l1Num.l0 k (n0 / P2 (8 * i)) (size : Int) big (strOfNums (if big = true then (bytesLo n0 i).reverse else bytesLo n0 i)) (i : Int)) (numPutM n0 size big) := by
  intro d
  induction d with
  | zero =>
    intro i hi
    refine ⟨1, fun k hk => ?_⟩
    try dsimp only
    obtain ⟨m, rfl⟩ : ∃ m, k = m + 1 := ⟨k - 1, by omega⟩
    rw [spec_l1Num.l0, if_neg (by omega), show i = size by omega]
    rfl
  | succ d ih =>
    intro i hi
    obtain ⟨K, hK⟩ := ih (i + 1) (by omega)
    try dsimp only at hK
    refine ⟨K + 1, fun k hk => ?_⟩
    try dsimp only
    obtain ⟨m, rfl⟩ : ∃ m, k = m + 1 := ⟨k - 1, by omega⟩
    have hm := hK m (by omega)
    have hp := P2_pos (8 * i)
    have hq : 0 ≤ n0 / P2 (8 * i) := Int.ediv_nonneg hn (by omega)
    have hq2 : n0 / P2 (8 * i) ≤ n0 := Int.ediv_le_self _ hn
    have hdiv : n0 / P2 (8 * i) / 256 = n0 / P2 (8 * (i + 1)) := by
      rw [Int.ediv_ediv_of_nonneg (by omega), show 8 * (i + 1) = 8 * i + 8 by omega, P2_add]; rfl
    have hmod : Int.tmod (n0 / P2 (8 * i)) 256 % 256 = n0 / P2 (8 * i) % 256 := by rw [tmod_pos hq]; omega
    have hsz := strOfNums_size (if big = true then (bytesLo n0 i).reverse else bytesLo n0 i)
    have hl : (if big = true then (bytesLo n0 i).reverse else bytesLo n0 i).length = i := by cases big <;> simp [bytesLo_length]
    rw [hl] at hsz
    rw [spec_l1Num.l0, if_pos (by omega)]
    simp only [Option.bind_some, hmod, tdiv_pos hq]
    rw [w64 (x := n0 / P2 (8 * i) / 256) (by omega), w64 (x := (i : Int) + 1) (by omega), hdiv, show (i : Int) + 1 = ((i + 1 : Nat) : Int) by omega]
    have h1 := strOfNums_size [n0 / P2 (8 * i) % 256]
    simp only [List.length_singleton] at h1
    cases big
    · simp only [Bool.false_eq_true, if_false] at hsz hm ⊢
      rw [if_pos (by omega), ← son_append]
      simpa only [bytesLo] using hm
    · simp only [if_true] at hsz hm ⊢
      rw [if_pos (by omega), ← son_append]
      simpa only [bytesLo, List.reverse_append, List.reverse_cons, List.reverse_nil, List.nil_append, List.singleton_append, List.cons_append] using hm
theorem l1Num_ev (n0 size : Int) (big : Bool) (h0 : 0 ≤ size) (h2 : size ≤ 4) (hn : 0 ≤ n0) (hn2 : n0 ≤ 9223372036854775807) : Ev (fun k => spec_l1Num.f k n0 size big) (numPutM n0 size.toNat big) := by
  have h := l1Num_l0_ev n0 size.toNat big (by omega) hn hn2 size.toNat 0 (by omega)
  rw [Int.toNat_of_nonneg h0] at h
  have e : n0 / P2 (8 * 0) = n0 := by simp [P2]
  rw [e] at h
  have e2 : strOfNums (if big = true then (bytesLo n0 0).reverse else bytesLo n0 0) = (⟨#[]⟩ : ByteArray) := by cases big <;> simp [bytesLo, son_nil]
  rw [e2] at h
  exact h
def numPutA (n size : Int) (big : Bool) : ByteArray := if 1 ≤ size ∧ size ≤ 4 ∧ 0 ≤ n ∧ n ≤ P2 (8 * size).toNat - 1 then numPutM n size.toNat big else ⟨#[]⟩
theorem spec_NumPut_ev (n size : Int) (big : Bool) (hw : -9223372036854775808 ≤ n ∧ n ≤ 9223372036854775807) : Ev (fun k => spec_NumPut.f k n size big) (numPutA n size big) := by
  unfold spec_NumPut.f numPutA
  simp only [l1In_f, Option.bind_some, decide_eq_true_eq]
  by_cases h1 : 1 ≤ size ∧ size ≤ 4
  · obtain ⟨K1, hK1⟩ := l1Pow_evI (8 * size) (by omega) (by omega)
    try dsimp only at hK1
    have hb := P2_62b (n := (8 * size).toNat) (by omega)
    by_cases h3 : 0 ≤ n ∧ n ≤ P2 (8 * size).toNat - 1
    · obtain ⟨K, hK⟩ := l1Num_ev n size big (by omega) h1.2 h3.1 hw.2
      try dsimp only at hK
      refine ⟨K + K1, fun k hk => ?_⟩
      try dsimp only
      rw [if_pos h1, w64 (by omega), hK1 k (by omega)]
      simp only [Option.bind_some]
      rw [w64 (by omega), if_pos h3, hK k (by omega), if_pos ⟨h1.1, h1.2, h3.1, h3.2⟩]
      rfl
    · refine ⟨K1, fun k hk => ?_⟩
      try dsimp only
      rw [if_pos h1, w64 (by omega), hK1 k (by omega)]
      simp only [Option.bind_some]
      rw [w64 (by omega), if_neg h3, if_neg (by omega)]
  · refine ⟨0, fun k hk => ?_⟩
    try dsimp only
    rw [if_neg h1, if_neg (by omega)]
theorem impl_NumPut_l0_ev (n0 : Int) (size : Nat) (big : Bool) (h2 : size ≤ 4) (hn : 0 ≤ n0) (hn2 : n0 ≤ 9223372036854775807) :
    ∀ d i : Nat, i + d = size → Ev (fun k => impl_NumPut.l0 k n0 (size : Int) big (if big = true then List.replicate d 0 ++ (bytesLo n0 i).reverse else bytesLo n0 i ++ List.replicate d 0) (size : Int) (i : Int)) (numPutM n0 size big) := by
  intro d
  induction d with
  | zero =>
    intro i hi
    refine ⟨1, fun k hk => ?_⟩
    try dsimp only
    obtain ⟨m, rfl⟩ : ∃ m, k = m + 1 := ⟨k - 1, by omega⟩
    rw [impl_NumPut.l0, if_neg (by omega), show i = size by omega]
    unfold numPutM
    cases big <;> simp
  | succ d ih =>
    intro i hi
    obtain ⟨K, hK⟩ := ih (i + 1) (by omega)
    try dsimp only at hK
    refine ⟨K + 1, fun k hk => ?_⟩
    try dsimp only
    obtain ⟨m, rfl⟩ : ∃ m, k = m + 1 := ⟨k - 1, by omega⟩
    have hm := hK m (by omega)
    have e8 : (8 * (i : Int)).toNat = 8 * i := by omega
    rw [impl_NumPut.l0, if_pos (by omega)]
    simp (disch := omega) only [w64, shr_P2, e8]
    cases big
    · simp only [Bool.false_eq_true, if_false] at hm ⊢
      have hl := bytesLo_length n0 i
      rw [if_pos (by omega), if_pos (by omega), if_pos (by simp; omega), List.replicate_succ, set_at _ _ _ _ (by omega)]
      simp only [bytesLo, List.append_assoc, List.singleton_append] at hm
      exact hm
    · simp only [if_true] at hm ⊢
      have hl := bytesLo_length n0 i
      rw [if_pos (by omega), if_pos (by omega), if_pos (by simp; omega), List.replicate_succ', List.append_assoc, List.singleton_append, set_at _ _ _ _ (by simp; omega)]
      simp only [bytesLo, List.reverse_append, List.reverse_cons, List.reverse_nil, List.nil_append, List.singleton_append, List.cons_append] at hm
      exact hm
theorem impl_NumPut_ev (n size : Int) (big : Bool) (hw : -9223372036854775808 ≤ n ∧ n ≤ 9223372036854775807) : Ev (fun k => impl_NumPut.f k n size big) (numPutA n size big) := by
  unfold impl_NumPut.f numPutA
  simp only [in_f, Option.bind_some, decide_eq_true_eq]
  by_cases h1 : 1 ≤ size ∧ size ≤ 4
  · have hb := P2_62b (n := (8 * size).toNat) (by omega)
    rw [w64 (x := 8 * size) (by omega), shl1_P2 (by omega) (by omega), w64 (x := P2 (8 * size).toNat - 1) (by omega)]
    by_cases h3 : 0 ≤ n ∧ n ≤ P2 (8 * size).toNat - 1
    · obtain ⟨K, hK⟩ := impl_NumPut_l0_ev n size.toNat big (by omega) h3.1 hw.2 size.toNat 0 (by omega)
      try dsimp only at hK
      refine ⟨K + 1, fun k hk => ?_⟩
      try dsimp only
      obtain ⟨m, rfl⟩ : ∃ m, k = m + 1 := ⟨k - 1, by omega⟩
      have hm := hK m (by omega)
      rw [Int.toNat_of_nonneg (by omega)] at hm
      rw [if_pos h1, if_pos (by omega), decide_eq_true h3, if_pos ⟨h1.1, h1.2, h3.1, h3.2⟩, impl_NumPut.j0]
      simp only [Bool.not_true, Bool.false_eq_true, if_false, Option.bind_some]
      rw [if_pos (by omega), if_pos (by omega), List.length_replicate, Int.toNat_of_nonneg (by omega)]
      cases big <;> simpa [bytesLo] using hm
    · refine ⟨1, fun k hk => ?_⟩
      try dsimp only
      obtain ⟨m, rfl⟩ : ∃ m, k = m + 1 := ⟨k - 1, by omega⟩
      rw [if_pos h1, if_pos (by omega), decide_eq_false h3, if_neg (by omega), impl_NumPut.j0]
      simp
  · refine ⟨1, fun k hk => ?_⟩
    try dsimp only
    obtain ⟨m, rfl⟩ : ∃ m, k = m + 1 := ⟨k - 1, by omega⟩
    rw [if_neg h1, if_neg (by omega), impl_NumPut.j0]
    simp
theorem l1Field_l0_ev (s : ByteArray) (at_ size : Int) (big : Bool) (hs : s.size ≤ 9000) (h0 : 0 ≤ at_) (h1 : 1 ≤ size) (h2 : size ≤ 4) (h3 : at_ + size ≤ s.size) :
    ∀ d i : Nat, i + d = size.toNat → Ev (fun k => spec_l1Field.l0 k s at_ size big (numM s at_ size big i) (i : Int)) (numM s at_ size big size.toNat) := by
  intro d
  induction d with
  | zero =>
    intro i hi
    refine ⟨1, fun k hk => ?_⟩
    try dsimp only
    obtain ⟨m, rfl⟩ : ∃ m, k = m + 1 := ⟨k - 1, by omega⟩
    rw [spec_l1Field.l0, if_neg (by omega), show i = size.toNat by omega]
  | succ d ih =>
    intro i hi
    obtain ⟨K, hK⟩ := ih (i + 1) (by omega)
    try dsimp only at hK
    refine ⟨K + 1, fun k hk => ?_⟩
    try dsimp only
    obtain ⟨m, rfl⟩ : ∃ m, k = m + 1 := ⟨k - 1, by omega⟩
    have hm := hK m (by omega)
    have hb := numM_b4 s at_ size big i (by omega)
    rw [spec_l1Field.l0, if_pos (by omega)]
    cases big
    · have ht := bt_range s (at_ + size - 1 - i)
      simp only [numM, Bool.false_eq_true, if_false] at hm
      simp (disch := omega) only [w64, Bool.false_eq_true, ↓if_false, ↓if_pos]
      exact hm
    · have ht := bt_range s (at_ + i)
      simp only [numM, if_true] at hm
      simp (disch := omega) only [w64, ↓if_true, ↓if_pos]
      exact hm
theorem l1Field_ev (s : ByteArray) (at_ size : Int) (big : Bool) (hs : s.size ≤ 9000) (h0 : 0 ≤ at_) (h1 : 1 ≤ size) (h2 : size ≤ 4) (h3 : at_ + size ≤ s.size) :
    Ev (fun k => spec_l1Field.f k s at_ size big) (numM s at_ size big size.toNat) := by
  obtain ⟨K, hK⟩ := l1Field_l0_ev s at_ size big hs h0 h1 h2 h3 size.toNat 0 (by omega)
  try dsimp only at hK
  refine ⟨K + 1, fun k hk => ?_⟩
  try dsimp only
  obtain ⟨m, rfl⟩ : ∃ m, k = m + 1 := ⟨k - 1, by omega⟩
  have hm := hK m (by omega)
  unfold spec_l1Field.f
  rw [if_neg (by omega), w64 (by omega), spec_l1Field.j0, decide_eq_false (by omega)]
  simp only [Bool.false_eq_true, if_false]
  exact hm
def numGetM (s : ByteArray) (at_ size : Int) (big : Bool) : Int × Bool :=
  if 1 ≤ size ∧ size ≤ 4 ∧ s.size ≤ 9000 ∧ 0 ≤ at_ ∧ at_ + size ≤ s.size then (numM s at_ size big size.toNat, true) else (0, false)
theorem spec_NumGet_ev (s : ByteArray) (at_ size : Int) (big : Bool) (hs : s.size ≤ 1048576) (hw : -9223372036854775808 ≤ size ∧ size ≤ 9223372036854775807) : Ev (fun k => spec_NumGet.f k s at_ size big) (numGetM s at_ size big) := by
  unfold spec_NumGet.f numGetM
  simp only [l1In_f, Option.bind_some, decide_eq_true_eq]
  by_cases h1 : 1 ≤ size ∧ size ≤ 4
  · by_cases h2 : s.size ≤ 9000
    · by_cases h3 : 0 ≤ at_ ∧ at_ + size ≤ s.size
      · obtain ⟨K, hK⟩ := l1Field_ev s at_ size big h2 h3.1 h1.1 h1.2 h3.2
        try dsimp only at hK
        refine ⟨K, fun k hk => ?_⟩
        try dsimp only
        rw [if_pos h1, if_neg (by omega), w64 (by omega), if_pos (by omega), hK k hk, if_pos (by omega)]
        rfl
      · refine ⟨0, fun k hk => ?_⟩
        try dsimp only
        rw [if_pos h1, if_neg (by omega), w64 (by omega), if_neg (by omega), if_neg (by omega)]
    · refine ⟨0, fun k hk => ?_⟩
      try dsimp only
      rw [if_pos h1, if_pos (by omega), if_neg (by omega)]
  · refine ⟨0, fun k hk => ?_⟩
    try dsimp only
    rw [if_neg h1, if_neg (by omega)]
theorem impl_NumGet_l0_ev (s : ByteArray) (at_ size : Int) (big : Bool) (hs : s.size ≤ 9000) (h0 : 0 ≤ at_) (h1 : 1 ≤ size) (h2 : size ≤ 4) (h3 : at_ + size ≤ s.size) :
    ∀ d i : Nat, i + d = size.toNat → Ev (fun k => impl_NumGet.l0 k s at_ size big (numM s at_ size big i) size (i : Int)) (numM s at_ size big size.toNat, true) := by
  intro d
  induction d with
  | zero =>
    intro i hi
    refine ⟨1, fun k hk => ?_⟩
    try dsimp only
    obtain ⟨m, rfl⟩ : ∃ m, k = m + 1 := ⟨k - 1, by omega⟩
    rw [impl_NumGet.l0, if_neg (by omega), show i = size.toNat by omega]
  | succ d ih =>
    intro i hi
    obtain ⟨K, hK⟩ := ih (i + 1) (by omega)
    try dsimp only at hK
    refine ⟨K + 1, fun k hk => ?_⟩
    try dsimp only
    obtain ⟨m, rfl⟩ : ∃ m, k = m + 1 := ⟨k - 1, by omega⟩
    have hm := hK m (by omega)
    have hb := numM_b4 s at_ size big i (by omega)
    have h8 : P2 8 = 256 := rfl
    rw [impl_NumGet.l0, if_pos (by omega)]
    cases big
    · have ht := bt_range s (at_ + size - 1 - i)
      have hj := or_join (i := 8) (x := numM s at_ size false i * 256) (y := bt s (at_ + size - 1 - i)) (by omega) (by rw [h8]; omega) (by omega) (by omega) (by omega) (by omega)
      simp only [numM, Bool.false_eq_true, if_false] at hm
      simp (disch := omega) only [w64, Bool.false_eq_true, ↓if_false, ↓if_pos]
      rw [hj, Int.mul_comm]
      exact hm
    · have ht := bt_range s (at_ + i)
      have hj := or_join (i := 8) (x := numM s at_ size true i * 256) (y := bt s (at_ + i)) (by omega) (by rw [h8]; omega) (by omega) (by omega) (by omega) (by omega)
      simp only [numM, if_true] at hm
      simp (disch := omega) only [w64, ↓if_true, ↓if_pos]
      rw [hj, Int.mul_comm]
      exact hm
theorem impl_NumGet_ev (s : ByteArray) (at_ size : Int) (big : Bool) (hs : s.size ≤ 1048576) (hw : -9223372036854775808 ≤ size ∧ size ≤ 9223372036854775807) : Ev (fun k => impl_NumGet.f k s at_ size big) (numGetM s at_ size big) := by
  unfold impl_NumGet.f numGetM
  simp only [in_f, Option.bind_some, decide_eq_true_eq]
  by_cases h1 : 1 ≤ size ∧ size ≤ 4
  · by_cases h2 : s.size ≤ 9000
    · by_cases h3 : 0 ≤ at_ ∧ at_ + size ≤ s.size
      · obtain ⟨K, hK⟩ := impl_NumGet_l0_ev s at_ size big h2 h3.1 h1.1 h1.2 h3.2 size.toNat 0 (by omega)
        try dsimp only at hK
        refine ⟨K + 1, fun k hk => ?_⟩
        try dsimp only
        obtain ⟨m, rfl⟩ : ∃ m, k = m + 1 := ⟨k - 1, by omega⟩
        have hm := hK m (by omega)
        rw [if_pos h1, if_neg (by omega), w64 (by omega), decide_eq_true (by omega), if_pos (by omega)]
        simp only [Bool.not_true, impl_NumGet.j0, Bool.false_eq_true, if_false]
        exact hm
      · refine ⟨1, fun k hk => ?_⟩
        try dsimp only
        obtain ⟨m, rfl⟩ : ∃ m, k = m + 1 := ⟨k - 1, by omega⟩
        rw [if_pos h1, if_neg (by omega), w64 (by omega), decide_eq_false (by omega), if_neg (by omega)]
        simp only [Bool.not_false, impl_NumGet.j0, if_true]
    · refine ⟨1, fun k hk => ?_⟩
      try dsimp only
      obtain ⟨m, rfl⟩ : ∃ m, k = m + 1 := ⟨k - 1, by omega⟩
      rw [if_pos h1, if_pos (by omega), if_neg (by omega)]
      simp only [impl_NumGet.j0, if_true]
  · refine ⟨1, fun k hk => ?_⟩
    try dsimp only
    obtain ⟨m, rfl⟩ : ∃ m, k = m + 1 := ⟨k - 1, by omega⟩
    rw [if_neg h1, if_neg (by omega)]
    simp only [impl_NumGet.j0, if_true]
/-- A drawing's bytes. -/
def Code (b : List Int) : Prop := b.length ≤ 2000 ∧ ∀ x ∈ b, 0 ≤ x ∧ x ≤ 255
theorem l1Open_f (l : List Int) : spec_l1Open.f l = some (l.take 2000, 0) := by
  unfold spec_l1Open.f
  by_cases h : (l.length : Int) > 2000
  · rw [if_pos h, if_pos (by omega)]
  · rw [if_neg h, List.take_of_length_le (by omega)]
theorem code_open {l : List Int} (h : ∀ x ∈ l, (Lit.int .u8 x).wf = true) : Code (l.take 2000) := by
  refine ⟨by rw [List.length_take]; omega, fun x hx => ?_⟩
  have := h x (List.mem_of_mem_take hx)
  simp [Lit.wf, IntKind.min, IntKind.max, IntKind.bits, IntKind.signed] at this
  omega
theorem code_rd {b : List Int} (h : Code b) (i : Int) : 0 ≤ rd b i ∧ rd b i ≤ 255 := by
  rcases rd_mem_or b i with h1 | h1
  · exact h.2 _ h1
  · omega
/-- What is picked is there, and the place is one further. -/
theorem pick_ev {b : List Int} (hb : Code b) {p n : Int} (hp : 0 ≤ p ∧ p ≤ 1099511627776) (hn : n ≤ 1099511627776) : ∃ v : Int, (0 ≤ v ∧ (v < n ∨ n < 1 ∧ v = 0)) ∧ Ev (fun k => spec_l1Rd_pick.f k b p n) (v, p + 1) := by
  unfold spec_l1Rd_pick.f
  rw [w64 (x := p + 1) (by omega)]
  by_cases h1 : n < 1
  · refine ⟨0, ⟨by omega, .inr ⟨h1, rfl⟩⟩, 1, fun k hk => ?_⟩
    try dsimp only
    obtain ⟨m, rfl⟩ : ∃ m, k = m + 1 := ⟨k - 1, by omega⟩
    try dsimp only
    rw [if_pos h1, spec_l1Rd_pick.j0, if_pos rfl]
  by_cases h2 : b.length = 0
  · refine ⟨0, ⟨by omega, .inl (by omega)⟩, 1, fun k hk => ?_⟩
    try dsimp only
    obtain ⟨m, rfl⟩ : ∃ m, k = m + 1 := ⟨k - 1, by omega⟩
    try dsimp only
    rw [if_neg h1, spec_l1Rd_pick.j0, if_pos (by simp [h2])]
  have e0 : wrap64 (p + 1 - 1) = p := by rw [w64 (by omega)]; omega
  by_cases h3 : p < b.length
  · have hr := code_rd hb p
    refine ⟨rd b p % n, ⟨Int.emod_nonneg _ (by omega), .inl (Int.emod_lt_of_pos _ (by omega))⟩, 1, fun k hk => ?_⟩
    try dsimp only
    obtain ⟨m, rfl⟩ : ∃ m, k = m + 1 := ⟨k - 1, by omega⟩
    try dsimp only
    rw [if_neg h1, spec_l1Rd_pick.j0, if_neg (by simpa using h2), e0, if_pos h3, if_pos hp.1, if_neg (by omega), w64 (by omega), tmod_pos hr.1]
  · have hl := hb.1
    have m1 : 0 ≤ p % (b.length : Int) ∧ p % (b.length : Int) < b.length := ⟨Int.emod_nonneg _ (by omega), Int.emod_lt_of_pos _ (by omega)⟩
    have m2 : 0 ≤ (p * 7 + 3) % (b.length : Int) ∧ (p * 7 + 3) % (b.length : Int) < b.length := ⟨Int.emod_nonneg _ (by omega), Int.emod_lt_of_pos _ (by omega)⟩
    have r1 := code_rd hb (p % (b.length : Int))
    have r2 := code_rd hb ((p * 7 + 3) % (b.length : Int))
    have q1 : 0 ≤ p / (b.length : Int) := Int.ediv_nonneg hp.1 (by omega)
    have q2 : p / (b.length : Int) ≤ p := Int.ediv_le_self _ hp.1
    obtain ⟨X, hX⟩ : ∃ X, X = rd b (p % (b.length : Int)) * 131 + rd b ((p * 7 + 3) % (b.length : Int)) * 1117 + p * 29 + p / (b.length : Int) * 53 := ⟨_, rfl⟩
    have bX : 0 ≤ X ∧ X ≤ 4611686018427387904 := by omega
    have hx := xor_b (x := X) (y := X / 64) (by omega) (by omega)
    refine ⟨Go.bits .xor .i64 X (X / 64) % n, ⟨Int.emod_nonneg _ (by omega), .inl (Int.emod_lt_of_pos _ (by omega))⟩, 1, fun k hk => ?_⟩
    try dsimp only
    obtain ⟨m, rfl⟩ : ∃ m, k = m + 1 := ⟨k - 1, by omega⟩
    try dsimp only
    rw [if_neg h1, spec_l1Rd_pick.j0, if_neg (by simpa using h2), e0, if_neg h3, if_neg (by omega)]
    rw [w64 (x := p * 7) (by omega), w64 (x := p * 7 + 3) (by omega), tmod_pos (a := p) hp.1, tmod_pos (a := p * 7 + 3) (by omega), tdiv_pos (a := p) hp.1]
    rw [if_pos m1.1, if_pos m1.2, if_pos m2.1, if_pos m2.2, if_neg (by omega)]
    rw [w64 (x := rd b (p % (b.length : Int))) (by omega), w64 (x := rd b ((p * 7 + 3) % (b.length : Int))) (by omega), w64 (x := p / (b.length : Int)) (by omega)]
    rw [w64 (x := rd b (p % (b.length : Int)) * 131) (by omega), w64 (x := rd b ((p * 7 + 3) % (b.length : Int)) * 1117) (by omega), w64 (x := p * 29) (by omega), w64 (x := p / (b.length : Int) * 53) (by omega)]
    rw [w64 (x := rd b (p % (b.length : Int)) * 131 + rd b ((p * 7 + 3) % (b.length : Int)) * 1117) (by omega), w64 (x := rd b (p % (b.length : Int)) * 131 + rd b ((p * 7 + 3) % (b.length : Int)) * 1117 + p * 29) (by omega), w64 (x := rd b (p % (b.length : Int)) * 131 + rd b ((p * 7 + 3) % (b.length : Int)) * 1117 + p * 29 + p / (b.length : Int) * 53) (by omega), ← hX]
    rw [tdiv_pos (by omega), w64 (x := X / 64) (by omega), tmod_pos hx.1]
theorem of_ev {b : List Int} (hb : Code b) {p : Int} (hp : 0 ≤ p ∧ p ≤ 1000000000) (l : List ByteArray) (hl : 1 ≤ l.length) (hl2 : l.length ≤ 1000) : ∃ s, s ∈ l ∧ Ev (fun k => spec_l1Rd_of.f k b p l) (s, p + 1) := by
  obtain ⟨v, hv, K, hK⟩ := pick_ev hb (p := p) (n := (l.length : Int)) (by omega) (by omega)
  try dsimp only at hK
  try dsimp only at hK
  have hvl : v.toNat < l.length := by omega
  have e : rdOf ByteArray.empty l v = l[v.toNat] := by
    unfold rdOf; rw [List.getD_eq_getElem?_getD, List.getElem?_eq_getElem hvl]; rfl
  refine ⟨l[v.toNat], List.getElem_mem _, K, fun k hk => ?_⟩
  try dsimp only
  try dsimp only
  unfold spec_l1Rd_of.f
  rw [hK k hk]
  simp only [Option.bind_some]
  rw [if_pos (by omega), if_pos (by omega), e]
def manyM (s : ByteArray) : Nat → ByteArray
  | 0 => ⟨#[]⟩
  | n + 1 => manyM s n ++ s
theorem manyM_size (s : ByteArray) (n : Nat) : (manyM s n).size = n * s.size := by
  induction n with
  | zero => rw [Nat.zero_mul]; rfl
  | succ n ih => simp only [manyM, ByteArray.size_append, ih, Nat.succ_mul]
theorem l1Many_l0_ev (s : ByteArray) (n : Nat) (hn : n ≤ 100000) (hs : s.size ≤ 100000) : ∀ d i : Nat, i + d = n → Ev (fun k => spec_l1Many.l0 k s (n : Int) (manyM s i) (i : Int)) (manyM s n) := by
  intro d
  induction d with
  | zero =>
    intro i hi
    refine ⟨1, fun k hk => ?_⟩
    try dsimp only
    obtain ⟨m, rfl⟩ : ∃ m, k = m + 1 := ⟨k - 1, by omega⟩
    rw [spec_l1Many.l0, if_neg (by omega), show i = n by omega]
  | succ d ih =>
    intro i hi
    obtain ⟨K, hK⟩ := ih (i + 1) (by omega)
    try dsimp only at hK
    refine ⟨K + 1, fun k hk => ?_⟩
    try dsimp only
    obtain ⟨m, rfl⟩ : ∃ m, k = m + 1 := ⟨k - 1, by omega⟩
    have hm := hK m (by omega)
    have hz := manyM_size s i
    have hz2 : i * s.size ≤ 100000 * 100000 := Nat.mul_le_mul (by omega) hs
    rw [spec_l1Many.l0, if_pos (by omega), if_pos (by omega), w64 (by omega)]
    simp only [manyM] at hm
    rw [show ((i + 1 : Nat) : Int) = (i : Int) + 1 by omega] at hm
    exact hm
theorem l1Many_ev (s : ByteArray) (n : Int) (h0 : 0 ≤ n) (hn : n ≤ 100000) (hs : s.size ≤ 100000) : Ev (fun k => spec_l1Many.f k s n) (manyM s n.toNat) := by
  have h := l1Many_l0_ev s n.toNat (by omega) hs n.toNat 0 (by omega)
  rw [Int.toNat_of_nonneg h0] at h
  exact h
/-- A drawn text: short, or as many t's as may be, or one more. -/
def Short (s : ByteArray) : Prop := s.size ≤ 300 ∨ ∃ n : Nat, (9000 ≤ n ∧ n ≤ 9001) ∧ s = manyM ⟨#[116]⟩ n
theorem short_size {s : ByteArray} (h : Short s) : s.size ≤ 9001 := by
  rcases h with h | ⟨n, hn, rfl⟩
  · omega
  · rw [manyM_size, show (⟨#[116]⟩ : ByteArray).size = 1 from rfl]; omega
theorem l14Text_l1_ev {b : List Int} (hb : Code b) (n : Int) (P : Int) (S A : Nat) (C : Int) (hP : P ≤ 1000000) (hS : S ≤ 300)
    (next : ∀ (s : ByteArray) (p : Int), 0 ≤ p → p ≤ P → s.size ≤ S → ∃ (s' : ByteArray) (p' : Int), (s'.size ≤ s.size + A ∧ p ≤ p' ∧ p' ≤ p + C) ∧ Ev (fun k => spec_l14Text.l0 k s (wrap64 (n - 1)) b p) (s', p')) :
    ∀ (d : Nat) (s : ByteArray) (p : Int), d ≤ 12 → 0 ≤ p → p + d ≤ P → s.size + d ≤ S → ∃ (s' : ByteArray) (p' : Int), (s'.size ≤ s.size + d + A ∧ p ≤ p' ∧ p' ≤ p + d + C) ∧ Ev (fun k => spec_l14Text.l1 k s n (d : Int) b p) (s', p') := by
  intro d
  induction d with
  | zero =>
    intro s p hd h0 hp hs
    obtain ⟨s', p', hh, K, hK⟩ := next s p h0 (by omega) (by omega)
    try dsimp only at hK
    refine ⟨s', p', by omega, K + 1, fun k hk => ?_⟩
    try dsimp only
    obtain ⟨m, rfl⟩ : ∃ m, k = m + 1 := ⟨k - 1, by omega⟩
    try dsimp only
    rw [spec_l14Text.l1, if_neg (by omega)]
    exact hK m (by omega)
  | succ d ih =>
    intro s p hd h0 hp hs
    obtain ⟨v, hv, K1, hK1⟩ := pick_ev hb (p := p) (n := 256) (by omega) (by omega)
    try dsimp only at hK1
    try dsimp only at hK1
    have hz : (s ++ strOfNums [v % 256]).size = s.size + 1 := by rw [ByteArray.size_append, strOfNums_size]; rfl
    have hz1 : (strOfNums [v % 256]).size = 1 := by rw [strOfNums_size]; rfl
    obtain ⟨s', p', hh, K, hK⟩ := ih (s ++ strOfNums [v % 256]) (p + 1) (by omega) (by omega) (by omega) (by omega)
    try dsimp only at hK
    refine ⟨s', p', by omega, K + K1 + 1, fun k hk => ?_⟩
    try dsimp only
    obtain ⟨m, rfl⟩ : ∃ m, k = m + 1 := ⟨k - 1, by omega⟩
    try dsimp only
    rw [spec_l14Text.l1, if_pos (by omega), hK1 m (by omega)]
    simp only [Option.bind_some]
    rw [if_pos (by omega), w64 (by omega), show ((d + 1 : Nat) : Int) - 1 = (d : Int) by omega]
    exact hK m (by omega)
theorem l14Text_l0_ev {b : List Int} (hb : Code b) : ∀ (n : Nat) (s : ByteArray) (p : Int), n ≤ 6 → 0 ≤ p → p ≤ 1000000 - 20 * n → s.size + 39 * n ≤ 300 → ∃ (s' : ByteArray) (p' : Int), (s'.size ≤ s.size + 39 * n ∧ p ≤ p' ∧ p' ≤ p + 20 * n) ∧ Ev (fun k => spec_l14Text.l0 k s (n : Int) b p) (s', p') := by
  intro n
  induction n with
  | zero =>
    intro s p hn h0 hp hs
    refine ⟨s, p, by omega, 1, fun k hk => ?_⟩
    try dsimp only
    obtain ⟨m, rfl⟩ : ∃ m, k = m + 1 := ⟨k - 1, by omega⟩
    try dsimp only
    rw [spec_l14Text.l0, if_neg (by omega)]
  | succ n ih =>
    intro s p hn h0 hp hs
    obtain ⟨v, hv, K1, hK1⟩ := pick_ev hb (p := p) (n := 5) (by omega) (by omega)
    try dsimp only at hK1
    try dsimp only at hK1
    have en : wrap64 (((n + 1 : Nat) : Int) - 1) = (n : Int) := by rw [w64 (by omega)]; omega
    by_cases v0 : v = 0
    · obtain ⟨t, ht, K2, hK2⟩ := of_ev hb (p := p + 1) (by omega) [(⟨#[97]⟩ : ByteArray), (⟨#[98]⟩ : ByteArray), (⟨#[0]⟩ : ByteArray), (⟨#[255]⟩ : ByteArray)] (by decide) (by decide)
      try dsimp only at hK2
      try dsimp only at hK2
      have hts : t.size = 1 := by simp at ht; rcases ht with rfl | rfl | rfl | rfl <;> rfl
      obtain ⟨u, hu, K3, hK3⟩ := pick_ev hb (p := p + 1 + 1) (n := 40) (by omega) (by omega)
      try dsimp only at hK3
      try dsimp only at hK3
      obtain ⟨K4, hK4⟩ := l1Many_ev t u (by omega) (by omega) (by omega)
      try dsimp only at hK4
      try dsimp only at hK4
      have hz := manyM_size t u.toNat
      rw [hts, Nat.mul_one] at hz
      obtain ⟨s', p', hh, K, hK⟩ := ih (s ++ manyM t u.toNat) (p + 1 + 1 + 1) (by omega) (by omega) (by omega) (by rw [ByteArray.size_append]; omega)
      try dsimp only at hK
      rw [ByteArray.size_append] at hh
      refine ⟨s', p', by omega, K + K1 + K2 + K3 + K4 + 1, fun k hk => ?_⟩
      try dsimp only
      obtain ⟨m, rfl⟩ : ∃ m, k = m + 1 := ⟨k - 1, by omega⟩
      try dsimp only
      rw [spec_l14Text.l0, if_pos (by omega), hK1 m (by omega)]
      simp only [Option.bind_some]
      rw [if_pos v0, hK2 m (by omega)]
      simp only [Option.bind_some]
      rw [hK3 m (by omega)]
      simp only [Option.bind_some]
      rw [hK4 m (by omega)]
      simp only [Option.bind_some]
      rw [if_pos (by omega), en]
      exact hK m (by omega)
    by_cases v1 : v = 1
    · obtain ⟨s', p', hh, K, hK⟩ := ih (s ++ (⟨#[97, 32, 116, 101, 120, 116, 32, 116, 104, 97, 116, 32, 99, 111, 109, 101, 115, 32, 97, 103, 97, 105, 110, 44, 32]⟩ : ByteArray)) (p + 1) (by omega) (by omega) (by omega) (by rw [ByteArray.size_append, show (⟨#[97, 32, 116, 101, 120, 116, 32, 116, 104, 97, 116, 32, 99, 111, 109, 101, 115, 32, 97, 103, 97, 105, 110, 44, 32]⟩ : ByteArray).size = 25 from rfl]; omega)
      try dsimp only at hK
      rw [ByteArray.size_append, show (⟨#[97, 32, 116, 101, 120, 116, 32, 116, 104, 97, 116, 32, 99, 111, 109, 101, 115, 32, 97, 103, 97, 105, 110, 44, 32]⟩ : ByteArray).size = 25 from rfl] at hh
      refine ⟨s', p', by omega, K + K1 + 1, fun k hk => ?_⟩
      try dsimp only
      obtain ⟨m, rfl⟩ : ∃ m, k = m + 1 := ⟨k - 1, by omega⟩
      try dsimp only
      rw [spec_l14Text.l0, if_pos (by omega), hK1 m (by omega)]
      simp only [Option.bind_some]
      rw [if_neg v0, if_pos v1, if_pos (by omega), en]
      exact hK m (by omega)
    by_cases v2 : v = 2
    · obtain ⟨u, hu, K3, hK3⟩ := pick_ev hb (p := p + 1) (n := 12) (by omega) (by omega)
      try dsimp only at hK3
      try dsimp only at hK3
      obtain ⟨s', p', hh, K, hK⟩ := l14Text_l1_ev hb ((n + 1 : Nat) : Int) (1000000 - 20 * n) (300 - 39 * n) (39 * n) (20 * n) (by omega) (by omega) (fun s p a1 a2 a3 => by rw [en]; exact ih s p (by omega) a1 a2 (by omega)) u.toNat s (p + 1 + 1) (by omega) (by omega) (by omega) (by omega)
      try dsimp only at hK
      rw [Int.toNat_of_nonneg (by omega)] at hK
      refine ⟨s', p', by omega, K + K1 + K3 + 1, fun k hk => ?_⟩
      try dsimp only
      obtain ⟨m, rfl⟩ : ∃ m, k = m + 1 := ⟨k - 1, by omega⟩
      try dsimp only
      rw [spec_l14Text.l0, if_pos (by omega), hK1 m (by omega)]
      simp only [Option.bind_some]
      rw [if_neg v0, if_neg v1, if_pos v2, hK3 m (by omega)]
      simp only [Option.bind_some]
      exact hK m (by omega)
    · obtain ⟨t, ht, K2, hK2⟩ := of_ev hb (p := p + 1) (by omega) [(⟨#[120]⟩ : ByteArray), (⟨#[97, 98, 99]⟩ : ByteArray), (⟨#[97, 98, 99, 97, 98, 99, 97, 98, 99, 100]⟩ : ByteArray), (⟨#[32]⟩ : ByteArray)] (by decide) (by decide)
      try dsimp only at hK2
      try dsimp only at hK2
      have hts : t.size ≤ 10 := by simp at ht; rcases ht with rfl | rfl | rfl | rfl <;> decide
      obtain ⟨s', p', hh, K, hK⟩ := ih (s ++ t) (p + 1 + 1) (by omega) (by omega) (by omega) (by rw [ByteArray.size_append]; omega)
      try dsimp only at hK
      rw [ByteArray.size_append] at hh
      refine ⟨s', p', by omega, K + K1 + K2 + 1, fun k hk => ?_⟩
      try dsimp only
      obtain ⟨m, rfl⟩ : ∃ m, k = m + 1 := ⟨k - 1, by omega⟩
      try dsimp only
      rw [spec_l14Text.l0, if_pos (by omega), hK1 m (by omega)]
      simp only [Option.bind_some]
      rw [if_neg v0, if_neg v1, if_neg v2, hK2 m (by omega)]
      simp only [Option.bind_some]
      rw [if_pos (by omega), en]
      exact hK m (by omega)
theorem l14Text_ev {b : List Int} (hb : Code b) {p : Int} (hp : 0 ≤ p ∧ p ≤ 900000) : ∃ (s : ByteArray) (p' : Int), (Short s ∧ p ≤ p' ∧ p' ≤ p + 200) ∧ Ev (fun k => spec_l14Text.f k b p) (s, p') := by
  obtain ⟨v, hv, K1, hK1⟩ := pick_ev hb (p := p) (n := 150) (by omega) (by omega)
  try dsimp only at hK1
  try dsimp only at hK1
  by_cases v0 : v = 0
  · obtain ⟨u, hu, K2, hK2⟩ := pick_ev hb (p := p + 1) (n := 2) (by omega) (by omega)
    try dsimp only at hK2
    try dsimp only at hK2
    obtain ⟨K3, hK3⟩ := l1Many_ev (⟨#[116]⟩ : ByteArray) (9000 + u) (by omega) (by omega) (by decide)
    try dsimp only at hK3
    try dsimp only at hK3
    refine ⟨manyM ⟨#[116]⟩ (9000 + u).toNat, p + 1 + 1, ⟨?_, by omega, by omega⟩, K1 + K2 + K3, fun k hk => ?_⟩
    try dsimp only
    · exact .inr ⟨_, by omega, rfl⟩
    · dsimp only
      unfold spec_l14Text.f
      rw [hK1 k (by omega)]
      simp only [Option.bind_some]
      rw [if_pos v0, hK2 k (by omega)]
      simp only [Option.bind_some]
      rw [w64 (by omega), hK3 k (by omega)]
      rfl
  · obtain ⟨u, hu, K2, hK2⟩ := pick_ev hb (p := p + 1) (n := 7) (by omega) (by omega)
    try dsimp only at hK2
    try dsimp only at hK2
    obtain ⟨s', p', hh, K, hK⟩ := l14Text_l0_ev hb u.toNat (⟨#[]⟩ : ByteArray) (p + 1 + 1) (by omega) (by omega) (by omega) (by rw [show (⟨#[]⟩ : ByteArray).size = 0 from rfl]; omega)
    try dsimp only at hK
    rw [show (⟨#[]⟩ : ByteArray).size = 0 from rfl] at hh
    rw [Int.toNat_of_nonneg (by omega)] at hK
    refine ⟨s', p', ⟨.inl (by omega), by omega, by omega⟩, K + K1 + K2, fun k hk => ?_⟩
    try dsimp only
    try dsimp only
    unfold spec_l14Text.f
    rw [hK1 k (by omega)]
    simp only [Option.bind_some]
    rw [if_neg v0, hK2 k (by omega)]
    simp only [Option.bind_some]
    exact hK k (by omega)

theorem drawNumPut_ev {b : List Int} (hb : ∀ x ∈ b, (Lit.int .u8 x).wf = true) : ∃ (n size : Int) (big : Bool), ((-1 ≤ n ∧ n ≤ 1099511627776) ∧ 0 ≤ size ∧ size ≤ 5) ∧ Ev (fun k => spec_DrawNumPut.f k b) (n, size, big) := by
  have hc := code_open hb
  obtain ⟨z, hz, K1, hK1⟩ := pick_ev hc (p := 0) (n := 6) (by omega) (by omega)
  try dsimp only at hK1
  try dsimp only at hK1
  obtain ⟨u, hu, K2, hK2⟩ := pick_ev hc (p := 0 + 1) (n := 256) (by omega) (by omega)
  try dsimp only at hK2
  try dsimp only at hK2
  obtain ⟨v, hv, K3, hK3⟩ := pick_ev hc (p := 0 + 1 + 1) (n := 65536) (by omega) (by omega)
  try dsimp only at hK3
  try dsimp only at hK3
  obtain ⟨i, hi, K4, hK4⟩ := pick_ev hc (p := 0 + 1 + 1 + 1) (n := 6) (by omega) (by omega)
  try dsimp only at hK4
  try dsimp only at hK4
  obtain ⟨g, hg, K5, hK5⟩ := pick_ev hc (p := 0 + 1 + 1 + 1 + 1) (n := 2) (by omega) (by omega)
  try dsimp only at hK5
  try dsimp only at hK5
  obtain ⟨K6, hK6⟩ := l1Pow_evI (8 * z) (by omega) (by omega)
  try dsimp only at hK6
  try dsimp only at hK6
  have hp := P2_b (n := (8 * z).toNat) (m := 40) (by omega)
  rw [P2_40] at hp
  refine ⟨rd [u, v, 4294967295, -1, P2 (8 * z).toNat - 1, P2 (8 * z).toNat] i, z, g == 0, ⟨?_, by omega⟩, K1 + K2 + K3 + K4 + K5 + K6, fun k hk => ?_⟩
  try dsimp only
  · rcases (show i = 0 ∨ i = 1 ∨ i = 2 ∨ i = 3 ∨ i = 4 ∨ i = 5 by omega) with rfl | rfl | rfl | rfl | rfl | rfl <;> simp [rd] <;> omega
  try dsimp only
  unfold spec_DrawNumPut.f
  rw [l1Open_f, Option.bind_some]
  try dsimp only
  rw [hK1 k (by omega), Option.bind_some]
  try dsimp only
  rw [hK2 k (by omega), Option.bind_some]
  try dsimp only
  rw [hK3 k (by omega), Option.bind_some]
  try dsimp only
  rw [w64 (x := 8 * z) (by omega), hK6 k (by omega), Option.bind_some, Option.bind_some, Option.bind_some, w64 (x := P2 (8 * z).toNat - 1) (by omega), hK4 k (by omega), Option.bind_some]
  try dsimp only
  rw [if_pos (by omega), if_pos (by simp; omega), hK5 k (by omega), Option.bind_some]
theorem drawNumGet_ev {b : List Int} (hb : ∀ x ∈ b, (Lit.int .u8 x).wf = true) : ∃ (s : ByteArray) (at_ size : Int) (big : Bool), (s.size ≤ 9001 ∧ 0 ≤ size ∧ size ≤ 5) ∧ Ev (fun k => spec_DrawNumGet.f k b) (s, at_, size, big) := by
  have hc := code_open hb
  obtain ⟨s, p1, hs, K1, hK1⟩ := l14Text_ev hc (p := 0) (by omega)
  try dsimp only at hK1
  try dsimp only at hK1
  have hz := short_size hs.1
  obtain ⟨v, hv, K2, hK2⟩ := pick_ev hc (p := p1) (n := (s.size : Int) + 3) (by omega) (by omega)
  try dsimp only at hK2
  try dsimp only at hK2
  obtain ⟨u, hu, K3, hK3⟩ := pick_ev hc (p := p1 + 1) (n := 6) (by omega) (by omega)
  try dsimp only at hK3
  try dsimp only at hK3
  obtain ⟨w, hw, K4, hK4⟩ := pick_ev hc (p := p1 + 1 + 1) (n := 2) (by omega) (by omega)
  try dsimp only at hK4
  try dsimp only at hK4
  refine ⟨s, wrap64 (v - 1), u, w == 0, by omega, K1 + K2 + K3 + K4, fun k hk => ?_⟩
  try dsimp only
  try dsimp only
  unfold spec_DrawNumGet.f
  rw [l1Open_f, Option.bind_some]
  try dsimp only
  rw [hK1 k (by omega), Option.bind_some]
  try dsimp only
  rw [w64 (x := (s.size : Int) + 3) (by omega), hK2 k (by omega), Option.bind_some]
  try dsimp only
  rw [hK3 k (by omega), Option.bind_some]
  try dsimp only
  rw [hK4 k (by omega), Option.bind_some]
theorem law_l0_ev (n : Int) (size : Nat) (big : Bool) (hz : size ≤ 4) : ∀ d i : Nat, i + d = size → Ev (fun k => laws_FnNumPut.l0 k n (size : Int) (numPutM n size big) n true (numPutM n size (!big)) (i : Int)) true := by
  intro d
  induction d with
  | zero =>
    intro i hi
    refine ⟨1, fun k hk => ?_⟩
    try dsimp only
    obtain ⟨m, rfl⟩ : ∃ m, k = m + 1 := ⟨k - 1, by omega⟩
    rw [laws_FnNumPut.l0, if_neg (by omega), if_pos rfl, if_pos rfl, numPutM_size]
    simp
  | succ d ih =>
    intro i hi
    obtain ⟨K, hK⟩ := ih (i + 1) (by omega)
    try dsimp only at hK
    refine ⟨K + 1, fun k hk => ?_⟩
    try dsimp only
    obtain ⟨m, rfl⟩ : ∃ m, k = m + 1 := ⟨k - 1, by omega⟩
    have hm := hK m (by omega)
    have e : bt (numPutM n size big) (i : Int) = bt (numPutM n size (!big)) ((size : Int) - 1 - i) := by
      rw [show (size : Int) - 1 - i = ((size - 1 - i : Nat) : Int) by omega, bt_put _ _ _ _ (by omega), bt_put _ _ _ _ (by omega)]
      cases big
      · simp only [Bool.not_false, Bool.false_eq_true, if_false, if_true]; rw [show size - 1 - (size - 1 - i) = i by omega]
      · simp only [Bool.not_true, Bool.false_eq_true, if_false, if_true]
    rw [laws_FnNumPut.l0, if_pos (by omega), if_pos (by omega), w64 (x := (size : Int) - 1) (by omega), w64 (x := (size : Int) - 1 - i) (by omega), numPutM_size, numPutM_size, if_pos (by omega), if_pos (by omega), if_pos (by omega), if_pos e, w64 (by omega)]
    rw [show ((i + 1 : Nat) : Int) = (i : Int) + 1 by omega] at hm
    exact hm
theorem law_j2_ev (n size : Int) (big : Bool) (hn : -1 ≤ n ∧ n ≤ 1099511627776) (hs : 0 ≤ size ∧ size ≤ 5) : Ev (fun k => laws_FnNumPut.j2 k n size big (numPutA n size big) false) true := by
  by_cases h : 1 ≤ size ∧ size ≤ 4 ∧ 0 ≤ n ∧ n ≤ P2 (8 * size).toNat - 1
  · have e1 : numPutA n size big = numPutM n size.toNat big := by unfold numPutA; rw [if_pos h]
    have e2 : numPutA n size (!big) = numPutM n size.toNat (!big) := by unfold numPutA; rw [if_pos h]
    have hsz := numPutM_size n size.toNat big
    obtain ⟨K1, hK1⟩ := impl_NumGet_ev (numPutM n size.toNat big) 0 size big (by omega) (by omega)
    try dsimp only at hK1
    obtain ⟨K2, hK2⟩ := impl_NumPut_ev n size (!big) (by omega)
    try dsimp only at hK2
    obtain ⟨K3, hK3⟩ := law_l0_ev n size.toNat big (by omega) size.toNat 0 (by omega)
    try dsimp only at hK3
    rw [Int.toNat_of_nonneg (by omega)] at hK3
    have e3 : numGetM (numPutM n size.toNat big) 0 size big = (n, true) := by
      have hg := get_put n size.toNat big h.2.2.1 (by rw [show 8 * size.toNat = (8 * size).toNat by omega]; omega)
      rw [Int.toNat_of_nonneg (by omega)] at hg
      unfold numGetM
      rw [if_pos (by omega), hg]
    refine ⟨K1 + K2 + K3 + 1, fun k hk => ?_⟩
    try dsimp only
    obtain ⟨m, rfl⟩ : ∃ m, k = m + 1 := ⟨k - 1, by omega⟩
    rw [laws_FnNumPut.j2, if_neg (by decide), e1, if_neg (by
      rw [← (byte_toList (⟨#[]⟩ : ByteArray)).trans (show _ = ([] : List UInt8) from rfl), toList_inj]
      intro e; have h0 : (⟨#[]⟩ : ByteArray).size = 0 := rfl; rw [e, h0] at hsz; omega), hK1 m (by omega), e3, Option.bind_some, hK2 m (by omega), Option.bind_some, e2]
    exact hK3 m (by omega)
  · have e1 : numPutA n size big = (⟨#[]⟩ : ByteArray) := by unfold numPutA; rw [if_neg h]
    refine ⟨1, fun k hk => ?_⟩
    try dsimp only
    obtain ⟨m, rfl⟩ : ∃ m, k = m + 1 := ⟨k - 1, by omega⟩
    rw [laws_FnNumPut.j2, if_neg (by decide), e1, if_pos ((byte_toList _).trans rfl)]
theorem law_j1_ev (n size : Int) (big : Bool) (hn : -1 ≤ n ∧ n ≤ 1099511627776) (hs : 0 ≤ size ∧ size ≤ 5) (s : ByteArray) (at_ size1 : Int) (big1 : Bool) (hz : s.size ≤ 9001 ∧ 0 ≤ size1 ∧ size1 ≤ 5) : Ev (fun k => laws_FnNumPut.j1 k n size big (numPutA n size big) s at_ size1 big1 (numGetM s at_ size1 big1).1 (numGetM s at_ size1 big1).2 false) true := by
  obtain ⟨K1, hK1⟩ := law_j2_ev n size big hn hs
  try dsimp only at hK1
  by_cases h : 1 ≤ size1 ∧ size1 ≤ 4 ∧ s.size ≤ 9000 ∧ 0 ≤ at_ ∧ at_ + size1 ≤ s.size
  · have e : numGetM s at_ size1 big1 = (numM s at_ size1 big1 size1.toNat, true) := by unfold numGetM; rw [if_pos h]
    have hb := numM_b s at_ size1 big1 size1.toNat
    have hb4 := numM_b4 s at_ size1 big1 size1.toNat (by omega)
    obtain ⟨K2, hK2⟩ := impl_NumPut_ev (numM s at_ size1 big1 size1.toNat) size1 big1 (by omega)
    try dsimp only at hK2
    have e2 : numPutA (numM s at_ size1 big1 size1.toNat) size1 big1 = s.extract at_.toNat (at_ + size1).toNat := by
      unfold numPutA
      rw [if_pos ⟨h.1, h.2.1, hb.1, by rw [show (8 * size1).toNat = 8 * size1.toNat by omega]; omega⟩]
      have hp := put_get s at_.toNat size1.toNat big1 (by omega)
      rw [Int.toNat_of_nonneg h.2.2.2.1, Int.toNat_of_nonneg (by omega)] at hp
      rw [hp, show (at_ + size1).toNat = at_.toNat + size1.toNat by omega]
    refine ⟨K1 + K2 + 1, fun k hk => ?_⟩
    try dsimp only
    obtain ⟨m, rfl⟩ : ∃ m, k = m + 1 := ⟨k - 1, by omega⟩
    rw [laws_FnNumPut.j1, e, if_neg (by decide), if_pos rfl, hK2 m (by omega), Option.bind_some, if_pos h.2.2.2.1, w64 (x := at_ + size1) (by omega), if_pos (by omega), if_pos (by omega), e2, bne_self_eq_false]
    exact hK1 m (by omega)
  · have e : numGetM s at_ size1 big1 = (0, false) := by unfold numGetM; rw [if_neg h]
    refine ⟨K1 + 1, fun k hk => ?_⟩
    try dsimp only
    obtain ⟨m, rfl⟩ : ∃ m, k = m + 1 := ⟨k - 1, by omega⟩
    rw [laws_FnNumPut.j1, e, if_neg (by decide), if_neg (by decide)]
    exact hK1 m (by omega)
theorem FnNumPut : laws_FnNumPut.Pure := by
  intro l0 l1 hl hl1 hw hm hm1 hwm
  by_cases h : (l0.length : Int) > 1048576 ∨ (l1.length : Int) > 1048576
  · refine ⟨1, ?_⟩
    unfold laws_FnNumPut.f
    by_cases h1 : (l0.length : Int) > 1048576
    · rw [if_pos h1, laws_FnNumPut.j0, if_pos rfl]
    · rw [if_neg h1, laws_FnNumPut.j0, if_pos (decide_eq_true (by omega))]
  obtain ⟨n, size, big, hn, K1, hK1⟩ := drawNumPut_ev hw
  try dsimp only at hK1
  try dsimp only at hK1
  obtain ⟨s, at_, size1, big1, hs, K2, hK2⟩ := drawNumGet_ev hwm
  try dsimp only at hK2
  try dsimp only at hK2
  obtain ⟨K3, hK3⟩ := impl_NumPut_ev n size big (by omega)
  try dsimp only at hK3
  obtain ⟨K4, hK4⟩ := spec_NumPut_ev n size big (by omega)
  try dsimp only at hK4
  obtain ⟨K5, hK5⟩ := impl_NumGet_ev s at_ size1 big1 (by omega) (by omega)
  try dsimp only at hK5
  obtain ⟨K6, hK6⟩ := spec_NumGet_ev s at_ size1 big1 (by omega) (by omega)
  try dsimp only at hK6
  obtain ⟨K7, hK7⟩ := law_j1_ev n size big hn.1 hn.2 s at_ size1 big1 hs
  try dsimp only at hK7
  refine ⟨K1 + K2 + K3 + K4 + K5 + K6 + K7 + 1, ?_⟩
  unfold laws_FnNumPut.f
  rw [if_neg (by omega), laws_FnNumPut.j0, if_neg (by simp; omega), hK1 _ (by omega), Option.bind_some]
  try dsimp only
  rw [hK3 _ (by omega), Option.bind_some, hK2 _ (by omega), Option.bind_some]
  try dsimp only
  rw [hK5 _ (by omega), Option.bind_some, hK6 _ (by omega), Option.bind_some, hK4 _ (by omega), Option.bind_some, if_pos rfl, if_pos rfl, bne_self_eq_false]
  exact hK7 _ (by omega)

end Go.Proofs.Ytfladcffgblfdaa.Pure
