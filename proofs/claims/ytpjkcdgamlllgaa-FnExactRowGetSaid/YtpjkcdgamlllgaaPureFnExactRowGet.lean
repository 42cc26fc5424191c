/- The program's RowGet and the reference's answer the same, at every text of at most 1048576 bytes (a longer one is let by), depth and count; the answer is its own memory. -/
import Derived.Test.YtpjkcdgamlllgaaPFnExactRowGetx3
import Derived.Test.YtpjkcdgamlllgaaThNum
import Derived.Test.YtpjkcdgamlllgaaThMark
namespace Go.Proofs.Ytpjkcdgamlllgaa.Pure
open Go.RowKit Go.Proofs.Ytpjkcdgamlllgaa.PFnExactRowGet Go.Proofs.YtpjkcdgamlllgaaW.PrintWords Go.Proofs.YtpjkcdgamlllgaaW.PrintLast Go.Proofs.YtpjkcdgamlllgaaW.PrintMore Go.Proofs.Ytpjkcdgamlllgaa.Th
set_option linter.unusedVariables false
set_option linter.unusedSimpArgs false

theorem in_f (a b c : Int) : impl_in.f a b c = some (decide (b ≤ a ∧ a ≤ c)) := by
  unfold impl_in.f
  by_cases h : b ≤ a
  · rw [if_pos h]; simp [h]
  · rw [if_neg h]; simp [h]
theorem l1In_f (a b c : Int) : spec_l1In.f a b c = some (decide (b ≤ a ∧ a ≤ c)) := by
  unfold spec_l1In.f
  by_cases h : b ≤ a
  · rw [if_pos h]; simp [h]
  · rw [if_neg h]; simp [h]
theorem l1Pow_l0_ev (n : Nat) (hn : n ≤ 62) : ∀ d i : Nat, i + d = n → Ev (fun k => spec_l1Pow.l0 k (n : Int) (P2 i) (i : Int)) (P2 n) := by
  intro d
  induction d with
  | zero =>
    intro i hi
    refine ⟨1, fun k hk => ?_⟩
    try dsimp only
    obtain ⟨m, rfl⟩ : ∃ m, k = m + 1 := ⟨k - 1, by omega⟩
    rw [spec_l1Pow.l0, if_neg (by omega), show i = n by omega]
  | succ d ih =>
    intro i hi
    obtain ⟨K, hK⟩ := ih (i + 1) (by omega)
    try dsimp only at hK
    refine ⟨K + 1, fun k hk => ?_⟩
    try dsimp only
    obtain ⟨m, rfl⟩ : ∃ m, k = m + 1 := ⟨k - 1, by omega⟩
    have hm := hK m (by omega)
    have hb := P2_62b (n := i) (by omega)
    have hb' := P2_62b (n := i + 1) (by omega)
    have hs := P2_succ i
    rw [spec_l1Pow.l0, if_pos (by omega), w64 (by omega), w64 (by omega), show P2 i * 2 = P2 (i + 1) by omega, show (i : Int) + 1 = ((i + 1 : Nat) : Int) by omega]
    exact hm
theorem l1Pow_ev (n : Nat) (hn : n ≤ 62) : Ev (fun k => spec_l1Pow.f k (n : Int)) (P2 n) := l1Pow_l0_ev n hn n 0 (by omega)
theorem l1Pow_evI (n : Int) (h0 : 0 ≤ n) (hn : n ≤ 62) : Ev (fun k => spec_l1Pow.f k n) (P2 n.toNat) := by
  have h := l1Pow_ev n.toNat (by omega)
  rw [Int.toNat_of_nonneg h0] at h
  exact h
theorem l1Bit_ev (s : ByteArray) (at_ : Int) (high : Bool) (h0 : 0 ≤ at_) (h1 : at_ < 8 * s.size) (hs : s.size ≤ 140737488351232) : Ev (fun k => spec_l1Bit.f k s at_ high) (bitM s at_ high) := by
  have hb := bt_range s (at_ / 8)
  unfold spec_l1Bit.f bitM
  simp only [tdiv_pos h0, tmod_pos h0]
  rw [w64 (x := at_ / 8) (by omega), w64 (x := bt s (at_ / 8)) (by omega)]
  cases high
  · obtain ⟨K, hK⟩ := l1Pow_evI (at_ % 8) (by omega) (by omega)
    try dsimp only at hK
    refine ⟨K, fun k hk => ?_⟩
    try dsimp only
    have hp := P2_62b (n := (at_ % 8).toNat) (by omega)
    have hq : 0 ≤ bt s (at_ / 8) / P2 (at_ % 8).toNat := Int.ediv_nonneg hb.1 (by omega)
    have hq2 : bt s (at_ / 8) / P2 (at_ % 8).toNat ≤ bt s (at_ / 8) := Int.ediv_le_self _ hb.1
    simp only [Bool.false_eq_true, if_false]
    rw [if_pos (by omega), if_pos (by omega), hK k hk]
    simp only [Option.bind_some]
    rw [if_neg (by omega), tdiv_pos hb.1, w64 (by omega), tmod_pos hq]
  · obtain ⟨K, hK⟩ := l1Pow_evI (7 - at_ % 8) (by omega) (by omega)
    try dsimp only at hK
    refine ⟨K, fun k hk => ?_⟩
    try dsimp only
    have hp := P2_62b (n := (7 - at_ % 8).toNat) (by omega)
    have hq : 0 ≤ bt s (at_ / 8) / P2 (7 - at_ % 8).toNat := Int.ediv_nonneg hb.1 (by omega)
    have hq2 : bt s (at_ / 8) / P2 (7 - at_ % 8).toNat ≤ bt s (at_ / 8) := Int.ediv_le_self _ hb.1
    simp only [if_true]
    rw [if_pos (by omega), if_pos (by omega), w64 (x := 7 - at_ % 8) (by omega), hK k hk]
    simp only [Option.bind_some]
    rw [if_neg (by omega), tdiv_pos hb.1, w64 (by omega), tmod_pos hq]
theorem bitAt_f (s : ByteArray) (at_ : Int) (high : Bool) (h0 : 0 ≤ at_) (h1 : at_ < 8 * s.size) (hs : s.size ≤ 140737488351232) : impl_bitAt.f s at_ high = some (bitM s at_ high) := by
  have hb := bt_range s (at_ / 8)
  unfold impl_bitAt.f bitM
  simp only [tdiv_pos h0, tmod_pos h0]
  rw [w64 (x := at_ / 8) (by omega), w64 (x := bt s (at_ / 8)) (by omega), w64 (x := 7 - at_ % 8) (by omega)]
  cases high
  · have hq : 0 ≤ bt s (at_ / 8) / P2 (at_ % 8).toNat := Int.ediv_nonneg hb.1 (by have := P2_pos (at_ % 8).toNat; omega)
    have hq2 : bt s (at_ / 8) / P2 (at_ % 8).toNat ≤ bt s (at_ / 8) := Int.ediv_le_self _ hb.1
    simp only [Bool.false_eq_true, if_false]
    rw [if_pos (by omega), if_pos (by omega), if_pos (by omega), shr_P2 (by omega), and1 hq (by omega)]
  · have hq : 0 ≤ bt s (at_ / 8) / P2 (7 - at_ % 8).toNat := Int.ediv_nonneg hb.1 (by have := P2_pos (7 - at_ % 8).toNat; omega)
    have hq2 : bt s (at_ / 8) / P2 (7 - at_ % 8).toNat ≤ bt s (at_ / 8) := Int.ediv_le_self _ hb.1
    simp only [if_true]
    rw [if_pos (by omega), if_pos (by omega), if_pos (by omega), shr_P2 (by omega), and1 hq (by omega)]
theorem l1Get_l0_ev (s : ByteArray) (at_ : Int) (size : Nat) (high : Bool) (h0 : 0 ≤ at_) (hz : size ≤ 32) (h1 : at_ + size ≤ 8 * s.size) (hs : s.size ≤ 140737488351232) :
    ∀ d i : Nat, i + d = size → Ev (fun k => spec_l1Get.l0 k s at_ (size : Int) high (bitsM s at_ high i) (i : Int)) (bitsM s at_ high size) := by
  intro d
  induction d with
  | zero =>
    intro i hi
    refine ⟨1, fun k hk => ?_⟩
    try dsimp only
    obtain ⟨m, rfl⟩ : ∃ m, k = m + 1 := ⟨k - 1, by omega⟩
    rw [spec_l1Get.l0, if_neg (by omega), show i = size by omega]
  | succ d ih =>
    intro i hi
    obtain ⟨K, hK⟩ := ih (i + 1) (by omega)
    try dsimp only at hK
    have hb := bitsM_b s at_ high i
    have hp := P2_b (n := i) (m := 40) (by omega)
    rw [P2_40] at hp
    cases high
    · obtain ⟨K1, hK1⟩ := l1Bit_ev s (at_ + i) false (by omega) (by omega) hs
      try dsimp only at hK1
      obtain ⟨K2, hK2⟩ := l1Pow_ev i (by omega)
      try dsimp only at hK2
      have hv := bitM_b s (at_ + i) false
      have hm2 := mul01 (x := P2 i) hv
      refine ⟨K + K1 + K2 + 1, fun k hk => ?_⟩
      try dsimp only
      obtain ⟨m, rfl⟩ : ∃ m, k = m + 1 := ⟨k - 1, by omega⟩
      have hm := hK m (by omega)
      simp only [bitsM, bitsLo, Bool.false_eq_true, if_false] at hm hb ⊢
      rw [spec_l1Get.l0, if_pos (by omega)]
      simp only [Bool.false_eq_true, if_false]
      rw [w64 (x := at_ + i) (by omega), hK1 m (by omega)]
      simp only [Option.bind_some]
      rw [hK2 m (by omega)]
      simp only [Option.bind_some]
      rw [w64 (x := _ * _) (by omega), w64 (x := (i : Int) + 1) (by omega), w64 (by omega)]
      exact hm
    · obtain ⟨K1, hK1⟩ := l1Bit_ev s (at_ + i) true (by omega) (by omega) hs
      try dsimp only at hK1
      have hv := bitM_b s (at_ + i) true
      refine ⟨K + K1 + 1, fun k hk => ?_⟩
      try dsimp only
      obtain ⟨m, rfl⟩ : ∃ m, k = m + 1 := ⟨k - 1, by omega⟩
      have hm := hK m (by omega)
      simp only [bitsM, bitsHi, if_true] at hm hb ⊢
      rw [spec_l1Get.l0, if_pos (by omega)]
      simp only [if_true]
      rw [w64 (x := at_ + i) (by omega), hK1 m (by omega)]
      simp only [Option.bind_some]
      rw [w64 (x := 2 * bitsHi s at_ i) (by omega), w64 (x := (i : Int) + 1) (by omega), w64 (by omega)]
      exact hm
theorem l1Get_ev (s : ByteArray) (at_ size : Int) (high : Bool) (h0 : 0 ≤ at_) (hz0 : 0 ≤ size) (hz : size ≤ 32) (h1 : at_ + size ≤ 8 * s.size) (hs : s.size ≤ 140737488351232) : Ev (fun k => spec_l1Get.f k s at_ size high) (bitsM s at_ high size.toNat) := by
  have h := l1Get_l0_ev s at_ size.toNat high h0 (by omega) (by omega) hs size.toNat 0 (by omega)
  rw [Int.toNat_of_nonneg hz0] at h
  have e : bitsM s at_ high 0 = 0 := by cases high <;> simp [bitsM, bitsHi, bitsLo]
  rw [e] at h
  exact h
def bitsGetM (s : ByteArray) (at_ size : Int) (high : Bool) : Int × Bool :=
  if 0 ≤ size ∧ size ≤ 24 ∧ s.size ≤ 9000 ∧ 0 ≤ at_ ∧ at_ + size ≤ 8 * s.size then (bitsM s at_ high size.toNat, true) else (0, false)
def rowOk (depth : Int) : Bool := decide (depth = 1 ∨ depth = 2 ∨ depth = 4 ∨ depth = 8 ∨ depth = 24 ∨ depth = 32)
theorem l8Bits_f (d : Int) : spec_l8Bits.f d = some (rowOk d) := by
  unfold spec_l8Bits.f rowOk
  by_cases h1 : d = 1
  · simp [h1]
  by_cases h2 : d = 2
  · simp [h2]
  by_cases h3 : d = 4
  · simp [h3]
  by_cases h4 : d = 8
  · simp [h4]
  by_cases h5 : d = 24
  · simp [h5]
  simp only [h1, h2, h3, h4, h5, if_false, false_or, Option.some.injEq]
  rfl
theorem rowDepth_f (d : Int) : impl_rowDepth.f d = some (rowOk d) := by
  unfold impl_rowDepth.f impl_smallDepth.f rowOk
  by_cases h1 : d = 1
  · simp [h1]
  by_cases h2 : d = 2
  · simp [h2]
  by_cases h3 : d = 4
  · simp [h3]
  by_cases h4 : d = 8
  · simp [h4]
  by_cases h5 : d = 24
  · simp [h5]
  have h6 : (d == 8) = false := by simpa using h4
  simp only [h1, h2, h3, h4, h5, h6, if_false, false_or, Option.some.injEq, Option.bind_some, Bool.false_eq_true]
  rfl
/-- The first n points of a row. -/
def pointsM (s : ByteArray) (depth : Int) : Nat → List Int
  | 0 => []
  | n + 1 => pointsM s depth n ++ [bitsHi s (n * depth) depth.toNat]
theorem pointsM_length (s : ByteArray) (depth : Int) (n : Nat) : (pointsM s depth n).length = n := by
  induction n with
  | zero => rfl
  | succ n ih => simp [pointsM, ih]
theorem row_mul {i count : Nat} {depth : Int} (h : i + 1 ≤ count) (hd : 0 ≤ depth) : (i : Int) * depth + depth ≤ count * depth ∧ 0 ≤ (i : Int) * depth := by
  have h1 : ((i : Int) + 1) * depth ≤ (count : Int) * depth := Int.mul_le_mul_of_nonneg_right (by omega) hd
  rw [Int.add_mul, Int.one_mul] at h1
  exact ⟨h1, Int.mul_nonneg (by omega) hd⟩
theorem row_max {count : Int} {depth : Int} (hc : 0 ≤ count ∧ count ≤ 1000) (hd : 0 ≤ depth ∧ depth ≤ 32) : 0 ≤ count * depth ∧ count * depth ≤ 32000 :=
  ⟨Int.mul_nonneg hc.1 hd.1, Int.mul_le_mul hc.2 hd.2 hd.1 (by omega)⟩
theorem l8Points_l0_ev (s : ByteArray) (depth : Int) (count : Nat) (hd : 1 ≤ depth ∧ depth ≤ 32) (h24 : 24 < depth → depth = 32) (hc : count ≤ 1000) (hs : s.size ≤ 1048576) (hfit : (count : Int) * depth ≤ 8 * s.size) :
    ∀ d i : Nat, i + d = count → Ev (fun k => spec_l8Points.l0 k s depth (count : Int) (pointsM s depth i) (i : Int)) (pointsM s depth count) := by
  intro d
  induction d with
  | zero =>
    intro i hi
    refine ⟨1, fun k hk => ?_⟩
    try dsimp only
    obtain ⟨m, rfl⟩ : ∃ m, k = m + 1 := ⟨k - 1, by omega⟩
    rw [spec_l8Points.l0, if_neg (by omega), show i = count by omega]
  | succ d ih =>
    intro i hi
    obtain ⟨K, hK⟩ := ih (i + 1) (by omega)
    try dsimp only at hK
    have hm1 := row_mul (i := i) (count := count) (depth := depth) (by omega) (by omega)
    have hmx := row_max (count := (count : Int)) (depth := depth) (by omega) (by omega)
    have hl := pointsM_length s depth i
    by_cases hb : depth > 24
    · have h32 := h24 hb
      obtain ⟨K1, h1⟩ := l1Get_ev s (i * depth) 16 true (by omega) (by omega) (by omega) (by omega) (by omega)
      try dsimp only at h1
      obtain ⟨K2, h2⟩ := l1Get_ev s (i * depth + 16) 16 true (by omega) (by omega) (by omega) (by omega) (by omega)
      try dsimp only at h2
      refine ⟨K + K1 + K2 + 1, fun k hk => ?_⟩
      try dsimp only
      obtain ⟨m, rfl⟩ : ∃ m, k = m + 1 := ⟨k - 1, by omega⟩
      have hm := hK m (by omega)
      have b1 := bitsHi_b s (i * depth) 16
      have b2 := bitsHi_b s (i * depth + 16) 16
      have e16 : P2 16 = 65536 := rfl
      have hadd := bitsHi_add s (i * depth) 16 16
      rw [e16] at b1 b2 hadd
      rw [spec_l8Points.l0, if_pos (by omega), if_pos hb, w64 (x := (i : Int) * depth) (by omega), h1 m (by omega)]
      simp only [Option.bind_some]
      rw [w64 (x := (i : Int) * depth + 16) (by omega), h2 m (by omega)]
      simp only [Option.bind_some, bitsM, if_true]
      rw [show (16 : Int).toNat = 16 from rfl, if_pos (by omega), w64 (x := bitsHi s (i * depth) 16 * 65536) (by omega), w64 (x := bitsHi s (i * depth) 16 * 65536 + _) (by omega), w64 (by omega)]
      simp only [pointsM] at hm
      rw [show depth.toNat = 16 + 16 by omega, hadd, show ((i + 1 : Nat) : Int) = (i : Int) + 1 by omega] at hm
      exact hm
    · obtain ⟨K1, h1⟩ := l1Get_ev s (i * depth) depth true (by omega) (by omega) (by omega) (by omega) (by omega)
      try dsimp only at h1
      refine ⟨K + K1 + 1, fun k hk => ?_⟩
      try dsimp only
      obtain ⟨m, rfl⟩ : ∃ m, k = m + 1 := ⟨k - 1, by omega⟩
      have hm := hK m (by omega)
      rw [spec_l8Points.l0, if_pos (by omega), if_neg hb, w64 (x := (i : Int) * depth) (by omega), h1 m (by omega)]
      simp only [Option.bind_some, bitsM, if_true]
      rw [if_pos (by omega), w64 (by omega)]
      simp only [pointsM] at hm
      rw [show ((i + 1 : Nat) : Int) = (i : Int) + 1 by omega] at hm
      exact hm
def rowFits (s : ByteArray) (depth count : Int) : Bool := decide (rowOk depth = true ∧ (0 ≤ count ∧ count ≤ 1000) ∧ (s.size : Int) = (count * depth + 7) / 8)
def rowGetM (s : ByteArray) (depth count : Int) : List Int × Bool := if rowFits s depth count = true then (pointsM s depth count.toNat, true) else ([], false)
theorem spec_RowGet_ev (s : ByteArray) (depth count : Int) (hs : s.size ≤ 1048576) : Ev (fun k => spec_RowGet.f k s depth count) (rowGetM s depth count) := by
  unfold spec_RowGet.f rowGetM
  simp only [l8Bits_f, l1In_f, Option.bind_some, decide_eq_true_eq]
  by_cases h1 : rowOk depth = true
  · have hd := of_decide_eq_true h1
    by_cases h2 : 0 ≤ count ∧ count ≤ 1000
    · have hmx := row_max (count := count) (depth := depth) h2 (by omega)
      unfold spec_l8Bytes.f
      simp only [Option.bind_some]
      rw [w64 (x := count * depth) (by omega), w64 (x := count * depth + 7) (by omega), tdiv_pos (by omega), w64 (by omega)]
      by_cases h3 : (s.size : Int) = (count * depth + 7) / 8
      · have hc : (count.toNat : Int) = count := Int.toNat_of_nonneg h2.1
        obtain ⟨K, hK⟩ := l8Points_l0_ev s depth count.toNat (by omega) (by omega) (by omega) hs (by rw [hc]; omega) count.toNat 0 (by omega)
        try dsimp only at hK
        refine ⟨K, fun k hk => ?_⟩
        try dsimp only
        have hm := hK k hk
        rw [hc] at hm
        rw [if_pos h1, if_pos h2, if_pos h3, if_pos (show rowFits s depth count = true from decide_eq_true ⟨h1, h2, h3⟩)]
        unfold spec_l8Points.f
        simp only [pointsM] at hm
        rw [show ((0 : Nat) : Int) = 0 from rfl] at hm
        rw [hm]; rfl
      · refine ⟨0, fun k hk => ?_⟩
        try dsimp only
        rw [if_pos h1, if_pos h2, if_neg h3, if_neg (show ¬ rowFits s depth count = true from fun e => h3 (of_decide_eq_true e).2.2)]
    · refine ⟨0, fun k hk => ?_⟩
      try dsimp only
      rw [if_pos h1, if_neg h2, if_neg (show ¬ rowFits s depth count = true from fun e => h2 (of_decide_eq_true e).2.1)]
  · refine ⟨0, fun k hk => ?_⟩
    try dsimp only
    rw [if_neg h1, if_neg (show ¬ rowFits s depth count = true from fun e => h1 (of_decide_eq_true e).1)]
theorem impl_RowGet_l1_ev (s : ByteArray) (depth : Int) (count : Nat) (hd : 1 ≤ depth ∧ depth ≤ 32) (hc : count ≤ 1000) (hs : s.size ≤ 1048576) (hfit : (count : Int) * depth ≤ 8 * s.size) (i : Nat) (hi : i + 1 ≤ count) (r : List Int × Bool)
    (hnext : Ev (fun k => impl_RowGet.l0 k s depth (pointsM s depth (i + 1)) (count : Int) ((i + 1 : Nat) : Int)) r) :
    ∀ d j : Nat, j + d = depth.toNat → Ev (fun k => impl_RowGet.l1 k s depth (pointsM s depth i) (i : Int) (bitsHi s (i * depth) j) (count : Int) (i : Int) depth (j : Int)) r := by
  have hm1 := row_mul (i := i) (count := count) (depth := depth) (by omega) (by omega)
  have hmx := row_max (count := (count : Int)) (depth := depth) (by omega) (by omega)
  have hl := pointsM_length s depth i
  intro d
  induction d with
  | zero =>
    intro j hj
    obtain ⟨K, hK⟩ := hnext
    try dsimp only at hK
    refine ⟨K + 1, fun k hk => ?_⟩
    try dsimp only
    obtain ⟨m, rfl⟩ : ∃ m, k = m + 1 := ⟨k - 1, by omega⟩
    have hm := hK m (by omega)
    rw [impl_RowGet.l1, if_neg (by omega), if_pos (by omega), w64 (by omega), show j = depth.toNat by omega]
    simp only [pointsM] at hm
    rw [show ((i + 1 : Nat) : Int) = (i : Int) + 1 by omega] at hm
    exact hm
  | succ d ih =>
    intro j hj
    obtain ⟨K, hK⟩ := ih (j + 1) (by omega)
    try dsimp only at hK
    refine ⟨K + 1, fun k hk => ?_⟩
    try dsimp only
    obtain ⟨m, rfl⟩ : ∃ m, k = m + 1 := ⟨k - 1, by omega⟩
    have hm := hK m (by omega)
    have hb := bitsHi_b s (i * depth) j
    have hp := P2_b (n := j) (m := 40) (by omega)
    rw [P2_40] at hp
    have hv := bitM_b s (i * depth + j) true
    rw [impl_RowGet.l1, if_pos (by omega), w64 (x := (i : Int) * depth) (by omega), w64 (x := (i : Int) * depth + j) (by omega), bitAt_f s _ _ (by omega) (by omega) (by omega)]
    simp only [Option.bind_some]
    rw [w64 (x := 2 * bitsHi s (i * depth) j) (by omega), w64 (x := 2 * bitsHi s (i * depth) j + _) (by omega), w64 (by omega)]
    simp only [bitsHi] at hm
    rw [show ((j + 1 : Nat) : Int) = (j : Int) + 1 by omega] at hm
    exact hm
theorem impl_RowGet_l0_ev (s : ByteArray) (depth : Int) (count : Nat) (hd : 1 ≤ depth ∧ depth ≤ 32) (hc : count ≤ 1000) (hs : s.size ≤ 1048576) (hfit : (count : Int) * depth ≤ 8 * s.size) :
    ∀ d i : Nat, i + d = count → Ev (fun k => impl_RowGet.l0 k s depth (pointsM s depth i) (count : Int) (i : Int)) (pointsM s depth count, true) := by
  intro d
  induction d with
  | zero =>
    intro i hi
    refine ⟨1, fun k hk => ?_⟩
    try dsimp only
    obtain ⟨m, rfl⟩ : ∃ m, k = m + 1 := ⟨k - 1, by omega⟩
    rw [impl_RowGet.l0, if_neg (by omega), show i = count by omega]
  | succ d ih =>
    intro i hi
    obtain ⟨K, hK⟩ := impl_RowGet_l1_ev s depth count hd hc hs hfit i (by omega) _ (ih (i + 1) (by omega)) depth.toNat 0 (by omega)
    try dsimp only at hK
    refine ⟨K + 1, fun k hk => ?_⟩
    try dsimp only
    obtain ⟨m, rfl⟩ : ∃ m, k = m + 1 := ⟨k - 1, by omega⟩
    have hm := hK m (by omega)
    rw [impl_RowGet.l0, if_pos (by omega)]
    exact hm
theorem impl_RowGet_ev (s : ByteArray) (depth count : Int) (hs : s.size ≤ 1048576) : Ev (fun k => impl_RowGet.f k s depth count) (rowGetM s depth count) := by
  unfold impl_RowGet.f rowGetM
  simp only [rowDepth_f, in_f, Option.bind_some, decide_eq_true_eq]
  by_cases h1 : rowOk depth = true
  · have hd := of_decide_eq_true h1
    by_cases h2 : 0 ≤ count ∧ count ≤ 1000
    · have hmx := row_max (count := count) (depth := depth) h2 (by omega)
      rw [w64 (x := count * depth) (by omega), w64 (x := count * depth + 7) (by omega), tdiv_pos (by omega), w64 (by omega)]
      by_cases h3 : (s.size : Int) = (count * depth + 7) / 8
      · have hc : (count.toNat : Int) = count := Int.toNat_of_nonneg h2.1
        obtain ⟨K, hK⟩ := impl_RowGet_l0_ev s depth count.toNat (by omega) (by omega) hs (by rw [hc]; omega) count.toNat 0 (by omega)
        try dsimp only at hK
        refine ⟨K + 1, fun k hk => ?_⟩
        try dsimp only
        obtain ⟨m, rfl⟩ : ∃ m, k = m + 1 := ⟨k - 1, by omega⟩
        have hm := hK m (by omega)
        rw [hc] at hm
        rw [if_pos h1, if_pos h2, if_pos (show rowFits s depth count = true from decide_eq_true ⟨h1, h2, h3⟩), impl_RowGet.j0, if_neg (by rw [← h3]; simp)]
        exact hm
      · refine ⟨1, fun k hk => ?_⟩
        try dsimp only
        obtain ⟨m, rfl⟩ : ∃ m, k = m + 1 := ⟨k - 1, by omega⟩
        rw [if_pos h1, if_pos h2, if_neg (show ¬ rowFits s depth count = true from fun e => h3 (of_decide_eq_true e).2.2), impl_RowGet.j0, if_pos (by simpa using h3)]
    · refine ⟨1, fun k hk => ?_⟩
      try dsimp only
      obtain ⟨m, rfl⟩ : ∃ m, k = m + 1 := ⟨k - 1, by omega⟩
      rw [if_pos h1, if_neg h2, if_neg (show ¬ rowFits s depth count = true from fun e => h2 (of_decide_eq_true e).2.1), impl_RowGet.j0, if_pos rfl]
  · refine ⟨1, fun k hk => ?_⟩
    try dsimp only
    obtain ⟨m, rfl⟩ : ∃ m, k = m + 1 := ⟨k - 1, by omega⟩
    rw [if_neg h1, if_neg (show ¬ rowFits s depth count = true from fun e => h1 (of_decide_eq_true e).1), impl_RowGet.j0, if_pos rfl]
theorem eqIntS_l0_ev (a b : List Int) (hl : a.length ≤ 35184372088832) (hab : a.length = b.length) : ∀ (sa sb pa pb : List Int), a = pa ++ sa → b = pb ++ sb → pa.length = pb.length → Ev (fun k => laws_eqIntS.l0 k a b (pa.length : Int)) (decide (sa = sb)) := by
  intro sa
  induction sa with
  | nil =>
    intro sb pa pb ha hb hp
    have hsb : sb = [] := by
      cases sb with
      | nil => rfl
      | cons y sb => rw [ha, hb] at hab; simp at hab; omega
    subst hsb
    refine ⟨1, fun k hk => ?_⟩
    try dsimp only
    obtain ⟨m, rfl⟩ : ∃ m, k = m + 1 := ⟨k - 1, by omega⟩
    rw [laws_eqIntS.l0, if_neg (by rw [ha]; simp)]
    simp
  | cons x sa ih =>
    intro sb pa pb ha hb hp
    cases sb with
    | nil => rw [ha, hb] at hab; simp at hab; omega
    | cons y sb =>
      have hll : a.length = pa.length + sa.length + 1 := by rw [ha]; simp; omega
      have hx : rd a (pa.length : Int) = x := by rw [ha]; exact rd_at _ _ _ rfl
      have hy : rd b (pa.length : Int) = y := by rw [hb]; exact rd_at _ _ _ (by omega)
      by_cases hxy : x = y
      · obtain ⟨K, hK⟩ := ih sb (pa ++ [x]) (pb ++ [y]) (by simp [ha]) (by simp [hb]) (by simp [hp])
        try dsimp only at hK
        refine ⟨K + 1, fun k hk => ?_⟩
        try dsimp only
        obtain ⟨m, rfl⟩ : ∃ m, k = m + 1 := ⟨k - 1, by omega⟩
        have hm := hK m (by omega)
        rw [laws_eqIntS.l0, if_pos (by omega), if_pos (by omega), if_pos (by omega), hx, hy, if_pos hxy, w64 (by omega)]
        rw [List.length_append, List.length_singleton, show ((pa.length + 1 : Nat) : Int) = (pa.length : Int) + 1 by omega] at hm
        rw [hm]
        simp [hxy]
      · refine ⟨1, fun k hk => ?_⟩
        try dsimp only
        obtain ⟨m, rfl⟩ : ∃ m, k = m + 1 := ⟨k - 1, by omega⟩
        rw [laws_eqIntS.l0, if_pos (by omega), if_pos (by omega), if_pos (by omega), hx, hy, if_neg hxy]
        simp [hxy]
theorem eqIntS_ev (a b : List Int) (hl : a.length ≤ 35184372088832) (hl2 : b.length ≤ 35184372088832) : Ev (fun k => laws_eqIntS.f k a b) (decide (a = b)) := by
  unfold laws_eqIntS.f
  by_cases h : a.length = b.length
  · obtain ⟨K, hK⟩ := eqIntS_l0_ev a b hl h a b [] [] rfl rfl rfl
    try dsimp only at hK
    refine ⟨K, fun k hk => ?_⟩
    try dsimp only
    rw [if_pos (by omega)]
    exact hK k hk
  · refine ⟨0, fun k hk => ?_⟩
    try dsimp only
    rw [if_neg (by omega), decide_eq_false (fun e => h (by rw [e]))]
theorem markIntS_l0_ev (m0 : Int) (hm0 : 0 ≤ m0 ∧ m0 ≤ 1099511627776) : ∀ (suf : List Int) (i : Nat), i + suf.length ≤ 1099511627776 → Ev (fun k => laws_markIntS.l0 k (marks m0 i ++ suf) (m0 + i) (i : Int)) (m0 + (i + suf.length : Nat), marks m0 (i + suf.length)) := by
  intro suf
  induction suf with
  | nil =>
    intro i hi
    refine ⟨1, fun k hk => ?_⟩
    try dsimp only
    obtain ⟨m, rfl⟩ : ∃ m, k = m + 1 := ⟨k - 1, by omega⟩
    rw [laws_markIntS.l0, if_neg (by simp [marks_length])]
    simp
  | cons x suf ih =>
    intro i hi
    simp only [List.length_cons] at hi
    obtain ⟨K, hK⟩ := ih (i + 1) (by omega)
    try dsimp only at hK
    refine ⟨K + 1, fun k hk => ?_⟩
    try dsimp only
    obtain ⟨m, rfl⟩ : ∃ m, k = m + 1 := ⟨k - 1, by omega⟩
    have hm := hK m (by omega)
    rw [laws_markIntS.l0, if_pos (by simp [marks_length]; omega), if_pos (by omega), Int.toNat_natCast, set_at _ _ _ _ (by rw [marks_length]), w64 (by omega), w64 (by omega)]
    simp only [marks, List.append_assoc, List.singleton_append] at hm
    rw [show m0 + ((i + 1 : Nat) : Int) = m0 + i + 1 by omega, show ((i + 1 : Nat) : Int) = (i : Int) + 1 by omega, show i + 1 + suf.length = i + (suf.length + 1) by omega] at hm
    exact hm
theorem markIntS_ev (l : List Int) (m0 : Int) (hm0 : 0 ≤ m0 ∧ m0 ≤ 1099511627776) (hl : l.length ≤ 1099511627776) : Ev (fun k => laws_markIntS.f k l m0) (m0 + (l.length : Int), marks m0 l.length) := by
  have h := markIntS_l0_ev m0 hm0 l 0 (by omega)
  simp only [marks, List.nil_append, Nat.zero_add] at h
  rw [show m0 + ((0 : Nat) : Int) = m0 by omega] at h
  exact h
theorem heldIntS_l0_ev (m0 : Int) (hm0 : 0 ≤ m0 ∧ m0 ≤ 1099511627776) (n : Nat) (hn : n ≤ 1099511627776) : ∀ d i : Nat, i + d = n → Ev (fun k => laws_heldIntS.l0 k (marks m0 n) (m0 + i) (i : Int)) (m0 + n) := by
  intro d
  induction d with
  | zero =>
    intro i hi
    refine ⟨1, fun k hk => ?_⟩
    try dsimp only
    obtain ⟨m, rfl⟩ : ∃ m, k = m + 1 := ⟨k - 1, by omega⟩
    rw [laws_heldIntS.l0, if_neg (by rw [marks_length]; omega), show i = n by omega]
  | succ d ih =>
    intro i hi
    obtain ⟨K, hK⟩ := ih (i + 1) (by omega)
    try dsimp only at hK
    refine ⟨K + 1, fun k hk => ?_⟩
    try dsimp only
    obtain ⟨m, rfl⟩ : ∃ m, k = m + 1 := ⟨k - 1, by omega⟩
    have hm := hK m (by omega)
    rw [laws_heldIntS.l0, if_pos (by rw [marks_length]; omega), if_pos (by omega), rd_marks _ _ _ (by omega), if_pos rfl, w64 (by omega), w64 (by omega)]
    rw [show m0 + ((i + 1 : Nat) : Int) = m0 + i + 1 by omega, show ((i + 1 : Nat) : Int) = (i : Int) + 1 by omega] at hm
    exact hm
theorem heldIntS_ev (m0 : Int) (hm0 : 0 ≤ m0 ∧ m0 ≤ 1099511627776) (n : Nat) (hn : n ≤ 1099511627776) : Ev (fun k => laws_heldIntS.f k (marks m0 n) m0) (m0 + n) := by
  have h := heldIntS_l0_ev m0 hm0 n hn n 0 (by omega)
  rw [show m0 + ((0 : Nat) : Int) = m0 by omega] at h
  exact h

theorem FnExactRowGet : laws_FnExactRowGet.Pure := by
  intro s depth count hs w1 w2
  unfold laws_FnExactRowGet.f
  by_cases h : (s.size : Int) > 1048576
  · exact ⟨0, by rw [if_pos h]⟩
  have hlen : (rowGetM s depth count).1.length ≤ 1048576 := by
    unfold rowGetM; split
    · rename_i hh
      have := (of_decide_eq_true hh).2.1
      simp only [pointsM_length]; omega
    · simp
  obtain ⟨K2, h2⟩ := spec_RowGet_ev s depth count (by omega)
  try dsimp only at h2
  obtain ⟨K3, h3⟩ := impl_RowGet_ev s depth count (by omega)
  try dsimp only at h3
  obtain ⟨K4, h4⟩ := eqIntS_ev (rowGetM s depth count).1 (rowGetM s depth count).1 (by omega) (by omega)
  try dsimp only at h4
  obtain ⟨K7, h7⟩ := markIntS_ev (rowGetM s depth count).1 1 (by omega) (by omega)
  try dsimp only at h7
  obtain ⟨K8, h8⟩ := heldIntS_ev 1 (by omega) (rowGetM s depth count).1.length (by omega)
  try dsimp only at h8
  obtain ⟨K, hK⟩ : ∃ K, K = K2 + K3 + K4 + K7 + K8 := ⟨_, rfl⟩
  refine ⟨K + 2, ?_⟩
  rw [if_neg h]
  simp only [h2 (K + 2) (by omega), h3 (K + 2) (by omega), h4 (K + 2) (by omega), Option.bind_some, decide_true, if_true]
  rw [laws_FnExactRowGet.j0]
  simp only [bne_self_eq_false, Bool.false_eq_true, if_false, h3 (K + 1) (by omega), h4 (K + 1) (by omega), h7 (K + 1) (by omega), h8 (K + 1) (by omega), Option.bind_some, decide_true, if_true]
  rw [if_neg (by omega), laws_FnExactRowGet.j1]
  simp only [Bool.false_eq_true, if_false, h8 K (by omega), Option.bind_some, if_true]
  rw [if_neg (by omega)]

end Go.Proofs.Ytpjkcdgamlllgaa.Pure
