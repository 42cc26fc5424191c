/- The program's BitsGet and the reference's answer the same, at every text of at most 1048576 bytes, every place, size and order of bits (a longer text is let by). -/
import Derived.Test.YtehjfjngnofgmaaPFnExactBitsGetx1
import Derived.Test.YtehjfjngnofgmaaThNum
namespace Go.Proofs.Ytehjfjngnofgmaa.Pure
open Go.RowKit Go.Proofs.Ytehjfjngnofgmaa.PFnExactBitsGet Go.Proofs.YtehjfjngnofgmaaW.PrintWords Go.Proofs.YtehjfjngnofgmaaW.PrintLast Go.Proofs.YtehjfjngnofgmaaW.PrintMore Go.Proofs.Ytehjfjngnofgmaa.Th
set_option linter.unusedVariables false
set_option linter.unusedSimpArgs false

theorem in_f (a b c : Int) : impl_in.f a b c = some (decide (b ≤ a ∧ a ≤ c)) := by
  unfold impl_in.f
  by_cases h : b ≤ a
  · rw [if_pos h]; simp [h]
  · rw [if_neg h]; simp [h]

theorem l1In_f (a b c : Int) : spec_l1In.f a b c = some (decide (b ≤ a ∧ a ≤ c)) := by
  unfold spec_l1In.f
  by_cases h : b ≤ a
  · rw [if_pos h]; simp [h]
  · rw [if_neg h]; simp [h]

theorem l1Pow_l0_ev (n : Nat) (hn : n ≤ 62) : ∀ d i : Nat, i + d = n → Ev (fun k => spec_l1Pow.l0 k (n : Int) (P2 i) (i : Int)) (P2 n) := by
  intro d
  induction d with
  | zero =>
    intro i hi
    refine ⟨1, fun k hk => ?_⟩
    try dsimp only
    obtain ⟨m, rfl⟩ : ∃ m, k = m + 1 := ⟨k - 1, by omega⟩
    rw [spec_l1Pow.l0, if_neg (by omega), show i = n by omega]
  | succ d ih =>
    intro i hi
    obtain ⟨K, hK⟩ := ih (i + 1) (by omega)
    try dsimp only at hK
    refine ⟨K + 1, fun k hk => ?_⟩
    try dsimp only
    obtain ⟨m, rfl⟩ : ∃ m, k = m + 1 := ⟨k - 1, by omega⟩
    have hm := hK m (by omega)
    have hb := P2_62b (n := i) (by omega)
    have hb' := P2_62b (n := i + 1) (by omega)
    have hs := P2_succ i
    rw [spec_l1Pow.l0, if_pos (by omega), w64 (by omega), w64 (by omega), show P2 i * 2 = P2 (i + 1) by omega, show (i : Int) + 1 = ((i + 1 : Nat) : Int) by omega]
    exact hm
theorem l1Pow_ev (n : Nat) (hn : n ≤ 62) : Ev (fun k => spec_l1Pow.f k (n : Int)) (P2 n) := l1Pow_l0_ev n hn n 0 (by omega)
theorem l1Pow_evI (n : Int) (h0 : 0 ≤ n) (hn : n ≤ 62) : Ev (fun k => spec_l1Pow.f k n) (P2 n.toNat) := by
  have h := l1Pow_ev n.toNat (by omega)
  rw [Int.toNat_of_nonneg h0] at h
  exact h

theorem l1Bit_ev (s : ByteArray) (at_ : Int) (high : Bool) (h0 : 0 ≤ at_) (h1 : at_ < 8 * s.size) (hs : s.size ≤ 140737488351232) : Ev (fun k => spec_l1Bit.f k s at_ high) (bitM s at_ high) := by
  have hb := bt_range s (at_ / 8)
  unfold spec_l1Bit.f bitM
  simp only [tdiv_pos h0, tmod_pos h0]
  rw [w64 (x := at_ / 8) (by omega), w64 (x := bt s (at_ / 8)) (by omega)]
  cases high
  · obtain ⟨K, hK⟩ := l1Pow_evI (at_ % 8) (by omega) (by omega)
    try dsimp only at hK
    refine ⟨K, fun k hk => ?_⟩
    try dsimp only
    have hp := P2_62b (n := (at_ % 8).toNat) (by omega)
    have hq : 0 ≤ bt s (at_ / 8) / P2 (at_ % 8).toNat := Int.ediv_nonneg hb.1 (by omega)
    have hq2 : bt s (at_ / 8) / P2 (at_ % 8).toNat ≤ bt s (at_ / 8) := Int.ediv_le_self _ hb.1
    simp only [Bool.false_eq_true, if_false]
    rw [if_pos (by omega), if_pos (by omega), hK k hk]
    simp only [Option.bind_some]
    rw [if_neg (by omega), tdiv_pos hb.1, w64 (by omega), tmod_pos hq]
  · obtain ⟨K, hK⟩ := l1Pow_evI (7 - at_ % 8) (by omega) (by omega)
    try dsimp only at hK
    refine ⟨K, fun k hk => ?_⟩
    try dsimp only
    have hp := P2_62b (n := (7 - at_ % 8).toNat) (by omega)
    have hq : 0 ≤ bt s (at_ / 8) / P2 (7 - at_ % 8).toNat := Int.ediv_nonneg hb.1 (by omega)
    have hq2 : bt s (at_ / 8) / P2 (7 - at_ % 8).toNat ≤ bt s (at_ / 8) := Int.ediv_le_self _ hb.1
    simp only [if_true]
    rw [if_pos (by omega), if_pos (by omega), w64 (x := 7 - at_ % 8) (by omega), hK k hk]
    simp only [Option.bind_some]
    rw [if_neg (by omega), tdiv_pos hb.1, w64 (by omega), tmod_pos hq]
theorem bitAt_f (s : ByteArray) (at_ : Int) (high : Bool) (h0 : 0 ≤ at_) (h1 : at_ < 8 * s.size) (hs : s.size ≤ 140737488351232) : impl_bitAt.f s at_ high = some (bitM s at_ high) := by
  have hb := bt_range s (at_ / 8)
  unfold impl_bitAt.f bitM
  simp only [tdiv_pos h0, tmod_pos h0]
  rw [w64 (x := at_ / 8) (by omega), w64 (x := bt s (at_ / 8)) (by omega), w64 (x := 7 - at_ % 8) (by omega)]
  cases high
  · have hq : 0 ≤ bt s (at_ / 8) / P2 (at_ % 8).toNat := Int.ediv_nonneg hb.1 (by have := P2_pos (at_ % 8).toNat; omega)
    have hq2 : bt s (at_ / 8) / P2 (at_ % 8).toNat ≤ bt s (at_ / 8) := Int.ediv_le_self _ hb.1
    simp only [Bool.false_eq_true, if_false]
    rw [if_pos (by omega), if_pos (by omega), if_pos (by omega), shr_P2 (by omega), and1 hq (by omega)]
  · have hq : 0 ≤ bt s (at_ / 8) / P2 (7 - at_ % 8).toNat := Int.ediv_nonneg hb.1 (by have := P2_pos (7 - at_ % 8).toNat; omega)
    have hq2 : bt s (at_ / 8) / P2 (7 - at_ % 8).toNat ≤ bt s (at_ / 8) := Int.ediv_le_self _ hb.1
    simp only [if_true]
    rw [if_pos (by omega), if_pos (by omega), if_pos (by omega), shr_P2 (by omega), and1 hq (by omega)]

theorem l1Get_l0_ev (s : ByteArray) (at_ : Int) (size : Nat) (high : Bool) (h0 : 0 ≤ at_) (hz : size ≤ 32) (h1 : at_ + size ≤ 8 * s.size) (hs : s.size ≤ 140737488351232) :
    ∀ d i : Nat, i + d = size → Ev (fun k => spec_l1Get.l0 k s at_ (size : Int) high (bitsM s at_ high i) (i : Int)) (bitsM s at_ high size) := by
  intro d
  induction d with
  | zero =>
    intro i hi
    refine ⟨1, fun k hk => ?_⟩
    try dsimp only
    obtain ⟨m, rfl⟩ : ∃ m, k = m + 1 := ⟨k - 1, by omega⟩
    rw [spec_l1Get.l0, if_neg (by omega), show i = size by omega]
  | succ d ih =>
    intro i hi
    obtain ⟨K, hK⟩ := ih (i + 1) (by omega)
    try dsimp only at hK
    have hb := bitsM_b s at_ high i
    have hp := P2_b (n := i) (m := 40) (by omega)
    rw [P2_40] at hp
    cases high
    · obtain ⟨K1, hK1⟩ := l1Bit_ev s (at_ + i) false (by omega) (by omega) hs
      try dsimp only at hK1
      obtain ⟨K2, hK2⟩ := l1Pow_ev i (by omega)
      try dsimp only at hK2
      have hv := bitM_b s (at_ + i) false
      have hm2 := mul01 (x := P2 i) hv
      refine ⟨K + K1 + K2 + 1, fun k hk => ?_⟩
      try dsimp only
      obtain ⟨m, rfl⟩ : ∃ m, k = m + 1 := ⟨k - 1, by omega⟩
      have hm := hK m (by omega)
      simp only [bitsM, bitsLo, Bool.false_eq_true, if_false] at hm hb ⊢
      rw [spec_l1Get.l0, if_pos (by omega)]
      simp only [Bool.false_eq_true, if_false]
      rw [w64 (x := at_ + i) (by omega), hK1 m (by omega)]
      simp only [Option.bind_some]
      rw [hK2 m (by omega)]
      simp only [Option.bind_some]
      rw [w64 (x := _ * _) (by omega), w64 (x := (i : Int) + 1) (by omega), w64 (by omega)]
      exact hm
    · obtain ⟨K1, hK1⟩ := l1Bit_ev s (at_ + i) true (by omega) (by omega) hs
      try dsimp only at hK1
      have hv := bitM_b s (at_ + i) true
      refine ⟨K + K1 + 1, fun k hk => ?_⟩
      try dsimp only
      obtain ⟨m, rfl⟩ : ∃ m, k = m + 1 := ⟨k - 1, by omega⟩
      have hm := hK m (by omega)
      simp only [bitsM, bitsHi, if_true] at hm hb ⊢
      rw [spec_l1Get.l0, if_pos (by omega)]
      simp only [if_true]
      rw [w64 (x := at_ + i) (by omega), hK1 m (by omega)]
      simp only [Option.bind_some]
      rw [w64 (x := 2 * bitsHi s at_ i) (by omega), w64 (x := (i : Int) + 1) (by omega), w64 (by omega)]
      exact hm
theorem l1Get_ev (s : ByteArray) (at_ size : Int) (high : Bool) (h0 : 0 ≤ at_) (hz0 : 0 ≤ size) (hz : size ≤ 32) (h1 : at_ + size ≤ 8 * s.size) (hs : s.size ≤ 140737488351232) : Ev (fun k => spec_l1Get.f k s at_ size high) (bitsM s at_ high size.toNat) := by
  have h := l1Get_l0_ev s at_ size.toNat high h0 (by omega) (by omega) hs size.toNat 0 (by omega)
  rw [Int.toNat_of_nonneg hz0] at h
  have e : bitsM s at_ high 0 = 0 := by cases high <;> simp [bitsM, bitsHi, bitsLo]
  rw [e] at h
  exact h
def bitsGetM (s : ByteArray) (at_ size : Int) (high : Bool) : Int × Bool :=
  if 0 ≤ size ∧ size ≤ 24 ∧ s.size ≤ 9000 ∧ 0 ≤ at_ ∧ at_ + size ≤ 8 * s.size then (bitsM s at_ high size.toNat, true) else (0, false)
theorem spec_BitsGet_ev (s : ByteArray) (at_ size : Int) (high : Bool) (hs : s.size ≤ 1048576) : Ev (fun k => spec_BitsGet.f k s at_ size high) (bitsGetM s at_ size high) := by
  unfold spec_BitsGet.f bitsGetM
  simp only [l1In_f, Option.bind_some, decide_eq_true_eq]
  by_cases h1 : 0 ≤ size ∧ size ≤ 24
  · by_cases h2 : s.size ≤ 9000
    · by_cases h3 : 0 ≤ at_ ∧ at_ + size ≤ 8 * s.size
      · obtain ⟨K, hK⟩ := l1Get_ev s at_ size high h3.1 h1.1 (by omega) h3.2 (by omega)
        try dsimp only at hK
        refine ⟨K, fun k hk => ?_⟩
        try dsimp only
        rw [if_pos h1, if_neg (by omega), w64 (x := 8 * (s.size : Int)) (by omega), w64 (by omega), if_pos (by omega), hK k hk, if_pos (by omega)]
        rfl
      · refine ⟨0, fun k hk => ?_⟩
        try dsimp only
        rw [if_pos h1, if_neg (by omega), w64 (x := 8 * (s.size : Int)) (by omega), w64 (by omega), if_neg (by omega), if_neg (by omega)]
    · refine ⟨0, fun k hk => ?_⟩
      try dsimp only
      rw [if_pos h1, if_pos (by omega), if_neg (by omega)]
  · refine ⟨0, fun k hk => ?_⟩
    try dsimp only
    rw [if_neg h1, if_neg (by omega)]
theorem impl_BitsGet_l0_ev (s : ByteArray) (at_ : Int) (size : Nat) (high : Bool) (h0 : 0 ≤ at_) (hz : size ≤ 32) (h1 : at_ + size ≤ 8 * s.size) (hs : s.size ≤ 140737488351232) :
    ∀ d i : Nat, i + d = size → Ev (fun k => impl_BitsGet.l0 k s at_ high (bitsM s at_ high i) (size : Int) (i : Int)) (bitsM s at_ high size, true) := by
  intro d
  induction d with
  | zero =>
    intro i hi
    refine ⟨1, fun k hk => ?_⟩
    try dsimp only
    obtain ⟨m, rfl⟩ : ∃ m, k = m + 1 := ⟨k - 1, by omega⟩
    rw [impl_BitsGet.l0, if_neg (by omega), show i = size by omega]
  | succ d ih =>
    intro i hi
    obtain ⟨K, hK⟩ := ih (i + 1) (by omega)
    try dsimp only at hK
    have hb := bitsM_b s at_ high i
    have hp := P2_b (n := i) (m := 40) (by omega)
    rw [P2_40] at hp
    have hv := bitM_b s (at_ + i) high
    refine ⟨K + 1, fun k hk => ?_⟩
    try dsimp only
    obtain ⟨m, rfl⟩ : ∃ m, k = m + 1 := ⟨k - 1, by omega⟩
    have hm := hK m (by omega)
    rw [impl_BitsGet.l0, if_pos (by omega), w64 (x := at_ + i) (by omega), bitAt_f s _ _ (by omega) (by omega) hs]
    simp only [Option.bind_some]
    cases high
    · have hm2 := mul01 (x := P2 i) hv
      simp only [bitsM, bitsLo, Bool.false_eq_true, if_false] at hm hb ⊢
      have ei : (i : Int).toNat = i := by omega
      rw [if_pos (by omega), shl_P2 (by omega) (by omega) (by rw [ei]; omega), ei, or_comm' (by omega) (by omega) (by omega) (by omega), or_join (i := i) (by omega) (Int.mul_emod_left _ _) (by omega) (by omega) (by omega) (by omega), w64 (by omega), Int.add_comm (bitM s (at_ + i) false * P2 i)]
      exact hm
    · simp only [bitsM, bitsHi, if_true] at hm hb ⊢
      rw [w64 (x := 2 * bitsHi s at_ i) (by omega), w64 (x := (i : Int) + 1) (by omega), w64 (by omega)]
      exact hm
theorem impl_BitsGet_ev (s : ByteArray) (at_ size : Int) (high : Bool) (hs : s.size ≤ 1048576) : Ev (fun k => impl_BitsGet.f k s at_ size high) (bitsGetM s at_ size high) := by
  unfold impl_BitsGet.f bitsGetM
  simp only [in_f, Option.bind_some, decide_eq_true_eq]
  by_cases h1 : 0 ≤ size ∧ size ≤ 24
  · rw [w64 (x := 8 * (s.size : Int)) (by omega), w64 (x := 8 * (s.size : Int) - size) (by omega)]
    by_cases h2 : s.size ≤ 9000
    · by_cases h3 : 0 ≤ at_ ∧ at_ + size ≤ 8 * s.size
      · obtain ⟨K, hK⟩ := impl_BitsGet_l0_ev s at_ size.toNat high h3.1 (by omega) (by omega) (by omega) size.toNat 0 (by omega)
        try dsimp only at hK
        refine ⟨K + 1, fun k hk => ?_⟩
        try dsimp only
        obtain ⟨m, rfl⟩ : ∃ m, k = m + 1 := ⟨k - 1, by omega⟩
        have hm := hK m (by omega)
        have e : bitsM s at_ high 0 = 0 := by cases high <;> simp [bitsM, bitsHi, bitsLo]
        rw [Int.toNat_of_nonneg h1.1, e] at hm
        rw [if_pos h1, if_neg (by omega), decide_eq_true (by omega), if_pos (by omega), impl_BitsGet.j0]
        simp only [Bool.not_true, Bool.false_eq_true, if_false]
        exact hm
      · refine ⟨1, fun k hk => ?_⟩
        try dsimp only
        obtain ⟨m, rfl⟩ : ∃ m, k = m + 1 := ⟨k - 1, by omega⟩
        rw [if_pos h1, if_neg (by omega), decide_eq_false (by omega), if_neg (by omega), impl_BitsGet.j0]
        simp
    · refine ⟨1, fun k hk => ?_⟩
      try dsimp only
      obtain ⟨m, rfl⟩ : ∃ m, k = m + 1 := ⟨k - 1, by omega⟩
      rw [if_pos h1, if_pos (by omega), if_neg (by omega), impl_BitsGet.j0]
      simp
  · refine ⟨1, fun k hk => ?_⟩
    try dsimp only
    obtain ⟨m, rfl⟩ : ∃ m, k = m + 1 := ⟨k - 1, by omega⟩
    rw [if_neg h1, if_neg (by omega), impl_BitsGet.j0]
    simp

theorem FnExactBitsGet : laws_FnExactBitsGet.Pure := by
  intro s at_ size high hs w1 w2
  unfold laws_FnExactBitsGet.f
  by_cases h : (s.size : Int) > 1048576
  · exact ⟨0, by rw [if_pos h]⟩
  · obtain ⟨K1, h1⟩ := spec_BitsGet_ev s at_ size high (by omega)
    try dsimp only at h1
    obtain ⟨K2, h2⟩ := impl_BitsGet_ev s at_ size high (by omega)
    try dsimp only at h2
    refine ⟨K1 + K2, ?_⟩
    rw [if_neg h, h1 _ (by omega), h2 _ (by omega)]
    simp

end Go.Proofs.Ytehjfjngnofgmaa.Pure
