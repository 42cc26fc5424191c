/- The program's LzwCodes and the reference's answer the same, at every text of at most 1048576 bytes (longer ones are let by), every number of bits and both orders; the answer is its own memory. -/
import Derived.Test.YtdebckcphaocmaaHFnExactLzwCodesx5
import Derived.Test.YtdebckcphaocmaaThNum
import Derived.Test.YtdebckcphaocmaaThLzw
import Derived.Test.YtdebckcphaocmaaThMark
namespace Go.Proofs.Ytdebckcphaocmaa.Pure
open Go.RowKit Go.Proofs.Ytdebckcphaocmaa.PFnExactLzwCodes Go.Proofs.YtdebckcphaocmaaW.PrintWords Go.Proofs.YtdebckcphaocmaaW.PrintLast Go.Proofs.YtdebckcphaocmaaW.PrintMore Go.Proofs.Ytdebckcphaocmaa.Th
set_option linter.unusedVariables false
set_option linter.unusedSimpArgs false

theorem in_f (a b c : Int) : impl_in.f a b c = some (decide (b ≤ a ∧ a ≤ c)) := by
  unfold impl_in.f
  by_cases h : b ≤ a
  · rw [if_pos h]; simp [h]
  · rw [if_neg h]; simp [h]
theorem l1In_f (a b c : Int) : spec_l1In.f a b c = some (decide (b ≤ a ∧ a ≤ c)) := by
  unfold spec_l1In.f
  by_cases h : b ≤ a
  · rw [if_pos h]; simp [h]
  · rw [if_neg h]; simp [h]
theorem l1Pow_l0_ev (n : Nat) (hn : n ≤ 62) : ∀ d i : Nat, i + d = n → Ev (fun k => spec_l1Pow.l0 k (n : Int) (P2 i) (i : Int)) (P2 n) := by
  intro d
  induction d with
  | zero =>
    intro i hi
    refine ⟨1, fun k hk => ?_⟩
    try dsimp only
    obtain ⟨m, rfl⟩ : ∃ m, k = m + 1 := ⟨k - 1, by omega⟩
    rw [spec_l1Pow.l0, if_neg (by omega), show i = n by omega]
  | succ d ih =>
    intro i hi
    obtain ⟨K, hK⟩ := ih (i + 1) (by omega)
    try dsimp only at hK
    refine ⟨K + 1, fun k hk => ?_⟩
    try dsimp only
    obtain ⟨m, rfl⟩ : ∃ m, k = m + 1 := ⟨k - 1, by omega⟩
    have hm := hK m (by omega)
    have hb := P2_62b (n := i) (by omega)
    have hb' := P2_62b (n := i + 1) (by omega)
    have hs := P2_succ i
    rw [spec_l1Pow.l0, if_pos (by omega), w64 (by omega), w64 (by omega), show P2 i * 2 = P2 (i + 1) by omega, show (i : Int) + 1 = ((i + 1 : Nat) : Int) by omega]
    exact hm
theorem l1Pow_ev (n : Nat) (hn : n ≤ 62) : Ev (fun k => spec_l1Pow.f k (n : Int)) (P2 n) := l1Pow_l0_ev n hn n 0 (by omega)
theorem l1Pow_evI (n : Int) (h0 : 0 ≤ n) (hn : n ≤ 62) : Ev (fun k => spec_l1Pow.f k n) (P2 n.toNat) := by
  have h := l1Pow_ev n.toNat (by omega)
  rw [Int.toNat_of_nonneg h0] at h
  exact h
theorem l1Bit_ev (s : ByteArray) (at_ : Int) (high : Bool) (h0 : 0 ≤ at_) (h1 : at_ < 8 * s.size) (hs : s.size ≤ 140737488351232) : Ev (fun k => spec_l1Bit.f k s at_ high) (bitM s at_ high) := by
  have hb := bt_range s (at_ / 8)
  unfold spec_l1Bit.f bitM
  simp only [tdiv_pos h0, tmod_pos h0]
  rw [w64 (x := at_ / 8) (by omega), w64 (x := bt s (at_ / 8)) (by omega)]
  cases high
  · obtain ⟨K, hK⟩ := l1Pow_evI (at_ % 8) (by omega) (by omega)
    try dsimp only at hK
    refine ⟨K, fun k hk => ?_⟩
    try dsimp only
    have hp := P2_62b (n := (at_ % 8).toNat) (by omega)
    have hq : 0 ≤ bt s (at_ / 8) / P2 (at_ % 8).toNat := Int.ediv_nonneg hb.1 (by omega)
    have hq2 : bt s (at_ / 8) / P2 (at_ % 8).toNat ≤ bt s (at_ / 8) := Int.ediv_le_self _ hb.1
    simp only [Bool.false_eq_true, if_false]
    rw [if_pos (by omega), if_pos (by omega), hK k hk]
    simp only [Option.bind_some]
    rw [if_neg (by omega), tdiv_pos hb.1, w64 (by omega), tmod_pos hq]
  · obtain ⟨K, hK⟩ := l1Pow_evI (7 - at_ % 8) (by omega) (by omega)
    try dsimp only at hK
    refine ⟨K, fun k hk => ?_⟩
    try dsimp only
    have hp := P2_62b (n := (7 - at_ % 8).toNat) (by omega)
    have hq : 0 ≤ bt s (at_ / 8) / P2 (7 - at_ % 8).toNat := Int.ediv_nonneg hb.1 (by omega)
    have hq2 : bt s (at_ / 8) / P2 (7 - at_ % 8).toNat ≤ bt s (at_ / 8) := Int.ediv_le_self _ hb.1
    simp only [if_true]
    rw [if_pos (by omega), if_pos (by omega), w64 (x := 7 - at_ % 8) (by omega), hK k hk]
    simp only [Option.bind_some]
    rw [if_neg (by omega), tdiv_pos hb.1, w64 (by omega), tmod_pos hq]
theorem bitAt_f (s : ByteArray) (at_ : Int) (high : Bool) (h0 : 0 ≤ at_) (h1 : at_ < 8 * s.size) (hs : s.size ≤ 140737488351232) : impl_bitAt.f s at_ high = some (bitM s at_ high) := by
  have hb := bt_range s (at_ / 8)
  unfold impl_bitAt.f bitM
  simp only [tdiv_pos h0, tmod_pos h0]
  rw [w64 (x := at_ / 8) (by omega), w64 (x := bt s (at_ / 8)) (by omega), w64 (x := 7 - at_ % 8) (by omega)]
  cases high
  · have hq : 0 ≤ bt s (at_ / 8) / P2 (at_ % 8).toNat := Int.ediv_nonneg hb.1 (by have := P2_pos (at_ % 8).toNat; omega)
    have hq2 : bt s (at_ / 8) / P2 (at_ % 8).toNat ≤ bt s (at_ / 8) := Int.ediv_le_self _ hb.1
    simp only [Bool.false_eq_true, if_false]
    rw [if_pos (by omega), if_pos (by omega), if_pos (by omega), shr_P2 (by omega), and1 hq (by omega)]
  · have hq : 0 ≤ bt s (at_ / 8) / P2 (7 - at_ % 8).toNat := Int.ediv_nonneg hb.1 (by have := P2_pos (7 - at_ % 8).toNat; omega)
    have hq2 : bt s (at_ / 8) / P2 (7 - at_ % 8).toNat ≤ bt s (at_ / 8) := Int.ediv_le_self _ hb.1
    simp only [if_true]
    rw [if_pos (by omega), if_pos (by omega), if_pos (by omega), shr_P2 (by omega), and1 hq (by omega)]
theorem l1Get_l0_ev (s : ByteArray) (at_ : Int) (size : Nat) (high : Bool) (h0 : 0 ≤ at_) (hz : size ≤ 32) (h1 : at_ + size ≤ 8 * s.size) (hs : s.size ≤ 140737488351232) :
    ∀ d i : Nat, i + d = size → Ev (fun k => spec_l1Get.l0 k s at_ (size : Int) high (bitsM s at_ high i) (i : Int)) (bitsM s at_ high size) := by
  intro d
  induction d with
  | zero =>
    intro i hi
    refine ⟨1, fun k hk => ?_⟩
    try dsimp only
    obtain ⟨m, rfl⟩ : ∃ m, k = m + 1 := ⟨k - 1, by omega⟩
    rw [spec_l1Get.l0, if_neg (by omega), show i = size by omega]
  | succ d ih =>
    intro i hi
    obtain ⟨K, hK⟩ := ih (i + 1) (by omega)
    try dsimp only at hK
    have hb := bitsM_b s at_ high i
    have hp := P2_b (n := i) (m := 40) (by omega)
    rw [P2_40] at hp
    cases high
    · obtain ⟨K1, hK1⟩ := l1Bit_ev s (at_ + i) false (by omega) (by omega) hs
      try dsimp only at hK1
      obtain ⟨K2, hK2⟩ := l1Pow_ev i (by omega)
      try dsimp only at hK2
      have hv := bitM_b s (at_ + i) false
      have hm2 := mul01 (x := P2 i) hv
      refine ⟨K + K1 + K2 + 1, fun k hk => ?_⟩
      try dsimp only
      obtain ⟨m, rfl⟩ : ∃ m, k = m + 1 := ⟨k - 1, by omega⟩
      have hm := hK m (by omega)
      simp only [bitsM, bitsLo, Bool.false_eq_true, if_false] at hm hb ⊢
      rw [spec_l1Get.l0, if_pos (by omega)]
      simp only [Bool.false_eq_true, if_false]
      rw [w64 (x := at_ + i) (by omega), hK1 m (by omega)]
      simp only [Option.bind_some]
      rw [hK2 m (by omega)]
      simp only [Option.bind_some]
      rw [w64 (x := _ * _) (by omega), w64 (x := (i : Int) + 1) (by omega), w64 (by omega)]
      exact hm
    · obtain ⟨K1, hK1⟩ := l1Bit_ev s (at_ + i) true (by omega) (by omega) hs
      try dsimp only at hK1
      have hv := bitM_b s (at_ + i) true
      refine ⟨K + K1 + 1, fun k hk => ?_⟩
      try dsimp only
      obtain ⟨m, rfl⟩ : ∃ m, k = m + 1 := ⟨k - 1, by omega⟩
      have hm := hK m (by omega)
      simp only [bitsM, bitsHi, if_true] at hm hb ⊢
      rw [spec_l1Get.l0, if_pos (by omega)]
      simp only [if_true]
      rw [w64 (x := at_ + i) (by omega), hK1 m (by omega)]
      simp only [Option.bind_some]
      rw [w64 (x := 2 * bitsHi s at_ i) (by omega), w64 (x := (i : Int) + 1) (by omega), w64 (by omega)]
      exact hm
theorem l1Get_ev (s : ByteArray) (at_ size : Int) (high : Bool) (h0 : 0 ≤ at_) (hz0 : 0 ≤ size) (hz : size ≤ 32) (h1 : at_ + size ≤ 8 * s.size) (hs : s.size ≤ 140737488351232) : Ev (fun k => spec_l1Get.f k s at_ size high) (bitsM s at_ high size.toNat) := by
  have h := l1Get_l0_ev s at_ size.toNat high h0 (by omega) (by omega) hs size.toNat 0 (by omega)
  rw [Int.toNat_of_nonneg hz0] at h
  have e : bitsM s at_ high 0 = 0 := by cases high <;> simp [bitsM, bitsHi, bitsLo]
  rw [e] at h
  exact h
def bitsGetM (s : ByteArray) (at_ size : Int) (high : Bool) : Int × Bool :=
  if 0 ≤ size ∧ size ≤ 24 ∧ s.size ≤ 9000 ∧ 0 ≤ at_ ∧ at_ + size ≤ 8 * s.size then (bitsM s at_ high size.toNat, true) else (0, false)
theorem impl_BitsGet_l0_ev (s : ByteArray) (at_ : Int) (size : Nat) (high : Bool) (h0 : 0 ≤ at_) (hz : size ≤ 32) (h1 : at_ + size ≤ 8 * s.size) (hs : s.size ≤ 140737488351232) :
    ∀ d i : Nat, i + d = size → Ev (fun k => impl_BitsGet.l0 k s at_ high (bitsM s at_ high i) (size : Int) (i : Int)) (bitsM s at_ high size, true) := by
  intro d
  induction d with
  | zero =>
    intro i hi
    refine ⟨1, fun k hk => ?_⟩
    try dsimp only
    obtain ⟨m, rfl⟩ : ∃ m, k = m + 1 := ⟨k - 1, by omega⟩
    rw [impl_BitsGet.l0, if_neg (by omega), show i = size by omega]
  | succ d ih =>
    intro i hi
    obtain ⟨K, hK⟩ := ih (i + 1) (by omega)
    try dsimp only at hK
    have hb := bitsM_b s at_ high i
    have hp := P2_b (n := i) (m := 40) (by omega)
    rw [P2_40] at hp
    have hv := bitM_b s (at_ + i) high
    refine ⟨K + 1, fun k hk => ?_⟩
    try dsimp only
    obtain ⟨m, rfl⟩ : ∃ m, k = m + 1 := ⟨k - 1, by omega⟩
    have hm := hK m (by omega)
    rw [impl_BitsGet.l0, if_pos (by omega), w64 (x := at_ + i) (by omega), bitAt_f s _ _ (by omega) (by omega) hs]
    simp only [Option.bind_some]
    cases high
    · have hm2 := mul01 (x := P2 i) hv
      simp only [bitsM, bitsLo, Bool.false_eq_true, if_false] at hm hb ⊢
      have ei : (i : Int).toNat = i := by omega
      rw [if_pos (by omega), shl_P2 (by omega) (by omega) (by rw [ei]; omega), ei, or_comm' (by omega) (by omega) (by omega) (by omega), or_join (i := i) (by omega) (Int.mul_emod_left _ _) (by omega) (by omega) (by omega) (by omega), w64 (by omega), Int.add_comm (bitM s (at_ + i) false * P2 i)]
      exact hm
    · simp only [bitsM, bitsHi, if_true] at hm hb ⊢
      rw [w64 (x := 2 * bitsHi s at_ i) (by omega), w64 (x := (i : Int) + 1) (by omega), w64 (by omega)]
      exact hm
theorem impl_BitsGet_ev (s : ByteArray) (at_ size : Int) (high : Bool) (hs : s.size ≤ 1048576) : Ev (fun k => impl_BitsGet.f k s at_ size high) (bitsGetM s at_ size high) := by
  unfold impl_BitsGet.f bitsGetM
  simp only [in_f, Option.bind_some, decide_eq_true_eq]
  by_cases h1 : 0 ≤ size ∧ size ≤ 24
  · rw [w64 (x := 8 * (s.size : Int)) (by omega), w64 (x := 8 * (s.size : Int) - size) (by omega)]
    by_cases h2 : s.size ≤ 9000
    · by_cases h3 : 0 ≤ at_ ∧ at_ + size ≤ 8 * s.size
      · obtain ⟨K, hK⟩ := impl_BitsGet_l0_ev s at_ size.toNat high h3.1 (by omega) (by omega) (by omega) size.toNat 0 (by omega)
        try dsimp only at hK
        refine ⟨K + 1, fun k hk => ?_⟩
        try dsimp only
        obtain ⟨m, rfl⟩ : ∃ m, k = m + 1 := ⟨k - 1, by omega⟩
        have hm := hK m (by omega)
        have e : bitsM s at_ high 0 = 0 := by cases high <;> simp [bitsM, bitsHi, bitsLo]
        rw [Int.toNat_of_nonneg h1.1, e] at hm
        rw [if_pos h1, if_neg (by omega), decide_eq_true (by omega), if_pos (by omega), impl_BitsGet.j0]
        simp only [Bool.not_true, Bool.false_eq_true, if_false]
        exact hm
      · refine ⟨1, fun k hk => ?_⟩
        try dsimp only
        obtain ⟨m, rfl⟩ : ∃ m, k = m + 1 := ⟨k - 1, by omega⟩
        rw [if_pos h1, if_neg (by omega), decide_eq_false (by omega), if_neg (by omega), impl_BitsGet.j0]
        simp
    · refine ⟨1, fun k hk => ?_⟩
      try dsimp only
      obtain ⟨m, rfl⟩ : ∃ m, k = m + 1 := ⟨k - 1, by omega⟩
      rw [if_pos h1, if_pos (by omega), if_neg (by omega), impl_BitsGet.j0]
      simp
  · refine ⟨1, fun k hk => ?_⟩
    try dsimp only
    obtain ⟨m, rfl⟩ : ∃ m, k = m + 1 := ⟨k - 1, by omega⟩
    rw [if_neg h1, if_neg (by omega), impl_BitsGet.j0]
    simp
theorem ev_all (P : Nat → Nat → Prop) : ∀ n : Nat, (∀ i, i < n → ∃ K, ∀ k, K ≤ k → P i k) → ∃ K, ∀ k, K ≤ k → ∀ i, i < n → P i k := by
  intro n
  induction n with
  | zero => intro _; exact ⟨0, fun _ _ i hi => by omega⟩
  | succ n ih =>
    intro h
    obtain ⟨K1, h1⟩ := ih (fun i hi => h i (by omega))
    try dsimp only at h1
    obtain ⟨K2, h2⟩ := h n (by omega)
    try dsimp only at h2
    refine ⟨K1 + K2, fun k hk i hi => ?_⟩
    by_cases c : i = n
    · subst c; exact h2 k (by omega)
    · exact h1 k (by omega) i (by omega)
theorem l6Width_l0_ev (K : Int) : ∀ (d : Nat) (n : Int), 0 ≤ n → n ≤ 12 → 12 ≤ n + d → Ev (fun k => spec_l6Width.l0 k K n) (lzUp K d n) := by
  intro d
  induction d with
  | zero =>
    intro n h0 h1 h2
    refine ⟨1, fun k hk => ?_⟩
    try dsimp only
    obtain ⟨m, rfl⟩ : ∃ m, k = m + 1 := ⟨k - 1, by omega⟩
    rw [spec_l6Width.l0, if_neg (by omega)]
    rfl
  | succ d ih =>
    intro n h0 h1 h2
    unfold lzUp
    by_cases c : n < 12
    · obtain ⟨K1, hK1⟩ := l1Pow_evI n h0 (by omega)
      try dsimp only at hK1
      by_cases c2 : P2 n.toNat ≤ K
      · obtain ⟨K2, hK2⟩ := ih (n + 1) (by omega) (by omega) (by omega)
        try dsimp only at hK2
        refine ⟨K1 + K2 + 1, fun k hk => ?_⟩
        try dsimp only
        obtain ⟨m, rfl⟩ : ∃ m, k = m + 1 := ⟨k - 1, by omega⟩
        have hm1 := hK1 m (by omega)
        have hm2 := hK2 m (by omega)
        try dsimp only at hm1 hm2 ⊢
        rw [spec_l6Width.l0, if_pos c, hm1, Option.bind_some, if_pos (show K ≥ P2 n.toNat from c2), w64 (by omega), if_pos ⟨c, c2⟩]
        exact hm2
      · refine ⟨K1 + 1, fun k hk => ?_⟩
        try dsimp only
        obtain ⟨m, rfl⟩ : ∃ m, k = m + 1 := ⟨k - 1, by omega⟩
        have hm1 := hK1 m (by omega)
        try dsimp only at hm1 ⊢
        rw [spec_l6Width.l0, if_pos c, hm1, Option.bind_some, if_neg (show ¬ K ≥ P2 n.toNat from c2), if_neg (fun h => c2 h.2)]
    · refine ⟨1, fun k hk => ?_⟩
      try dsimp only
      obtain ⟨m, rfl⟩ : ∃ m, k = m + 1 := ⟨k - 1, by omega⟩
      try dsimp only
      rw [spec_l6Width.l0, if_neg c, if_neg (fun h => c h.1)]
theorem l6Width_ev (known : Nat) (hk : known ≤ 4096) (bits : Int) (hb : 2 ≤ bits ∧ bits ≤ 8) (wide : Bool) : Ev (fun k => spec_l6Width.f k (known : Int) bits wide) (lzWid known bits wide) := by
  have h := l6Width_l0_ev ((known : Int) + (if wide = true then 1 else 0)) 12 (bits + 1) (by omega) (by omega) (by omega)
  obtain ⟨K, hK⟩ := h
  try dsimp only at hK
  refine ⟨K + 1, fun k hk => ?_⟩
  try dsimp only
  obtain ⟨m, rfl⟩ : ∃ m, k = m + 1 := ⟨k - 1, by omega⟩
  have hm := hK m (by omega)
  unfold lzWid
  try dsimp only at hm ⊢
  unfold spec_l6Width.f
  rw [w64 (x := bits + 1) (by omega), w64 (x := (known : Int) + 1) (by omega)]
  cases wide
  · rw [if_neg (by decide), spec_l6Width.j0]
    simp only [Bool.false_eq_true, if_false, Int.add_zero] at hm ⊢
    exact hm
  · rw [if_pos rfl, spec_l6Width.j0]
    exact hm
theorem l6Start_l0_ev (bits : Int) (hb : 2 ≤ bits ∧ bits ≤ 8) : ∀ d i : Nat, i + d = 2 ^ bits.toNat → Ev (fun k => spec_l6Start.l0 k bits (lzBytes i) (i : Int)) (lzStart bits) := by
  have hP := P2_bits hb
  have hP2 : ((2 ^ bits.toNat : Nat) : Int) = P2 bits.toNat := rfl
  obtain ⟨K1, hK1⟩ := l1Pow_evI bits (by omega) (by omega)
  try dsimp only at hK1
  intro d
  induction d with
  | zero =>
    intro i hi
    refine ⟨K1 + 1, fun k hk => ?_⟩
    try dsimp only
    obtain ⟨m, rfl⟩ : ∃ m, k = m + 1 := ⟨k - 1, by omega⟩
    have hm1 := hK1 m (by omega)
    try dsimp only at hm1 ⊢
    rw [spec_l6Start.l0, hm1, Option.bind_some, if_neg (by omega), Option.bind_some, if_pos (by rw [lzBytes_length]; simp; omega)]
    unfold lzStart
    rw [show i = 2 ^ bits.toNat by omega]
  | succ d ih =>
    intro i hi
    obtain ⟨K, hK⟩ := ih (i + 1) (by omega)
    try dsimp only at hK
    refine ⟨K + K1 + 1, fun k hk => ?_⟩
    try dsimp only
    obtain ⟨m, rfl⟩ : ∃ m, k = m + 1 := ⟨k - 1, by omega⟩
    have hm1 := hK1 m (by omega)
    have hm := hK m (by omega)
    try dsimp only at hm1 hm ⊢
    rw [lzBytes_succ, show ((i + 1 : Nat) : Int) = (i : Int) + 1 by omega] at hm
    rw [spec_l6Start.l0, hm1, Option.bind_some, if_pos (by omega), if_pos (by rw [lzBytes_length]; omega), w64 (by omega), show (i : Int) % 256 = i by omega]
    exact hm
theorem l6Start_ev (bits : Int) (hb : 2 ≤ bits ∧ bits ≤ 8) : Ev (fun k => spec_l6Start.f k bits) (lzStart bits) := l6Start_l0_ev bits hb (2 ^ bits.toNat) 0 (by omega)
theorem l6Ready_ev (tx : ByteArray) (hs : tx.size ≤ 9000) (bits : Int) (hb : 2 ≤ bits ∧ bits ≤ 8) (wide : Bool) : ∃ K, ∀ k, K ≤ k → l6Ready k tx bits wide = true := by
  obtain ⟨K1, h1⟩ := ev_all (fun i k => spec_l6Width.f k (i : Int) bits wide = some (lzWid i bits wide)) 4097 (fun i hi => l6Width_ev i (by omega) bits hb wide)
  try dsimp only at h1
  obtain ⟨K2, h2⟩ := ev_all (fun a k => ∀ n : Nat, n < 13 → ((a : Int) + (n : Int) ≤ 8 * (tx.size : Int) → spec_l1Get.f k tx (a : Int) (n : Int) wide = some (bitsM tx (a : Int) wide n))) (8 * tx.size + 1) (fun a ha => ev_all (fun n k => ((a : Int) + (n : Int) ≤ 8 * (tx.size : Int) → spec_l1Get.f k tx (a : Int) (n : Int) wide = some (bitsM tx (a : Int) wide n))) 13 (fun n hn => by
    by_cases c : (a : Int) + (n : Int) ≤ 8 * (tx.size : Int)
    · obtain ⟨K, hK⟩ := l1Get_ev tx (a : Int) (n : Int) wide (by omega) (by omega) (by omega) (by omega) (by omega)
      exact ⟨K, fun k hk _ => by have := hK k hk; rw [Int.toNat_natCast] at this; exact this⟩
    · exact ⟨0, fun k hk h => absurd h c⟩))
  try dsimp only at h2
  obtain ⟨K3, h3⟩ := l1Pow_evI bits (by omega) (by omega)
  try dsimp only at h3
  obtain ⟨K4, h4⟩ := l6Start_ev bits hb
  try dsimp only at h4
  refine ⟨K1 + K2 + K3 + K4, fun k hk => ?_⟩
  try dsimp only
  rw [l6Ready_iff]
  refine ⟨fun i hi => h1 k (by omega) i (by omega), fun a n ha hn hn2 han => ?_, h3 k (by omega), h4 k (by omega)⟩
  have hx := h2 k (by omega) a.toNat (by omega) n.toNat (by omega) (by omega)
  rw [Int.toNat_of_nonneg ha, Int.toNat_of_nonneg hn] at hx
  exact hx
theorem luReady_ev (tx : ByteArray) (hs : tx.size ≤ 9000) (wide : Bool) : ∃ K, ∀ k, K ≤ k → luReady k tx wide = true := by
  obtain ⟨K2, h2⟩ := ev_all (fun a k => ∀ n : Nat, n < 13 → impl_BitsGet.f k tx (a : Int) (n : Int) wide = some (bitsGetM tx (a : Int) (n : Int) wide)) (8 * tx.size + 1) (fun a ha => ev_all (fun n k => impl_BitsGet.f k tx (a : Int) (n : Int) wide = some (bitsGetM tx (a : Int) (n : Int) wide)) 13 (fun n hn => impl_BitsGet_ev tx (a : Int) (n : Int) wide (by omega)))
  try dsimp only at h2
  refine ⟨K2, fun k hk => ?_⟩
  try dsimp only
  rw [luReady_iff]
  intro a n ha ha2 hn hn2
  have hx := h2 k hk a.toNat (by omega) n.toNat (by omega)
  rw [Int.toNat_of_nonneg ha, Int.toNat_of_nonneg hn] at hx
  rw [hx]
  unfold bitsGetM
  by_cases c : a + n ≤ 8 * (tx.size : Int)
  · rw [if_pos c, if_pos ⟨hn, by omega, hs, ha, c⟩]
  · rw [if_neg c, if_neg (fun h => c h.2.2.2.2)]
theorem eqIntS_l0_ev (a b : List Int) (hl : a.length ≤ 35184372088832) (hab : a.length = b.length) : ∀ (sa sb pa pb : List Int), a = pa ++ sa → b = pb ++ sb → pa.length = pb.length → Ev (fun k => laws_eqIntS.l0 k a b (pa.length : Int)) (decide (sa = sb)) := by
  intro sa
  induction sa with
  | nil =>
    intro sb pa pb ha hb hp
    have hsb : sb = [] := by
      cases sb with
      | nil => rfl
      | cons y sb => rw [ha, hb] at hab; simp at hab; omega
    subst hsb
    refine ⟨1, fun k hk => ?_⟩
    try dsimp only
    obtain ⟨m, rfl⟩ : ∃ m, k = m + 1 := ⟨k - 1, by omega⟩
    rw [laws_eqIntS.l0, if_neg (by rw [ha]; simp)]
    simp
  | cons x sa ih =>
    intro sb pa pb ha hb hp
    cases sb with
    | nil => rw [ha, hb] at hab; simp at hab; omega
    | cons y sb =>
      have hll : a.length = pa.length + sa.length + 1 := by rw [ha]; simp; omega
      have hx : rd a (pa.length : Int) = x := by rw [ha]; exact rd_at _ _ _ rfl
      have hy : rd b (pa.length : Int) = y := by rw [hb]; exact rd_at _ _ _ (by omega)
      by_cases hxy : x = y
      · obtain ⟨K, hK⟩ := ih sb (pa ++ [x]) (pb ++ [y]) (by simp [ha]) (by simp [hb]) (by simp [hp])
        try dsimp only at hK
        refine ⟨K + 1, fun k hk => ?_⟩
        try dsimp only
        obtain ⟨m, rfl⟩ : ∃ m, k = m + 1 := ⟨k - 1, by omega⟩
        have hm := hK m (by omega)
        rw [laws_eqIntS.l0, if_pos (by omega), if_pos (by omega), if_pos (by omega), hx, hy, if_pos hxy, w64 (by omega)]
        rw [List.length_append, List.length_singleton, show ((pa.length + 1 : Nat) : Int) = (pa.length : Int) + 1 by omega] at hm
        rw [hm]
        simp [hxy]
      · refine ⟨1, fun k hk => ?_⟩
        try dsimp only
        obtain ⟨m, rfl⟩ : ∃ m, k = m + 1 := ⟨k - 1, by omega⟩
        rw [laws_eqIntS.l0, if_pos (by omega), if_pos (by omega), if_pos (by omega), hx, hy, if_neg hxy]
        simp [hxy]
theorem eqIntS_ev (a b : List Int) (hl : a.length ≤ 35184372088832) (hl2 : b.length ≤ 35184372088832) : Ev (fun k => laws_eqIntS.f k a b) (decide (a = b)) := by
  unfold laws_eqIntS.f
  by_cases h : a.length = b.length
  · obtain ⟨K, hK⟩ := eqIntS_l0_ev a b hl h a b [] [] rfl rfl rfl
    try dsimp only at hK
    refine ⟨K, fun k hk => ?_⟩
    try dsimp only
    rw [if_pos (by omega)]
    exact hK k hk
  · refine ⟨0, fun k hk => ?_⟩
    try dsimp only
    rw [if_neg (by omega), decide_eq_false (fun e => h (by rw [e]))]
theorem markIntS_l0_ev (m0 : Int) (hm0 : 0 ≤ m0 ∧ m0 ≤ 1099511627776) : ∀ (suf : List Int) (i : Nat), i + suf.length ≤ 1099511627776 → Ev (fun k => laws_markIntS.l0 k (marks m0 i ++ suf) (m0 + i) (i : Int)) (m0 + (i + suf.length : Nat), marks m0 (i + suf.length)) := by
  intro suf
  induction suf with
  | nil =>
    intro i hi
    refine ⟨1, fun k hk => ?_⟩
    try dsimp only
    obtain ⟨m, rfl⟩ : ∃ m, k = m + 1 := ⟨k - 1, by omega⟩
    rw [laws_markIntS.l0, if_neg (by simp [marks_length])]
    simp
  | cons x suf ih =>
    intro i hi
    simp only [List.length_cons] at hi
    obtain ⟨K, hK⟩ := ih (i + 1) (by omega)
    try dsimp only at hK
    refine ⟨K + 1, fun k hk => ?_⟩
    try dsimp only
    obtain ⟨m, rfl⟩ : ∃ m, k = m + 1 := ⟨k - 1, by omega⟩
    have hm := hK m (by omega)
    rw [laws_markIntS.l0, if_pos (by simp [marks_length]; omega), if_pos (by omega), Int.toNat_natCast, set_at _ _ _ _ (by rw [marks_length]), w64 (by omega), w64 (by omega)]
    simp only [marks, List.append_assoc, List.singleton_append] at hm
    rw [show m0 + ((i + 1 : Nat) : Int) = m0 + i + 1 by omega, show ((i + 1 : Nat) : Int) = (i : Int) + 1 by omega, show i + 1 + suf.length = i + (suf.length + 1) by omega] at hm
    exact hm
theorem markIntS_ev (l : List Int) (m0 : Int) (hm0 : 0 ≤ m0 ∧ m0 ≤ 1099511627776) (hl : l.length ≤ 1099511627776) : Ev (fun k => laws_markIntS.f k l m0) (m0 + (l.length : Int), marks m0 l.length) := by
  have h := markIntS_l0_ev m0 hm0 l 0 (by omega)
  simp only [marks, List.nil_append, Nat.zero_add] at h
  rw [show m0 + ((0 : Nat) : Int) = m0 by omega] at h
  exact h
theorem heldIntS_l0_ev (m0 : Int) (hm0 : 0 ≤ m0 ∧ m0 ≤ 1099511627776) (n : Nat) (hn : n ≤ 1099511627776) : ∀ d i : Nat, i + d = n → Ev (fun k => laws_heldIntS.l0 k (marks m0 n) (m0 + i) (i : Int)) (m0 + n) := by
  intro d
  induction d with
  | zero =>
    intro i hi
    refine ⟨1, fun k hk => ?_⟩
    try dsimp only
    obtain ⟨m, rfl⟩ : ∃ m, k = m + 1 := ⟨k - 1, by omega⟩
    rw [laws_heldIntS.l0, if_neg (by rw [marks_length]; omega), show i = n by omega]
  | succ d ih =>
    intro i hi
    obtain ⟨K, hK⟩ := ih (i + 1) (by omega)
    try dsimp only at hK
    refine ⟨K + 1, fun k hk => ?_⟩
    try dsimp only
    obtain ⟨m, rfl⟩ : ∃ m, k = m + 1 := ⟨k - 1, by omega⟩
    have hm := hK m (by omega)
    rw [laws_heldIntS.l0, if_pos (by rw [marks_length]; omega), if_pos (by omega), rd_marks _ _ _ (by omega), if_pos rfl, w64 (by omega), w64 (by omega)]
    rw [show m0 + ((i + 1 : Nat) : Int) = m0 + i + 1 by omega, show ((i + 1 : Nat) : Int) = (i : Int) + 1 by omega] at hm
    exact hm
theorem heldIntS_ev (m0 : Int) (hm0 : 0 ≤ m0 ∧ m0 ≤ 1099511627776) (n : Nat) (hn : n ≤ 1099511627776) : Ev (fun k => laws_heldIntS.f k (marks m0 n) m0) (m0 + n) := by
  have h := heldIntS_l0_ev m0 hm0 n hn n 0 (by omega)
  rw [show m0 + ((0 : Nat) : Int) = m0 by omega] at h
  exact h

theorem spec_LzwCodes_ev (a0 : ByteArray) (a1 : Int) (a2 : Bool) : Ev (fun k => spec_LzwCodes.f k a0 a1 a2) (lzCodesM a0 a1 a2) := by
  unfold spec_LzwCodes.f lzCodesM
  by_cases c : lzOk a1 a2 = true ∧ a0.size ≤ 9000
  · obtain ⟨K, hK⟩ := l6Ready_ev a0 c.2 a1 (lzOk_b c.1) a2
    try dsimp only at hK
    refine ⟨K, fun k hk => ?_⟩
    try dsimp only
    try dsimp only
    rw [if_pos c, if_pos (hK k hk), if_pos c]
  · refine ⟨0, fun k hk => ?_⟩
    try dsimp only
    try dsimp only
    rw [if_neg c, if_neg c]
theorem impl_LzwCodes_ev (a0 : ByteArray) (a1 : Int) (a2 : Bool) : Ev (fun k => impl_LzwCodes.f k a0 a1 a2) (lzCodesM a0 a1 a2) := by
  unfold impl_LzwCodes.f
  by_cases c : lzOk a1 a2 = true ∧ a0.size ≤ 9000
  · obtain ⟨K, hK⟩ := luReady_ev a0 c.2 a2
    try dsimp only at hK
    refine ⟨K, fun k hk => ?_⟩
    try dsimp only
    try dsimp only
    rw [if_pos (Or.inl (hK k hk))]
  · refine ⟨0, fun k hk => ?_⟩
    try dsimp only
    try dsimp only
    rw [if_pos (Or.inr c)]
theorem FnExactLzwCodes : laws_FnExactLzwCodes.Pure := by
  intro s b w hs hb
  unfold laws_FnExactLzwCodes.f
  by_cases h : (s.size : Int) > 1048576
  · exact ⟨0, by rw [if_pos h]⟩
  have hlen : (lzCodesM s b w).length ≤ 1099511627776 := by
    unfold lzCodesM lzCodes
    by_cases c : lzOk b w = true ∧ s.size ≤ 9000
    · rw [if_pos c]
      have hi := lzAll_I s (lzOk_b c.1) w (limit := 5000) (by omega)
      have h1 := hi.codes
      have h2 := hi.pos
      split
      · omega
      · exact Nat.zero_le _
    · rw [if_neg c]; exact Nat.zero_le _
  obtain ⟨K1, h1⟩ := spec_LzwCodes_ev s b w
  try dsimp only at h1
  obtain ⟨K2, h2⟩ := impl_LzwCodes_ev s b w
  try dsimp only at h2
  generalize lzCodesM s b w = l at h1 h2 hlen
  obtain ⟨K3, h3⟩ := eqIntS_ev l l (by omega) (by omega)
  try dsimp only at h3
  obtain ⟨K4, h4⟩ := markIntS_ev l 1 (by omega) (by omega)
  try dsimp only at h4
  obtain ⟨K5, h5⟩ := heldIntS_ev 1 (by omega) l.length (by omega)
  try dsimp only at h5
  obtain ⟨K, hK⟩ : ∃ K, K = K1 + K2 + K3 + K4 + K5 := ⟨_, rfl⟩
  refine ⟨K, ?_⟩
  try dsimp only at h1 h2 h3 h4 h5
  have e1 := h1 K (by omega)
  have e2 := h2 K (by omega)
  have e3 := h3 K (by omega)
  have e4 := h4 K (by omega)
  have e5 := h5 K (by omega)
  rw [if_neg h, e1, Option.bind_some, e2, Option.bind_some, e3, Option.bind_some, if_pos (decide_eq_true rfl), e4, Option.bind_some]
  try dsimp only
  rw [e5, Option.bind_some, if_neg (by omega), if_pos rfl, Option.bind_some, e3, Option.bind_some, if_pos (decide_eq_true rfl), Option.bind_some, if_neg (by omega), if_pos rfl]

end Go.Proofs.Ytdebckcphaocmaa.Pure
