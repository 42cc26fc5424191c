/- Of every text, number of bits, order and limit that the reference draws from a list of at most 1048576 bytes (longer ones are let by): the program's LzwGet answers as the reference; a text that it answers is no longer than the limit, each of its bytes has at most so many bits, and with a limit one less it is too long; a status that is not 0 comes with no text. -/
import Derived.Test.YtdebckcphaocmaaHFnLzwGetx11
import Derived.Test.YtdebckcphaocmaaThNum
import Derived.Test.YtdebckcphaocmaaThLzw
import Derived.Test.YtdebckcphaocmaaThXor
import Derived.Test.YtdebckcphaocmaaThStr
import Derived.Test.YtdebckcphaocmaaThLzg
namespace Go.Proofs.Ytdebckcphaocmaa.Pure
open Go.RowKit Go.Proofs.Ytdebckcphaocmaa.PFnLzwGet Go.Proofs.YtdebckcphaocmaaW.PrintWords Go.Proofs.YtdebckcphaocmaaW.PrintLast Go.Proofs.YtdebckcphaocmaaW.PrintMore Go.Proofs.Ytdebckcphaocmaa.Th
set_option linter.unusedVariables false
set_option linter.unusedSimpArgs false

theorem in_f (a b c : Int) : impl_in.f a b c = some (decide (b ≤ a ∧ a ≤ c)) := by
  unfold impl_in.f
  by_cases h : b ≤ a
  · rw [if_pos h]; simp [h]
  · rw [if_neg h]; simp [h]
theorem l1In_f (a b c : Int) : spec_l1In.f a b c = some (decide (b ≤ a ∧ a ≤ c)) := by
  unfold spec_l1In.f
  by_cases h : b ≤ a
  · rw [if_pos h]; simp [h]
  · rw [if_neg h]; simp [h]
theorem l1Pow_l0_ev (n : Nat) (hn : n ≤ 62) : ∀ d i : Nat, i + d = n → Ev (fun k => spec_l1Pow.l0 k (n : Int) (P2 i) (i : Int)) (P2 n) := by
  intro d
  induction d with
  | zero =>
    intro i hi
    refine ⟨1, fun k hk => ?_⟩
    try dsimp only
    obtain ⟨m, rfl⟩ : ∃ m, k = m + 1 := ⟨k - 1, by omega⟩
    rw [spec_l1Pow.l0, if_neg (by omega), show i = n by omega]
  | succ d ih =>
    intro i hi
    obtain ⟨K, hK⟩ := ih (i + 1) (by omega)
    try dsimp only at hK
    refine ⟨K + 1, fun k hk => ?_⟩
    try dsimp only
    obtain ⟨m, rfl⟩ : ∃ m, k = m + 1 := ⟨k - 1, by omega⟩
    have hm := hK m (by omega)
    have hb := P2_62b (n := i) (by omega)
    have hb' := P2_62b (n := i + 1) (by omega)
    have hs := P2_succ i
    rw [spec_l1Pow.l0, if_pos (by omega), w64 (by omega), w64 (by omega), show P2 i * 2 = P2 (i + 1) by omega, show (i : Int) + 1 = ((i + 1 : Nat) : Int) by omega]
    exact hm
theorem l1Pow_ev (n : Nat) (hn : n ≤ 62) : Ev (fun k => spec_l1Pow.f k (n : Int)) (P2 n) := l1Pow_l0_ev n hn n 0 (by omega)
theorem l1Pow_evI (n : Int) (h0 : 0 ≤ n) (hn : n ≤ 62) : Ev (fun k => spec_l1Pow.f k n) (P2 n.toNat) := by
  have h := l1Pow_ev n.toNat (by omega)
  rw [Int.toNat_of_nonneg h0] at h
  exact h
theorem l1Bit_ev (s : ByteArray) (at_ : Int) (high : Bool) (h0 : 0 ≤ at_) (h1 : at_ < 8 * s.size) (hs : s.size ≤ 140737488351232) : Ev (fun k => spec_l1Bit.f k s at_ high) (bitM s at_ high) := by
  have hb := bt_range s (at_ / 8)
  unfold spec_l1Bit.f bitM
  simp only [tdiv_pos h0, tmod_pos h0]
  rw [w64 (x := at_ / 8) (by omega), w64 (x := bt s (at_ / 8)) (by omega)]
  cases high
  · obtain ⟨K, hK⟩ := l1Pow_evI (at_ % 8) (by omega) (by omega)
    try dsimp only at hK
    refine ⟨K, fun k hk => ?_⟩
    try dsimp only
    have hp := P2_62b (n := (at_ % 8).toNat) (by omega)
    have hq : 0 ≤ bt s (at_ / 8) / P2 (at_ % 8).toNat := Int.ediv_nonneg hb.1 (by omega)
    have hq2 : bt s (at_ / 8) / P2 (at_ % 8).toNat ≤ bt s (at_ / 8) := Int.ediv_le_self _ hb.1
    simp only [Bool.false_eq_true, if_false]
    rw [if_pos (by omega), if_pos (by omega), hK k hk]
    simp only [Option.bind_some]
    rw [if_neg (by omega), tdiv_pos hb.1, w64 (by omega), tmod_pos hq]
  · obtain ⟨K, hK⟩ := l1Pow_evI (7 - at_ % 8) (by omega) (by omega)
    try dsimp only at hK
    refine ⟨K, fun k hk => ?_⟩
    try dsimp only
    have hp := P2_62b (n := (7 - at_ % 8).toNat) (by omega)
    have hq : 0 ≤ bt s (at_ / 8) / P2 (7 - at_ % 8).toNat := Int.ediv_nonneg hb.1 (by omega)
    have hq2 : bt s (at_ / 8) / P2 (7 - at_ % 8).toNat ≤ bt s (at_ / 8) := Int.ediv_le_self _ hb.1
    simp only [if_true]
    rw [if_pos (by omega), if_pos (by omega), w64 (x := 7 - at_ % 8) (by omega), hK k hk]
    simp only [Option.bind_some]
    rw [if_neg (by omega), tdiv_pos hb.1, w64 (by omega), tmod_pos hq]
theorem bitAt_f (s : ByteArray) (at_ : Int) (high : Bool) (h0 : 0 ≤ at_) (h1 : at_ < 8 * s.size) (hs : s.size ≤ 140737488351232) : impl_bitAt.f s at_ high = some (bitM s at_ high) := by
  have hb := bt_range s (at_ / 8)
  unfold impl_bitAt.f bitM
  simp only [tdiv_pos h0, tmod_pos h0]
  rw [w64 (x := at_ / 8) (by omega), w64 (x := bt s (at_ / 8)) (by omega), w64 (x := 7 - at_ % 8) (by omega)]
  cases high
  · have hq : 0 ≤ bt s (at_ / 8) / P2 (at_ % 8).toNat := Int.ediv_nonneg hb.1 (by have := P2_pos (at_ % 8).toNat; omega)
    have hq2 : bt s (at_ / 8) / P2 (at_ % 8).toNat ≤ bt s (at_ / 8) := Int.ediv_le_self _ hb.1
    simp only [Bool.false_eq_true, if_false]
    rw [if_pos (by omega), if_pos (by omega), if_pos (by omega), shr_P2 (by omega), and1 hq (by omega)]
  · have hq : 0 ≤ bt s (at_ / 8) / P2 (7 - at_ % 8).toNat := Int.ediv_nonneg hb.1 (by have := P2_pos (7 - at_ % 8).toNat; omega)
    have hq2 : bt s (at_ / 8) / P2 (7 - at_ % 8).toNat ≤ bt s (at_ / 8) := Int.ediv_le_self _ hb.1
    simp only [if_true]
    rw [if_pos (by omega), if_pos (by omega), if_pos (by omega), shr_P2 (by omega), and1 hq (by omega)]
theorem l1Get_l0_ev (s : ByteArray) (at_ : Int) (size : Nat) (high : Bool) (h0 : 0 ≤ at_) (hz : size ≤ 32) (h1 : at_ + size ≤ 8 * s.size) (hs : s.size ≤ 140737488351232) :
    ∀ d i : Nat, i + d = size → Ev (fun k => spec_l1Get.l0 k s at_ (size : Int) high (bitsM s at_ high i) (i : Int)) (bitsM s at_ high size) := by
  intro d
  induction d with
  | zero =>
    intro i hi
    refine ⟨1, fun k hk => ?_⟩
    try dsimp only
    obtain ⟨m, rfl⟩ : ∃ m, k = m + 1 := ⟨k - 1, by omega⟩
    rw [spec_l1Get.l0, if_neg (by omega), show i = size by omega]
  | succ d ih =>
    intro i hi
    obtain ⟨K, hK⟩ := ih (i + 1) (by omega)
    try dsimp only at hK
    have hb := bitsM_b s at_ high i
    have hp := P2_b (n := i) (m := 40) (by omega)
    rw [P2_40] at hp
    cases high
    · obtain ⟨K1, hK1⟩ := l1Bit_ev s (at_ + i) false (by omega) (by omega) hs
      try dsimp only at hK1
      obtain ⟨K2, hK2⟩ := l1Pow_ev i (by omega)
      try dsimp only at hK2
      have hv := bitM_b s (at_ + i) false
      have hm2 := mul01 (x := P2 i) hv
      refine ⟨K + K1 + K2 + 1, fun k hk => ?_⟩
      try dsimp only
      obtain ⟨m, rfl⟩ : ∃ m, k = m + 1 := ⟨k - 1, by omega⟩
      have hm := hK m (by omega)
      simp only [bitsM, bitsLo, Bool.false_eq_true, if_false] at hm hb ⊢
      rw [spec_l1Get.l0, if_pos (by omega)]
      simp only [Bool.false_eq_true, if_false]
      rw [w64 (x := at_ + i) (by omega), hK1 m (by omega)]
      simp only [Option.bind_some]
      rw [hK2 m (by omega)]
      simp only [Option.bind_some]
      rw [w64 (x := _ * _) (by omega), w64 (x := (i : Int) + 1) (by omega), w64 (by omega)]
      exact hm
    · obtain ⟨K1, hK1⟩ := l1Bit_ev s (at_ + i) true (by omega) (by omega) hs
      try dsimp only at hK1
      have hv := bitM_b s (at_ + i) true
      refine ⟨K + K1 + 1, fun k hk => ?_⟩
      try dsimp only
      obtain ⟨m, rfl⟩ : ∃ m, k = m + 1 := ⟨k - 1, by omega⟩
      have hm := hK m (by omega)
      simp only [bitsM, bitsHi, if_true] at hm hb ⊢
      rw [spec_l1Get.l0, if_pos (by omega)]
      simp only [if_true]
      rw [w64 (x := at_ + i) (by omega), hK1 m (by omega)]
      simp only [Option.bind_some]
      rw [w64 (x := 2 * bitsHi s at_ i) (by omega), w64 (x := (i : Int) + 1) (by omega), w64 (by omega)]
      exact hm
theorem l1Get_ev (s : ByteArray) (at_ size : Int) (high : Bool) (h0 : 0 ≤ at_) (hz0 : 0 ≤ size) (hz : size ≤ 32) (h1 : at_ + size ≤ 8 * s.size) (hs : s.size ≤ 140737488351232) : Ev (fun k => spec_l1Get.f k s at_ size high) (bitsM s at_ high size.toNat) := by
  have h := l1Get_l0_ev s at_ size.toNat high h0 (by omega) (by omega) hs size.toNat 0 (by omega)
  rw [Int.toNat_of_nonneg hz0] at h
  have e : bitsM s at_ high 0 = 0 := by cases high <;> simp [bitsM, bitsHi, bitsLo]
  rw [e] at h
  exact h
def bitsGetM (s : ByteArray) (at_ size : Int) (high : Bool) : Int × Bool :=
  if 0 ≤ size ∧ size ≤ 24 ∧ s.size ≤ 9000 ∧ 0 ≤ at_ ∧ at_ + size ≤ 8 * s.size then (bitsM s at_ high size.toNat, true) else (0, false)
theorem impl_BitsGet_l0_ev (s : ByteArray) (at_ : Int) (size : Nat) (high : Bool) (h0 : 0 ≤ at_) (hz : size ≤ 32) (h1 : at_ + size ≤ 8 * s.size) (hs : s.size ≤ 140737488351232) :
    ∀ d i : Nat, i + d = size → Ev (fun k => impl_BitsGet.l0 k s at_ high (bitsM s at_ high i) (size : Int) (i : Int)) (bitsM s at_ high size, true) := by
  intro d
  induction d with
  | zero =>
    intro i hi
    refine ⟨1, fun k hk => ?_⟩
    try dsimp only
    obtain ⟨m, rfl⟩ : ∃ m, k = m + 1 := ⟨k - 1, by omega⟩
    rw [impl_BitsGet.l0, if_neg (by omega), show i = size by omega]
  | succ d ih =>
    intro i hi
    obtain ⟨K, hK⟩ := ih (i + 1) (by omega)
    try dsimp only at hK
    have hb := bitsM_b s at_ high i
    have hp := P2_b (n := i) (m := 40) (by omega)
    rw [P2_40] at hp
    have hv := bitM_b s (at_ + i) high
    refine ⟨K + 1, fun k hk => ?_⟩
    try dsimp only
    obtain ⟨m, rfl⟩ : ∃ m, k = m + 1 := ⟨k - 1, by omega⟩
    have hm := hK m (by omega)
    rw [impl_BitsGet.l0, if_pos (by omega), w64 (x := at_ + i) (by omega), bitAt_f s _ _ (by omega) (by omega) hs]
    simp only [Option.bind_some]
    cases high
    · have hm2 := mul01 (x := P2 i) hv
      simp only [bitsM, bitsLo, Bool.false_eq_true, if_false] at hm hb ⊢
      have ei : (i : Int).toNat = i := by omega
      rw [if_pos (by omega), shl_P2 (by omega) (by omega) (by rw [ei]; omega), ei, or_comm' (by omega) (by omega) (by omega) (by omega), or_join (i := i) (by omega) (Int.mul_emod_left _ _) (by omega) (by omega) (by omega) (by omega), w64 (by omega), Int.add_comm (bitM s (at_ + i) false * P2 i)]
      exact hm
    · simp only [bitsM, bitsHi, if_true] at hm hb ⊢
      rw [w64 (x := 2 * bitsHi s at_ i) (by omega), w64 (x := (i : Int) + 1) (by omega), w64 (by omega)]
      exact hm
theorem impl_BitsGet_ev (s : ByteArray) (at_ size : Int) (high : Bool) (hs : s.size ≤ 1048576) : Ev (fun k => impl_BitsGet.f k s at_ size high) (bitsGetM s at_ size high) := by
  unfold impl_BitsGet.f bitsGetM
  simp only [in_f, Option.bind_some, decide_eq_true_eq]
  by_cases h1 : 0 ≤ size ∧ size ≤ 24
  · rw [w64 (x := 8 * (s.size : Int)) (by omega), w64 (x := 8 * (s.size : Int) - size) (by omega)]
    by_cases h2 : s.size ≤ 9000
    · by_cases h3 : 0 ≤ at_ ∧ at_ + size ≤ 8 * s.size
      · obtain ⟨K, hK⟩ := impl_BitsGet_l0_ev s at_ size.toNat high h3.1 (by omega) (by omega) (by omega) size.toNat 0 (by omega)
        try dsimp only at hK
        refine ⟨K + 1, fun k hk => ?_⟩
        try dsimp only
        obtain ⟨m, rfl⟩ : ∃ m, k = m + 1 := ⟨k - 1, by omega⟩
        have hm := hK m (by omega)
        have e : bitsM s at_ high 0 = 0 := by cases high <;> simp [bitsM, bitsHi, bitsLo]
        rw [Int.toNat_of_nonneg h1.1, e] at hm
        rw [if_pos h1, if_neg (by omega), decide_eq_true (by omega), if_pos (by omega), impl_BitsGet.j0]
        simp only [Bool.not_true, Bool.false_eq_true, if_false]
        exact hm
      · refine ⟨1, fun k hk => ?_⟩
        try dsimp only
        obtain ⟨m, rfl⟩ : ∃ m, k = m + 1 := ⟨k - 1, by omega⟩
        rw [if_pos h1, if_neg (by omega), decide_eq_false (by omega), if_neg (by omega), impl_BitsGet.j0]
        simp
    · refine ⟨1, fun k hk => ?_⟩
      try dsimp only
      obtain ⟨m, rfl⟩ : ∃ m, k = m + 1 := ⟨k - 1, by omega⟩
      rw [if_pos h1, if_pos (by omega), if_neg (by omega), impl_BitsGet.j0]
      simp
  · refine ⟨1, fun k hk => ?_⟩
    try dsimp only
    obtain ⟨m, rfl⟩ : ∃ m, k = m + 1 := ⟨k - 1, by omega⟩
    rw [if_neg h1, if_neg (by omega), impl_BitsGet.j0]
    simp
theorem ev_all (P : Nat → Nat → Prop) : ∀ n : Nat, (∀ i, i < n → ∃ K, ∀ k, K ≤ k → P i k) → ∃ K, ∀ k, K ≤ k → ∀ i, i < n → P i k := by
  intro n
  induction n with
  | zero => intro _; exact ⟨0, fun _ _ i hi => by omega⟩
  | succ n ih =>
    intro h
    obtain ⟨K1, h1⟩ := ih (fun i hi => h i (by omega))
    try dsimp only at h1
    obtain ⟨K2, h2⟩ := h n (by omega)
    try dsimp only at h2
    refine ⟨K1 + K2, fun k hk i hi => ?_⟩
    by_cases c : i = n
    · subst c; exact h2 k (by omega)
    · exact h1 k (by omega) i (by omega)
theorem l6Width_l0_ev (K : Int) : ∀ (d : Nat) (n : Int), 0 ≤ n → n ≤ 12 → 12 ≤ n + d → Ev (fun k => spec_l6Width.l0 k K n) (lzUp K d n) := by
  intro d
  induction d with
  | zero =>
    intro n h0 h1 h2
    refine ⟨1, fun k hk => ?_⟩
    try dsimp only
    obtain ⟨m, rfl⟩ : ∃ m, k = m + 1 := ⟨k - 1, by omega⟩
    rw [spec_l6Width.l0, if_neg (by omega)]
    rfl
  | succ d ih =>
    intro n h0 h1 h2
    unfold lzUp
    by_cases c : n < 12
    · obtain ⟨K1, hK1⟩ := l1Pow_evI n h0 (by omega)
      try dsimp only at hK1
      by_cases c2 : P2 n.toNat ≤ K
      · obtain ⟨K2, hK2⟩ := ih (n + 1) (by omega) (by omega) (by omega)
        try dsimp only at hK2
        refine ⟨K1 + K2 + 1, fun k hk => ?_⟩
        try dsimp only
        obtain ⟨m, rfl⟩ : ∃ m, k = m + 1 := ⟨k - 1, by omega⟩
        have hm1 := hK1 m (by omega)
        have hm2 := hK2 m (by omega)
        try dsimp only at hm1 hm2 ⊢
        rw [spec_l6Width.l0, if_pos c, hm1, Option.bind_some, if_pos (show K ≥ P2 n.toNat from c2), w64 (by omega), if_pos ⟨c, c2⟩]
        exact hm2
      · refine ⟨K1 + 1, fun k hk => ?_⟩
        try dsimp only
        obtain ⟨m, rfl⟩ : ∃ m, k = m + 1 := ⟨k - 1, by omega⟩
        have hm1 := hK1 m (by omega)
        try dsimp only at hm1 ⊢
        rw [spec_l6Width.l0, if_pos c, hm1, Option.bind_some, if_neg (show ¬ K ≥ P2 n.toNat from c2), if_neg (fun h => c2 h.2)]
    · refine ⟨1, fun k hk => ?_⟩
      try dsimp only
      obtain ⟨m, rfl⟩ : ∃ m, k = m + 1 := ⟨k - 1, by omega⟩
      try dsimp only
      rw [spec_l6Width.l0, if_neg c, if_neg (fun h => c h.1)]
theorem l6Width_ev (known : Nat) (hk : known ≤ 4096) (bits : Int) (hb : 2 ≤ bits ∧ bits ≤ 8) (wide : Bool) : Ev (fun k => spec_l6Width.f k (known : Int) bits wide) (lzWid known bits wide) := by
  have h := l6Width_l0_ev ((known : Int) + (if wide = true then 1 else 0)) 12 (bits + 1) (by omega) (by omega) (by omega)
  obtain ⟨K, hK⟩ := h
  try dsimp only at hK
  refine ⟨K + 1, fun k hk => ?_⟩
  try dsimp only
  obtain ⟨m, rfl⟩ : ∃ m, k = m + 1 := ⟨k - 1, by omega⟩
  have hm := hK m (by omega)
  unfold lzWid
  try dsimp only at hm ⊢
  unfold spec_l6Width.f
  rw [w64 (x := bits + 1) (by omega), w64 (x := (known : Int) + 1) (by omega)]
  cases wide
  · rw [if_neg (by decide), spec_l6Width.j0]
    simp only [Bool.false_eq_true, if_false, Int.add_zero] at hm ⊢
    exact hm
  · rw [if_pos rfl, spec_l6Width.j0]
    exact hm
theorem l6Start_l0_ev (bits : Int) (hb : 2 ≤ bits ∧ bits ≤ 8) : ∀ d i : Nat, i + d = 2 ^ bits.toNat → Ev (fun k => spec_l6Start.l0 k bits (lzBytes i) (i : Int)) (lzStart bits) := by
  have hP := P2_bits hb
  have hP2 : ((2 ^ bits.toNat : Nat) : Int) = P2 bits.toNat := rfl
  obtain ⟨K1, hK1⟩ := l1Pow_evI bits (by omega) (by omega)
  try dsimp only at hK1
  intro d
  induction d with
  | zero =>
    intro i hi
    refine ⟨K1 + 1, fun k hk => ?_⟩
    try dsimp only
    obtain ⟨m, rfl⟩ : ∃ m, k = m + 1 := ⟨k - 1, by omega⟩
    have hm1 := hK1 m (by omega)
    try dsimp only at hm1 ⊢
    rw [spec_l6Start.l0, hm1, Option.bind_some, if_neg (by omega), Option.bind_some, if_pos (by rw [lzBytes_length]; simp; omega)]
    unfold lzStart
    rw [show i = 2 ^ bits.toNat by omega]
  | succ d ih =>
    intro i hi
    obtain ⟨K, hK⟩ := ih (i + 1) (by omega)
    try dsimp only at hK
    refine ⟨K + K1 + 1, fun k hk => ?_⟩
    try dsimp only
    obtain ⟨m, rfl⟩ : ∃ m, k = m + 1 := ⟨k - 1, by omega⟩
    have hm1 := hK1 m (by omega)
    have hm := hK m (by omega)
    try dsimp only at hm1 hm ⊢
    rw [lzBytes_succ, show ((i + 1 : Nat) : Int) = (i : Int) + 1 by omega] at hm
    rw [spec_l6Start.l0, hm1, Option.bind_some, if_pos (by omega), if_pos (by rw [lzBytes_length]; omega), w64 (by omega), show (i : Int) % 256 = i by omega]
    exact hm
theorem l6Start_ev (bits : Int) (hb : 2 ≤ bits ∧ bits ≤ 8) : Ev (fun k => spec_l6Start.f k bits) (lzStart bits) := l6Start_l0_ev bits hb (2 ^ bits.toNat) 0 (by omega)
theorem l6Ready_ev (tx : ByteArray) (hs : tx.size ≤ 9000) (bits : Int) (hb : 2 ≤ bits ∧ bits ≤ 8) (wide : Bool) : ∃ K, ∀ k, K ≤ k → l6Ready k tx bits wide = true := by
  obtain ⟨K1, h1⟩ := ev_all (fun i k => spec_l6Width.f k (i : Int) bits wide = some (lzWid i bits wide)) 4097 (fun i hi => l6Width_ev i (by omega) bits hb wide)
  try dsimp only at h1
  obtain ⟨K2, h2⟩ := ev_all (fun a k => ∀ n : Nat, n < 13 → ((a : Int) + (n : Int) ≤ 8 * (tx.size : Int) → spec_l1Get.f k tx (a : Int) (n : Int) wide = some (bitsM tx (a : Int) wide n))) (8 * tx.size + 1) (fun a ha => ev_all (fun n k => ((a : Int) + (n : Int) ≤ 8 * (tx.size : Int) → spec_l1Get.f k tx (a : Int) (n : Int) wide = some (bitsM tx (a : Int) wide n))) 13 (fun n hn => by
    by_cases c : (a : Int) + (n : Int) ≤ 8 * (tx.size : Int)
    · obtain ⟨K, hK⟩ := l1Get_ev tx (a : Int) (n : Int) wide (by omega) (by omega) (by omega) (by omega) (by omega)
      exact ⟨K, fun k hk _ => by have := hK k hk; rw [Int.toNat_natCast] at this; exact this⟩
    · exact ⟨0, fun k hk h => absurd h c⟩))
  try dsimp only at h2
  obtain ⟨K3, h3⟩ := l1Pow_evI bits (by omega) (by omega)
  try dsimp only at h3
  obtain ⟨K4, h4⟩ := l6Start_ev bits hb
  try dsimp only at h4
  refine ⟨K1 + K2 + K3 + K4, fun k hk => ?_⟩
  try dsimp only
  rw [l6Ready_iff]
  refine ⟨fun i hi => h1 k (by omega) i (by omega), fun a n ha hn hn2 han => ?_, h3 k (by omega), h4 k (by omega)⟩
  have hx := h2 k (by omega) a.toNat (by omega) n.toNat (by omega) (by omega)
  rw [Int.toNat_of_nonneg ha, Int.toNat_of_nonneg hn] at hx
  exact hx
theorem luReady_ev (tx : ByteArray) (hs : tx.size ≤ 9000) (wide : Bool) : ∃ K, ∀ k, K ≤ k → luReady k tx wide = true := by
  obtain ⟨K2, h2⟩ := ev_all (fun a k => ∀ n : Nat, n < 13 → impl_BitsGet.f k tx (a : Int) (n : Int) wide = some (bitsGetM tx (a : Int) (n : Int) wide)) (8 * tx.size + 1) (fun a ha => ev_all (fun n k => impl_BitsGet.f k tx (a : Int) (n : Int) wide = some (bitsGetM tx (a : Int) (n : Int) wide)) 13 (fun n hn => impl_BitsGet_ev tx (a : Int) (n : Int) wide (by omega)))
  try dsimp only at h2
  refine ⟨K2, fun k hk => ?_⟩
  try dsimp only
  rw [luReady_iff]
  intro a n ha ha2 hn hn2
  have hx := h2 k hk a.toNat (by omega) n.toNat (by omega)
  rw [Int.toNat_of_nonneg ha, Int.toNat_of_nonneg hn] at hx
  rw [hx]
  unfold bitsGetM
  by_cases c : a + n ≤ 8 * (tx.size : Int)
  · rw [if_pos c, if_pos ⟨hn, by omega, hs, ha, c⟩]
  · rw [if_neg c, if_neg (fun h => c h.2.2.2.2)]
/-! What packs a text by numbers: that it ends, and how long it is. -/
theorem l6Find_l0_ev (l : List ByteArray) (hl : l.length ≤ 100000) (s : ByteArray) : ∀ d i : Nat, i + d = l.length → ∃ v : Int, Ev (fun k => spec_l6Find.l0 k l s (i : Int)) v := by
  intro d
  induction d with
  | zero =>
    intro i hi
    refine ⟨-1, 1, fun k hk => ?_⟩
    try dsimp only
    obtain ⟨m, rfl⟩ : ∃ m, k = m + 1 := ⟨k - 1, by omega⟩
    try dsimp only
    rw [spec_l6Find.l0, if_neg (by omega)]
  | succ d ih =>
    intro i hi
    by_cases c : (rdOf ByteArray.empty l (i : Int)).toList = s.toList
    · refine ⟨(i : Int), 1, fun k hk => ?_⟩
      try dsimp only
      obtain ⟨m, rfl⟩ : ∃ m, k = m + 1 := ⟨k - 1, by omega⟩
      try dsimp only
      rw [spec_l6Find.l0, if_pos (by omega), if_pos (by omega), if_pos c]
    · obtain ⟨v, K, hK⟩ := ih (i + 1) (by omega)
      try dsimp only at hK
      refine ⟨v, K + 1, fun k hk => ?_⟩
      try dsimp only
      obtain ⟨m, rfl⟩ : ∃ m, k = m + 1 := ⟨k - 1, by omega⟩
      have hm := hK m (by omega)
      try dsimp only at hm ⊢
      rw [spec_l6Find.l0, if_pos (by omega), if_pos (by omega), if_neg c, w64 (by omega)]
      exact hm
theorem l6Num_ev (l : List ByteArray) (hl : l.length ≤ 100000) (s : ByteArray) : ∃ v : Int, Ev (fun k => spec_l6Num.f k l s) v := by
  by_cases c : (s.size : Int) = 1
  · refine ⟨wrap64 (bt s 0), 0, fun k hk => ?_⟩
    try dsimp only
    try dsimp only
    unfold spec_l6Num.f
    rw [if_pos c, if_pos (by omega)]
  · obtain ⟨v, K, hK⟩ := l6Find_l0_ev l hl s l.length 0 (by omega)
    try dsimp only at hK
    refine ⟨v, K, fun k hk => ?_⟩
    try dsimp only
    have hm := hK k hk
    try dsimp only at hm ⊢
    unfold spec_l6Num.f spec_l6Find.f
    rw [if_neg c]
    show (spec_l6Find.l0 k l s ((0 : Nat) : Int)).bind _ = _
    rw [hm, Option.bind_some]
theorem lzWid_b2 {bits : Int} (h : 2 ≤ bits ∧ bits ≤ 8) (known : Int) (wide : Bool) : 0 ≤ lzWid known bits wide ∧ lzWid known bits wide ≤ 12 := by
  have := lzWid_b h known wide
  omega
theorem l6Code_ev (n : Int) (l : List ByteArray) (h1 : 1 ≤ l.length) (hl : l.length ≤ 4096) {bits : Int} (hb : 2 ≤ bits ∧ bits ≤ 8) (wide : Bool) : ∃ z : Int, (0 ≤ z ∧ z ≤ 12) ∧ Ev (fun k => spec_l6Code.f k n l bits wide) (n, z) := by
  obtain ⟨K1, hK1⟩ := l1Pow_evI bits (by omega) (by omega)
  try dsimp only at hK1
  have hP := P2_bits hb
  by_cases c : (l.length : Int) = P2 bits.toNat + 2
  · obtain ⟨K2, hK2⟩ := l6Width_ev l.length hl bits hb wide
    try dsimp only at hK2
    refine ⟨lzWid l.length bits wide, lzWid_b2 hb _ _, K1 + K2, fun k hk => ?_⟩
    try dsimp only
    have e1 := hK1 k (by omega)
    have e2 := hK2 k (by omega)
    try dsimp only at e1 e2 ⊢
    unfold spec_l6Code.f spec_l6Known.f
    rw [e1, Option.bind_some, w64 (by omega), if_pos c, Option.bind_some, e2, Option.bind_some]
  · obtain ⟨K2, hK2⟩ := l6Width_ev (l.length - 1) (by omega) bits hb wide
    try dsimp only at hK2
    refine ⟨lzWid ((l.length - 1 : Nat) : Int) bits wide, lzWid_b2 hb _ _, K1 + K2, fun k hk => ?_⟩
    try dsimp only
    have e1 := hK1 k (by omega)
    have e2 := hK2 k (by omega)
    try dsimp only at e1 e2 ⊢
    unfold spec_l6Code.f spec_l6Known.f
    rw [e1, Option.bind_some, w64 (by omega), if_neg c, Option.bind_some, w64 (by omega), show (l.length : Int) - 1 = ((l.length - 1 : Nat) : Int) by omega, e2, Option.bind_some]
/-- Numbers of at most 12 bits. -/
def okB (B : List S72) : Prop := ∀ t ∈ B, 0 ≤ t.f1 ∧ t.f1 ≤ 12
theorem okB_add {B : List S72} (h : okB B) {n z : Int} (hz : 0 ≤ z ∧ z ≤ 12) : okB (B ++ [⟨n, z⟩]) := by
  intro t ht
  rcases List.mem_append.1 ht with h1 | h1
  · exact h t h1
  · rw [List.mem_singleton] at h1; subst h1; exact hz
theorem l6Put_l0_ev (s : ByteArray) (hs : s.size ≤ 5000) {bits : Int} (hb : 2 ≤ bits ∧ bits ≤ 8) (wide : Bool) : ∀ (d i : Nat), i + d = s.size → ∀ (l : List ByteArray) (B : List S72) (last : ByteArray), 1 ≤ l.length → l.length ≤ 4094 → okB B → B.length ≤ 1 + 2 * i → last.size ≤ i →
    ∃ B' : List S72, (okB B' ∧ B'.length ≤ 2 * s.size + 3) ∧ Ev (fun k => spec_l6Put.l0 k s bits wide (P2 bits.toNat) l B last (i : Int)) B' := by
  have hP := P2_bits hb
  intro d
  induction d with
  | zero =>
    intro i hi l B last hl1 hl2 hB hBl hla
    by_cases c : last.toList = ([] : List UInt8)
    · obtain ⟨z, hz, K, hK⟩ := l6Code_ev (P2 bits.toNat + 1) l hl1 (by omega) hb wide
      try dsimp only at hK
      refine ⟨B ++ [⟨P2 bits.toNat + 1, z⟩], ⟨okB_add hB hz, by rw [List.length_append, List.length_singleton]; omega⟩, K + 1, fun k hk => ?_⟩
      try dsimp only
      obtain ⟨m, rfl⟩ : ∃ m, k = m + 1 := ⟨k - 1, by omega⟩
      have e1 := hK m (by omega)
      try dsimp only at e1 ⊢
      rw [spec_l6Put.l0, if_neg (by omega), if_pos c, w64 (by omega), e1, Option.bind_some, if_pos (by omega)]
    · obtain ⟨v, K0, hK0⟩ := l6Num_ev l (by omega) last
      try dsimp only at hK0
      obtain ⟨z, hz, K, hK⟩ := l6Code_ev v l hl1 (by omega) hb wide
      try dsimp only at hK
      obtain ⟨z2, hz2, K2, hK2⟩ := l6Code_ev (P2 bits.toNat + 1) (l ++ [(⟨#[]⟩ : ByteArray)]) (by rw [List.length_append, List.length_singleton]; omega) (by rw [List.length_append, List.length_singleton]; omega) hb wide
      try dsimp only at hK2
      refine ⟨B ++ [⟨v, z⟩] ++ [⟨P2 bits.toNat + 1, z2⟩], ⟨okB_add (okB_add hB hz) hz2, by simp only [List.length_append, List.length_singleton]; omega⟩, K0 + K + K2 + 1, fun k hk => ?_⟩
      try dsimp only
      obtain ⟨m, rfl⟩ : ∃ m, k = m + 1 := ⟨k - 1, by omega⟩
      have e0 := hK0 m (by omega)
      have e1 := hK m (by omega)
      have e2 := hK2 m (by omega)
      try dsimp only at e0 e1 e2 ⊢
      rw [spec_l6Put.l0, if_neg (by omega), if_neg c, e0, Option.bind_some, e1, Option.bind_some, if_pos (by omega), Option.bind_some, if_pos (by omega), w64 (by omega), e2, Option.bind_some, if_pos (by rw [List.length_append, List.length_singleton]; omega)]
  | succ d ih =>
    intro i hi l B last hl1 hl2 hB hBl hla
    obtain ⟨c, hc⟩ : ∃ c, s.extract i (i + 1) = c := ⟨_, rfl⟩
    have hcs : c.size = 1 := by rw [← hc, ByteArray.size_extract]; omega
    have ei : (i : Int).toNat = i := Int.toNat_natCast i
    have ei1 : ((i : Int) + 1).toNat = i + 1 := by omega
    obtain ⟨v, K0, hK0⟩ := l6Num_ev l (by omega) (last ++ c)
    try dsimp only at hK0
    have ecast : ((i + 1 : Nat) : Int) = (i : Int) + 1 := by omega
    by_cases c1 : v ≥ 0
    · obtain ⟨B', hB', K, hK⟩ := ih (i + 1) (by omega) l B (last ++ c) hl1 hl2 hB (by omega) (by rw [ByteArray.size_append]; omega)
      refine ⟨B', hB', K0 + K + 1, fun k hk => ?_⟩
      try dsimp only
      obtain ⟨m, rfl⟩ : ∃ m, k = m + 1 := ⟨k - 1, by omega⟩
      have e0 := hK0 m (by omega)
      have e1 := hK m (by omega)
      rw [ecast] at e1
      try dsimp only at e0 e1 ⊢
      rw [spec_l6Put.l0, if_pos (by omega), if_pos (by omega), w64 (x := (i : Int) + 1) (by omega), if_pos (by omega), if_pos (by omega), ei, ei1, hc, if_pos (by omega), e0, Option.bind_some, if_pos c1]
      exact e1
    · obtain ⟨u, K1, hK1⟩ := l6Num_ev l (by omega) last
      try dsimp only at hK1
      obtain ⟨z, hz, K2, hK2⟩ := l6Code_ev u l hl1 (by omega) hb wide
      try dsimp only at hK2
      have hll : (l ++ [last ++ c]).length = l.length + 1 := by rw [List.length_append, List.length_singleton]
      have hBB : (B ++ [(⟨u, z⟩ : S72)]).length = B.length + 1 := by rw [List.length_append, List.length_singleton]
      obtain ⟨full, hfull, hF⟩ : ∃ full : Int, (full ≤ 4095) ∧ spec_l6Full.f wide = some full := by
        cases wide
        · exact ⟨4095, by omega, by unfold spec_l6Full.f; rw [if_neg (by decide)]⟩
        · exact ⟨4094, by omega, by unfold spec_l6Full.f; rw [if_pos rfl]⟩
      by_cases c2 : ((l ++ [last ++ c]).length : Int) ≥ full
      · obtain ⟨z2, hz2, K3, hK3⟩ := l6Code_ev (P2 bits.toNat) (l ++ [last ++ c]) (by omega) (by omega) hb wide
        try dsimp only at hK3
        obtain ⟨K4, hK4⟩ := l6Start_ev bits hb
        try dsimp only at hK4
        have hsl := lzStart_length bits
        obtain ⟨B', hB', K, hK⟩ := ih (i + 1) (by omega) (lzStart bits) (B ++ [⟨u, z⟩] ++ [⟨P2 bits.toNat, z2⟩]) c (by omega) (by omega) (okB_add (okB_add hB hz) hz2) (by rw [List.length_append, hBB, List.length_singleton]; omega) (by omega)
        refine ⟨B', hB', K0 + K1 + K2 + K3 + K4 + K + 1, fun k hk => ?_⟩
        try dsimp only
        obtain ⟨m, rfl⟩ : ∃ m, k = m + 1 := ⟨k - 1, by omega⟩
        have e0 := hK0 m (by omega)
        have e1 := hK1 m (by omega)
        have e2 := hK2 m (by omega)
        have e3 := hK3 m (by omega)
        have e4 := hK4 m (by omega)
        have e5 := hK m (by omega)
        rw [ecast] at e5
        try dsimp only at e0 e1 e2 e3 e4 e5 ⊢
        rw [spec_l6Put.l0, if_pos (by omega), if_pos (by omega), w64 (x := (i : Int) + 1) (by omega), if_pos (by omega), if_pos (by omega), ei, ei1, hc, if_pos (by omega), e0, Option.bind_some, if_neg c1, e1, Option.bind_some, e2, Option.bind_some, if_pos (by omega), Option.bind_some, if_pos (by omega), Option.bind_some, hF, Option.bind_some, if_pos c2, e3, Option.bind_some, if_pos (by rw [List.length_append, List.length_singleton]; omega), e4, Option.bind_some]
        exact e5
      · obtain ⟨B', hB', K, hK⟩ := ih (i + 1) (by omega) (l ++ [last ++ c]) (B ++ [⟨u, z⟩]) c (by omega) (by omega) (okB_add hB hz) (by omega) (by omega)
        refine ⟨B', hB', K0 + K1 + K2 + K + 1, fun k hk => ?_⟩
        try dsimp only
        obtain ⟨m, rfl⟩ : ∃ m, k = m + 1 := ⟨k - 1, by omega⟩
        have e0 := hK0 m (by omega)
        have e1 := hK1 m (by omega)
        have e2 := hK2 m (by omega)
        have e5 := hK m (by omega)
        rw [ecast] at e5
        try dsimp only at e0 e1 e2 e5 ⊢
        rw [spec_l6Put.l0, if_pos (by omega), if_pos (by omega), w64 (x := (i : Int) + 1) (by omega), if_pos (by omega), if_pos (by omega), ei, ei1, hc, if_pos (by omega), e0, Option.bind_some, if_neg c1, e1, Option.bind_some, e2, Option.bind_some, if_pos (by omega), Option.bind_some, if_pos (by omega), Option.bind_some, hF, Option.bind_some, if_neg c2]
        exact e5
theorem l6Put_ev (s : ByteArray) (hs : s.size ≤ 5000) {bits : Int} (hb : 2 ≤ bits ∧ bits ≤ 8) (wide : Bool) : ∃ B : List S72, (okB B ∧ B.length ≤ 10003) ∧ Ev (fun k => spec_l6Put.f k s bits wide) B := by
  obtain ⟨K1, hK1⟩ := l1Pow_evI bits (by omega) (by omega)
  try dsimp only at hK1
  obtain ⟨K2, hK2⟩ := l6Start_ev bits hb
  try dsimp only at hK2
  have hsl := lzStart_length bits
  have hP := P2_bits hb
  obtain ⟨B, hB, K, hK⟩ := l6Put_l0_ev s hs hb wide s.size 0 (by omega) (lzStart bits) [⟨P2 bits.toNat, bits + 1⟩] ⟨#[]⟩ (by omega) (by omega) (fun t ht => by rw [List.mem_singleton] at ht; subst ht; exact ⟨by show 0 ≤ bits + 1; omega, by show bits + 1 ≤ 12; omega⟩) (by simp) (Nat.le_refl 0)
  try dsimp only at hK
  refine ⟨B, ⟨hB.1, by omega⟩, K1 + K2 + K, fun k hk => ?_⟩
  try dsimp only
  have e1 := hK1 k (by omega)
  have e2 := hK2 k (by omega)
  have e3 := hK k (by omega)
  try dsimp only at e1 e2 e3 ⊢
  unfold spec_l6Put.f
  rw [e1, Option.bind_some, e2, Option.bind_some, w64 (by omega)]
  exact e3
theorem l1PutF_l1_ev (B : List S72) (i : Nat) (hi : i < B.length) (hBl : B.length ≤ 100000) (z : Nat) (hz : (rd_T72 B (i : Int)).f1 = (z : Int)) (hz2 : z ≤ 24) : ∀ (d j p : Nat) (X : List Int), j + d = z → X.length = (p + 7) / 8 → p ≤ 1000000 - d →
    ∃ X' : List Int, X'.length = (p + d + 7) / 8 ∧ ∀ r, Ev (fun k => spec_l1Put.l0 k B false X' ((p + d : Nat) : Int) ((i : Int) + 1)) r → Ev (fun k => spec_l1Put.l1 k B false X (p : Int) (i : Int) (j : Int)) r := by
  intro d
  induction d with
  | zero =>
    intro j p X hj hX hp
    refine ⟨X, by rw [hX, Nat.add_zero], fun r hE => ?_⟩
    obtain ⟨K, hK⟩ := hE
    try dsimp only at hK
    refine ⟨K + 1, fun k hk => ?_⟩
    try dsimp only
    obtain ⟨m, rfl⟩ : ∃ m, k = m + 1 := ⟨k - 1, by omega⟩
    have hm := hK m (by omega)
    try dsimp only at hm ⊢
    rw [spec_l1Put.l1, if_pos (by omega), if_pos (by omega), hz, if_neg (by omega), w64 (by omega)]
    exact hm
  | succ d ih =>
    intro j p X hj hX hp
    obtain ⟨K1, hK1⟩ := l1Pow_evI (j : Int) (by omega) (by omega)
    try dsimp only at hK1
    obtain ⟨K2, hK2⟩ := l1Pow_evI ((p : Int) % 8) (by omega) (by omega)
    try dsimp only at hK2
    try dsimp only at hK1 hK2
    have hpw := P2_pos ((j : Int)).toNat
    have e8 : wrap64 (Int.tdiv (p : Int) 8) = (p : Int) / 8 := by rw [tdiv_pos (by omega), w64 (by omega)]
    have em : Int.tmod (p : Int) 8 = (p : Int) % 8 := tmod_pos (by omega)
    by_cases c : (p : Int) % 8 = 0
    · obtain ⟨X', hX', hE'⟩ := ih (j + 1) (p + 1) ((X ++ [0]).set ((p : Int) / 8).toNat (((rd (X ++ [0]) ((p : Int) / 8)) + ((wrap64 ((Int.tmod (wrap64 (Int.tdiv ((rd_T72 B (i : Int)).f0) (P2 ((j : Int)).toNat))) 2) * P2 (((p : Int) % 8)).toNat)) % 256)) % 256)) (by omega) (by rw [List.length_set, List.length_append, List.length_singleton]; omega) (by omega)
      refine ⟨X', by rw [hX']; congr 1; omega, fun r hE => ?_⟩
      obtain ⟨K, hK⟩ := hE' r (by rw [show p + 1 + d = p + (d + 1) by omega]; exact hE)
      try dsimp only at hK
      try dsimp only at hK
      refine ⟨K + K1 + K2 + 2, fun k hk => ?_⟩
      try dsimp only
      obtain ⟨m, rfl⟩ : ∃ m, k = m + 1 + 1 := ⟨k - 2, by omega⟩
      try dsimp only
      rw [spec_l1Put.l1, if_pos (by omega), if_pos (by omega), hz, if_pos (by omega), if_neg (by decide), spec_l1Put.j2, if_pos (by omega), if_pos (by omega), hK1 m (by omega), Option.bind_some, if_neg (by omega), em, if_pos c, if_pos (by omega), Option.bind_some, if_neg (by decide), e8, if_pos (by omega), if_pos (by rw [List.length_append, List.length_singleton]; omega), hK2 m (by omega), Option.bind_some, w64 (x := (p : Int) + 1) (by omega), w64 (x := (j : Int) + 1) (by omega)]
      exact hK m (by omega)
    · obtain ⟨X', hX', hE'⟩ := ih (j + 1) (p + 1) (X.set ((p : Int) / 8).toNat (((rd X ((p : Int) / 8)) + ((wrap64 ((Int.tmod (wrap64 (Int.tdiv ((rd_T72 B (i : Int)).f0) (P2 ((j : Int)).toNat))) 2) * P2 (((p : Int) % 8)).toNat)) % 256)) % 256)) (by omega) (by rw [List.length_set]; omega) (by omega)
      refine ⟨X', by rw [hX']; congr 1; omega, fun r hE => ?_⟩
      obtain ⟨K, hK⟩ := hE' r (by rw [show p + 1 + d = p + (d + 1) by omega]; exact hE)
      try dsimp only at hK
      try dsimp only at hK
      refine ⟨K + K1 + K2 + 2, fun k hk => ?_⟩
      try dsimp only
      obtain ⟨m, rfl⟩ : ∃ m, k = m + 1 + 1 := ⟨k - 2, by omega⟩
      try dsimp only
      rw [spec_l1Put.l1, if_pos (by omega), if_pos (by omega), hz, if_pos (by omega), if_neg (by decide), spec_l1Put.j2, if_pos (by omega), if_pos (by omega), hK1 m (by omega), Option.bind_some, if_neg (by omega), em, if_neg c, if_neg (by decide), e8, if_pos (by omega), if_pos (by omega), hK2 m (by omega), Option.bind_some, w64 (x := (p : Int) + 1) (by omega), w64 (x := (j : Int) + 1) (by omega)]
      exact hK m (by omega)
theorem l1PutT_l1_ev (B : List S72) (i : Nat) (hi : i < B.length) (hBl : B.length ≤ 100000) (z : Nat) (hz : (rd_T72 B (i : Int)).f1 = (z : Int)) (hz2 : z ≤ 24) : ∀ (d j p : Nat) (X : List Int), j + d = z → X.length = (p + 7) / 8 → p ≤ 1000000 - d →
    ∃ X' : List Int, X'.length = (p + d + 7) / 8 ∧ ∀ r, Ev (fun k => spec_l1Put.l0 k B true X' ((p + d : Nat) : Int) ((i : Int) + 1)) r → Ev (fun k => spec_l1Put.l1 k B true X (p : Int) (i : Int) (j : Int)) r := by
  intro d
  induction d with
  | zero =>
    intro j p X hj hX hp
    refine ⟨X, by rw [hX, Nat.add_zero], fun r hE => ?_⟩
    obtain ⟨K, hK⟩ := hE
    try dsimp only at hK
    refine ⟨K + 1, fun k hk => ?_⟩
    try dsimp only
    obtain ⟨m, rfl⟩ : ∃ m, k = m + 1 := ⟨k - 1, by omega⟩
    have hm := hK m (by omega)
    try dsimp only at hm ⊢
    rw [spec_l1Put.l1, if_pos (by omega), if_pos (by omega), hz, if_neg (by omega), w64 (by omega)]
    exact hm
  | succ d ih =>
    intro j p X hj hX hp
    obtain ⟨K1, hK1⟩ := l1Pow_evI ((z : Int) - 1 - j) (by omega) (by omega)
    try dsimp only at hK1
    obtain ⟨K2, hK2⟩ := l1Pow_evI (7 - (p : Int) % 8) (by omega) (by omega)
    try dsimp only at hK2
    try dsimp only at hK1 hK2
    have hpw := P2_pos (((z : Int) - 1 - j)).toNat
    have e8 : wrap64 (Int.tdiv (p : Int) 8) = (p : Int) / 8 := by rw [tdiv_pos (by omega), w64 (by omega)]
    have em : Int.tmod (p : Int) 8 = (p : Int) % 8 := tmod_pos (by omega)
    by_cases c : (p : Int) % 8 = 0
    · obtain ⟨X', hX', hE'⟩ := ih (j + 1) (p + 1) ((X ++ [0]).set ((p : Int) / 8).toNat (((rd (X ++ [0]) ((p : Int) / 8)) + ((wrap64 ((Int.tmod (wrap64 (Int.tdiv ((rd_T72 B (i : Int)).f0) (P2 (((z : Int) - 1 - j)).toNat))) 2) * P2 ((7 - (p : Int) % 8)).toNat)) % 256)) % 256)) (by omega) (by rw [List.length_set, List.length_append, List.length_singleton]; omega) (by omega)
      refine ⟨X', by rw [hX']; congr 1; omega, fun r hE => ?_⟩
      obtain ⟨K, hK⟩ := hE' r (by rw [show p + 1 + d = p + (d + 1) by omega]; exact hE)
      try dsimp only at hK
      try dsimp only at hK
      refine ⟨K + K1 + K2 + 2, fun k hk => ?_⟩
      try dsimp only
      obtain ⟨m, rfl⟩ : ∃ m, k = m + 1 + 1 := ⟨k - 2, by omega⟩
      try dsimp only
      rw [spec_l1Put.l1, if_pos (by omega), if_pos (by omega), hz, if_pos (by omega), if_pos rfl, w64 (x := (z : Int) - 1) (by omega), w64 (x := (z : Int) - 1 - j) (by omega), spec_l1Put.j2, if_pos (by omega), if_pos (by omega), hK1 m (by omega), Option.bind_some, if_neg (by omega), em, if_pos c, if_pos (by omega), Option.bind_some, if_pos rfl, e8, if_pos (by omega), if_pos (by rw [List.length_append, List.length_singleton]; omega), w64 (x := 7 - (p : Int) % 8) (by omega), hK2 m (by omega), Option.bind_some, w64 (x := (p : Int) + 1) (by omega), w64 (x := (j : Int) + 1) (by omega)]
      exact hK m (by omega)
    · obtain ⟨X', hX', hE'⟩ := ih (j + 1) (p + 1) (X.set ((p : Int) / 8).toNat (((rd X ((p : Int) / 8)) + ((wrap64 ((Int.tmod (wrap64 (Int.tdiv ((rd_T72 B (i : Int)).f0) (P2 (((z : Int) - 1 - j)).toNat))) 2) * P2 ((7 - (p : Int) % 8)).toNat)) % 256)) % 256)) (by omega) (by rw [List.length_set]; omega) (by omega)
      refine ⟨X', by rw [hX']; congr 1; omega, fun r hE => ?_⟩
      obtain ⟨K, hK⟩ := hE' r (by rw [show p + 1 + d = p + (d + 1) by omega]; exact hE)
      try dsimp only at hK
      try dsimp only at hK
      refine ⟨K + K1 + K2 + 2, fun k hk => ?_⟩
      try dsimp only
      obtain ⟨m, rfl⟩ : ∃ m, k = m + 1 + 1 := ⟨k - 2, by omega⟩
      try dsimp only
      rw [spec_l1Put.l1, if_pos (by omega), if_pos (by omega), hz, if_pos (by omega), if_pos rfl, w64 (x := (z : Int) - 1) (by omega), w64 (x := (z : Int) - 1 - j) (by omega), spec_l1Put.j2, if_pos (by omega), if_pos (by omega), hK1 m (by omega), Option.bind_some, if_neg (by omega), em, if_neg c, if_pos rfl, e8, if_pos (by omega), if_pos (by omega), w64 (x := 7 - (p : Int) % 8) (by omega), hK2 m (by omega), Option.bind_some, w64 (x := (p : Int) + 1) (by omega), w64 (x := (j : Int) + 1) (by omega)]
      exact hK m (by omega)
theorem l1PutA_l0_ev (high : Bool) (B : List S72) (hl : B.length ≤ 20000) (hok : okB B) : ∀ (d i p : Nat) (X : List Int), i + d = B.length → X.length = (p + 7) / 8 → p ≤ 300000 - 12 * d →
    ∃ s : ByteArray, s.size ≤ 40000 ∧ Ev (fun k => spec_l1Put.l0 k B high X (p : Int) (i : Int)) s := by
  intro d
  induction d with
  | zero =>
    intro i p X hi hX hp
    refine ⟨strOfNums X, by rw [strOfNums_size, hX]; omega, 1, fun k hk => ?_⟩
    try dsimp only
    obtain ⟨m, rfl⟩ : ∃ m, k = m + 1 := ⟨k - 1, by omega⟩
    try dsimp only
    rw [spec_l1Put.l0, if_neg (by omega)]
  | succ d ih =>
    intro i p X hi hX hp
    have hir : rd_T72 B (i : Int) ∈ B := by
      unfold rd_T72
      rw [Int.toNat_natCast, List.getD_eq_getElem?_getD, List.getElem?_eq_getElem (show i < B.length by omega)]
      exact List.getElem_mem _
    have ht := hok _ hir
    generalize hz : (rd_T72 B (i : Int)).f1 = z at ht
    have hz' : (rd_T72 B (i : Int)).f1 = (z.toNat : Int) := by rw [hz]; omega
    obtain ⟨X', hX', hE'⟩ : ∃ X' : List Int, X'.length = (p + z.toNat + 7) / 8 ∧ ∀ r, Ev (fun k => spec_l1Put.l0 k B high X' ((p + z.toNat : Nat) : Int) ((i : Int) + 1)) r → Ev (fun k => spec_l1Put.l1 k B high X (p : Int) (i : Int) ((0 : Nat) : Int)) r := by
      cases high
      · exact l1PutF_l1_ev B i (by omega) (by omega) z.toNat hz' (by omega) z.toNat 0 p X (by omega) hX (by omega)
      · exact l1PutT_l1_ev B i (by omega) (by omega) z.toNat hz' (by omega) z.toNat 0 p X (by omega) hX (by omega)
    obtain ⟨s, hs, hE⟩ := ih (i + 1) (p + z.toNat) X' (by omega) hX' (by omega)
    rw [show ((i + 1 : Nat) : Int) = (i : Int) + 1 by omega] at hE
    obtain ⟨K, hK⟩ := hE' s hE
    try dsimp only at hK
    try dsimp only at hK
    refine ⟨s, hs, K + 1, fun k hk => ?_⟩
    try dsimp only
    obtain ⟨m, rfl⟩ : ∃ m, k = m + 1 := ⟨k - 1, by omega⟩
    try dsimp only
    rw [spec_l1Put.l0, if_pos (by omega)]
    exact hK m (by omega)
theorem l6Fits_l0_ev (s : ByteArray) (hs : s.size ≤ 100000) {bits : Int} (hb : 2 ≤ bits ∧ bits ≤ 8) : ∀ d i : Nat, i + d = s.size → ∃ t : Bool, Ev (fun k => spec_l6Fits.l0 k s bits (i : Int)) t := by
  obtain ⟨K1, hK1⟩ := l1Pow_evI bits (by omega) (by omega)
  try dsimp only at hK1
  try dsimp only at hK1
  intro d
  induction d with
  | zero =>
    intro i hi
    refine ⟨true, 1, fun k hk => ?_⟩
    try dsimp only
    obtain ⟨m, rfl⟩ : ∃ m, k = m + 1 := ⟨k - 1, by omega⟩
    try dsimp only
    rw [spec_l6Fits.l0, if_neg (by omega)]
  | succ d ih =>
    intro i hi
    by_cases c : wrap64 (bt s (i : Int)) ≥ P2 bits.toNat
    · refine ⟨false, K1 + 1, fun k hk => ?_⟩
      try dsimp only
      obtain ⟨m, rfl⟩ : ∃ m, k = m + 1 := ⟨k - 1, by omega⟩
      try dsimp only
      rw [spec_l6Fits.l0, if_pos (by omega), if_pos (by omega), hK1 m (by omega), Option.bind_some, if_pos c]
    · obtain ⟨t, K, hK⟩ := ih (i + 1) (by omega)
      try dsimp only at hK
      refine ⟨t, K1 + K + 1, fun k hk => ?_⟩
      try dsimp only
      obtain ⟨m, rfl⟩ : ∃ m, k = m + 1 := ⟨k - 1, by omega⟩
      have hm := hK m (by omega)
      rw [show ((i + 1 : Nat) : Int) = (i : Int) + 1 by omega] at hm
      try dsimp only at hm ⊢
      rw [spec_l6Fits.l0, if_pos (by omega), if_pos (by omega), hK1 m (by omega), Option.bind_some, if_neg c, w64 (by omega)]
      exact hm
/-- What is packed: it ends, and it is not too long. -/
theorem spec_LzwPut_ev (s : ByteArray) (hs : s.size ≤ 100000) (bits : Int) (wide : Bool) : ∃ p : ByteArray, p.size ≤ 40000 ∧ Ev (fun k => spec_LzwPut.f k s bits wide) p := by
  by_cases c : lzOk bits wide = true
  · have hb := lzOk_b c
    have hok : spec_l6Ok.f bits wide = some true := by rw [l6Ok_f, c]
    by_cases c2 : (s.size : Int) > 5000
    · refine ⟨⟨#[]⟩, Nat.zero_le _, 1, fun k hk => ?_⟩
      try dsimp only
      obtain ⟨m, rfl⟩ : ∃ m, k = m + 1 := ⟨k - 1, by omega⟩
      try dsimp only
      unfold spec_LzwPut.f
      rw [hok, Option.bind_some, if_pos rfl, if_pos c2, spec_LzwPut.j0, if_pos rfl]
    · obtain ⟨t, K1, hK1⟩ := l6Fits_l0_ev s hs hb s.size 0 (by omega)
      try dsimp only at hK1
      cases t
      · refine ⟨⟨#[]⟩, Nat.zero_le _, K1 + 1, fun k hk => ?_⟩
        try dsimp only
        obtain ⟨m, rfl⟩ : ∃ m, k = m + 1 := ⟨k - 1, by omega⟩
        have e1 : spec_l6Fits.f (m + 1) s bits = some false := hK1 (m + 1) (by omega)
        try dsimp only
        unfold spec_LzwPut.f
        rw [hok, Option.bind_some, if_pos rfl, if_neg c2, e1, Option.bind_some, spec_LzwPut.j0, if_pos (by decide)]
      · obtain ⟨B, hB, K2, hK2⟩ := l6Put_ev s (by omega) hb wide
        try dsimp only at hK2
        obtain ⟨p, hp, K3, hK3⟩ := l1PutA_l0_ev wide B (by omega) hB.1 B.length 0 0 [] (by omega) rfl (by omega)
        try dsimp only at hK3
        refine ⟨p, hp, K1 + K2 + K3 + 1, fun k hk => ?_⟩
        try dsimp only
        obtain ⟨m, rfl⟩ : ∃ m, k = m + 1 := ⟨k - 1, by omega⟩
        have e1 : spec_l6Fits.f (m + 1) s bits = some true := hK1 (m + 1) (by omega)
        have e2 := hK2 m (by omega)
        have e3 : spec_l1Put.f m B wide = some p := hK3 m (by omega)
        try dsimp only at e2 ⊢
        unfold spec_LzwPut.f
        rw [hok, Option.bind_some, if_pos rfl, if_neg c2, e1, Option.bind_some, spec_LzwPut.j0, if_neg (by decide), e2, Option.bind_some, e3, Option.bind_some]
  · have hok : spec_l6Ok.f bits wide = some false := by rw [l6Ok_f]; simpa using c
    refine ⟨⟨#[]⟩, Nat.zero_le _, 1, fun k hk => ?_⟩
    try dsimp only
    obtain ⟨m, rfl⟩ : ∃ m, k = m + 1 := ⟨k - 1, by omega⟩
    try dsimp only
    unfold spec_LzwPut.f
    rw [hok, Option.bind_some, if_neg (by decide), spec_LzwPut.j0, if_pos rfl]
/-- A drawing's bytes. -/
def Code (b : List Int) : Prop := b.length ≤ 2000 ∧ ∀ x ∈ b, 0 ≤ x ∧ x ≤ 255
theorem l1Open_f (l : List Int) : spec_l1Open.f l = some (l.take 2000, 0) := by
  unfold spec_l1Open.f
  by_cases h : (l.length : Int) > 2000
  · rw [if_pos h, if_pos (by omega)]
  · rw [if_neg h, List.take_of_length_le (by omega)]
theorem code_open {l : List Int} (h : ∀ x ∈ l, (Lit.int .u8 x).wf = true) : Code (l.take 2000) := by
  refine ⟨by rw [List.length_take]; omega, fun x hx => ?_⟩
  have := h x (List.mem_of_mem_take hx)
  simp [Lit.wf, IntKind.min, IntKind.max, IntKind.bits, IntKind.signed] at this
  omega
theorem code_rd {b : List Int} (h : Code b) (i : Int) : 0 ≤ rd b i ∧ rd b i ≤ 255 := by
  rcases rd_mem_or b i with h1 | h1
  · exact h.2 _ h1
  · omega
/-- What is picked is there, and the place is one further. -/
theorem pick_ev {b : List Int} (hb : Code b) {p n : Int} (hp : 0 ≤ p ∧ p ≤ 1099511627776) (hn : n ≤ 1099511627776) : ∃ v : Int, (0 ≤ v ∧ (v < n ∨ n < 1 ∧ v = 0)) ∧ Ev (fun k => spec_l1Rd_pick.f k b p n) (v, p + 1) := by
  unfold spec_l1Rd_pick.f
  rw [w64 (x := p + 1) (by omega)]
  by_cases h1 : n < 1
  · refine ⟨0, ⟨by omega, .inr ⟨h1, rfl⟩⟩, 1, fun k hk => ?_⟩
    try dsimp only
    obtain ⟨m, rfl⟩ : ∃ m, k = m + 1 := ⟨k - 1, by omega⟩
    try dsimp only
    rw [if_pos h1, spec_l1Rd_pick.j0, if_pos rfl]
  by_cases h2 : b.length = 0
  · refine ⟨0, ⟨by omega, .inl (by omega)⟩, 1, fun k hk => ?_⟩
    try dsimp only
    obtain ⟨m, rfl⟩ : ∃ m, k = m + 1 := ⟨k - 1, by omega⟩
    try dsimp only
    rw [if_neg h1, spec_l1Rd_pick.j0, if_pos (by simp [h2])]
  have e0 : wrap64 (p + 1 - 1) = p := by rw [w64 (by omega)]; omega
  by_cases h3 : p < b.length
  · have hr := code_rd hb p
    refine ⟨rd b p % n, ⟨Int.emod_nonneg _ (by omega), .inl (Int.emod_lt_of_pos _ (by omega))⟩, 1, fun k hk => ?_⟩
    try dsimp only
    obtain ⟨m, rfl⟩ : ∃ m, k = m + 1 := ⟨k - 1, by omega⟩
    try dsimp only
    rw [if_neg h1, spec_l1Rd_pick.j0, if_neg (by simpa using h2), e0, if_pos h3, if_pos hp.1, if_neg (by omega), w64 (by omega), tmod_pos hr.1]
  · have hl := hb.1
    have m1 : 0 ≤ p % (b.length : Int) ∧ p % (b.length : Int) < b.length := ⟨Int.emod_nonneg _ (by omega), Int.emod_lt_of_pos _ (by omega)⟩
    have m2 : 0 ≤ (p * 7 + 3) % (b.length : Int) ∧ (p * 7 + 3) % (b.length : Int) < b.length := ⟨Int.emod_nonneg _ (by omega), Int.emod_lt_of_pos _ (by omega)⟩
    have r1 := code_rd hb (p % (b.length : Int))
    have r2 := code_rd hb ((p * 7 + 3) % (b.length : Int))
    have q1 : 0 ≤ p / (b.length : Int) := Int.ediv_nonneg hp.1 (by omega)
    have q2 : p / (b.length : Int) ≤ p := Int.ediv_le_self _ hp.1
    obtain ⟨X, hX⟩ : ∃ X, X = rd b (p % (b.length : Int)) * 131 + rd b ((p * 7 + 3) % (b.length : Int)) * 1117 + p * 29 + p / (b.length : Int) * 53 := ⟨_, rfl⟩
    have bX : 0 ≤ X ∧ X ≤ 4611686018427387904 := by omega
    have hx := xor_b (x := X) (y := X / 64) (by omega) (by omega)
    refine ⟨Go.bits .xor .i64 X (X / 64) % n, ⟨Int.emod_nonneg _ (by omega), .inl (Int.emod_lt_of_pos _ (by omega))⟩, 1, fun k hk => ?_⟩
    try dsimp only
    obtain ⟨m, rfl⟩ : ∃ m, k = m + 1 := ⟨k - 1, by omega⟩
    try dsimp only
    rw [if_neg h1, spec_l1Rd_pick.j0, if_neg (by simpa using h2), e0, if_neg h3, if_neg (by omega)]
    rw [w64 (x := p * 7) (by omega), w64 (x := p * 7 + 3) (by omega), tmod_pos (a := p) hp.1, tmod_pos (a := p * 7 + 3) (by omega), tdiv_pos (a := p) hp.1]
    rw [if_pos m1.1, if_pos m1.2, if_pos m2.1, if_pos m2.2, if_neg (by omega)]
    rw [w64 (x := rd b (p % (b.length : Int))) (by omega), w64 (x := rd b ((p * 7 + 3) % (b.length : Int))) (by omega), w64 (x := p / (b.length : Int)) (by omega)]
    rw [w64 (x := rd b (p % (b.length : Int)) * 131) (by omega), w64 (x := rd b ((p * 7 + 3) % (b.length : Int)) * 1117) (by omega), w64 (x := p * 29) (by omega), w64 (x := p / (b.length : Int) * 53) (by omega)]
    rw [w64 (x := rd b (p % (b.length : Int)) * 131 + rd b ((p * 7 + 3) % (b.length : Int)) * 1117) (by omega), w64 (x := rd b (p % (b.length : Int)) * 131 + rd b ((p * 7 + 3) % (b.length : Int)) * 1117 + p * 29) (by omega), w64 (x := rd b (p % (b.length : Int)) * 131 + rd b ((p * 7 + 3) % (b.length : Int)) * 1117 + p * 29 + p / (b.length : Int) * 53) (by omega), ← hX]
    rw [tdiv_pos (by omega), w64 (x := X / 64) (by omega), tmod_pos hx.1]
theorem of_ev {b : List Int} (hb : Code b) {p : Int} (hp : 0 ≤ p ∧ p ≤ 1000000000) (l : List ByteArray) (hl : 1 ≤ l.length) (hl2 : l.length ≤ 1000) : ∃ s, s ∈ l ∧ Ev (fun k => spec_l1Rd_of.f k b p l) (s, p + 1) := by
  obtain ⟨v, hv, K, hK⟩ := pick_ev hb (p := p) (n := (l.length : Int)) (by omega) (by omega)
  try dsimp only at hK
  try dsimp only at hK
  have hvl : v.toNat < l.length := by omega
  have e : rdOf ByteArray.empty l v = l[v.toNat] := by
    unfold rdOf; rw [List.getD_eq_getElem?_getD, List.getElem?_eq_getElem hvl]; rfl
  refine ⟨l[v.toNat], List.getElem_mem _, K, fun k hk => ?_⟩
  try dsimp only
  try dsimp only
  unfold spec_l1Rd_of.f
  rw [hK k hk]
  simp only [Option.bind_some]
  rw [if_pos (by omega), if_pos (by omega), e]
def manyS (s : ByteArray) : Nat → ByteArray
  | 0 => ⟨#[]⟩
  | n + 1 => manyS s n ++ s
theorem manyS_size (s : ByteArray) (n : Nat) : (manyS s n).size = n * s.size := by
  induction n with
  | zero => rw [Nat.zero_mul]; rfl
  | succ n ih => simp only [manyS, ByteArray.size_append, ih, Nat.succ_mul]
theorem l1Many_l0_ev (s : ByteArray) (n : Nat) (hn : n ≤ 100000) (hs : s.size ≤ 100000) : ∀ d i : Nat, i + d = n → Ev (fun k => spec_l1Many.l0 k s (n : Int) (manyS s i) (i : Int)) (manyS s n) := by
  intro d
  induction d with
  | zero =>
    intro i hi
    refine ⟨1, fun k hk => ?_⟩
    try dsimp only
    obtain ⟨m, rfl⟩ : ∃ m, k = m + 1 := ⟨k - 1, by omega⟩
    rw [spec_l1Many.l0, if_neg (by omega), show i = n by omega]
  | succ d ih =>
    intro i hi
    obtain ⟨K, hK⟩ := ih (i + 1) (by omega)
    try dsimp only at hK
    refine ⟨K + 1, fun k hk => ?_⟩
    try dsimp only
    obtain ⟨m, rfl⟩ : ∃ m, k = m + 1 := ⟨k - 1, by omega⟩
    have hm := hK m (by omega)
    have hz := manyS_size s i
    have hz2 : i * s.size ≤ 100000 * 100000 := Nat.mul_le_mul (by omega) hs
    rw [spec_l1Many.l0, if_pos (by omega), if_pos (by omega), w64 (by omega)]
    simp only [manyS] at hm
    rw [show ((i + 1 : Nat) : Int) = (i : Int) + 1 by omega] at hm
    exact hm
theorem l1Many_ev (s : ByteArray) (n : Int) (h0 : 0 ≤ n) (hn : n ≤ 100000) (hs : s.size ≤ 100000) : Ev (fun k => spec_l1Many.f k s n) (manyS s n.toNat) := by
  have h := l1Many_l0_ev s n.toNat (by omega) hs n.toNat 0 (by omega)
  rw [Int.toNat_of_nonneg h0] at h
  exact h
/-- A drawn text: short, or as many t's as may be, or one more. -/
def Short (s : ByteArray) : Prop := s.size ≤ 300 ∨ ∃ n : Nat, (9000 ≤ n ∧ n ≤ 9001) ∧ s = manyS ⟨#[116]⟩ n
theorem short_size {s : ByteArray} (h : Short s) : s.size ≤ 9001 := by
  rcases h with h | ⟨n, hn, rfl⟩
  · omega
  · rw [manyS_size, show (⟨#[116]⟩ : ByteArray).size = 1 from rfl]; omega
theorem l14Text_l1_ev {b : List Int} (hb : Code b) (n : Int) (P : Int) (S A : Nat) (C : Int) (hP : P ≤ 1000000) (hS : S ≤ 300)
    (next : ∀ (s : ByteArray) (p : Int), 0 ≤ p → p ≤ P → s.size ≤ S → ∃ (s' : ByteArray) (p' : Int), (s'.size ≤ s.size + A ∧ p ≤ p' ∧ p' ≤ p + C) ∧ Ev (fun k => spec_l14Text.l0 k s (wrap64 (n - 1)) b p) (s', p')) :
    ∀ (d : Nat) (s : ByteArray) (p : Int), d ≤ 12 → 0 ≤ p → p + d ≤ P → s.size + d ≤ S → ∃ (s' : ByteArray) (p' : Int), (s'.size ≤ s.size + d + A ∧ p ≤ p' ∧ p' ≤ p + d + C) ∧ Ev (fun k => spec_l14Text.l1 k s n (d : Int) b p) (s', p') := by
  intro d
  induction d with
  | zero =>
    intro s p hd h0 hp hs
    obtain ⟨s', p', hh, K, hK⟩ := next s p h0 (by omega) (by omega)
    try dsimp only at hK
    refine ⟨s', p', by omega, K + 1, fun k hk => ?_⟩
    try dsimp only
    obtain ⟨m, rfl⟩ : ∃ m, k = m + 1 := ⟨k - 1, by omega⟩
    try dsimp only
    rw [spec_l14Text.l1, if_neg (by omega)]
    exact hK m (by omega)
  | succ d ih =>
    intro s p hd h0 hp hs
    obtain ⟨v, hv, K1, hK1⟩ := pick_ev hb (p := p) (n := 256) (by omega) (by omega)
    try dsimp only at hK1
    try dsimp only at hK1
    have hz : (s ++ strOfNums [v % 256]).size = s.size + 1 := by rw [ByteArray.size_append, strOfNums_size]; rfl
    have hz1 : (strOfNums [v % 256]).size = 1 := by rw [strOfNums_size]; rfl
    obtain ⟨s', p', hh, K, hK⟩ := ih (s ++ strOfNums [v % 256]) (p + 1) (by omega) (by omega) (by omega) (by omega)
    try dsimp only at hK
    refine ⟨s', p', by omega, K + K1 + 1, fun k hk => ?_⟩
    try dsimp only
    obtain ⟨m, rfl⟩ : ∃ m, k = m + 1 := ⟨k - 1, by omega⟩
    try dsimp only
    rw [spec_l14Text.l1, if_pos (by omega), hK1 m (by omega)]
    simp only [Option.bind_some]
    rw [if_pos (by omega), w64 (by omega), show ((d + 1 : Nat) : Int) - 1 = (d : Int) by omega]
    exact hK m (by omega)
theorem l14Text_l0_ev {b : List Int} (hb : Code b) : ∀ (n : Nat) (s : ByteArray) (p : Int), n ≤ 6 → 0 ≤ p → p ≤ 1000000 - 20 * n → s.size + 39 * n ≤ 300 → ∃ (s' : ByteArray) (p' : Int), (s'.size ≤ s.size + 39 * n ∧ p ≤ p' ∧ p' ≤ p + 20 * n) ∧ Ev (fun k => spec_l14Text.l0 k s (n : Int) b p) (s', p') := by
  intro n
  induction n with
  | zero =>
    intro s p hn h0 hp hs
    refine ⟨s, p, by omega, 1, fun k hk => ?_⟩
    try dsimp only
    obtain ⟨m, rfl⟩ : ∃ m, k = m + 1 := ⟨k - 1, by omega⟩
    try dsimp only
    rw [spec_l14Text.l0, if_neg (by omega)]
  | succ n ih =>
    intro s p hn h0 hp hs
    obtain ⟨v, hv, K1, hK1⟩ := pick_ev hb (p := p) (n := 5) (by omega) (by omega)
    try dsimp only at hK1
    try dsimp only at hK1
    have en : wrap64 (((n + 1 : Nat) : Int) - 1) = (n : Int) := by rw [w64 (by omega)]; omega
    by_cases v0 : v = 0
    · obtain ⟨t, ht, K2, hK2⟩ := of_ev hb (p := p + 1) (by omega) [(⟨#[97]⟩ : ByteArray), (⟨#[98]⟩ : ByteArray), (⟨#[0]⟩ : ByteArray), (⟨#[255]⟩ : ByteArray)] (by decide) (by decide)
      try dsimp only at hK2
      try dsimp only at hK2
      have hts : t.size = 1 := by simp at ht; rcases ht with rfl | rfl | rfl | rfl <;> rfl
      obtain ⟨u, hu, K3, hK3⟩ := pick_ev hb (p := p + 1 + 1) (n := 40) (by omega) (by omega)
      try dsimp only at hK3
      try dsimp only at hK3
      obtain ⟨K4, hK4⟩ := l1Many_ev t u (by omega) (by omega) (by omega)
      try dsimp only at hK4
      try dsimp only at hK4
      have hz := manyS_size t u.toNat
      rw [hts, Nat.mul_one] at hz
      obtain ⟨s', p', hh, K, hK⟩ := ih (s ++ manyS t u.toNat) (p + 1 + 1 + 1) (by omega) (by omega) (by omega) (by rw [ByteArray.size_append]; omega)
      try dsimp only at hK
      rw [ByteArray.size_append] at hh
      refine ⟨s', p', by omega, K + K1 + K2 + K3 + K4 + 1, fun k hk => ?_⟩
      try dsimp only
      obtain ⟨m, rfl⟩ : ∃ m, k = m + 1 := ⟨k - 1, by omega⟩
      try dsimp only
      rw [spec_l14Text.l0, if_pos (by omega), hK1 m (by omega)]
      simp only [Option.bind_some]
      rw [if_pos v0, hK2 m (by omega)]
      simp only [Option.bind_some]
      rw [hK3 m (by omega)]
      simp only [Option.bind_some]
      rw [hK4 m (by omega)]
      simp only [Option.bind_some]
      rw [if_pos (by omega), en]
      exact hK m (by omega)
    by_cases v1 : v = 1
    · obtain ⟨s', p', hh, K, hK⟩ := ih (s ++ (⟨#[97, 32, 116, 101, 120, 116, 32, 116, 104, 97, 116, 32, 99, 111, 109, 101, 115, 32, 97, 103, 97, 105, 110, 44, 32]⟩ : ByteArray)) (p + 1) (by omega) (by omega) (by omega) (by rw [ByteArray.size_append, show (⟨#[97, 32, 116, 101, 120, 116, 32, 116, 104, 97, 116, 32, 99, 111, 109, 101, 115, 32, 97, 103, 97, 105, 110, 44, 32]⟩ : ByteArray).size = 25 from rfl]; omega)
      try dsimp only at hK
      rw [ByteArray.size_append, show (⟨#[97, 32, 116, 101, 120, 116, 32, 116, 104, 97, 116, 32, 99, 111, 109, 101, 115, 32, 97, 103, 97, 105, 110, 44, 32]⟩ : ByteArray).size = 25 from rfl] at hh
      refine ⟨s', p', by omega, K + K1 + 1, fun k hk => ?_⟩
      try dsimp only
      obtain ⟨m, rfl⟩ : ∃ m, k = m + 1 := ⟨k - 1, by omega⟩
      try dsimp only
      rw [spec_l14Text.l0, if_pos (by omega), hK1 m (by omega)]
      simp only [Option.bind_some]
      rw [if_neg v0, if_pos v1, if_pos (by omega), en]
      exact hK m (by omega)
    by_cases v2 : v = 2
    · obtain ⟨u, hu, K3, hK3⟩ := pick_ev hb (p := p + 1) (n := 12) (by omega) (by omega)
      try dsimp only at hK3
      try dsimp only at hK3
      obtain ⟨s', p', hh, K, hK⟩ := l14Text_l1_ev hb ((n + 1 : Nat) : Int) (1000000 - 20 * n) (300 - 39 * n) (39 * n) (20 * n) (by omega) (by omega) (fun s p a1 a2 a3 => by rw [en]; exact ih s p (by omega) a1 a2 (by omega)) u.toNat s (p + 1 + 1) (by omega) (by omega) (by omega) (by omega)
      try dsimp only at hK
      rw [Int.toNat_of_nonneg (by omega)] at hK
      refine ⟨s', p', by omega, K + K1 + K3 + 1, fun k hk => ?_⟩
      try dsimp only
      obtain ⟨m, rfl⟩ : ∃ m, k = m + 1 := ⟨k - 1, by omega⟩
      try dsimp only
      rw [spec_l14Text.l0, if_pos (by omega), hK1 m (by omega)]
      simp only [Option.bind_some]
      rw [if_neg v0, if_neg v1, if_pos v2, hK3 m (by omega)]
      simp only [Option.bind_some]
      exact hK m (by omega)
    · obtain ⟨t, ht, K2, hK2⟩ := of_ev hb (p := p + 1) (by omega) [(⟨#[120]⟩ : ByteArray), (⟨#[97, 98, 99]⟩ : ByteArray), (⟨#[97, 98, 99, 97, 98, 99, 97, 98, 99, 100]⟩ : ByteArray), (⟨#[32]⟩ : ByteArray)] (by decide) (by decide)
      try dsimp only at hK2
      try dsimp only at hK2
      have hts : t.size ≤ 10 := by simp at ht; rcases ht with rfl | rfl | rfl | rfl <;> decide
      obtain ⟨s', p', hh, K, hK⟩ := ih (s ++ t) (p + 1 + 1) (by omega) (by omega) (by omega) (by rw [ByteArray.size_append]; omega)
      try dsimp only at hK
      rw [ByteArray.size_append] at hh
      refine ⟨s', p', by omega, K + K1 + K2 + 1, fun k hk => ?_⟩
      try dsimp only
      obtain ⟨m, rfl⟩ : ∃ m, k = m + 1 := ⟨k - 1, by omega⟩
      try dsimp only
      rw [spec_l14Text.l0, if_pos (by omega), hK1 m (by omega)]
      simp only [Option.bind_some]
      rw [if_neg v0, if_neg v1, if_neg v2, hK2 m (by omega)]
      simp only [Option.bind_some]
      rw [if_pos (by omega), en]
      exact hK m (by omega)
theorem l14Text_ev {b : List Int} (hb : Code b) {p : Int} (hp : 0 ≤ p ∧ p ≤ 900000) : ∃ (s : ByteArray) (p' : Int), (Short s ∧ p ≤ p' ∧ p' ≤ p + 200) ∧ Ev (fun k => spec_l14Text.f k b p) (s, p') := by
  obtain ⟨v, hv, K1, hK1⟩ := pick_ev hb (p := p) (n := 150) (by omega) (by omega)
  try dsimp only at hK1
  try dsimp only at hK1
  by_cases v0 : v = 0
  · obtain ⟨u, hu, K2, hK2⟩ := pick_ev hb (p := p + 1) (n := 2) (by omega) (by omega)
    try dsimp only at hK2
    try dsimp only at hK2
    obtain ⟨K3, hK3⟩ := l1Many_ev (⟨#[116]⟩ : ByteArray) (9000 + u) (by omega) (by omega) (by decide)
    try dsimp only at hK3
    try dsimp only at hK3
    refine ⟨manyS ⟨#[116]⟩ (9000 + u).toNat, p + 1 + 1, ⟨?_, by omega, by omega⟩, K1 + K2 + K3, fun k hk => ?_⟩
    try dsimp only
    · exact .inr ⟨_, by omega, rfl⟩
    · dsimp only
      unfold spec_l14Text.f
      rw [hK1 k (by omega)]
      simp only [Option.bind_some]
      rw [if_pos v0, hK2 k (by omega)]
      simp only [Option.bind_some]
      rw [w64 (by omega), hK3 k (by omega)]
      rfl
  · obtain ⟨u, hu, K2, hK2⟩ := pick_ev hb (p := p + 1) (n := 7) (by omega) (by omega)
    try dsimp only at hK2
    try dsimp only at hK2
    obtain ⟨s', p', hh, K, hK⟩ := l14Text_l0_ev hb u.toNat (⟨#[]⟩ : ByteArray) (p + 1 + 1) (by omega) (by omega) (by omega) (by rw [show (⟨#[]⟩ : ByteArray).size = 0 from rfl]; omega)
    try dsimp only at hK
    rw [show (⟨#[]⟩ : ByteArray).size = 0 from rfl] at hh
    rw [Int.toNat_of_nonneg (by omega)] at hK
    refine ⟨s', p', ⟨.inl (by omega), by omega, by omega⟩, K + K1 + K2, fun k hk => ?_⟩
    try dsimp only
    try dsimp only
    unfold spec_l14Text.f
    rw [hK1 k (by omega)]
    simp only [Option.bind_some]
    rw [if_neg v0, hK2 k (by omega)]
    simp only [Option.bind_some]
    exact hK k (by omega)
theorem l14Bend_ev {b : List Int} (hb : Code b) {p : Int} (hp : 0 ≤ p ∧ p ≤ 1000000000) (s : ByteArray) (hs : s.size ≤ 100000) : ∃ (s' : ByteArray) (p' : Int), (s'.size = s.size ∧ p ≤ p' ∧ p' ≤ p + 2) ∧ Ev (fun k => spec_l14Bend.f k b p s) (s', p') := by
  by_cases h : s.toList = ([] : List UInt8)
  · refine ⟨s, p, by omega, 0, fun k hk => ?_⟩
    try dsimp only
    try dsimp only
    unfold spec_l14Bend.f
    rw [if_pos h]
  · have hbl := bytesOf_length s
    have hne : s.size ≠ 0 := by
      intro e0
      apply h
      rw [byte_toList]
      exact List.eq_nil_of_length_eq_zero (by rw [data_length]; exact e0)
    obtain ⟨v, hv, K1, hK1⟩ := pick_ev hb (p := p) (n := ((bytesOf s).length : Int)) (by omega) (by omega)
    try dsimp only at hK1
    try dsimp only at hK1
    obtain ⟨u, hu, K2, hK2⟩ := pick_ev hb (p := p + 1) (n := 255) (by omega) (by omega)
    try dsimp only at hK2
    try dsimp only at hK2
    refine ⟨strOfNums ((bytesOf s).set v.toNat (Go.bits .xor .u8 (rd (bytesOf s) v) ((wrap64 (1 + u)) % 256))), p + 1 + 1, ⟨?_, by omega, by omega⟩, K1 + K2, fun k hk => ?_⟩
    try dsimp only
    rotate_left
    · dsimp only
      unfold spec_l14Bend.f
      rw [if_neg h, if_pos (by omega), Option.bind_some, hK1 k (by omega), Option.bind_some]
      try dsimp only
      rw [if_pos (by omega), if_pos (by omega), hK2 k (by omega), Option.bind_some]
    · rw [strOfNums_size, List.length_set, hbl]
theorem l14Low_l0_ev {b : List Int} {bits : Int} (hb : 2 ≤ bits ∧ bits ≤ 8) (s : ByteArray) (hs : s.size ≤ 100000) (p : Int) : ∀ (d i : Nat) (acc : ByteArray), i + d = s.size → acc.size = i → ∃ r : ByteArray, r.size = s.size ∧ Ev (fun k => spec_l14Low.l0 k bits s acc (i : Int) b p) (r, p) := by
  have hP := P2_bits hb
  obtain ⟨K1, hK1⟩ := l1Pow_evI bits (by omega) (by omega)
  try dsimp only at hK1
  try dsimp only at hK1
  intro d
  induction d with
  | zero =>
    intro i acc hi ha
    refine ⟨acc, by omega, 1, fun k hk => ?_⟩
    try dsimp only
    obtain ⟨m, rfl⟩ : ∃ m, k = m + 1 := ⟨k - 1, by omega⟩
    try dsimp only
    rw [spec_l14Low.l0, if_neg (by omega)]
  | succ d ih =>
    intro i acc hi ha
    obtain ⟨t, ht⟩ : ∃ t, strOfNums [(Int.tmod (wrap64 (bt s (i : Int))) (P2 bits.toNat)) % 256] = t := ⟨_, rfl⟩
    have hts : t.size = 1 := by rw [← ht, strOfNums_size]; rfl
    obtain ⟨r, hr, K, hK⟩ := ih (i + 1) (acc ++ t) (by omega) (by rw [ByteArray.size_append]; omega)
    try dsimp only at hK
    refine ⟨r, hr, K1 + K + 1, fun k hk => ?_⟩
    try dsimp only
    obtain ⟨m, rfl⟩ : ∃ m, k = m + 1 := ⟨k - 1, by omega⟩
    have hm := hK m (by omega)
    rw [show ((i + 1 : Nat) : Int) = (i : Int) + 1 by omega] at hm
    try dsimp only at hm ⊢
    rw [spec_l14Low.l0, if_pos (by omega), if_pos (by omega), hK1 m (by omega), Option.bind_some, if_neg (by omega), Option.bind_some, ht, if_pos (by omega), w64 (by omega)]
    exact hm
theorem l14Low_ev {b : List Int} (hc : Code b) {p : Int} (hp : 0 ≤ p ∧ p ≤ 900000) {bits : Int} (hb : 2 ≤ bits ∧ bits ≤ 8) : ∃ (s : ByteArray) (p' : Int), (s.size ≤ 9001 ∧ p ≤ p' ∧ p' ≤ p + 200) ∧ Ev (fun k => spec_l14Low.f k b p bits) (s, p') := by
  obtain ⟨s, p', hs, K1, hK1⟩ := l14Text_ev hc hp
  have hz := short_size hs.1
  obtain ⟨r, hr, K2, hK2⟩ := l14Low_l0_ev (b := b) hb s (by omega) p' s.size 0 ⟨#[]⟩ (by omega) rfl
  try dsimp only at hK2
  refine ⟨r, p', ⟨by omega, hs.2⟩, K1 + K2, fun k hk => ?_⟩
  try dsimp only
  have e1 := hK1 k (by omega)
  have e2 := hK2 k (by omega)
  try dsimp only at e1 e2 ⊢
  unfold spec_l14Low.f
  rw [e1, Option.bind_some]
  exact e2
theorem drawLzwPut_j3_ev {b : List Int} (hc : Code b) {p : Int} (hp : 0 ≤ p ∧ p ≤ 1000000) (bits : Int) (wide : Bool) (s : ByteArray) (hs : s.size ≤ 9001) : ∃ (s' : ByteArray) (bits' : Int), s'.size ≤ 10000 ∧ Ev (fun k => spec_DrawLzwPut.j3 k bits wide s b p) (s', bits', wide) := by
  obtain ⟨v, hv, K1, hK1⟩ := pick_ev hc (p := p) (n := 20) (by omega) (by omega)
  try dsimp only at hK1
  try dsimp only at hK1
  by_cases h0 : v = 0
  · obtain ⟨u, hu, K2, hK2⟩ := pick_ev hc (p := p + 1) (n := 2) (by omega) (by omega)
    try dsimp only at hK2
    try dsimp only at hK2
    refine ⟨s, rd [1, 9] u, by omega, K1 + K2 + 1, fun k hk => ?_⟩
    try dsimp only
    obtain ⟨m, rfl⟩ : ∃ m, k = m + 1 := ⟨k - 1, by omega⟩
    try dsimp only
    rw [spec_DrawLzwPut.j3, hK1 m (by omega), Option.bind_some]
    try dsimp only
    rw [if_pos h0, Option.bind_some, hK2 m (by omega), Option.bind_some]
    try dsimp only
    rw [if_pos (by omega), if_pos (by simp; omega)]
  · by_cases h1 : v = 1
    · refine ⟨s ++ (⟨#[255]⟩ : ByteArray), bits, by rw [ByteArray.size_append, show (⟨#[255]⟩ : ByteArray).size = 1 from rfl]; omega, K1 + 1, fun k hk => ?_⟩
      try dsimp only
      obtain ⟨m, rfl⟩ : ∃ m, k = m + 1 := ⟨k - 1, by omega⟩
      try dsimp only
      rw [spec_DrawLzwPut.j3, hK1 m (by omega), Option.bind_some]
      try dsimp only
      rw [if_neg h0, if_pos h1, if_pos (by omega)]
    · refine ⟨s, bits, by omega, K1 + 1, fun k hk => ?_⟩
      try dsimp only
      obtain ⟨m, rfl⟩ : ∃ m, k = m + 1 := ⟨k - 1, by omega⟩
      try dsimp only
      rw [spec_DrawLzwPut.j3, hK1 m (by omega), Option.bind_some]
      try dsimp only
      rw [if_neg h0, if_neg h1]
theorem drawLzwPut_l0_ev {b : List Int} (hc : Code b) {bits : Int} (hb : 2 ≤ bits ∧ bits ≤ 8) (wide : Bool) : ∀ (n : Nat) (X : List Int) (p : Int), n + X.length ≤ 6000 → 0 ≤ p → p + n ≤ 1000000 → ∃ (s' : ByteArray) (bits' : Int), s'.size ≤ 10000 ∧ Ev (fun k => spec_DrawLzwPut.l0 k bits wide X (n : Int) b p) (s', bits', wide) := by
  have hP := P2_bits hb
  obtain ⟨K1, hK1⟩ := l1Pow_evI bits (by omega) (by omega)
  try dsimp only at hK1
  try dsimp only at hK1
  intro n
  induction n with
  | zero =>
    intro X p hX h0 h1
    obtain ⟨s', bits', hs', K, hK⟩ := drawLzwPut_j3_ev hc (p := p) (by omega) bits wide (strOfNums X) (by rw [strOfNums_size]; omega)
    refine ⟨s', bits', hs', K + 1, fun k hk => ?_⟩
    try dsimp only
    obtain ⟨m, rfl⟩ : ∃ m, k = m + 1 := ⟨k - 1, by omega⟩
    have hm := hK m (by omega)
    try dsimp only at hm ⊢
    rw [spec_DrawLzwPut.l0, if_neg (by omega)]
    exact hm
  | succ n ih =>
    intro X p hX h0 h1
    obtain ⟨v, hv, K2, hK2⟩ := pick_ev hc (p := p) (n := P2 bits.toNat) (by omega) (by omega)
    try dsimp only at hK2
    try dsimp only at hK2
    obtain ⟨s', bits', hs', K, hK⟩ := ih (X ++ [v % 256]) (p + 1) (by rw [List.length_append, List.length_singleton]; omega) (by omega) (by omega)
    refine ⟨s', bits', hs', K1 + K2 + K + 1, fun k hk => ?_⟩
    try dsimp only
    obtain ⟨m, rfl⟩ : ∃ m, k = m + 1 := ⟨k - 1, by omega⟩
    have hm := hK m (by omega)
    try dsimp only at hm ⊢
    rw [spec_DrawLzwPut.l0, if_pos (by omega), hK1 m (by omega), Option.bind_some, hK2 m (by omega), Option.bind_some]
    try dsimp only
    rw [if_pos (by omega), w64 (by omega), show ((n + 1 : Nat) : Int) - 1 = (n : Int) by omega]
    exact hm
theorem drawLzwPut_j1_ev {b : List Int} (hc : Code b) {p : Int} (hp : 0 ≤ p ∧ p ≤ 900000) {bits : Int} (hb : 2 ≤ bits ∧ bits ≤ 8) (wide : Bool) : ∃ (s' : ByteArray) (bits' : Int), s'.size ≤ 10000 ∧ Ev (fun k => spec_DrawLzwPut.j1 k bits wide b p) (s', bits', wide) := by
  obtain ⟨s, p', hs, K1, hK1⟩ := l14Low_ev hc hp hb
  try dsimp only at hK1
  obtain ⟨v, hv, K2, hK2⟩ := pick_ev hc (p := p') (n := 60) (by omega) (by omega)
  try dsimp only at hK2
  try dsimp only at hK2
  by_cases h0 : v = 0
  · obtain ⟨u, hu, K3, hK3⟩ := pick_ev hc (p := p' + 1) (n := 800) (by omega) (by omega)
    try dsimp only at hK3
    try dsimp only at hK3
    obtain ⟨s', bits', hs', K, hK⟩ := drawLzwPut_l0_ev hc hb wide (4100 + u).toNat [] (p' + 1 + 1) (by simp; omega) (by omega) (by omega)
    rw [Int.toNat_of_nonneg (by omega)] at hK
    refine ⟨s', bits', hs', K1 + K2 + K3 + K + 1, fun k hk => ?_⟩
    try dsimp only
    obtain ⟨m, rfl⟩ : ∃ m, k = m + 1 := ⟨k - 1, by omega⟩
    have hm := hK m (by omega)
    try dsimp only at hm ⊢
    rw [spec_DrawLzwPut.j1, hK1 m (by omega), Option.bind_some]
    try dsimp only
    rw [hK2 m (by omega), Option.bind_some]
    try dsimp only
    rw [if_pos h0, hK3 m (by omega), Option.bind_some]
    try dsimp only
    rw [w64 (by omega)]
    exact hm
  · obtain ⟨s', bits', hs', K, hK⟩ := drawLzwPut_j3_ev hc (p := p' + 1) (by omega) bits wide s (by omega)
    refine ⟨s', bits', hs', K1 + K2 + K + 1, fun k hk => ?_⟩
    try dsimp only
    obtain ⟨m, rfl⟩ : ∃ m, k = m + 1 := ⟨k - 1, by omega⟩
    have hm := hK m (by omega)
    try dsimp only at hm ⊢
    rw [spec_DrawLzwPut.j1, hK1 m (by omega), Option.bind_some]
    try dsimp only
    rw [hK2 m (by omega), Option.bind_some]
    try dsimp only
    rw [if_neg h0]
    exact hm
theorem drawLzwPut_j0_ev {b : List Int} (hc : Code b) {p : Int} (hp : 0 ≤ p ∧ p ≤ 900000) {bits : Int} (hb : 2 ≤ bits ∧ bits ≤ 8) (wide x : Bool) : ∃ (s' : ByteArray) (bits' : Int), s'.size ≤ 10000 ∧ Ev (fun k => spec_DrawLzwPut.j0 k bits wide x b p) (s', bits', wide) := by
  cases x
  · obtain ⟨s', bits', hs', K, hK⟩ := drawLzwPut_j1_ev hc hp hb wide
    refine ⟨s', bits', hs', K + 1, fun k hk => ?_⟩
    try dsimp only
    obtain ⟨m, rfl⟩ : ∃ m, k = m + 1 := ⟨k - 1, by omega⟩
    have hm := hK m (by omega)
    try dsimp only at hm ⊢
    rw [spec_DrawLzwPut.j0, if_neg (by decide)]
    exact hm
  · obtain ⟨s', bits', hs', K, hK⟩ := drawLzwPut_j1_ev hc hp (bits := 8) (by omega) wide
    refine ⟨s', bits', hs', K + 1, fun k hk => ?_⟩
    try dsimp only
    obtain ⟨m, rfl⟩ : ∃ m, k = m + 1 := ⟨k - 1, by omega⟩
    have hm := hK m (by omega)
    try dsimp only at hm ⊢
    rw [spec_DrawLzwPut.j0, if_pos rfl]
    exact hm
theorem drawLzwPut_ev {b : List Int} (hb : ∀ x ∈ b, (Lit.int .u8 x).wf = true) : ∃ (s : ByteArray) (bits : Int) (wide : Bool), s.size ≤ 10000 ∧ Ev (fun k => spec_DrawLzwPut.f k b) (s, bits, wide) := by
  have hc := code_open hb
  obtain ⟨v, hv, K1, hK1⟩ := pick_ev hc (p := 0) (n := 7) (by omega) (by omega)
  try dsimp only at hK1
  try dsimp only at hK1
  obtain ⟨u, hu, K2, hK2⟩ := pick_ev hc (p := 0 + 1) (n := 4) (by omega) (by omega)
  try dsimp only at hK2
  try dsimp only at hK2
  by_cases h0 : u = 0
  · obtain ⟨t, ht, K3, hK3⟩ := pick_ev hc (p := 0 + 1 + 1) (n := 8) (by omega) (by omega)
    try dsimp only at hK3
    try dsimp only at hK3
    obtain ⟨s, bits, hs, K, hK⟩ := drawLzwPut_j0_ev hc (p := 0 + 1 + 1 + 1) (by omega) (bits := 2 + v) (by omega) (u == 0) (decide (t > 0))
    try dsimp only at hK
    refine ⟨s, bits, u == 0, hs, K1 + K2 + K3 + K, fun k hk => ?_⟩
    try dsimp only
    have hm := hK k (by omega)
    try dsimp only at hm ⊢
    unfold spec_DrawLzwPut.f
    rw [l1Open_f, Option.bind_some]
    try dsimp only
    rw [hK1 k (by omega), Option.bind_some]
    try dsimp only
    rw [hK2 k (by omega), Option.bind_some]
    try dsimp only
    rw [if_pos h0, hK3 k (by omega), Option.bind_some]
    try dsimp only
    rw [w64 (x := 2 + v) (by omega)]
    exact hm
  · obtain ⟨s, bits, hs, K, hK⟩ := drawLzwPut_j0_ev hc (p := 0 + 1 + 1) (by omega) (bits := 2 + v) (by omega) (u == 0) false
    try dsimp only at hK
    refine ⟨s, bits, u == 0, hs, K1 + K2 + K, fun k hk => ?_⟩
    try dsimp only
    have hm := hK k (by omega)
    try dsimp only at hm ⊢
    unfold spec_DrawLzwPut.f
    rw [l1Open_f, Option.bind_some]
    try dsimp only
    rw [hK1 k (by omega), Option.bind_some]
    try dsimp only
    rw [hK2 k (by omega), Option.bind_some]
    try dsimp only
    rw [if_neg h0, w64 (x := 2 + v) (by omega)]
    exact hm
theorem l14LimitW_ev {b : List Int} (hb : Code b) {p : Int} (hp : 0 ≤ p ∧ p ≤ 1000000000) : ∃ lim : Int, (-1 ≤ lim ∧ lim ≤ 5001) ∧ Ev (fun k => spec_l14Limit.f k b p) (lim, p + 1 + 1) := by
  obtain ⟨v, hv, K1, hK1⟩ := pick_ev hb (p := p) (n := 40) (by omega) (by omega)
  try dsimp only at hK1
  try dsimp only at hK1
  obtain ⟨u, hu, K2, hK2⟩ := pick_ev hb (p := p + 1) (n := 14) (by omega) (by omega)
  try dsimp only at hK2
  try dsimp only at hK2
  refine ⟨rd [5000, 5000, v, 5001, -1] (u * 5 / 14), ?_, K1 + K2, fun k hk => ?_⟩
  try dsimp only
  · rcases (show u * 5 / 14 = 0 ∨ u * 5 / 14 = 1 ∨ u * 5 / 14 = 2 ∨ u * 5 / 14 = 3 ∨ u * 5 / 14 = 4 by omega) with e | e | e | e | e <;> rw [e] <;> simp [rd] <;> omega
  · dsimp only
    unfold spec_l14Limit.f
    rw [hK1 k (by omega), Option.bind_some, Option.bind_some]
    try dsimp only
    rw [hK2 k (by omega), Option.bind_some]
    try dsimp only
    rw [w64 (x := u * 5) (by omega), tdiv_pos (by omega), w64 (by omega), if_pos (by omega), if_pos (by simp; omega)]
theorem drawLzwGet_ev {b : List Int} (hb : ∀ x ∈ b, (Lit.int .u8 x).wf = true) : ∃ (s : ByteArray) (bits : Int) (wide : Bool) (lim : Int), Ev (fun k => spec_DrawLzwGet.f k b) (s, bits, wide, lim) := by
  have hc := code_open hb
  obtain ⟨s0, bits, wide, hs0, K1, hK1⟩ := drawLzwPut_ev hb
  try dsimp only at hK1
  try dsimp only at hK1
  obtain ⟨s, hs, K2, hK2⟩ := spec_LzwPut_ev s0 (by omega) bits wide
  try dsimp only at hK2
  try dsimp only at hK2
  obtain ⟨v, hv, K3, hK3⟩ := pick_ev hc (p := 0) (n := 6) (by omega) (by omega)
  try dsimp only at hK3
  try dsimp only at hK3
  by_cases h0 : v = 0
  · obtain ⟨s', p', hs', K4, hK4⟩ := l14Bend_ev hc (p := 0 + 1) (by omega) s (by omega)
    try dsimp only at hK4
    obtain ⟨lim, hlim, K5, hK5⟩ := l14LimitW_ev hc (p := p') (by omega)
    try dsimp only at hK5
    try dsimp only at hK5
    refine ⟨s', bits, wide, lim, K1 + K2 + K3 + K4 + K5, fun k hk => ?_⟩
    try dsimp only
    try dsimp only
    unfold spec_DrawLzwGet.f
    rw [l1Open_f, Option.bind_some, hK1 k (by omega), Option.bind_some]
    try dsimp only
    rw [hK2 k (by omega), Option.bind_some, hK3 k (by omega), Option.bind_some]
    try dsimp only
    rw [if_pos h0, hK4 k (by omega), Option.bind_some]
    try dsimp only
    rw [hK5 k (by omega), Option.bind_some]
  · by_cases h1 : v = 1
    · obtain ⟨g, hg, K4, hK4⟩ := pick_ev hc (p := 0 + 1) (n := (s.size : Int) + 1) (by omega) (by omega)
      try dsimp only at hK4
      try dsimp only at hK4
      obtain ⟨lim, hlim, K5, hK5⟩ := l14LimitW_ev hc (p := 0 + 1 + 1) (by omega)
      try dsimp only at hK5
      try dsimp only at hK5
      refine ⟨s.extract 0 g.toNat, bits, wide, lim, K1 + K2 + K3 + K4 + K5, fun k hk => ?_⟩
      try dsimp only
      try dsimp only
      unfold spec_DrawLzwGet.f
      rw [l1Open_f, Option.bind_some, hK1 k (by omega), Option.bind_some]
      try dsimp only
      rw [hK2 k (by omega), Option.bind_some, hK3 k (by omega), Option.bind_some]
      try dsimp only
      rw [if_neg h0, if_pos h1, w64 (by omega), hK4 k (by omega), Option.bind_some]
      try dsimp only
      rw [if_pos (by omega), if_pos (by omega), hK5 k (by omega), Option.bind_some]
    · by_cases h2 : v = 2
      · obtain ⟨t, ht, K4, hK4⟩ := of_ev hc (p := 0 + 1) (by omega) [(⟨#[]⟩ : ByteArray), (⟨#[120]⟩ : ByteArray)] (by decide) (by decide)
        try dsimp only at hK4
        try dsimp only at hK4
        have hts : t.size ≤ 1 := by simp at ht; rcases ht with rfl | rfl <;> decide
        obtain ⟨lim, hlim, K5, hK5⟩ := l14LimitW_ev hc (p := 0 + 1 + 1) (by omega)
        try dsimp only at hK5
        try dsimp only at hK5
        refine ⟨s ++ t, bits, wide, lim, K1 + K2 + K3 + K4 + K5, fun k hk => ?_⟩
        try dsimp only
        try dsimp only
        unfold spec_DrawLzwGet.f
        rw [l1Open_f, Option.bind_some, hK1 k (by omega), Option.bind_some]
        try dsimp only
        rw [hK2 k (by omega), Option.bind_some, hK3 k (by omega), Option.bind_some]
        try dsimp only
        rw [if_neg h0, if_neg h1, if_pos h2, hK4 k (by omega), Option.bind_some]
        try dsimp only
        rw [if_pos (by omega), hK5 k (by omega), Option.bind_some]
      · by_cases h3 : v = 3
        · obtain ⟨t, p', ht, K4, hK4⟩ := l14Text_ev hc (p := 0 + 1) (by omega)
          try dsimp only at hK4
          obtain ⟨lim, hlim, K5, hK5⟩ := l14LimitW_ev hc (p := p') (by omega)
          try dsimp only at hK5
          try dsimp only at hK5
          refine ⟨t, bits, wide, lim, K1 + K2 + K3 + K4 + K5, fun k hk => ?_⟩
          try dsimp only
          try dsimp only
          unfold spec_DrawLzwGet.f
          rw [l1Open_f, Option.bind_some, hK1 k (by omega), Option.bind_some]
          try dsimp only
          rw [hK2 k (by omega), Option.bind_some, hK3 k (by omega), Option.bind_some]
          try dsimp only
          rw [if_neg h0, if_neg h1, if_neg h2, if_pos h3, hK4 k (by omega), Option.bind_some]
          try dsimp only
          rw [hK5 k (by omega), Option.bind_some]
        · obtain ⟨lim, hlim, K5, hK5⟩ := l14LimitW_ev hc (p := 0 + 1) (by omega)
          try dsimp only at hK5
          try dsimp only at hK5
          refine ⟨s, bits, wide, lim, K1 + K2 + K3 + K5, fun k hk => ?_⟩
          try dsimp only
          try dsimp only
          unfold spec_DrawLzwGet.f
          rw [l1Open_f, Option.bind_some, hK1 k (by omega), Option.bind_some]
          try dsimp only
          rw [hK2 k (by omega), Option.bind_some, hK3 k (by omega), Option.bind_some]
          try dsimp only
          rw [if_neg h0, if_neg h1, if_neg h2, if_neg h3, hK5 k (by omega), Option.bind_some]
theorem wiPow_l0_ev (n : Nat) (hn : n ≤ 59) : ∀ d i : Nat, i + d = n → Ev (fun k => laws_wiPow.l0 k (n : Int) (P2 i) (i : Int)) (P2 n) := by
  intro d
  induction d with
  | zero =>
    intro i hi
    refine ⟨1, fun k hk => ?_⟩
    try dsimp only
    obtain ⟨m, rfl⟩ : ∃ m, k = m + 1 := ⟨k - 1, by omega⟩
    rw [laws_wiPow.l0, if_neg (by omega), show i = n by omega]
  | succ d ih =>
    intro i hi
    obtain ⟨K, hK⟩ := ih (i + 1) (by omega)
    try dsimp only at hK
    refine ⟨K + 1, fun k hk => ?_⟩
    try dsimp only
    obtain ⟨m, rfl⟩ : ∃ m, k = m + 1 := ⟨k - 1, by omega⟩
    have hm := hK m (by omega)
    have hb := P2_62b (n := i) (by omega)
    have hb' := P2_62b (n := i + 1) (by omega)
    have hs := P2_succ i
    rw [laws_wiPow.l0, if_pos (by omega), if_pos (by omega), w64 (by omega), w64 (by omega), show P2 i * 2 = P2 (i + 1) by omega, show (i : Int) + 1 = ((i + 1 : Nat) : Int) by omega]
    exact hm
theorem wiPow_ev (n : Int) (h0 : 0 ≤ n) (hn : n ≤ 59) : Ev (fun k => laws_wiPow.f k n) (P2 n.toNat) := by
  have h := wiPow_l0_ev n.toNat (by omega) n.toNat 0 (by omega)
  rw [Int.toNat_of_nonneg h0] at h
  exact h

theorem spec_LzwGet_ev (a0 : ByteArray) (a1 : Int) (a2 : Bool) (a3 : Int) : Ev (fun k => spec_LzwGet.f k a0 a1 a2 a3) (lzGetM a0 a1 a2 a3) := by
  unfold spec_LzwGet.f
  by_cases c : lzOk a1 a2 = true ∧ a0.size ≤ 9000
  · obtain ⟨K, hK⟩ := l6Ready_ev a0 c.2 a1 (lzOk_b c.1) a2
    try dsimp only at hK
    refine ⟨K, fun k hk => ?_⟩
    try dsimp only
    try dsimp only
    rw [if_pos (Or.inl (hK k hk))]
  · refine ⟨0, fun k hk => ?_⟩
    try dsimp only
    try dsimp only
    rw [if_pos (Or.inr c)]
theorem impl_LzwGet_ev (a0 : ByteArray) (a1 : Int) (a2 : Bool) : ∃ K, ∀ k, K ≤ k → ∀ a3 : Int, impl_LzwGet.f k a0 a1 a2 a3 = some (lzGetM a0 a1 a2 a3) := by
  unfold impl_LzwGet.f
  by_cases c : lzOk a1 a2 = true ∧ a0.size ≤ 9000
  · obtain ⟨K, hK⟩ := luReady_ev a0 c.2 a2
    try dsimp only at hK
    refine ⟨K, fun k hk a3 => ?_⟩
    rw [if_pos (Or.inl (hK k hk))]
  · refine ⟨0, fun k hk a3 => ?_⟩
    rw [if_pos (Or.inr c)]
theorem lzwLaw_l0_ev (bits lim : Int) (hb : 2 ≤ bits ∧ bits ≤ 8) (s : ByteArray) (hs : (s.size : Int) ≤ lim) (hl : lim ≤ 5000) (hB : BB (P2 bits.toNat) s) (c : Int) (hc : s.size ≠ 0 → c = 3) : ∀ d i : Nat, i + d = s.size → Ev (fun k => laws_FnLzwGet.l0 k bits lim s c (i : Int)) true := by
  obtain ⟨K1, hK1⟩ := wiPow_ev bits (by omega) (by omega)
  try dsimp only at hK1
  try dsimp only at hK1
  intro d
  induction d with
  | zero =>
    intro i hi
    refine ⟨1, fun k hk => ?_⟩
    try dsimp only
    obtain ⟨m, rfl⟩ : ∃ m, k = m + 1 := ⟨k - 1, by omega⟩
    try dsimp only
    rw [laws_FnLzwGet.l0, if_neg (by omega), if_pos hs]
    by_cases h : s.toList = ([] : List UInt8)
    · rw [if_pos h]
    · have hz : s.size ≠ 0 := by
        intro e0
        apply h
        rw [byte_toList]
        exact List.eq_nil_of_length_eq_zero (by rw [data_length]; exact e0)
      rw [if_neg h, hc hz]; rfl
  | succ d ih =>
    intro i hi
    obtain ⟨K, hK⟩ := ih (i + 1) (by omega)
    try dsimp only at hK
    refine ⟨K1 + K + 1, fun k hk => ?_⟩
    try dsimp only
    obtain ⟨m, rfl⟩ : ∃ m, k = m + 1 := ⟨k - 1, by omega⟩
    have hm := hK m (by omega)
    rw [show ((i + 1 : Nat) : Int) = (i : Int) + 1 by omega] at hm
    have hbt : bt s (i : Int) < P2 bits.toNat := by
      rw [← rd_bytesOf]
      rcases rd_mem_or (bytesOf s) (i : Int) with h1 | h1
      · exact (hB _ h1).2
      · rw [h1]; have := P2_pos bits.toNat; omega
    have hr := bt_range s (i : Int)
    try dsimp only at hm ⊢
    rw [laws_FnLzwGet.l0, if_pos (by omega), if_pos (by omega), hK1 m (by omega), Option.bind_some, w64 (x := bt s (i : Int)) (by omega), if_neg (by omega), w64 (by omega)]
    exact hm
theorem FnLzwGet : laws_FnLzwGet.Pure := by
  intro l hl hl8 hw
  unfold laws_FnLzwGet.f
  by_cases h : (l.length : Int) > 1048576
  · exact ⟨0, by rw [if_pos h]⟩
  obtain ⟨s, bits, wide, lim, K1, hK1⟩ := drawLzwGet_ev hw
  try dsimp only at hK1
  obtain ⟨K2, hK2⟩ := impl_LzwGet_ev s bits wide
  try dsimp only at hK2
  obtain ⟨K3, hK3⟩ := spec_LzwGet_ev s bits wide lim
  try dsimp only at hK3
  try dsimp only at hK1 hK3
  by_cases h2 : (lzGetM s bits wide lim).2 = 0
  · have hg := lzGetM_good h2
    obtain ⟨K4, hK4⟩ := lzwLaw_l0_ev bits lim hg.1 (lzGetM s bits wide lim).1 hg.2.2.1 hg.2.1 hg.2.2.2.1 (lzGetM s bits wide (((lzGetM s bits wide lim).1.size : Int) - 1)).2 hg.2.2.2.2 (lzGetM s bits wide lim).1.size 0 (by omega)
    try dsimp only at hK4
    try dsimp only at hK4
    refine ⟨K1 + K2 + K3 + K4 + 1 + 1, ?_⟩
    rw [if_neg h, hK1 _ (by omega), Option.bind_some]
    try dsimp only
    rw [hK2 _ (by omega), Option.bind_some, hK3 _ (by omega), Option.bind_some, if_pos rfl]
    have e : ((lzGetM s bits wide lim).2 != (lzGetM s bits wide lim).2) = false := by simp
    rw [e, laws_FnLzwGet.j0, if_neg (by decide), if_pos h2, w64 (by have := hg.2.2.1; have := hg.2.1; omega), hK2 _ (by omega), Option.bind_some]
    exact hK4 _ (by omega)
  · have hg := lzGetM_bad h2
    refine ⟨K1 + K2 + K3 + 1 + 1, ?_⟩
    rw [if_neg h, hK1 _ (by omega), Option.bind_some]
    try dsimp only
    rw [hK2 _ (by omega), Option.bind_some, hK3 _ (by omega), Option.bind_some, if_pos rfl]
    have e : ((lzGetM s bits wide lim).2 != (lzGetM s bits wide lim).2) = false := by simp
    rw [e, laws_FnLzwGet.j0, if_neg (by decide), if_neg h2, hg, byte_toList]
    rfl

end Go.Proofs.Ytdebckcphaocmaa.Pure
