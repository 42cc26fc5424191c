/- Of every text, place, size and order that the reference draws from a list of at most 1048576 bytes (a longer one is let by): the program's BitsGet answers as the reference, and some bits and some more behind are all of them at once. -/
import Derived.Test.YtfladcffgblfdaaPFnBitsGetx3
import Derived.Test.YtfladcffgblfdaaThNum
import Derived.Test.YtfladcffgblfdaaThXor
import Derived.Test.YtfladcffgblfdaaThStr
namespace Go.Proofs.Ytfladcffgblfdaa.Pure
open Go.RowKit Go.Proofs.Ytfladcffgblfdaa.PFnBitsGet Go.Proofs.YtfladcffgblfdaaW.PrintWords Go.Proofs.YtfladcffgblfdaaW.PrintLast Go.Proofs.YtfladcffgblfdaaW.PrintMore Go.Proofs.Ytfladcffgblfdaa.Th
set_option linter.unusedVariables false
set_option linter.unusedSimpArgs false

theorem in_f (a b c : Int) : impl_in.f a b c = some (decide (b ≤ a ∧ a ≤ c)) := by
  unfold impl_in.f
  by_cases h : b ≤ a
  · rw [if_pos h]; simp [h]
  · rw [if_neg h]; simp [h]
theorem l1In_f (a b c : Int) : spec_l1In.f a b c = some (decide (b ≤ a ∧ a ≤ c)) := by
  unfold spec_l1In.f
  by_cases h : b ≤ a
  · rw [if_pos h]; simp [h]
  · rw [if_neg h]; simp [h]
theorem l1Pow_l0_ev (n : Nat) (hn : n ≤ 62) : ∀ d i : Nat, i + d = n → Ev (fun k => spec_l1Pow.l0 k (n : Int) (P2 i) (i : Int)) (P2 n) := by
  intro d
  induction d with
  | zero =>
    intro i hi
    refine ⟨1, fun k hk => ?_⟩
    try dsimp only
    obtain ⟨m, rfl⟩ : ∃ m, k = m + 1 := ⟨k - 1, by omega⟩
    rw [spec_l1Pow.l0, if_neg (by omega), show i = n by omega]
  | succ d ih =>
    intro i hi
    obtain ⟨K, hK⟩ := ih (i + 1) (by omega)
    try dsimp only at hK
    refine ⟨K + 1, fun k hk => ?_⟩
    try dsimp only
    obtain ⟨m, rfl⟩ : ∃ m, k = m + 1 := ⟨k - 1, by omega⟩
    have hm := hK m (by omega)
    have hb := P2_62b (n := i) (by omega)
    have hb' := P2_62b (n := i + 1) (by omega)
    have hs := P2_succ i
    rw [spec_l1Pow.l0, if_pos (by omega), w64 (by omega), w64 (by omega), show P2 i * 2 = P2 (i + 1) by omega, show (i : Int) + 1 = ((i + 1 : Nat) : Int) by omega]
    exact hm
theorem l1Pow_ev (n : Nat) (hn : n ≤ 62) : Ev (fun k => spec_l1Pow.f k (n : Int)) (P2 n) := l1Pow_l0_ev n hn n 0 (by omega)
theorem l1Pow_evI (n : Int) (h0 : 0 ≤ n) (hn : n ≤ 62) : Ev (fun k => spec_l1Pow.f k n) (P2 n.toNat) := by
  have h := l1Pow_ev n.toNat (by omega)
  rw [Int.toNat_of_nonneg h0] at h
  exact h
theorem l1Bit_ev (s : ByteArray) (at_ : Int) (high : Bool) (h0 : 0 ≤ at_) (h1 : at_ < 8 * s.size) (hs : s.size ≤ 140737488351232) : Ev (fun k => spec_l1Bit.f k s at_ high) (bitM s at_ high) := by
  have hb := bt_range s (at_ / 8)
  unfold spec_l1Bit.f bitM
  simp only [tdiv_pos h0, tmod_pos h0]
  rw [w64 (x := at_ / 8) (by omega), w64 (x := bt s (at_ / 8)) (by omega)]
  cases high
  · obtain ⟨K, hK⟩ := l1Pow_evI (at_ % 8) (by omega) (by omega)
    try dsimp only at hK
    refine ⟨K, fun k hk => ?_⟩
    try dsimp only
    have hp := P2_62b (n := (at_ % 8).toNat) (by omega)
    have hq : 0 ≤ bt s (at_ / 8) / P2 (at_ % 8).toNat := Int.ediv_nonneg hb.1 (by omega)
    have hq2 : bt s (at_ / 8) / P2 (at_ % 8).toNat ≤ bt s (at_ / 8) := Int.ediv_le_self _ hb.1
    simp only [Bool.false_eq_true, if_false]
    rw [if_pos (by omega), if_pos (by omega), hK k hk]
    simp only [Option.bind_some]
    rw [if_neg (by omega), tdiv_pos hb.1, w64 (by omega), tmod_pos hq]
  · obtain ⟨K, hK⟩ := l1Pow_evI (7 - at_ % 8) (by omega) (by omega)
    try dsimp only at hK
    refine ⟨K, fun k hk => ?_⟩
    try dsimp only
    have hp := P2_62b (n := (7 - at_ % 8).toNat) (by omega)
    have hq : 0 ≤ bt s (at_ / 8) / P2 (7 - at_ % 8).toNat := Int.ediv_nonneg hb.1 (by omega)
    have hq2 : bt s (at_ / 8) / P2 (7 - at_ % 8).toNat ≤ bt s (at_ / 8) := Int.ediv_le_self _ hb.1
    simp only [if_true]
    rw [if_pos (by omega), if_pos (by omega), w64 (x := 7 - at_ % 8) (by omega), hK k hk]
    simp only [Option.bind_some]
    rw [if_neg (by omega), tdiv_pos hb.1, w64 (by omega), tmod_pos hq]
theorem bitAt_f (s : ByteArray) (at_ : Int) (high : Bool) (h0 : 0 ≤ at_) (h1 : at_ < 8 * s.size) (hs : s.size ≤ 140737488351232) : impl_bitAt.f s at_ high = some (bitM s at_ high) := by
  have hb := bt_range s (at_ / 8)
  unfold impl_bitAt.f bitM
  simp only [tdiv_pos h0, tmod_pos h0]
  rw [w64 (x := at_ / 8) (by omega), w64 (x := bt s (at_ / 8)) (by omega), w64 (x := 7 - at_ % 8) (by omega)]
  cases high
  · have hq : 0 ≤ bt s (at_ / 8) / P2 (at_ % 8).toNat := Int.ediv_nonneg hb.1 (by have := P2_pos (at_ % 8).toNat; omega)
    have hq2 : bt s (at_ / 8) / P2 (at_ % 8).toNat ≤ bt s (at_ / 8) := Int.ediv_le_self _ hb.1
    simp only [Bool.false_eq_true, if_false]
    rw [if_pos (by omega), if_pos (by omega), if_pos (by omega), shr_P2 (by omega), and1 hq (by omega)]
  · have hq : 0 ≤ bt s (at_ / 8) / P2 (7 - at_ % 8).toNat := Int.ediv_nonneg hb.1 (by have := P2_pos (7 - at_ % 8).toNat; omega)
    have hq2 : bt s (at_ / 8) / P2 (7 - at_ % 8).toNat ≤ bt s (at_ / 8) := Int.ediv_le_self _ hb.1
    simp only [if_true]
    rw [if_pos (by omega), if_pos (by omega), if_pos (by omega), shr_P2 (by omega), and1 hq (by omega)]
theorem l1Get_l0_ev (s : ByteArray) (at_ : Int) (size : Nat) (high : Bool) (h0 : 0 ≤ at_) (hz : size ≤ 32) (h1 : at_ + size ≤ 8 * s.size) (hs : s.size ≤ 140737488351232) :
    ∀ d i : Nat, i + d = size → Ev (fun k => spec_l1Get.l0 k s at_ (size : Int) high (bitsM s at_ high i) (i : Int)) (bitsM s at_ high size) := by
  intro d
  induction d with
  | zero =>
    intro i hi
    refine ⟨1, fun k hk => ?_⟩
    try dsimp only
    obtain ⟨m, rfl⟩ : ∃ m, k = m + 1 := ⟨k - 1, by omega⟩
    rw [spec_l1Get.l0, if_neg (by omega), show i = size by omega]
  | succ d ih =>
    intro i hi
    obtain ⟨K, hK⟩ := ih (i + 1) (by omega)
    try dsimp only at hK
    have hb := bitsM_b s at_ high i
    have hp := P2_b (n := i) (m := 40) (by omega)
    rw [P2_40] at hp
    cases high
    · obtain ⟨K1, hK1⟩ := l1Bit_ev s (at_ + i) false (by omega) (by omega) hs
      try dsimp only at hK1
      obtain ⟨K2, hK2⟩ := l1Pow_ev i (by omega)
      try dsimp only at hK2
      have hv := bitM_b s (at_ + i) false
      have hm2 := mul01 (x := P2 i) hv
      refine ⟨K + K1 + K2 + 1, fun k hk => ?_⟩
      try dsimp only
      obtain ⟨m, rfl⟩ : ∃ m, k = m + 1 := ⟨k - 1, by omega⟩
      have hm := hK m (by omega)
      simp only [bitsM, bitsLo, Bool.false_eq_true, if_false] at hm hb ⊢
      rw [spec_l1Get.l0, if_pos (by omega)]
      simp only [Bool.false_eq_true, if_false]
      rw [w64 (x := at_ + i) (by omega), hK1 m (by omega)]
      simp only [Option.bind_some]
      rw [hK2 m (by omega)]
      simp only [Option.bind_some]
      rw [w64 (x := _ * _) (by omega), w64 (x := (i : Int) + 1) (by omega), w64 (by omega)]
      exact hm
    · obtain ⟨K1, hK1⟩ := l1Bit_ev s (at_ + i) true (by omega) (by omega) hs
      try dsimp only at hK1
      have hv := bitM_b s (at_ + i) true
      refine ⟨K + K1 + 1, fun k hk => ?_⟩
      try dsimp only
      obtain ⟨m, rfl⟩ : ∃ m, k = m + 1 := ⟨k - 1, by omega⟩
      have hm := hK m (by omega)
      simp only [bitsM, bitsHi, if_true] at hm hb ⊢
      rw [spec_l1Get.l0, if_pos (by omega)]
      simp only [if_true]
      rw [w64 (x := at_ + i) (by omega), hK1 m (by omega)]
      simp only [Option.bind_some]
      rw [w64 (x := 2 * bitsHi s at_ i) (by omega), w64 (x := (i : Int) + 1) (by omega), w64 (by omega)]
      exact hm
theorem l1Get_ev (s : ByteArray) (at_ size : Int) (high : Bool) (h0 : 0 ≤ at_) (hz0 : 0 ≤ size) (hz : size ≤ 32) (h1 : at_ + size ≤ 8 * s.size) (hs : s.size ≤ 140737488351232) : Ev (fun k => spec_l1Get.f k s at_ size high) (bitsM s at_ high size.toNat) := by
  have h := l1Get_l0_ev s at_ size.toNat high h0 (by omega) (by omega) hs size.toNat 0 (by omega)
  rw [Int.toNat_of_nonneg hz0] at h
  have e : bitsM s at_ high 0 = 0 := by cases high <;> simp [bitsM, bitsHi, bitsLo]
  rw [e] at h
  exact h
def bitsGetM (s : ByteArray) (at_ size : Int) (high : Bool) : Int × Bool :=
  if 0 ≤ size ∧ size ≤ 24 ∧ s.size ≤ 9000 ∧ 0 ≤ at_ ∧ at_ + size ≤ 8 * s.size then (bitsM s at_ high size.toNat, true) else (0, false)
theorem spec_BitsGet_ev (s : ByteArray) (at_ size : Int) (high : Bool) (hs : s.size ≤ 1048576) : Ev (fun k => spec_BitsGet.f k s at_ size high) (bitsGetM s at_ size high) := by
  unfold spec_BitsGet.f bitsGetM
  simp only [l1In_f, Option.bind_some, decide_eq_true_eq]
  by_cases h1 : 0 ≤ size ∧ size ≤ 24
  · by_cases h2 : s.size ≤ 9000
    · by_cases h3 : 0 ≤ at_ ∧ at_ + size ≤ 8 * s.size
      · obtain ⟨K, hK⟩ := l1Get_ev s at_ size high h3.1 h1.1 (by omega) h3.2 (by omega)
        try dsimp only at hK
        refine ⟨K, fun k hk => ?_⟩
        try dsimp only
        rw [if_pos h1, if_neg (by omega), w64 (x := 8 * (s.size : Int)) (by omega), w64 (by omega), if_pos (by omega), hK k hk, if_pos (by omega)]
        rfl
      · refine ⟨0, fun k hk => ?_⟩
        try dsimp only
        rw [if_pos h1, if_neg (by omega), w64 (x := 8 * (s.size : Int)) (by omega), w64 (by omega), if_neg (by omega), if_neg (by omega)]
    · refine ⟨0, fun k hk => ?_⟩
      try dsimp only
      rw [if_pos h1, if_pos (by omega), if_neg (by omega)]
  · refine ⟨0, fun k hk => ?_⟩
    try dsimp only
    rw [if_neg h1, if_neg (by omega)]
theorem impl_BitsGet_l0_ev (s : ByteArray) (at_ : Int) (size : Nat) (high : Bool) (h0 : 0 ≤ at_) (hz : size ≤ 32) (h1 : at_ + size ≤ 8 * s.size) (hs : s.size ≤ 140737488351232) :
    ∀ d i : Nat, i + d = size → Ev (fun k => impl_BitsGet.l0 k s at_ high (bitsM s at_ high i) (size : Int) (i : Int)) (bitsM s at_ high size, true) := by
  intro d
  induction d with
  | zero =>
    intro i hi
    refine ⟨1, fun k hk => ?_⟩
    try dsimp only
    obtain ⟨m, rfl⟩ : ∃ m, k = m + 1 := ⟨k - 1, by omega⟩
    rw [impl_BitsGet.l0, if_neg (by omega), show i = size by omega]
  | succ d ih =>
    intro i hi
    obtain ⟨K, hK⟩ := ih (i + 1) (by omega)
    try dsimp only at hK
    have hb := bitsM_b s at_ high i
    have hp := P2_b (n := i) (m := 40) (by omega)
    rw [P2_40] at hp
    have hv := bitM_b s (at_ + i) high
    refine ⟨K + 1, fun k hk => ?_⟩
    try dsimp only
    obtain ⟨m, rfl⟩ : ∃ m, k = m + 1 := ⟨k - 1, by omega⟩
    have hm := hK m (by omega)
    rw [impl_BitsGet.l0, if_pos (by omega), w64 (x := at_ + i) (by omega), bitAt_f s _ _ (by omega) (by omega) hs]
    simp only [Option.bind_some]
    cases high
    · have hm2 := mul01 (x := P2 i) hv
      simp only [bitsM, bitsLo, Bool.false_eq_true, if_false] at hm hb ⊢
      have ei : (i : Int).toNat = i := by omega
      rw [if_pos (by omega), shl_P2 (by omega) (by omega) (by rw [ei]; omega), ei, or_comm' (by omega) (by omega) (by omega) (by omega), or_join (i := i) (by omega) (Int.mul_emod_left _ _) (by omega) (by omega) (by omega) (by omega), w64 (by omega), Int.add_comm (bitM s (at_ + i) false * P2 i)]
      exact hm
    · simp only [bitsM, bitsHi, if_true] at hm hb ⊢
      rw [w64 (x := 2 * bitsHi s at_ i) (by omega), w64 (x := (i : Int) + 1) (by omega), w64 (by omega)]
      exact hm
theorem impl_BitsGet_ev (s : ByteArray) (at_ size : Int) (high : Bool) (hs : s.size ≤ 1048576) : Ev (fun k => impl_BitsGet.f k s at_ size high) (bitsGetM s at_ size high) := by
  unfold impl_BitsGet.f bitsGetM
  simp only [in_f, Option.bind_some, decide_eq_true_eq]
  by_cases h1 : 0 ≤ size ∧ size ≤ 24
  · rw [w64 (x := 8 * (s.size : Int)) (by omega), w64 (x := 8 * (s.size : Int) - size) (by omega)]
    by_cases h2 : s.size ≤ 9000
    · by_cases h3 : 0 ≤ at_ ∧ at_ + size ≤ 8 * s.size
      · obtain ⟨K, hK⟩ := impl_BitsGet_l0_ev s at_ size.toNat high h3.1 (by omega) (by omega) (by omega) size.toNat 0 (by omega)
        try dsimp only at hK
        refine ⟨K + 1, fun k hk => ?_⟩
        try dsimp only
        obtain ⟨m, rfl⟩ : ∃ m, k = m + 1 := ⟨k - 1, by omega⟩
        have hm := hK m (by omega)
        have e : bitsM s at_ high 0 = 0 := by cases high <;> simp [bitsM, bitsHi, bitsLo]
        rw [Int.toNat_of_nonneg h1.1, e] at hm
        rw [if_pos h1, if_neg (by omega), decide_eq_true (by omega), if_pos (by omega), impl_BitsGet.j0]
        simp only [Bool.not_true, Bool.false_eq_true, if_false]
        exact hm
      · refine ⟨1, fun k hk => ?_⟩
        try dsimp only
        obtain ⟨m, rfl⟩ : ∃ m, k = m + 1 := ⟨k - 1, by omega⟩
        rw [if_pos h1, if_neg (by omega), decide_eq_false (by omega), if_neg (by omega), impl_BitsGet.j0]
        simp
    · refine ⟨1, fun k hk => ?_⟩
      try dsimp only
      obtain ⟨m, rfl⟩ : ∃ m, k = m + 1 := ⟨k - 1, by omega⟩
      rw [if_pos h1, if_pos (by omega), if_neg (by omega), impl_BitsGet.j0]
      simp
  · refine ⟨1, fun k hk => ?_⟩
    try dsimp only
    obtain ⟨m, rfl⟩ : ∃ m, k = m + 1 := ⟨k - 1, by omega⟩
    rw [if_neg h1, if_neg (by omega), impl_BitsGet.j0]
    simp
/-- A drawing's bytes. -/
def Code (b : List Int) : Prop := b.length ≤ 2000 ∧ ∀ x ∈ b, 0 ≤ x ∧ x ≤ 255
theorem l1Open_f (l : List Int) : spec_l1Open.f l = some (l.take 2000, 0) := by
  unfold spec_l1Open.f
  by_cases h : (l.length : Int) > 2000
  · rw [if_pos h, if_pos (by omega)]
  · rw [if_neg h, List.take_of_length_le (by omega)]
theorem code_open {l : List Int} (h : ∀ x ∈ l, (Lit.int .u8 x).wf = true) : Code (l.take 2000) := by
  refine ⟨by rw [List.length_take]; omega, fun x hx => ?_⟩
  have := h x (List.mem_of_mem_take hx)
  simp [Lit.wf, IntKind.min, IntKind.max, IntKind.bits, IntKind.signed] at this
  omega
theorem code_rd {b : List Int} (h : Code b) (i : Int) : 0 ≤ rd b i ∧ rd b i ≤ 255 := by
  rcases rd_mem_or b i with h1 | h1
  · exact h.2 _ h1
  · omega
/-- What is picked is there, and the place is one further. -/
theorem pick_ev {b : List Int} (hb : Code b) {p n : Int} (hp : 0 ≤ p ∧ p ≤ 1099511627776) (hn : n ≤ 1099511627776) : ∃ v : Int, (0 ≤ v ∧ (v < n ∨ n < 1 ∧ v = 0)) ∧ Ev (fun k => spec_l1Rd_pick.f k b p n) (v, p + 1) := by
  unfold spec_l1Rd_pick.f
  rw [w64 (x := p + 1) (by omega)]
  by_cases h1 : n < 1
  · refine ⟨0, ⟨by omega, .inr ⟨h1, rfl⟩⟩, 1, fun k hk => ?_⟩
    obtain ⟨m, rfl⟩ : ∃ m, k = m + 1 := ⟨k - 1, by omega⟩
    try dsimp only
    rw [if_pos h1, spec_l1Rd_pick.j0, if_pos rfl]
  by_cases h2 : b.length = 0
  · refine ⟨0, ⟨by omega, .inl (by omega)⟩, 1, fun k hk => ?_⟩
    obtain ⟨m, rfl⟩ : ∃ m, k = m + 1 := ⟨k - 1, by omega⟩
    try dsimp only
    rw [if_neg h1, spec_l1Rd_pick.j0, if_pos (by simp [h2])]
  have e0 : wrap64 (p + 1 - 1) = p := by rw [w64 (by omega)]; omega
  by_cases h3 : p < b.length
  · have hr := code_rd hb p
    refine ⟨rd b p % n, ⟨Int.emod_nonneg _ (by omega), .inl (Int.emod_lt_of_pos _ (by omega))⟩, 1, fun k hk => ?_⟩
    obtain ⟨m, rfl⟩ : ∃ m, k = m + 1 := ⟨k - 1, by omega⟩
    try dsimp only
    rw [if_neg h1, spec_l1Rd_pick.j0, if_neg (by simpa using h2), e0, if_pos h3, if_pos hp.1, if_neg (by omega), w64 (by omega), tmod_pos hr.1]
  · have hl := hb.1
    have m1 : 0 ≤ p % (b.length : Int) ∧ p % (b.length : Int) < b.length := ⟨Int.emod_nonneg _ (by omega), Int.emod_lt_of_pos _ (by omega)⟩
    have m2 : 0 ≤ (p * 7 + 3) % (b.length : Int) ∧ (p * 7 + 3) % (b.length : Int) < b.length := ⟨Int.emod_nonneg _ (by omega), Int.emod_lt_of_pos _ (by omega)⟩
    have r1 := code_rd hb (p % (b.length : Int))
    have r2 := code_rd hb ((p * 7 + 3) % (b.length : Int))
    have q1 : 0 ≤ p / (b.length : Int) := Int.ediv_nonneg hp.1 (by omega)
    have q2 : p / (b.length : Int) ≤ p := Int.ediv_le_self _ hp.1
    obtain ⟨X, hX⟩ : ∃ X, X = rd b (p % (b.length : Int)) * 131 + rd b ((p * 7 + 3) % (b.length : Int)) * 1117 + p * 29 + p / (b.length : Int) * 53 := ⟨_, rfl⟩
    have bX : 0 ≤ X ∧ X ≤ 4611686018427387904 := by omega
    have hx := xor_b (x := X) (y := X / 64) (by omega) (by omega)
    refine ⟨Go.bits .xor .i64 X (X / 64) % n, ⟨Int.emod_nonneg _ (by omega), .inl (Int.emod_lt_of_pos _ (by omega))⟩, 1, fun k hk => ?_⟩
    obtain ⟨m, rfl⟩ : ∃ m, k = m + 1 := ⟨k - 1, by omega⟩
    try dsimp only
    rw [if_neg h1, spec_l1Rd_pick.j0, if_neg (by simpa using h2), e0, if_neg h3, if_neg (by omega)]
    rw [w64 (x := p * 7) (by omega), w64 (x := p * 7 + 3) (by omega), tmod_pos (a := p) hp.1, tmod_pos (a := p * 7 + 3) (by omega), tdiv_pos (a := p) hp.1]
    rw [if_pos m1.1, if_pos m1.2, if_pos m2.1, if_pos m2.2, if_neg (by omega)]
    rw [w64 (x := rd b (p % (b.length : Int))) (by omega), w64 (x := rd b ((p * 7 + 3) % (b.length : Int))) (by omega), w64 (x := p / (b.length : Int)) (by omega)]
    rw [w64 (x := rd b (p % (b.length : Int)) * 131) (by omega), w64 (x := rd b ((p * 7 + 3) % (b.length : Int)) * 1117) (by omega), w64 (x := p * 29) (by omega), w64 (x := p / (b.length : Int) * 53) (by omega)]
    rw [w64 (x := rd b (p % (b.length : Int)) * 131 + rd b ((p * 7 + 3) % (b.length : Int)) * 1117) (by omega), w64 (x := rd b (p % (b.length : Int)) * 131 + rd b ((p * 7 + 3) % (b.length : Int)) * 1117 + p * 29) (by omega), w64 (x := rd b (p % (b.length : Int)) * 131 + rd b ((p * 7 + 3) % (b.length : Int)) * 1117 + p * 29 + p / (b.length : Int) * 53) (by omega), ← hX]
    rw [tdiv_pos (by omega), w64 (x := X / 64) (by omega), tmod_pos hx.1]
theorem of_ev {b : List Int} (hb : Code b) {p : Int} (hp : 0 ≤ p ∧ p ≤ 1000000000) (l : List ByteArray) (hl : 1 ≤ l.length) (hl2 : l.length ≤ 1000) : ∃ s, s ∈ l ∧ Ev (fun k => spec_l1Rd_of.f k b p l) (s, p + 1) := by
  obtain ⟨v, hv, K, hK⟩ := pick_ev hb (p := p) (n := (l.length : Int)) (by omega) (by omega)
  try dsimp only at hK
  have hvl : v.toNat < l.length := by omega
  have e : rdOf ByteArray.empty l v = l[v.toNat] := by
    unfold rdOf; rw [List.getD_eq_getElem?_getD, List.getElem?_eq_getElem hvl]; rfl
  refine ⟨l[v.toNat], List.getElem_mem _, K, fun k hk => ?_⟩
  try dsimp only
  unfold spec_l1Rd_of.f
  rw [hK k hk]
  simp only [Option.bind_some]
  rw [if_pos (by omega), if_pos (by omega), e]
def manyM (s : ByteArray) : Nat → ByteArray
  | 0 => ⟨#[]⟩
  | n + 1 => manyM s n ++ s
theorem manyM_size (s : ByteArray) (n : Nat) : (manyM s n).size = n * s.size := by
  induction n with
  | zero => rw [Nat.zero_mul]; rfl
  | succ n ih => simp only [manyM, ByteArray.size_append, ih, Nat.succ_mul]
theorem l1Many_l0_ev (s : ByteArray) (n : Nat) (hn : n ≤ 100000) (hs : s.size ≤ 100000) : ∀ d i : Nat, i + d = n → Ev (fun k => spec_l1Many.l0 k s (n : Int) (manyM s i) (i : Int)) (manyM s n) := by
  intro d
  induction d with
  | zero =>
    intro i hi
    refine ⟨1, fun k hk => ?_⟩
    try dsimp only
    obtain ⟨m, rfl⟩ : ∃ m, k = m + 1 := ⟨k - 1, by omega⟩
    rw [spec_l1Many.l0, if_neg (by omega), show i = n by omega]
  | succ d ih =>
    intro i hi
    obtain ⟨K, hK⟩ := ih (i + 1) (by omega)
    try dsimp only at hK
    refine ⟨K + 1, fun k hk => ?_⟩
    try dsimp only
    obtain ⟨m, rfl⟩ : ∃ m, k = m + 1 := ⟨k - 1, by omega⟩
    have hm := hK m (by omega)
    have hz := manyM_size s i
    have hz2 : i * s.size ≤ 100000 * 100000 := Nat.mul_le_mul (by omega) hs
    rw [spec_l1Many.l0, if_pos (by omega), if_pos (by omega), w64 (by omega)]
    simp only [manyM] at hm
    rw [show ((i + 1 : Nat) : Int) = (i : Int) + 1 by omega] at hm
    exact hm
theorem l1Many_ev (s : ByteArray) (n : Int) (h0 : 0 ≤ n) (hn : n ≤ 100000) (hs : s.size ≤ 100000) : Ev (fun k => spec_l1Many.f k s n) (manyM s n.toNat) := by
  have h := l1Many_l0_ev s n.toNat (by omega) hs n.toNat 0 (by omega)
  rw [Int.toNat_of_nonneg h0] at h
  exact h
/-- A drawn text: short, or as many t's as may be, or one more. -/
def Short (s : ByteArray) : Prop := s.size ≤ 300 ∨ ∃ n : Nat, (9000 ≤ n ∧ n ≤ 9001) ∧ s = manyM ⟨#[116]⟩ n
theorem short_size {s : ByteArray} (h : Short s) : s.size ≤ 9001 := by
  rcases h with h | ⟨n, hn, rfl⟩
  · omega
  · rw [manyM_size, show (⟨#[116]⟩ : ByteArray).size = 1 from rfl]; omega
theorem l14Text_l1_ev {b : List Int} (hb : Code b) (n : Int) (P : Int) (S A : Nat) (C : Int) (hP : P ≤ 1000000) (hS : S ≤ 300)
    (next : ∀ (s : ByteArray) (p : Int), 0 ≤ p → p ≤ P → s.size ≤ S → ∃ (s' : ByteArray) (p' : Int), (s'.size ≤ s.size + A ∧ p ≤ p' ∧ p' ≤ p + C) ∧ Ev (fun k => spec_l14Text.l0 k s (wrap64 (n - 1)) b p) (s', p')) :
    ∀ (d : Nat) (s : ByteArray) (p : Int), d ≤ 12 → 0 ≤ p → p + d ≤ P → s.size + d ≤ S → ∃ (s' : ByteArray) (p' : Int), (s'.size ≤ s.size + d + A ∧ p ≤ p' ∧ p' ≤ p + d + C) ∧ Ev (fun k => spec_l14Text.l1 k s n (d : Int) b p) (s', p') := by
  intro d
  induction d with
  | zero =>
    intro s p hd h0 hp hs
    obtain ⟨s', p', hh, K, hK⟩ := next s p h0 (by omega) (by omega)
    try dsimp only at hK
    refine ⟨s', p', by omega, K + 1, fun k hk => ?_⟩
    obtain ⟨m, rfl⟩ : ∃ m, k = m + 1 := ⟨k - 1, by omega⟩
    try dsimp only
    rw [spec_l14Text.l1, if_neg (by omega)]
    exact hK m (by omega)
  | succ d ih =>
    intro s p hd h0 hp hs
    obtain ⟨v, hv, K1, hK1⟩ := pick_ev hb (p := p) (n := 256) (by omega) (by omega)
    try dsimp only at hK1
    have hz : (s ++ strOfNums [v % 256]).size = s.size + 1 := by rw [ByteArray.size_append, strOfNums_size]; rfl
    have hz1 : (strOfNums [v % 256]).size = 1 := by rw [strOfNums_size]; rfl
    obtain ⟨s', p', hh, K, hK⟩ := ih (s ++ strOfNums [v % 256]) (p + 1) (by omega) (by omega) (by omega) (by omega)
    try dsimp only at hK
    refine ⟨s', p', by omega, K + K1 + 1, fun k hk => ?_⟩
    obtain ⟨m, rfl⟩ : ∃ m, k = m + 1 := ⟨k - 1, by omega⟩
    try dsimp only
    rw [spec_l14Text.l1, if_pos (by omega), hK1 m (by omega)]
    simp only [Option.bind_some]
    rw [if_pos (by omega), w64 (by omega), show ((d + 1 : Nat) : Int) - 1 = (d : Int) by omega]
    exact hK m (by omega)
theorem l14Text_l0_ev {b : List Int} (hb : Code b) : ∀ (n : Nat) (s : ByteArray) (p : Int), n ≤ 6 → 0 ≤ p → p ≤ 1000000 - 20 * n → s.size + 39 * n ≤ 300 → ∃ (s' : ByteArray) (p' : Int), (s'.size ≤ s.size + 39 * n ∧ p ≤ p' ∧ p' ≤ p + 20 * n) ∧ Ev (fun k => spec_l14Text.l0 k s (n : Int) b p) (s', p') := by
  intro n
  induction n with
  | zero =>
    intro s p hn h0 hp hs
    refine ⟨s, p, by omega, 1, fun k hk => ?_⟩
    obtain ⟨m, rfl⟩ : ∃ m, k = m + 1 := ⟨k - 1, by omega⟩
    try dsimp only
    rw [spec_l14Text.l0, if_neg (by omega)]
  | succ n ih =>
    intro s p hn h0 hp hs
    obtain ⟨v, hv, K1, hK1⟩ := pick_ev hb (p := p) (n := 5) (by omega) (by omega)
    try dsimp only at hK1
    have en : wrap64 (((n + 1 : Nat) : Int) - 1) = (n : Int) := by rw [w64 (by omega)]; omega
    by_cases v0 : v = 0
    · obtain ⟨t, ht, K2, hK2⟩ := of_ev hb (p := p + 1) (by omega) [(⟨#[97]⟩ : ByteArray), (⟨#[98]⟩ : ByteArray), (⟨#[0]⟩ : ByteArray), (⟨#[255]⟩ : ByteArray)] (by decide) (by decide)
      try dsimp only at hK2
      have hts : t.size = 1 := by simp at ht; rcases ht with rfl | rfl | rfl | rfl <;> rfl
      obtain ⟨u, hu, K3, hK3⟩ := pick_ev hb (p := p + 1 + 1) (n := 40) (by omega) (by omega)
      try dsimp only at hK3
      obtain ⟨K4, hK4⟩ := l1Many_ev t u (by omega) (by omega) (by omega)
      try dsimp only at hK4
      try dsimp only at hK4
      have hz := manyM_size t u.toNat
      rw [hts, Nat.mul_one] at hz
      obtain ⟨s', p', hh, K, hK⟩ := ih (s ++ manyM t u.toNat) (p + 1 + 1 + 1) (by omega) (by omega) (by omega) (by rw [ByteArray.size_append]; omega)
      try dsimp only at hK
      rw [ByteArray.size_append] at hh
      refine ⟨s', p', by omega, K + K1 + K2 + K3 + K4 + 1, fun k hk => ?_⟩
      obtain ⟨m, rfl⟩ : ∃ m, k = m + 1 := ⟨k - 1, by omega⟩
      try dsimp only
      rw [spec_l14Text.l0, if_pos (by omega), hK1 m (by omega)]
      simp only [Option.bind_some]
      rw [if_pos v0, hK2 m (by omega)]
      simp only [Option.bind_some]
      rw [hK3 m (by omega)]
      simp only [Option.bind_some]
      rw [hK4 m (by omega)]
      simp only [Option.bind_some]
      rw [if_pos (by omega), en]
      exact hK m (by omega)
    by_cases v1 : v = 1
    · obtain ⟨s', p', hh, K, hK⟩ := ih (s ++ (⟨#[97, 32, 116, 101, 120, 116, 32, 116, 104, 97, 116, 32, 99, 111, 109, 101, 115, 32, 97, 103, 97, 105, 110, 44, 32]⟩ : ByteArray)) (p + 1) (by omega) (by omega) (by omega) (by rw [ByteArray.size_append, show (⟨#[97, 32, 116, 101, 120, 116, 32, 116, 104, 97, 116, 32, 99, 111, 109, 101, 115, 32, 97, 103, 97, 105, 110, 44, 32]⟩ : ByteArray).size = 25 from rfl]; omega)
      try dsimp only at hK
      rw [ByteArray.size_append, show (⟨#[97, 32, 116, 101, 120, 116, 32, 116, 104, 97, 116, 32, 99, 111, 109, 101, 115, 32, 97, 103, 97, 105, 110, 44, 32]⟩ : ByteArray).size = 25 from rfl] at hh
      refine ⟨s', p', by omega, K + K1 + 1, fun k hk => ?_⟩
      obtain ⟨m, rfl⟩ : ∃ m, k = m + 1 := ⟨k - 1, by omega⟩
      try dsimp only
      rw [spec_l14Text.l0, if_pos (by omega), hK1 m (by omega)]
      simp only [Option.bind_some]
      rw [if_neg v0, if_pos v1, if_pos (by omega), en]
      exact hK m (by omega)
    by_cases v2 : v = 2
    · obtain ⟨u, hu, K3, hK3⟩ := pick_ev hb (p := p + 1) (n := 12) (by omega) (by omega)
      try dsimp only at hK3
      obtain ⟨s', p', hh, K, hK⟩ := l14Text_l1_ev hb ((n + 1 : Nat) : Int) (1000000 - 20 * n) (300 - 39 * n) (39 * n) (20 * n) (by omega) (by omega) (fun s p a1 a2 a3 => by rw [en]; exact ih s p (by omega) a1 a2 (by omega)) u.toNat s (p + 1 + 1) (by omega) (by omega) (by omega) (by omega)
      try dsimp only at hK
      rw [Int.toNat_of_nonneg (by omega)] at hK
      refine ⟨s', p', by omega, K + K1 + K3 + 1, fun k hk => ?_⟩
      obtain ⟨m, rfl⟩ : ∃ m, k = m + 1 := ⟨k - 1, by omega⟩
      try dsimp only
      rw [spec_l14Text.l0, if_pos (by omega), hK1 m (by omega)]
      simp only [Option.bind_some]
      rw [if_neg v0, if_neg v1, if_pos v2, hK3 m (by omega)]
      simp only [Option.bind_some]
      exact hK m (by omega)
    · obtain ⟨t, ht, K2, hK2⟩ := of_ev hb (p := p + 1) (by omega) [(⟨#[120]⟩ : ByteArray), (⟨#[97, 98, 99]⟩ : ByteArray), (⟨#[97, 98, 99, 97, 98, 99, 97, 98, 99, 100]⟩ : ByteArray), (⟨#[32]⟩ : ByteArray)] (by decide) (by decide)
      try dsimp only at hK2
      have hts : t.size ≤ 10 := by simp at ht; rcases ht with rfl | rfl | rfl | rfl <;> decide
      obtain ⟨s', p', hh, K, hK⟩ := ih (s ++ t) (p + 1 + 1) (by omega) (by omega) (by omega) (by rw [ByteArray.size_append]; omega)
      try dsimp only at hK
      rw [ByteArray.size_append] at hh
      refine ⟨s', p', by omega, K + K1 + K2 + 1, fun k hk => ?_⟩
      obtain ⟨m, rfl⟩ : ∃ m, k = m + 1 := ⟨k - 1, by omega⟩
      try dsimp only
      rw [spec_l14Text.l0, if_pos (by omega), hK1 m (by omega)]
      simp only [Option.bind_some]
      rw [if_neg v0, if_neg v1, if_neg v2, hK2 m (by omega)]
      simp only [Option.bind_some]
      rw [if_pos (by omega), en]
      exact hK m (by omega)
theorem l14Text_ev {b : List Int} (hb : Code b) {p : Int} (hp : 0 ≤ p ∧ p ≤ 900000) : ∃ (s : ByteArray) (p' : Int), (Short s ∧ p ≤ p' ∧ p' ≤ p + 200) ∧ Ev (fun k => spec_l14Text.f k b p) (s, p') := by
  obtain ⟨v, hv, K1, hK1⟩ := pick_ev hb (p := p) (n := 150) (by omega) (by omega)
  try dsimp only at hK1
  by_cases v0 : v = 0
  · obtain ⟨u, hu, K2, hK2⟩ := pick_ev hb (p := p + 1) (n := 2) (by omega) (by omega)
    try dsimp only at hK2
    obtain ⟨K3, hK3⟩ := l1Many_ev (⟨#[116]⟩ : ByteArray) (9000 + u) (by omega) (by omega) (by decide)
    try dsimp only at hK3
    try dsimp only at hK3
    refine ⟨manyM ⟨#[116]⟩ (9000 + u).toNat, p + 1 + 1, ⟨?_, by omega, by omega⟩, K1 + K2 + K3, fun k hk => ?_⟩
    · exact .inr ⟨_, by omega, rfl⟩
    · dsimp only
      unfold spec_l14Text.f
      rw [hK1 k (by omega)]
      simp only [Option.bind_some]
      rw [if_pos v0, hK2 k (by omega)]
      simp only [Option.bind_some]
      rw [w64 (by omega), hK3 k (by omega)]
      rfl
  · obtain ⟨u, hu, K2, hK2⟩ := pick_ev hb (p := p + 1) (n := 7) (by omega) (by omega)
    try dsimp only at hK2
    obtain ⟨s', p', hh, K, hK⟩ := l14Text_l0_ev hb u.toNat (⟨#[]⟩ : ByteArray) (p + 1 + 1) (by omega) (by omega) (by omega) (by rw [show (⟨#[]⟩ : ByteArray).size = 0 from rfl]; omega)
    try dsimp only at hK
    rw [show (⟨#[]⟩ : ByteArray).size = 0 from rfl] at hh
    rw [Int.toNat_of_nonneg (by omega)] at hK
    refine ⟨s', p', ⟨.inl (by omega), by omega, by omega⟩, K + K1 + K2, fun k hk => ?_⟩
    try dsimp only
    unfold spec_l14Text.f
    rw [hK1 k (by omega)]
    simp only [Option.bind_some]
    rw [if_neg v0, hK2 k (by omega)]
    simp only [Option.bind_some]
    exact hK k (by omega)
theorem wiPow_l0_ev (n : Nat) (hn : n ≤ 59) : ∀ d i : Nat, i + d = n → Ev (fun k => laws_wiPow.l0 k (n : Int) (P2 i) (i : Int)) (P2 n) := by
  intro d
  induction d with
  | zero =>
    intro i hi
    refine ⟨1, fun k hk => ?_⟩
    try dsimp only
    obtain ⟨m, rfl⟩ : ∃ m, k = m + 1 := ⟨k - 1, by omega⟩
    rw [laws_wiPow.l0, if_neg (by omega), show i = n by omega]
  | succ d ih =>
    intro i hi
    obtain ⟨K, hK⟩ := ih (i + 1) (by omega)
    try dsimp only at hK
    refine ⟨K + 1, fun k hk => ?_⟩
    try dsimp only
    obtain ⟨m, rfl⟩ : ∃ m, k = m + 1 := ⟨k - 1, by omega⟩
    have hm := hK m (by omega)
    have hb := P2_62b (n := i) (by omega)
    have hb' := P2_62b (n := i + 1) (by omega)
    have hs := P2_succ i
    rw [laws_wiPow.l0, if_pos (by omega), if_pos (by omega), w64 (by omega), w64 (by omega), show P2 i * 2 = P2 (i + 1) by omega, show (i : Int) + 1 = ((i + 1 : Nat) : Int) by omega]
    exact hm
theorem wiPow_ev (n : Int) (h0 : 0 ≤ n) (hn : n ≤ 59) : Ev (fun k => laws_wiPow.f k n) (P2 n.toNat) := by
  have h := wiPow_l0_ev n.toNat (by omega) n.toNat 0 (by omega)
  rw [Int.toNat_of_nonneg h0] at h
  exact h

theorem drawBitsGet_ev {b : List Int} (hb : ∀ x ∈ b, (Lit.int .u8 x).wf = true) : ∃ (s : ByteArray) (at_ size : Int) (high : Bool), (s.size ≤ 9001 ∧ 0 ≤ size ∧ size ≤ 25) ∧ Ev (fun k => spec_DrawBitsGet.f k b) (s, at_, size, high) := by
  have hc := code_open hb
  obtain ⟨s, p1, hs, K1, hK1⟩ := l14Text_ev hc (p := 0) (by omega)
  try dsimp only at hK1
  have hz := short_size hs.1
  obtain ⟨v, hv, K2, hK2⟩ := pick_ev hc (p := p1) (n := 8 * (s.size : Int) + 9) (by omega) (by omega)
  try dsimp only at hK2
  obtain ⟨u, hu, K3, hK3⟩ := pick_ev hc (p := p1 + 1) (n := 26) (by omega) (by omega)
  try dsimp only at hK3
  obtain ⟨w, hw, K4, hK4⟩ := pick_ev hc (p := p1 + 1 + 1) (n := 2) (by omega) (by omega)
  try dsimp only at hK4
  refine ⟨s, wrap64 (v - 1), u, w == 0, by omega, K1 + K2 + K3 + K4, fun k hk => ?_⟩
  try dsimp only
  unfold spec_DrawBitsGet.f
  rw [l1Open_f, Option.bind_some]
  try dsimp only
  rw [hK1 k (by omega), Option.bind_some]
  try dsimp only
  rw [w64 (x := 8 * (s.size : Int)) (by omega), w64 (x := 8 * (s.size : Int) + 9) (by omega), hK2 k (by omega), Option.bind_some]
  try dsimp only
  rw [hK3 k (by omega), Option.bind_some]
  try dsimp only
  rw [hK4 k (by omega), Option.bind_some]
theorem law_l0_ev (s : ByteArray) (at_ : Int) (size : Nat) (high : Bool) (h0 : 0 ≤ at_) (hz : size ≤ 24) (h1 : at_ + size ≤ 8 * s.size) (hs : s.size ≤ 9000) :
    ∀ d i : Nat, i + d = size + 1 → Ev (fun k => laws_FnBitsGet.l0 k s at_ (size : Int) high (bitsM s at_ high size) (i : Int)) true := by
  intro d
  induction d with
  | zero =>
    intro i hi
    refine ⟨1, fun k hk => ?_⟩
    try dsimp only
    obtain ⟨m, rfl⟩ : ∃ m, k = m + 1 := ⟨k - 1, by omega⟩
    rw [laws_FnBitsGet.l0, if_neg (by omega)]
  | succ d ih =>
    intro i hi
    obtain ⟨K, hK⟩ := ih (i + 1) (by omega)
    try dsimp only at hK
    obtain ⟨K1, hK1⟩ := impl_BitsGet_ev s at_ (i : Int) high (by omega)
    try dsimp only at hK1
    obtain ⟨K2, hK2⟩ := impl_BitsGet_ev s (at_ + i) ((size : Int) - i) high (by omega)
    try dsimp only at hK2
    have e1 : bitsGetM s at_ (i : Int) high = (bitsM s at_ high i, true) := by
      unfold bitsGetM; rw [if_pos (by omega), Int.toNat_natCast]
    have e2 : bitsGetM s (at_ + i) ((size : Int) - i) high = (bitsM s (at_ + i) high (size - i), true) := by
      unfold bitsGetM; rw [if_pos (by omega), show ((size : Int) - i).toNat = size - i by omega]
    have b1 := bitsM_b s at_ high i
    have b2 := bitsM_b s (at_ + i) high (size - i)
    have p1 := P2_b (n := i) (m := 24) (by omega)
    have p2 := P2_b (n := size - i) (m := 24) (by omega)
    rw [P2_24] at p1 p2
    cases high
    · obtain ⟨K3, hK3⟩ := wiPow_ev (i : Int) (by omega) (by omega)
      try dsimp only at hK3
      refine ⟨K + K1 + K2 + K3 + 1, fun k hk => ?_⟩
      try dsimp only
      obtain ⟨m, rfl⟩ : ∃ m, k = m + 1 := ⟨k - 1, by omega⟩
      have hm := hK m (by omega)
      have hadd := bitsLo_add s at_ i (size - i)
      rw [show i + (size - i) = size by omega] at hadd
      have hmul : 0 ≤ bitsLo s (at_ + i) (size - i) * P2 i ∧ bitsLo s (at_ + i) (size - i) * P2 i ≤ 16777216 * 16777216 := by
        simp only [bitsM, Bool.false_eq_true, if_false] at b2
        exact ⟨Int.mul_nonneg b2.1 (by omega), Int.mul_le_mul (by omega) p1.2 (by omega) (by omega)⟩
      simp only [bitsM, Bool.false_eq_true, if_false] at *
      rw [laws_FnBitsGet.l0, if_pos (by omega), hK1 m (by omega)]
      simp only [Option.bind_some]
      rw [w64 (x := at_ + i) (by omega), w64 (x := (size : Int) - i) (by omega), hK2 m (by omega), e1, e2]
      simp only [Option.bind_some, if_true, Bool.false_eq_true, if_false]
      rw [hK3 m (by omega)]
      simp only [Option.bind_some, Int.toNat_natCast]
      rw [w64 (x := bitsLo s (at_ + i) (size - i) * P2 i) (by omega), w64 (by omega), if_pos hadd, w64 (by omega)]
      exact hm
    · obtain ⟨K3, hK3⟩ := wiPow_ev ((size : Int) - i) (by omega) (by omega)
      try dsimp only at hK3
      refine ⟨K + K1 + K2 + K3 + 1, fun k hk => ?_⟩
      try dsimp only
      obtain ⟨m, rfl⟩ : ∃ m, k = m + 1 := ⟨k - 1, by omega⟩
      have hm := hK m (by omega)
      have hadd := bitsHi_add s at_ i (size - i)
      rw [show i + (size - i) = size by omega] at hadd
      have hmul : 0 ≤ bitsHi s at_ i * P2 (size - i) ∧ bitsHi s at_ i * P2 (size - i) ≤ 16777216 * 16777216 := by
        simp only [bitsM, if_true] at b1
        exact ⟨Int.mul_nonneg b1.1 (by omega), Int.mul_le_mul (by omega) p2.2 (by omega) (by omega)⟩
      simp only [bitsM, if_true] at *
      rw [laws_FnBitsGet.l0, if_pos (by omega), hK1 m (by omega)]
      simp only [Option.bind_some]
      rw [w64 (x := at_ + i) (by omega), w64 (x := (size : Int) - i) (by omega), hK2 m (by omega), e1, e2]
      simp only [Option.bind_some, if_true]
      rw [hK3 m (by omega)]
      simp only [Option.bind_some]
      rw [show ((size : Int) - i).toNat = size - i by omega, w64 (x := bitsHi s at_ i * P2 (size - i)) (by omega), w64 (by omega), if_pos hadd, w64 (by omega)]
      exact hm
theorem FnBitsGet : laws_FnBitsGet.Pure := by
  intro l hl hl1 hw
  unfold laws_FnBitsGet.f
  by_cases h : (l.length : Int) > 1048576
  · exact ⟨0, by rw [if_pos h]⟩
  obtain ⟨s, at_, size, high, hh, K1, hK1⟩ := drawBitsGet_ev hw
  try dsimp only at hK1
  obtain ⟨K2, hK2⟩ := impl_BitsGet_ev s at_ size high (by omega)
  try dsimp only at hK2
  obtain ⟨K3, hK3⟩ := spec_BitsGet_ev s at_ size high (by omega)
  try dsimp only at hK3
  by_cases hc : 0 ≤ size ∧ size ≤ 24 ∧ s.size ≤ 9000 ∧ 0 ≤ at_ ∧ at_ + size ≤ 8 * s.size
  · have e : bitsGetM s at_ size high = (bitsM s at_ high size.toNat, true) := by unfold bitsGetM; rw [if_pos hc]
    rw [e] at hK2 hK3
    obtain ⟨K4, hK4⟩ := law_l0_ev s at_ size.toNat high hc.2.2.2.1 (by omega) (by omega) (by omega) (size.toNat + 1) 0 (by omega)
    try dsimp only at hK4
    rw [Int.toNat_of_nonneg hc.1] at hK4
    refine ⟨K1 + K2 + K3 + K4 + 1, ?_⟩
    rw [if_neg h]
    simp only [hK1 (K1 + K2 + K3 + K4 + 1) (by omega), hK2 (K1 + K2 + K3 + K4 + 1) (by omega), hK3 (K1 + K2 + K3 + K4 + 1) (by omega), Option.bind_some, if_true, bne_self_eq_false, Bool.false_eq_true, if_false]
    rw [laws_FnBitsGet.j0]
    simp only [Bool.not_true, Bool.false_eq_true, if_false]
    exact hK4 _ (by omega)
  · have e : bitsGetM s at_ size high = (0, false) := by unfold bitsGetM; rw [if_neg hc]
    rw [e] at hK2 hK3
    refine ⟨K1 + K2 + K3 + 1, ?_⟩
    rw [if_neg h]
    simp only [hK1 (K1 + K2 + K3 + 1) (by omega), hK2 (K1 + K2 + K3 + 1) (by omega), hK3 (K1 + K2 + K3 + 1) (by omega), Option.bind_some, if_true, bne_self_eq_false, Bool.false_eq_true, if_false]
    rw [laws_FnBitsGet.j0]
    simp

end Go.Proofs.Ytfladcffgblfdaa.Pure
