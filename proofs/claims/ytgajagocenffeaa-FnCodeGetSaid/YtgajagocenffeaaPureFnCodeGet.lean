/- Of each text, place and lengths that the reference draws from a list of at most 1048576 bytes (a longer one is let by): the program's CodeGet answers as the reference; where there is a symbol, its bits, as CodePut puts them, stand at the place, and the place behind it is as many bits further. -/
import Derived.Test.YtgajagocenffeaaHFnCodeGetx12
import Derived.Test.YtgajagocenffeaaThNum
import Derived.Test.YtgajagocenffeaaThXor
import Derived.Test.YtgajagocenffeaaThFit
import Derived.Test.YtgajagocenffeaaThMake
import Derived.Test.YtgajagocenffeaaThCode
import Derived.Test.YtgajagocenffeaaThCodePut
import Derived.Test.YtgajagocenffeaaThStr
import Derived.Test.YtgajagocenffeaaThGetPut
import Derived.Test.YtgajagocenffeaaThGetM
namespace Go.Proofs.Ytgajagocenffeaa.Pure
open Go.RowKit Go.Proofs.Ytgajagocenffeaa.PFnCodeGet Go.Proofs.YtgajagocenffeaaW.PrintWords Go.Proofs.YtgajagocenffeaaW.PrintLast Go.Proofs.YtgajagocenffeaaW.PrintMore Go.Proofs.Ytgajagocenffeaa.Th
set_option linter.unusedVariables false
set_option linter.unusedSimpArgs false

/-- A drawing's bytes. -/
def Code (b : List Int) : Prop := b.length ≤ 2000 ∧ ∀ x ∈ b, 0 ≤ x ∧ x ≤ 255
theorem l1Open_f (l : List Int) : spec_l1Open.f l = some (l.take 2000, 0) := by
  unfold spec_l1Open.f
  by_cases h : (l.length : Int) > 2000
  · rw [if_pos h, if_pos (by omega)]
  · rw [if_neg h, List.take_of_length_le (by omega)]
theorem code_open {l : List Int} (h : ∀ x ∈ l, (Lit.int .u8 x).wf = true) : Code (l.take 2000) := by
  refine ⟨by rw [List.length_take]; omega, fun x hx => ?_⟩
  have := h x (List.mem_of_mem_take hx)
  simp [Lit.wf, IntKind.min, IntKind.max, IntKind.bits, IntKind.signed] at this
  omega
theorem code_rd {b : List Int} (h : Code b) (i : Int) : 0 ≤ rd b i ∧ rd b i ≤ 255 := by
  rcases rd_mem_or b i with h1 | h1
  · exact h.2 _ h1
  · omega
/-- What is picked is there, and the place is one further. -/
theorem pick_ev {b : List Int} (hb : Code b) {p n : Int} (hp : 0 ≤ p ∧ p ≤ 1099511627776) (hn : n ≤ 1099511627776) : ∃ v : Int, (0 ≤ v ∧ (v < n ∨ n < 1 ∧ v = 0)) ∧ Ev (fun k => spec_l1Rd_pick.f k b p n) (v, p + 1) := by
  unfold spec_l1Rd_pick.f
  rw [w64 (x := p + 1) (by omega)]
  by_cases h1 : n < 1
  · refine ⟨0, ⟨by omega, .inr ⟨h1, rfl⟩⟩, 1, fun k hk => ?_⟩
    try dsimp only
    obtain ⟨m, rfl⟩ : ∃ m, k = m + 1 := ⟨k - 1, by omega⟩
    try dsimp only
    rw [if_pos h1, spec_l1Rd_pick.j0, if_pos rfl]
  by_cases h2 : b.length = 0
  · refine ⟨0, ⟨by omega, .inl (by omega)⟩, 1, fun k hk => ?_⟩
    try dsimp only
    obtain ⟨m, rfl⟩ : ∃ m, k = m + 1 := ⟨k - 1, by omega⟩
    try dsimp only
    rw [if_neg h1, spec_l1Rd_pick.j0, if_pos (by simp [h2])]
  have e0 : wrap64 (p + 1 - 1) = p := by rw [w64 (by omega)]; omega
  by_cases h3 : p < b.length
  · have hr := code_rd hb p
    refine ⟨rd b p % n, ⟨Int.emod_nonneg _ (by omega), .inl (Int.emod_lt_of_pos _ (by omega))⟩, 1, fun k hk => ?_⟩
    try dsimp only
    obtain ⟨m, rfl⟩ : ∃ m, k = m + 1 := ⟨k - 1, by omega⟩
    try dsimp only
    rw [if_neg h1, spec_l1Rd_pick.j0, if_neg (by simpa using h2), e0, if_pos h3, if_pos hp.1, if_neg (by omega), w64 (by omega), tmod_pos hr.1]
  · have hl := hb.1
    have m1 : 0 ≤ p % (b.length : Int) ∧ p % (b.length : Int) < b.length := ⟨Int.emod_nonneg _ (by omega), Int.emod_lt_of_pos _ (by omega)⟩
    have m2 : 0 ≤ (p * 7 + 3) % (b.length : Int) ∧ (p * 7 + 3) % (b.length : Int) < b.length := ⟨Int.emod_nonneg _ (by omega), Int.emod_lt_of_pos _ (by omega)⟩
    have r1 := code_rd hb (p % (b.length : Int))
    have r2 := code_rd hb ((p * 7 + 3) % (b.length : Int))
    have q1 : 0 ≤ p / (b.length : Int) := Int.ediv_nonneg hp.1 (by omega)
    have q2 : p / (b.length : Int) ≤ p := Int.ediv_le_self _ hp.1
    obtain ⟨X, hX⟩ : ∃ X, X = rd b (p % (b.length : Int)) * 131 + rd b ((p * 7 + 3) % (b.length : Int)) * 1117 + p * 29 + p / (b.length : Int) * 53 := ⟨_, rfl⟩
    have bX : 0 ≤ X ∧ X ≤ 4611686018427387904 := by omega
    have hx := xor_b (x := X) (y := X / 64) (by omega) (by omega)
    refine ⟨Go.bits .xor .i64 X (X / 64) % n, ⟨Int.emod_nonneg _ (by omega), .inl (Int.emod_lt_of_pos _ (by omega))⟩, 1, fun k hk => ?_⟩
    try dsimp only
    obtain ⟨m, rfl⟩ : ∃ m, k = m + 1 := ⟨k - 1, by omega⟩
    try dsimp only
    rw [if_neg h1, spec_l1Rd_pick.j0, if_neg (by simpa using h2), e0, if_neg h3, if_neg (by omega)]
    rw [w64 (x := p * 7) (by omega), w64 (x := p * 7 + 3) (by omega), tmod_pos (a := p) hp.1, tmod_pos (a := p * 7 + 3) (by omega), tdiv_pos (a := p) hp.1]
    rw [if_pos m1.1, if_pos m1.2, if_pos m2.1, if_pos m2.2, if_neg (by omega)]
    rw [w64 (x := rd b (p % (b.length : Int))) (by omega), w64 (x := rd b ((p * 7 + 3) % (b.length : Int))) (by omega), w64 (x := p / (b.length : Int)) (by omega)]
    rw [w64 (x := rd b (p % (b.length : Int)) * 131) (by omega), w64 (x := rd b ((p * 7 + 3) % (b.length : Int)) * 1117) (by omega), w64 (x := p * 29) (by omega), w64 (x := p / (b.length : Int) * 53) (by omega)]
    rw [w64 (x := rd b (p % (b.length : Int)) * 131 + rd b ((p * 7 + 3) % (b.length : Int)) * 1117) (by omega), w64 (x := rd b (p % (b.length : Int)) * 131 + rd b ((p * 7 + 3) % (b.length : Int)) * 1117 + p * 29) (by omega), w64 (x := rd b (p % (b.length : Int)) * 131 + rd b ((p * 7 + 3) % (b.length : Int)) * 1117 + p * 29 + p / (b.length : Int) * 53) (by omega), ← hX]
    rw [tdiv_pos (by omega), w64 (x := X / 64) (by omega), tmod_pos hx.1]
theorem l4SameO_l0_ev (x : Int) (n : Nat) (hn : n ≤ 100000) : ∀ d i : Nat, i + d = n → Ev (fun k => spec_l4Same.l0 k x (n : Int) (List.replicate i x) (i : Int)) (List.replicate n x) := by
  intro d
  induction d with
  | zero =>
    intro i hi
    refine ⟨1, fun k hk => ?_⟩
    try dsimp only
    obtain ⟨m, rfl⟩ : ∃ m, k = m + 1 := ⟨k - 1, by omega⟩
    rw [spec_l4Same.l0, if_neg (by omega), show i = n by omega]
  | succ d ih =>
    intro i hi
    obtain ⟨K, hK⟩ := ih (i + 1) (by omega)
    try dsimp only at hK
    refine ⟨K + 1, fun k hk => ?_⟩
    try dsimp only
    obtain ⟨m, rfl⟩ : ∃ m, k = m + 1 := ⟨k - 1, by omega⟩
    have hm := hK m (by omega)
    rw [spec_l4Same.l0, if_pos (by omega), if_pos (by rw [List.length_replicate]; omega), w64 (by omega)]
    rw [List.replicate_succ', show ((i + 1 : Nat) : Int) = (i : Int) + 1 by omega] at hm
    exact hm
theorem l4SameO_ev (x n : Int) (h0 : 0 ≤ n) (hn : n ≤ 100000) : Ev (fun k => spec_l4Same.f k x n) (List.replicate n.toNat x) := by
  have h := l4SameO_l0_ev x n.toNat (by omega) n.toNat 0 (by omega)
  rw [Int.toNat_of_nonneg h0] at h
  exact h
theorem l1Pow_l0_ev (n : Nat) (hn : n ≤ 62) : ∀ d i : Nat, i + d = n → Ev (fun k => spec_l1Pow.l0 k (n : Int) (P2 i) (i : Int)) (P2 n) := by
  intro d
  induction d with
  | zero =>
    intro i hi
    refine ⟨1, fun k hk => ?_⟩
    try dsimp only
    obtain ⟨m, rfl⟩ : ∃ m, k = m + 1 := ⟨k - 1, by omega⟩
    rw [spec_l1Pow.l0, if_neg (by omega), show i = n by omega]
  | succ d ih =>
    intro i hi
    obtain ⟨K, hK⟩ := ih (i + 1) (by omega)
    try dsimp only at hK
    refine ⟨K + 1, fun k hk => ?_⟩
    try dsimp only
    obtain ⟨m, rfl⟩ : ∃ m, k = m + 1 := ⟨k - 1, by omega⟩
    have hm := hK m (by omega)
    have hb := P2_62b (n := i) (by omega)
    have hb' := P2_62b (n := i + 1) (by omega)
    have hs := P2_succ i
    rw [spec_l1Pow.l0, if_pos (by omega), w64 (by omega), w64 (by omega), show P2 i * 2 = P2 (i + 1) by omega, show (i : Int) + 1 = ((i + 1 : Nat) : Int) by omega]
    exact hm
theorem l1Pow_ev (n : Nat) (hn : n ≤ 62) : Ev (fun k => spec_l1Pow.f k (n : Int)) (P2 n) := l1Pow_l0_ev n hn n 0 (by omega)
theorem l1Pow_evI (n : Int) (h0 : 0 ≤ n) (hn : n ≤ 62) : Ev (fun k => spec_l1Pow.f k n) (P2 n.toNat) := by
  have h := l1Pow_ev n.toNat (by omega)
  rw [Int.toNat_of_nonneg h0] at h
  exact h
/-- How often each comes, as it is drawn: few of them, or all once. -/
def OftenOk (L : List Int) : Prop := (L.length ≤ 14 ∧ ∀ v ∈ L, -1 ≤ v ∧ v ≤ 9001) ∨ ∃ n : Nat, n ≤ 301 ∧ L = List.replicate n 1
theorem OftenOk.len {L : List Int} (h : OftenOk L) : L.length ≤ 301 := by
  rcases h with h | ⟨n, hn, rfl⟩
  · omega
  · rw [List.length_replicate]; exact hn
theorem mem_rd {L : List Int} {i : Int} (h0 : 0 ≤ i) (h1 : i < L.length) : rd L i ∈ L := by
  unfold rd
  rw [List.getD_eq_getElem?_getD, List.getElem?_eq_getElem (by omega)]
  exact List.getElem_mem _
theorem l14Often_l0_ev {b : List Int} (hb : Code b) : ∀ (n : Nat) (L : List Int) (p : Int), n + L.length ≤ 13 → 0 ≤ p → p ≤ 1000000 - 4 * n → (∀ v ∈ L, -1 ≤ v ∧ v ≤ 9001) →
    ∃ (L' : List Int) (p' : Int), (OftenOk L' ∧ p ≤ p' ∧ p' ≤ p + 4 * n + 2) ∧ Ev (fun k => spec_l14Often.l0 k L (n : Int) b p) (L', p') := by
  intro n
  induction n with
  | zero =>
    intro L p hn h0 h1 hL
    obtain ⟨v, hv, K1, hK1⟩ := pick_ev hb (p := p) (n := 20) (by omega) (by omega)
    try dsimp only at hK1
    try dsimp only at hK1
    by_cases hz : v = 0
    · obtain ⟨u, hu, K2, hK2⟩ := pick_ev hb (p := p + 1) (n := 2) (by omega) (by omega)
      try dsimp only at hK2
      try dsimp only at hK2
      have hm := mem_rd (L := [(-1 : Int), 9001]) (i := u) (by omega) (by simp; omega)
      refine ⟨L ++ [rd [(-1), 9001] u], p + 1 + 1, ⟨.inl ⟨by simp; omega, fun x hx => ?_⟩, by omega, by omega⟩, K1 + K2 + 1, fun k hk => ?_⟩
      try dsimp only
      · rcases List.mem_append.1 hx with hx | hx
        · exact hL x hx
        · rw [List.mem_singleton] at hx
          rw [hx]
          simp only [List.mem_cons, List.not_mem_nil, or_false] at hm
          omega
      · dsimp only
        obtain ⟨m, rfl⟩ : ∃ m, k = m + 1 := ⟨k - 1, by omega⟩
        rw [spec_l14Often.l0, if_neg (by omega), hK1 m (by omega), Option.bind_some]
        try dsimp only
        rw [if_pos hz, Option.bind_some, hK2 m (by omega), Option.bind_some]
        try dsimp only
        rw [if_pos (by omega), if_pos (by simp; omega), if_pos (by omega)]
    · refine ⟨L, p + 1, ⟨.inl ⟨by omega, hL⟩, by omega, by omega⟩, K1 + 1, fun k hk => ?_⟩
      try dsimp only
      obtain ⟨m, rfl⟩ : ∃ m, k = m + 1 := ⟨k - 1, by omega⟩
      rw [spec_l14Often.l0, if_neg (by omega), hK1 m (by omega), Option.bind_some]
      try dsimp only
      rw [if_neg hz]
  | succ n ih =>
    intro L p hn h0 h1 hL
    obtain ⟨v1, hv1, K1, hK1⟩ := pick_ev hb (p := p) (n := 5) (by omega) (by omega)
    try dsimp only at hK1
    try dsimp only at hK1
    obtain ⟨v2, hv2, K2, hK2⟩ := pick_ev hb (p := p + 1) (n := 90) (by omega) (by omega)
    try dsimp only at hK2
    try dsimp only at hK2
    obtain ⟨v3, hv3, K3, hK3⟩ := pick_ev hb (p := p + 1 + 1) (n := 12) (by omega) (by omega)
    try dsimp only at hK3
    try dsimp only at hK3
    obtain ⟨K4, hK4⟩ := l1Pow_evI v3 (by omega) (by omega)
    try dsimp only at hK4
    try dsimp only at hK4
    have hp := P2_b (n := v3.toNat) (m := 11) (by omega)
    have e11 : P2 11 = 2048 := rfl
    rw [e11] at hp
    obtain ⟨v5, hv5, K5, hK5⟩ := pick_ev hb (p := p + 1 + 1 + 1) (n := 5) (by omega) (by omega)
    try dsimp only at hK5
    try dsimp only at hK5
    have hm := mem_rd (L := [0, 1, v1, v2, P2 v3.toNat]) (i := v5) (by omega) (by simp; omega)
    obtain ⟨L', p', hh, K6, hK6⟩ := ih (L ++ [rd [0, 1, v1, v2, P2 v3.toNat] v5]) (p + 1 + 1 + 1 + 1) (by simp; omega) (by omega) (by omega) (fun x hx => by
      rcases List.mem_append.1 hx with hx | hx
      · exact hL x hx
      · rw [List.mem_singleton] at hx
        rw [hx]
        simp only [List.mem_cons, List.not_mem_nil, or_false] at hm
        omega)
    refine ⟨L', p', ⟨hh.1, by omega, by omega⟩, K1 + K2 + K3 + K4 + K5 + K6 + 1, fun k hk => ?_⟩
    try dsimp only
    obtain ⟨m, rfl⟩ : ∃ m, k = m + 1 := ⟨k - 1, by omega⟩
    have h6 := hK6 m (by omega)
    rw [spec_l14Often.l0, if_pos (by omega), hK1 m (by omega), Option.bind_some]
    try dsimp only
    rw [hK2 m (by omega), Option.bind_some]
    try dsimp only
    rw [hK3 m (by omega), Option.bind_some]
    try dsimp only
    rw [hK4 m (by omega), Option.bind_some, Option.bind_some, hK5 m (by omega), Option.bind_some]
    try dsimp only
    rw [if_pos (by omega), if_pos (by simp; omega), if_pos (by omega), w64 (by omega), show ((n + 1 : Nat) : Int) - 1 = (n : Int) by omega]
    exact h6
theorem l14Often_ev {b : List Int} (hb : Code b) {p : Int} (h0 : 0 ≤ p) (h1 : p ≤ 200000) : ∃ (L : List Int) (p' : Int), (OftenOk L ∧ p ≤ p' ∧ p' ≤ p + 100) ∧ Ev (fun k => spec_l14Often.f k b p) (L, p') := by
  obtain ⟨v1, hv1, K1, hK1⟩ := pick_ev hb (p := p) (n := 80) (by omega) (by omega)
  try dsimp only at hK1
  try dsimp only at hK1
  by_cases hz : v1 = 0
  · obtain ⟨v2, hv2, K2, hK2⟩ := pick_ev hb (p := p + 1) (n := 2) (by omega) (by omega)
    try dsimp only at hK2
    try dsimp only at hK2
    obtain ⟨K3, hK3⟩ := l4SameO_ev 1 (300 + v2) (by omega) (by omega)
    try dsimp only at hK3
    try dsimp only at hK3
    refine ⟨List.replicate (300 + v2).toNat 1, p + 1 + 1, ⟨.inr ⟨_, by omega, rfl⟩, by omega, by omega⟩, K1 + K2 + K3, fun k hk => ?_⟩
    try dsimp only
    try dsimp only
    unfold spec_l14Often.f
    rw [hK1 k (by omega), Option.bind_some]
    try dsimp only
    rw [if_pos hz, hK2 k (by omega), Option.bind_some]
    try dsimp only
    rw [w64 (by omega), hK3 k (by omega), Option.bind_some]
  · obtain ⟨v2, hv2, K2, hK2⟩ := pick_ev hb (p := p + 1) (n := 14) (by omega) (by omega)
    try dsimp only at hK2
    try dsimp only at hK2
    obtain ⟨L', p', hh, K3, hK3⟩ := l14Often_l0_ev hb v2.toNat [] (p + 1 + 1) (by simp; omega) (by omega) (by omega) (fun v hv => by simp at hv)
    rw [Int.toNat_of_nonneg (by omega)] at hK3
    try dsimp only at hK3
    refine ⟨L', p', ⟨hh.1, by omega, by omega⟩, K1 + K2 + K3, fun k hk => ?_⟩
    try dsimp only
    try dsimp only
    unfold spec_l14Often.f
    rw [hK1 k (by omega), Option.bind_some]
    try dsimp only
    rw [if_neg hz, hK2 k (by omega), Option.bind_some]
    try dsimp only
    exact hK3 k (by omega)
theorem l1In_f (a b c : Int) : spec_l1In.f a b c = some (decide (b ≤ a ∧ a ≤ c)) := by
  unfold spec_l1In.f
  by_cases h : b ≤ a
  · rw [if_pos h]; simp [h]
  · rw [if_neg h]; simp [h]
theorem l3Tree_f (l : List Int) (hl : l.length ≤ 300) (hv : ∀ v ∈ l, v ≤ 4294967296) : spec_l3Tree.f l = some (treeM l) := by
  unfold spec_l3Tree.f
  rw [if_pos ⟨hl, hv⟩]
theorem l3Room_l0_ev (l : List Int) (hl : l.length ≤ 1048576) (m : Int) : ∀ (suf pre : List Int), l = pre ++ suf → (∀ v ∈ pre, 0 ≤ v ∧ v ≤ 9000) → Ev (fun k => spec_l3Room.l0 k l m (manyM pre : Int) (pre.length : Int)) (roomM l m) := by
  intro suf
  induction suf with
  | nil =>
    intro pre hp h0
    have hpl : pre = l := by rw [hp]; simp
    subst hpl
    by_cases c : 1 ≤ m ∧ m ≤ 15
    · obtain ⟨K, hK⟩ := l1Pow_evI m (by omega) (by omega)
      try dsimp only at hK
      refine ⟨K + 1, fun k hk => ?_⟩
      try dsimp only
      obtain ⟨n, rfl⟩ : ∃ n, k = n + 1 := ⟨k - 1, by omega⟩
      rw [spec_l3Room.l0, if_neg (by omega), l1In_f, Option.bind_some, if_pos (decide_eq_true c), hK n (by omega), Option.bind_some]
      unfold P2 roomM
      by_cases c2 : manyM pre ≤ 2 ^ m.toNat
      · rw [if_pos (by omega)]
        congr 1
        rw [decide_eq_decide]
        exact ⟨fun h => ⟨h0, c.1, c.2, c2, by omega⟩, fun h => by omega⟩
      · rw [if_neg (by omega), decide_eq_false (fun h => c2 h.2.2.2.1)]
    · refine ⟨1, fun k hk => ?_⟩
      try dsimp only
      obtain ⟨n, rfl⟩ : ∃ n, k = n + 1 := ⟨k - 1, by omega⟩
      rw [spec_l3Room.l0, if_neg (by omega), l1In_f, Option.bind_some, if_neg (by simpa using c)]
      unfold roomM
      rw [decide_eq_false (fun h => c ⟨h.2.1, h.2.2.1⟩)]
  | cons x suf ih =>
    intro pre hp h0
    have hll : l.length = pre.length + suf.length + 1 := by rw [hp]; simp; omega
    have hx : rd l (pre.length : Int) = x := by rw [hp]; exact rd_at _ _ _ rfl
    have hml := manyM_le pre
    by_cases c : 0 ≤ x ∧ x ≤ 9000
    · obtain ⟨K, hK⟩ := ih (pre ++ [x]) (by simp [hp]) (fun v hv => by
        rcases List.mem_append.1 hv with hv | hv
        · exact h0 v hv
        · rw [List.mem_singleton] at hv; rw [hv]; exact c)
      try dsimp only at hK
      refine ⟨K + 1, fun k hk => ?_⟩
      try dsimp only
      obtain ⟨n, rfl⟩ : ∃ n, k = n + 1 := ⟨k - 1, by omega⟩
      have hm := hK n (by omega)
      rw [List.length_append, List.length_singleton, show ((pre.length + 1 : Nat) : Int) = (pre.length : Int) + 1 by omega, manyM_append, manyM_cons] at hm
      rw [spec_l3Room.l0, if_pos (by omega), if_pos (by omega), hx, l1In_f, Option.bind_some, if_pos (decide_eq_true c)]
      by_cases c2 : 0 < x
      · rw [if_pos c2] at hm
        rw [if_pos c2, w64 (by omega), w64 (by omega)]
        rw [show ((manyM pre + (1 + manyM []) : Nat) : Int) = (manyM pre : Int) + 1 by simp [manyM, leavesN]] at hm
        exact hm
      · rw [if_neg c2] at hm
        rw [if_neg c2, w64 (by omega)]
        rw [show ((manyM pre + (0 + manyM []) : Nat) : Int) = (manyM pre : Int) by simp [manyM, leavesN]] at hm
        exact hm
    · refine ⟨1, fun k hk => ?_⟩
      try dsimp only
      obtain ⟨n, rfl⟩ : ∃ n, k = n + 1 := ⟨k - 1, by omega⟩
      rw [spec_l3Room.l0, if_pos (by omega), if_pos (by omega), hx, l1In_f, Option.bind_some, if_neg (by simpa using c)]
      unfold roomM
      rw [decide_eq_false (fun h => c (h.1 x (by rw [hp]; simp)))]
theorem l3Room_ev (l : List Int) (hl : l.length ≤ 1048576) (m : Int) : Ev (fun k => spec_l3Room.f k l m) (roomM l m) := l3Room_l0_ev l hl m l [] rfl (fun v hv => by simp at hv)
theorem l3Most_l0_ev (l : List Int) (hl : l.length ≤ 1048576) : ∀ (suf pre : List Int) (M : Int), l = pre ++ suf → 0 ≤ M → ∃ r : Int, (∀ b : Int, 0 ≤ b → (b < r ↔ b < M ∨ ∃ v ∈ suf, b < v)) ∧ Ev (fun k => spec_l3Most.l0 k l M (pre.length : Int)) r := by
  intro suf
  induction suf with
  | nil =>
    intro pre M hp h0
    refine ⟨M, fun b _ => by simp, 1, fun k hk => ?_⟩
    try dsimp only
    obtain ⟨n, rfl⟩ : ∃ n, k = n + 1 := ⟨k - 1, by omega⟩
    rw [spec_l3Most.l0, if_neg (by rw [hp]; simp)]
  | cons x suf ih =>
    intro pre M hp h0
    have hll : l.length = pre.length + suf.length + 1 := by rw [hp]; simp; omega
    have hx : rd l (pre.length : Int) = x := by rw [hp]; exact rd_at _ _ _ rfl
    by_cases c : x > M
    · obtain ⟨r, h1, K, hK⟩ := ih (pre ++ [x]) x (by simp [hp]) (by omega)
      try dsimp only at hK
      refine ⟨r, fun b hb => ?_, K + 1, fun k hk => ?_⟩
      try dsimp only
      · rw [h1 b hb]
        constructor
        · rintro (h | ⟨v, hv, h⟩)
          · exact .inr ⟨x, by simp, h⟩
          · exact .inr ⟨v, by simp [hv], h⟩
        · rintro (h | ⟨v, hv, h⟩)
          · exact .inl (by omega)
          · rcases List.mem_cons.1 hv with rfl | hv
            · exact .inl h
            · exact .inr ⟨v, hv, h⟩
      · dsimp only
        obtain ⟨n, rfl⟩ : ∃ n, k = n + 1 := ⟨k - 1, by omega⟩
        have hm := hK n (by omega)
        rw [List.length_append, List.length_singleton, show ((pre.length + 1 : Nat) : Int) = (pre.length : Int) + 1 by omega] at hm
        rw [spec_l3Most.l0, if_pos (by omega), if_pos (by omega), hx, if_pos c, w64 (by omega)]
        exact hm
    · obtain ⟨r, h1, K, hK⟩ := ih (pre ++ [x]) M (by simp [hp]) h0
      try dsimp only at hK
      refine ⟨r, fun b hb => ?_, K + 1, fun k hk => ?_⟩
      try dsimp only
      · rw [h1 b hb]
        constructor
        · rintro (h | ⟨v, hv, h⟩)
          · exact .inl h
          · exact .inr ⟨v, by simp [hv], h⟩
        · rintro (h | ⟨v, hv, h⟩)
          · exact .inl h
          · rcases List.mem_cons.1 hv with rfl | hv
            · exact .inl (by omega)
            · exact .inr ⟨v, hv, h⟩
      · dsimp only
        obtain ⟨n, rfl⟩ : ∃ n, k = n + 1 := ⟨k - 1, by omega⟩
        have hm := hK n (by omega)
        rw [List.length_append, List.length_singleton, show ((pre.length + 1 : Nat) : Int) = (pre.length : Int) + 1 by omega] at hm
        rw [spec_l3Most.l0, if_pos (by omega), if_pos (by omega), hx, if_neg c, w64 (by omega)]
        exact hm
/-- The test of the greatest against a limit. -/
theorem l3Most_ev (l : List Int) (hl : l.length ≤ 1048576) (m : Int) (hm : 0 ≤ m) : ∃ r : Int, (r > m ↔ overM m l = true) ∧ Ev (fun k => spec_l3Most.f k l) r := by
  obtain ⟨r, h1, hE⟩ := l3Most_l0_ev l hl l [] 0 rfl (by omega)
  refine ⟨r, ?_, hE⟩
  have h2 := h1 m hm
  unfold overM
  rw [List.any_eq_true]
  constructor
  · intro h
    rcases h2.1 h with h | ⟨v, hv, h⟩
    · omega
    · exact ⟨v, hv, decide_eq_true h⟩
  · rintro ⟨v, hv, h⟩
    exact h2.2 (.inr ⟨v, hv, of_decide_eq_true h⟩)
theorem l3Fit_l1_ev (m : Int) (r : List Int) (y : List Int) (hl : y.length ≤ 300) (hy : ∀ v ∈ y, 0 ≤ v ∧ v ≤ 16384) (hnext : Ev (fun k => spec_l3Fit.l0 k m (halfL y) (treeM (halfL y))) r) :
    ∀ (suf pre : List Int), y = pre ++ suf → Ev (fun k => spec_l3Fit.l1 k m (halfL pre ++ suf) (pre.length : Int)) r := by
  intro suf
  induction suf with
  | nil =>
    intro pre hp
    have hpl : pre = y := by rw [hp]; simp
    subst hpl
    obtain ⟨K, hK⟩ := hnext
    try dsimp only at hK
    refine ⟨K + 1, fun k hk => ?_⟩
    try dsimp only
    obtain ⟨n, rfl⟩ : ∃ n, k = n + 1 := ⟨k - 1, by omega⟩
    rw [spec_l3Fit.l1, if_neg (by rw [List.append_nil, halfL_length]; omega), List.append_nil, l3Tree_f _ (by rw [halfL_length]; exact hl) (fun v hv => by
      obtain ⟨u, hu, rfl⟩ := List.mem_map.1 hv
      have := hy u hu; omega), Option.bind_some]
    exact hK n (by omega)
  | cons x suf ih =>
    intro pre hp
    have hx0 := hy x (by rw [hp]; simp)
    have hll : y.length = pre.length + suf.length + 1 := by rw [hp]; simp; omega
    obtain ⟨K, hK⟩ := ih (pre ++ [x]) (by simp [hp])
    try dsimp only at hK
    have e1 : halfL (pre ++ [x]) ++ suf = halfL pre ++ (x + 1) / 2 :: suf := by simp [halfL]
    rw [e1] at hK
    have hhl := halfL_length pre
    refine ⟨K + 1, fun k hk => ?_⟩
    try dsimp only
    obtain ⟨n, rfl⟩ : ∃ n, k = n + 1 := ⟨k - 1, by omega⟩
    have hm := hK n (by omega)
    rw [List.length_append, List.length_singleton, show ((pre.length + 1 : Nat) : Int) = (pre.length : Int) + 1 by omega] at hm
    have hrd : rd (halfL pre ++ x :: suf) (pre.length : Int) = x := rd_at _ _ _ (by rw [hhl])
    rw [spec_l3Fit.l1, if_pos (by rw [List.length_append, List.length_cons, hhl]; omega), if_pos (by omega), hrd, w64 (x := x + 1) (by omega), tdiv_pos (by omega), w64 (x := (x + 1) / 2) (by omega), w64 (x := (pre.length : Int) + 1) (by omega), Int.toNat_natCast, set_at _ _ _ _ (by rw [hhl])]
    exact hm
theorem l3Fit_l0_ev (m : Int) (hm : 1 ≤ m) : ∀ (n : Nat) (x : List Int), n ≤ 14 → x.length ≤ 300 → (∀ v ∈ x, 0 ≤ v ∧ v ≤ ((2 ^ n : Nat) : Int)) → manyM x ≤ 2 ^ m.toNat → Ev (fun k => spec_l3Fit.l0 k m x (treeM x)) (fitM n x m) := by
  intro n
  induction n with
  | zero =>
    intro x hn hl hx hP
    obtain ⟨q, h1, K, hK⟩ := l3Most_ev (treeM x) (by rw [treeM_length]; omega) m (by omega)
    try dsimp only at hK
    have hf := treeM_flat x (fun v hv => by have := hx v hv; simpa using this) m hm hP
    refine ⟨K + 1, fun k hk => ?_⟩
    try dsimp only
    obtain ⟨j, rfl⟩ : ∃ j, k = j + 1 := ⟨k - 1, by omega⟩
    rw [spec_l3Fit.l0, hK j (by omega), Option.bind_some, if_neg (fun h => by have := h1.1 h; rw [hf] at this; cases this)]
    rfl
  | succ n ih =>
    intro x hn hl hx hP
    obtain ⟨q, h1, K, hK⟩ := l3Most_ev (treeM x) (by rw [treeM_length]; omega) m (by omega)
    try dsimp only at hK
    unfold fitM
    by_cases c : overM m (treeM x) = true
    · have h14 : ((2 ^ (n + 1) : Nat) : Int) ≤ 16384 := by
        have := Nat.pow_le_pow_right (n := 2) (by decide) hn
        have e : (2 ^ 14 : Nat) = 16384 := rfl
        rw [e] at this; omega
      have hnext := ih (halfL x) (by omega) (by rw [halfL_length]; exact hl) (halfL_b n x hx) (by rw [halfL_many x (fun v hv => (hx v hv).1)]; exact hP)
      obtain ⟨K2, hK2⟩ := l3Fit_l1_ev m _ x hl (fun v hv => by have := hx v hv; omega) hnext x [] rfl
      try dsimp only at hK2
      refine ⟨K + K2 + 1, fun k hk => ?_⟩
      try dsimp only
      obtain ⟨j, rfl⟩ : ∃ j, k = j + 1 := ⟨k - 1, by omega⟩
      rw [spec_l3Fit.l0, hK j (by omega), Option.bind_some, if_pos (h1.2 c), if_pos c]
      exact hK2 j (by omega)
    · refine ⟨K + 1, fun k hk => ?_⟩
      try dsimp only
      obtain ⟨j, rfl⟩ : ∃ j, k = j + 1 := ⟨k - 1, by omega⟩
      rw [spec_l3Fit.l0, hK j (by omega), Option.bind_some, if_neg (fun h => c (h1.1 h)), if_neg c]
theorem spec_CodeFit_ev (l : List Int) (hl : l.length ≤ 1048576) (m : Int) : Ev (fun k => spec_CodeFit.f k l m) (codeFitM l m) := by
  obtain ⟨K, hK⟩ := l3Room_ev l hl m
  try dsimp only at hK
  unfold codeFitM
  by_cases c : roomM l m = true
  · have h2 := of_decide_eq_true c
    obtain ⟨K2, hK2⟩ := l3Fit_l0_ev m h2.2.1 14 l (by omega) h2.2.2.2.2 (fun v hv => by have := h2.1 v hv; have e : ((2 ^ 14 : Nat) : Int) = 16384 := rfl; rw [e]; omega) h2.2.2.2.1
    try dsimp only at hK2
    refine ⟨K + K2, fun k hk => ?_⟩
    try dsimp only
    unfold spec_CodeFit.f
    rw [hK k (by omega), Option.bind_some, if_pos c, if_pos c]
    unfold spec_l3Fit.f
    simp only [Option.bind_some]
    rw [if_pos (by simp; omega)]
    simp only [List.nil_append]
    rw [l3Tree_f l h2.2.2.2.2 (fun v hv => by have := h2.1 v hv; omega), Option.bind_some, hK2 k (by omega), Option.bind_some]
  · refine ⟨K, fun k hk => ?_⟩
    try dsimp only
    unfold spec_CodeFit.f
    rw [hK k (by omega), Option.bind_some, if_neg c, if_neg c]
theorem codeFit_b (L : List Int) (m : Int) : ∀ v ∈ codeFitM L m, 0 ≤ v ∧ v ≤ 15 := by
  intro v hv
  by_cases h : roomM L m = true
  · have h15 := (of_decide_eq_true h).2.2.1
    obtain ⟨y, e, hl, hy, _, _, ho⟩ := codeFitM_is h
    rw [e] at hv
    have h1 := over_false ho v hv
    obtain ⟨j, hj, rfl⟩ := List.mem_iff_getElem.1 hv
    rw [treeM_length] at hj
    have := (treeM_zero y j hj).2.1
    rw [List.getD_eq_getElem?_getD, List.getElem?_eq_getElem (by rw [treeM_length]; exact hj)] at this
    simp only [Option.getD_some] at this
    omega
  · unfold codeFitM at hv
    rw [if_neg h] at hv
    simp at hv
/-- Lengths, as they are drawn. -/
def LenOk (L : List Int) : Prop := L.length ≤ 301 ∧ ∀ v ∈ L, -1 ≤ v ∧ v ≤ 16
theorem LenOk.set {L : List Int} (h : LenOk L) (i : Nat) {x : Int} (hx : -1 ≤ x ∧ x ≤ 16) : LenOk (L.set i x) := by
  refine ⟨by rw [List.length_set]; exact h.1, fun v hv => ?_⟩
  rcases List.mem_or_eq_of_mem_set hv with hv | rfl
  · exact h.2 v hv
  · exact hx
theorem l14Lengths_l0_ev {b : List Int} (hb : Code b) : ∀ (n : Nat) (L : List Int) (p : Int), n + L.length ≤ 10 → 0 ≤ p → p ≤ 1000000 - n → LenOk L →
    ∃ (L' : List Int) (p' : Int), (LenOk L' ∧ p ≤ p' ∧ p' ≤ p + n + 2) ∧ Ev (fun k => spec_l14Lengths.l0 k L (n : Int) b p) (L', p') := by
  intro n
  induction n with
  | zero =>
    intro L p hn h0 h1 hL
    by_cases hl : (L.length : Int) > 0
    · obtain ⟨v, hv, K1, hK1⟩ := pick_ev hb (p := p) (n := 8) (by omega) (by omega)
      try dsimp only at hK1
      try dsimp only at hK1
      by_cases hz : v = 0
      · obtain ⟨u, hu, K2, hK2⟩ := pick_ev hb (p := p + 1) (n := 2) (by omega) (by omega)
        try dsimp only at hK2
        try dsimp only at hK2
        have hm := mem_rd (L := [(-1 : Int), 16]) (i := u) (by omega) (by simp; omega)
        simp only [List.mem_cons, List.not_mem_nil, or_false] at hm
        refine ⟨L.set (0 : Int).toNat (rd [(-1), 16] u), p + 1 + 1, ⟨hL.set _ (by omega), by omega, by omega⟩, K1 + K2 + 1, fun k hk => ?_⟩
        try dsimp only
        obtain ⟨m, rfl⟩ : ∃ m, k = m + 1 := ⟨k - 1, by omega⟩
        rw [spec_l14Lengths.l0, if_neg (by omega), if_pos hl, hK1 m (by omega), Option.bind_some]
        try dsimp only
        rw [if_pos hz, Option.bind_some, hK2 m (by omega), Option.bind_some]
        try dsimp only
        rw [if_pos (by omega), if_pos (by simp; omega), if_pos (by omega)]
      · refine ⟨L, p + 1, ⟨hL, by omega, by omega⟩, K1 + 1, fun k hk => ?_⟩
        try dsimp only
        obtain ⟨m, rfl⟩ : ∃ m, k = m + 1 := ⟨k - 1, by omega⟩
        rw [spec_l14Lengths.l0, if_neg (by omega), if_pos hl, hK1 m (by omega), Option.bind_some]
        try dsimp only
        rw [if_neg hz]
    · refine ⟨L, p, ⟨hL, by omega, by omega⟩, 1, fun k hk => ?_⟩
      try dsimp only
      obtain ⟨m, rfl⟩ : ∃ m, k = m + 1 := ⟨k - 1, by omega⟩
      rw [spec_l14Lengths.l0, if_neg (by omega), if_neg hl]
  | succ n ih =>
    intro L p hn h0 h1 hL
    obtain ⟨v1, hv1, K1, hK1⟩ := pick_ev hb (p := p) (n := 5) (by omega) (by omega)
    try dsimp only at hK1
    try dsimp only at hK1
    obtain ⟨L', p', hh, K2, hK2⟩ := ih (L ++ [v1]) (p + 1) (by simp; omega) (by omega) (by omega) ⟨by simp; have := hL.1; omega, fun x hx => by
      rcases List.mem_append.1 hx with hx | hx
      · exact hL.2 x hx
      · rw [List.mem_singleton] at hx; omega⟩
    refine ⟨L', p', ⟨hh.1, by omega, by omega⟩, K1 + K2 + 1, fun k hk => ?_⟩
    try dsimp only
    obtain ⟨m, rfl⟩ : ∃ m, k = m + 1 := ⟨k - 1, by omega⟩
    have h6 := hK2 m (by omega)
    rw [spec_l14Lengths.l0, if_pos (by omega), hK1 m (by omega), Option.bind_some]
    try dsimp only
    rw [if_pos (by omega), w64 (by omega), show ((n + 1 : Nat) : Int) - 1 = (n : Int) by omega]
    exact h6
theorem l14Lengths_j0_ev {b : List Int} (hb : Code b) {L : List Int} (hL : LenOk L) {p : Int} (h0 : 0 ≤ p) (h1 : p ≤ 1000000) (c : Bool) (hc : c = true → 0 < L.length) :
    ∃ (L' : List Int) (p' : Int), (LenOk L' ∧ p ≤ p' ∧ p' ≤ p + 2) ∧ Ev (fun k => spec_l14Lengths.j0 k L c b p) (L', p') := by
  cases c with
  | true =>
    have hp := hc rfl
    have hl := hL.1
    obtain ⟨v, hv, K1, hK1⟩ := pick_ev hb (p := p) (n := (L.length : Int)) (by omega) (by omega)
    try dsimp only at hK1
    try dsimp only at hK1
    obtain ⟨u, hu, K2, hK2⟩ := pick_ev hb (p := p + 1) (n := 6) (by omega) (by omega)
    try dsimp only at hK2
    try dsimp only at hK2
    refine ⟨L.set v.toNat u, p + 1 + 1, ⟨hL.set _ (by omega), by omega, by omega⟩, K1 + K2 + 1, fun k hk => ?_⟩
    try dsimp only
    obtain ⟨m, rfl⟩ : ∃ m, k = m + 1 := ⟨k - 1, by omega⟩
    rw [spec_l14Lengths.j0, if_pos rfl, hK1 m (by omega), Option.bind_some]
    try dsimp only
    rw [hK2 m (by omega), Option.bind_some]
    try dsimp only
    rw [if_pos (by omega), if_pos (by omega)]
  | false =>
    refine ⟨L, p, ⟨hL, by omega, by omega⟩, 1, fun k hk => ?_⟩
    try dsimp only
    obtain ⟨m, rfl⟩ : ∃ m, k = m + 1 := ⟨k - 1, by omega⟩
    rw [spec_l14Lengths.j0, if_neg (by decide)]
theorem l14Lengths_ev {b : List Int} (hb : Code b) {p : Int} (h0 : 0 ≤ p) (h1 : p ≤ 100000) : ∃ (L : List Int) (p' : Int), (LenOk L ∧ p ≤ p' ∧ p' ≤ p + 200) ∧ Ev (fun k => spec_l14Lengths.f k b p) (L, p') := by
  obtain ⟨v1, hv1, K1, hK1⟩ := pick_ev hb (p := p) (n := 3) (by omega) (by omega)
  try dsimp only at hK1
  try dsimp only at hK1
  by_cases hz : v1 > 0
  · obtain ⟨O, p1, hO, K2, hK2⟩ := l14Often_ev hb (p := p + 1) (by omega) (by omega)
    try dsimp only at hK2
    try dsimp only at hK2
    have hOl := hO.1.len
    obtain ⟨K3, hK3⟩ := spec_CodeFit_ev O (by omega) 15
    try dsimp only at hK3
    try dsimp only at hK3
    have hLO : LenOk (codeFitM O 15) := ⟨by have := codeFitM_length O 15; omega, fun v hv => by have := codeFit_b O 15 v hv; omega⟩
    by_cases hl : ((codeFitM O 15).length : Int) > 0
    · obtain ⟨v2, hv2, K4, hK4⟩ := pick_ev hb (p := p1) (n := 4) (by omega) (by omega)
      try dsimp only at hK4
      try dsimp only at hK4
      obtain ⟨L', p', hh, K5, hK5⟩ := l14Lengths_j0_ev hb hLO (p := p1 + 1) (by omega) (by omega) (v2 == 0) (fun _ => by omega)
      try dsimp only at hK5
      refine ⟨L', p', ⟨hh.1, by omega, by omega⟩, K1 + K2 + K3 + K4 + K5, fun k hk => ?_⟩
      try dsimp only
      try dsimp only
      unfold spec_l14Lengths.f
      rw [hK1 k (by omega), Option.bind_some]
      try dsimp only
      rw [if_pos hz, hK2 k (by omega), Option.bind_some]
      try dsimp only
      rw [hK3 k (by omega), Option.bind_some, if_pos hl, hK4 k (by omega), Option.bind_some]
      try dsimp only
      exact hK5 k (by omega)
    · obtain ⟨L', p', hh, K5, hK5⟩ := l14Lengths_j0_ev hb hLO (p := p1) (by omega) (by omega) false (fun h => by cases h)
      try dsimp only at hK5
      refine ⟨L', p', ⟨hh.1, by omega, by omega⟩, K1 + K2 + K3 + K5, fun k hk => ?_⟩
      try dsimp only
      try dsimp only
      unfold spec_l14Lengths.f
      rw [hK1 k (by omega), Option.bind_some]
      try dsimp only
      rw [if_pos hz, hK2 k (by omega), Option.bind_some]
      try dsimp only
      rw [hK3 k (by omega), Option.bind_some, if_neg hl]
      exact hK5 k (by omega)
  · obtain ⟨v2, hv2, K2, hK2⟩ := pick_ev hb (p := p + 1) (n := 7) (by omega) (by omega)
    try dsimp only at hK2
    try dsimp only at hK2
    obtain ⟨L', p', hh, K3, hK3⟩ := l14Lengths_l0_ev hb v2.toNat [] (p + 1 + 1) (by simp; omega) (by omega) (by omega) ⟨by simp, fun v hv => by simp at hv⟩
    rw [Int.toNat_of_nonneg (by omega)] at hK3
    try dsimp only at hK3
    refine ⟨L', p', ⟨hh.1, by omega, by omega⟩, K1 + K2 + K3, fun k hk => ?_⟩
    try dsimp only
    try dsimp only
    unfold spec_l14Lengths.f
    rw [hK1 k (by omega), Option.bind_some]
    try dsimp only
    rw [if_neg hz, hK2 k (by omega), Option.bind_some]
    try dsimp only
    exact hK3 k (by omega)
theorem in_f (a b c : Int) : impl_in.f a b c = some (decide (b ≤ a ∧ a ≤ c)) := by
  unfold impl_in.f
  by_cases h : b ≤ a
  · rw [if_pos h]; simp [h]
  · rw [if_neg h]; simp [h]
theorem spec_l3Make_l1_ev (l : List Int) (hl : l.length ≤ 1048576) (n : Int) (hn : 1 ≤ n ∧ n ≤ 15) (r : List Int) (hnext : Ev (fun k => spec_l3Make.l0 k l (cdL l (n + 1) [] l) (cdA n l + cdB n l) (n + 1)) r) :
    ∀ (suf pre : List Int), l = pre ++ suf → Ev (fun k => spec_l3Make.l1 k l (cdL l (n + 1) [] pre ++ cdL l n pre suf) (cdA n l + cdB n pre) n (pre.length : Int)) r := by
  intro suf
  induction suf with
  | nil =>
    intro pre hp
    obtain ⟨K, hK⟩ := hnext
    try dsimp only at hK
    refine ⟨K + 1, fun k hk => ?_⟩
    try dsimp only
    obtain ⟨m, rfl⟩ : ∃ m, k = m + 1 := ⟨k - 1, by omega⟩
    have hm := hK m (by omega)
    have hpl : pre = l := by rw [hp]; simp
    subst hpl
    rw [spec_l3Make.l1, if_neg (by omega), w64 (by omega)]
    simpa [cdL] using hm
  | cons x suf ih =>
    intro pre hp
    obtain ⟨K, hK⟩ := ih (pre ++ [x]) (by simp [hp])
    try dsimp only at hK
    refine ⟨K + 1, fun k hk => ?_⟩
    try dsimp only
    obtain ⟨m, rfl⟩ : ∃ m, k = m + 1 := ⟨k - 1, by omega⟩
    have hm := hK m (by omega)
    have hll : l.length = pre.length + suf.length + 1 := by rw [hp]; simp; omega
    have hx : rd l (pre.length : Int) = x := by rw [hp]; exact rd_at _ _ _ rfl
    have hA := cdA_b n l (by omega)
    have hB := cdB_b n pre
    have hlen := cdL_length l (n + 1) pre []
    have hlen2 := cdL_length l n (x :: suf) pre
    rw [List.length_append, List.length_singleton, show ((pre.length + 1 : Nat) : Int) = (pre.length : Int) + 1 by omega, cdL_append, cdB_append] at hm
    simp only [cdL, List.nil_append, List.append_assoc, List.singleton_append, cdB] at hm
    rw [spec_l3Make.l1, if_pos (by omega), if_pos (by omega), hx]
    by_cases h : x = n
    · rw [if_pos (by omega), if_pos h, Int.add_zero] at hm
      rw [if_pos h, if_pos (by rw [List.length_append, hlen, hlen2]; simp; omega), Int.toNat_natCast]
      simp only [cdL]
      rw [set_at _ _ _ _ (by rw [hlen]), w64 (by omega), w64 (by omega)]
      have e : cdN l pre x = cdA n l + cdB n pre := by unfold cdN; rw [h]
      rw [e] at hm
      rw [Int.add_assoc]
      exact hm
    · rw [if_neg h, Int.add_zero, Int.add_zero] at hm
      rw [if_neg h, w64 (by omega)]
      simp only [cdL]
      by_cases h2 : 0 < x ∧ x < n
      · rw [if_pos (by omega)] at hm; rw [if_pos h2]; exact hm
      · rw [if_neg (by omega)] at hm; rw [if_neg h2]; exact hm
theorem spec_l3Make_l0_ev (l : List Int) (hl : l.length ≤ 1048576) : ∀ (d : Nat) (n : Int), 1 ≤ n → n + d = 16 → ∀ (x : Int), 2 * x = cdA n l → Ev (fun k => spec_l3Make.l0 k l (cdL l n [] l) x n) (codesM l) := by
  intro d
  induction d with
  | zero =>
    intro n h1 hn x hx
    refine ⟨1, fun k hk => ?_⟩
    try dsimp only
    obtain ⟨m, rfl⟩ : ∃ m, k = m + 1 := ⟨k - 1, by omega⟩
    rw [spec_l3Make.l0, if_neg (by omega)]
    unfold codesM
    rw [show n = 16 by omega]
  | succ d ih =>
    intro n h1 hn x hx
    have hA := cdA_b n l (by omega)
    obtain ⟨K, hK⟩ := spec_l3Make_l1_ev l hl n (by omega) (codesM l) (ih (n + 1) (by omega) (by omega) _ (by rw [cdA_succ n l h1])) l [] rfl
    try dsimp only at hK
    refine ⟨K + 1, fun k hk => ?_⟩
    try dsimp only
    obtain ⟨m, rfl⟩ : ∃ m, k = m + 1 := ⟨k - 1, by omega⟩
    have hm := hK m (by omega)
    rw [spec_l3Make.l0, if_pos (by omega), w64 (by omega), show x * 2 = cdA n l by omega]
    simpa [cdL, cdB] using hm
theorem spec_l3Make_ev (l : List Int) (hl : l.length ≤ 1048576) : Ev (fun k => spec_l3Make.f k l) (codesM l) := by
  obtain ⟨K, hK⟩ := spec_l3Make_l0_ev l hl 15 1 (by omega) (by omega) 0 (by rw [cdA_one]; rfl)
  try dsimp only at hK
  refine ⟨K, fun k hk => ?_⟩
  try dsimp only
  have hm := hK k hk
  rw [cdL_one] at hm
  unfold spec_l3Make.f
  rw [if_pos (by omega), if_pos (by omega), Int.toNat_natCast]
  exact hm
theorem l3Left_l0_ev (l : List Int) (hl : l.length ≤ 1048576) : ∀ (suf pre : List Int) (left : Int), l = pre ++ suf → 0 ≤ left → left ≤ 32768 → Ev (fun k => spec_l3Left.l0 k l left (pre.length : Int)) (if lensOk suf ∧ kraft suf ≤ left then left - kraft suf else -1) := by
  intro suf
  induction suf with
  | nil =>
    intro pre left hp h0 h1
    refine ⟨1, fun k hk => ?_⟩
    try dsimp only
    obtain ⟨m, rfl⟩ : ∃ m, k = m + 1 := ⟨k - 1, by omega⟩
    subst hp
    rw [spec_l3Left.l0, if_neg (by simp), if_pos ⟨lensOk_nil, by simp [kraft]; omega⟩]
    simp [kraft]
  | cons x suf ih =>
    intro pre left hp h0 h1
    have hll : l.length = pre.length + suf.length + 1 := by rw [hp]; simp; omega
    have hx : rd l (pre.length : Int) = x := by rw [hp]; exact rd_at _ _ _ rfl
    have hk0 := kraft_nn suf
    have e1 : ((pre ++ [x]).length : Int) = (pre.length : Int) + 1 := by simp
    by_cases hr : 0 ≤ x ∧ x ≤ 15
    · by_cases hz : x > 0
      · obtain ⟨K1, hK1⟩ := l1Pow_evI (15 - x) (by omega) (by omega)
        try dsimp only at hK1
        have hp2 := P2_b (n := (15 - x).toNat) (m := 15) (by omega)
        rw [P2_15] at hp2
        have hcons : kraft (x :: suf) = P2 (15 - x).toNat + kraft suf := by simp only [kraft, if_pos hz]
        by_cases hn : left - P2 (15 - x).toNat < 0
        · refine ⟨K1 + 1, fun k hk => ?_⟩
          try dsimp only
          obtain ⟨m, rfl⟩ : ∃ m, k = m + 1 := ⟨k - 1, by omega⟩
          rw [spec_l3Left.l0, if_pos (by omega), if_pos (by omega), hx, l1In_f]
          simp only [Option.bind_some]
          rw [if_pos (decide_eq_true hr), if_pos hz, w64 (x := 15 - x) (by omega), hK1 m (by omega)]
          simp only [Option.bind_some]
          rw [w64 (by omega), if_pos hn, if_neg (by rw [hcons]; omega)]
        · obtain ⟨K, hK⟩ := ih (pre ++ [x]) (left - P2 (15 - x).toNat) (by simp [hp]) (by omega) (by omega)
          try dsimp only at hK
          refine ⟨K + K1 + 1, fun k hk => ?_⟩
          try dsimp only
          obtain ⟨m, rfl⟩ : ∃ m, k = m + 1 := ⟨k - 1, by omega⟩
          have hm := hK m (by omega)
          rw [e1] at hm
          rw [spec_l3Left.l0, if_pos (by omega), if_pos (by omega), hx, l1In_f]
          simp only [Option.bind_some]
          rw [if_pos (decide_eq_true hr), if_pos hz, w64 (x := 15 - x) (by omega), hK1 m (by omega)]
          simp only [Option.bind_some]
          rw [w64 (x := left - _) (by omega), if_neg hn, w64 (by omega), hm, hcons]
          by_cases hc : lensOk suf ∧ kraft suf ≤ left - P2 (15 - x).toNat
          · rw [if_pos hc, if_pos ⟨(lensOk_cons _ _).2 ⟨hr, hc.1⟩, by omega⟩]; congr 1; omega
          · rw [if_neg hc, if_neg (fun h => hc ⟨((lensOk_cons _ _).1 h.1).2, by omega⟩)]
      · obtain ⟨K, hK⟩ := ih (pre ++ [x]) left (by simp [hp]) (by omega) (by omega)
        try dsimp only at hK
        have hcons : kraft (x :: suf) = kraft suf := by simp only [kraft, if_neg (show ¬ 0 < x by omega)]; omega
        refine ⟨K + 1, fun k hk => ?_⟩
        try dsimp only
        obtain ⟨m, rfl⟩ : ∃ m, k = m + 1 := ⟨k - 1, by omega⟩
        have hm := hK m (by omega)
        rw [e1] at hm
        rw [spec_l3Left.l0, if_pos (by omega), if_pos (by omega), hx, l1In_f]
        simp only [Option.bind_some]
        rw [if_pos (decide_eq_true hr), if_neg hz, if_neg (by omega), w64 (by omega), hm, hcons]
        by_cases hc : lensOk suf ∧ kraft suf ≤ left
        · rw [if_pos hc, if_pos ⟨(lensOk_cons _ _).2 ⟨hr, hc.1⟩, by omega⟩]
        · rw [if_neg hc, if_neg (fun h => hc ⟨((lensOk_cons _ _).1 h.1).2, by omega⟩)]
    · refine ⟨1, fun k hk => ?_⟩
      try dsimp only
      obtain ⟨m, rfl⟩ : ∃ m, k = m + 1 := ⟨k - 1, by omega⟩
      rw [spec_l3Left.l0, if_pos (by omega), if_pos (by omega), hx, l1In_f]
      simp only [Option.bind_some]
      rw [if_neg (by simpa using hr), if_neg (fun h => hr ((lensOk_cons _ _).1 h.1).1)]
theorem l3Left_ev (l : List Int) (hl : l.length ≤ 1048576) : Ev (fun k => spec_l3Left.f k l) (if lensOk l ∧ kraft l ≤ 32768 then 32768 - kraft l else -1) := by
  obtain ⟨K, hK⟩ := l3Left_l0_ev l hl l [] 32768 rfl (by omega) (by omega)
  try dsimp only at hK
  obtain ⟨K1, hK1⟩ := l1Pow_evI 15 (by omega) (by omega)
  try dsimp only at hK1
  refine ⟨K + K1, fun k hk => ?_⟩
  try dsimp only
  unfold spec_l3Left.f
  rw [hK1 k (by omega)]
  exact hK k (by omega)
theorem spec_CodeOk_ev (l : List Int) (hl : l.length ≤ 1048576) : Ev (fun k => spec_CodeOk.f k l) (codeOkM l) := by
  unfold spec_CodeOk.f codeOkM
  by_cases h : l.length ≤ 300
  · obtain ⟨K, hK⟩ := l3Left_ev l hl
    try dsimp only at hK
    refine ⟨K, fun k hk => ?_⟩
    try dsimp only
    rw [if_pos (by omega), hK k hk]
    simp only [Option.bind_some]
    by_cases hc : lensOk l ∧ kraft l ≤ 32768
    · rw [if_pos hc, decide_eq_true (by omega), decide_eq_true ⟨hc.1, h, hc.2⟩]
    · rw [if_neg hc, decide_eq_false (by omega), decide_eq_false (fun h => hc ⟨h.1, h.2.2⟩)]
  · refine ⟨0, fun k hk => ?_⟩
    try dsimp only
    rw [if_neg (by omega), decide_eq_false (fun hh => h hh.2.1)]
theorem filled_l0_ev (l : List Int) (hl : l.length ≤ 1048576) : ∀ (suf pre : List Int) (sum : Int), l = pre ++ suf → 0 ≤ sum → sum ≤ 16384 * pre.length → Ev (fun k => impl_filled.l0 k l sum l (l.length : Int) (pre.length : Int)) (if lensOk suf ∧ l.length ≤ 300 ∧ sum + kraft suf ≤ 32768 then sum + kraft suf else -1) := by
  intro suf
  induction suf with
  | nil =>
    intro pre sum hp h0 h1
    refine ⟨1, fun k hk => ?_⟩
    try dsimp only
    obtain ⟨m, rfl⟩ : ∃ m, k = m + 1 := ⟨k - 1, by omega⟩
    have hpl : l.length = pre.length := by rw [hp]; simp
    rw [impl_filled.l0, if_neg (by omega)]
    have e0 : kraft ([] : List Int) = 0 := rfl
    by_cases h3 : l.length ≤ 300
    · by_cases h4 : sum ≤ 32768
      · rw [if_neg (by omega), if_neg (by omega), if_pos ⟨lensOk_nil, h3, by omega⟩, e0, Int.add_zero]
      · rw [if_neg (by omega), if_pos (by omega), if_neg (by omega)]
    · rw [if_pos (by omega), if_neg (by omega)]
  | cons x suf ih =>
    intro pre sum hp h0 h1
    have hll : l.length = pre.length + suf.length + 1 := by rw [hp]; simp; omega
    have hx : rd l (pre.length : Int) = x := by rw [hp]; exact rd_at _ _ _ rfl
    have hk0 := kraft_nn suf
    have e1 : ((pre ++ [x]).length : Int) = (pre.length : Int) + 1 := by simp
    by_cases hr : 0 ≤ x ∧ x ≤ 15
    · by_cases hz : x > 0
      · have hp2 := P2_b (n := (15 - x).toNat) (m := 14) (by omega)
        rw [show P2 14 = 16384 from rfl] at hp2
        have hcons : kraft (x :: suf) = P2 (15 - x).toNat + kraft suf := by simp only [kraft, if_pos hz]
        obtain ⟨K, hK⟩ := ih (pre ++ [x]) (sum + P2 (15 - x).toNat) (by simp [hp]) (by omega) (by rw [e1]; omega)
        try dsimp only at hK
        refine ⟨K + 1, fun k hk => ?_⟩
        try dsimp only
        obtain ⟨m, rfl⟩ : ∃ m, k = m + 1 := ⟨k - 1, by omega⟩
        have hm := hK m (by omega)
        rw [e1] at hm
        rw [impl_filled.l0, if_pos (by omega), if_pos (by omega), if_pos (by omega), hx, in_f]
        simp only [Option.bind_some]
        rw [if_pos (decide_eq_true hr), if_pos hz, w64 (x := 15 - x) (by omega), if_pos (by omega), shl1_P2 (by omega) (by omega), w64 (x := sum + _) (by omega), w64 (by omega), hm, hcons]
        by_cases hc : lensOk suf ∧ l.length ≤ 300 ∧ sum + P2 (15 - x).toNat + kraft suf ≤ 32768
        · rw [if_pos hc, if_pos ⟨(lensOk_cons _ _).2 ⟨hr, hc.1⟩, hc.2.1, by omega⟩]; congr 1; omega
        · rw [if_neg hc, if_neg (fun h => hc ⟨((lensOk_cons _ _).1 h.1).2, h.2.1, by omega⟩)]
      · obtain ⟨K, hK⟩ := ih (pre ++ [x]) sum (by simp [hp]) (by omega) (by rw [e1]; omega)
        try dsimp only at hK
        have hcons : kraft (x :: suf) = kraft suf := by simp only [kraft, if_neg (show ¬ 0 < x by omega)]; omega
        refine ⟨K + 1, fun k hk => ?_⟩
        try dsimp only
        obtain ⟨m, rfl⟩ : ∃ m, k = m + 1 := ⟨k - 1, by omega⟩
        have hm := hK m (by omega)
        rw [e1] at hm
        rw [impl_filled.l0, if_pos (by omega), if_pos (by omega), if_pos (by omega), hx, in_f]
        simp only [Option.bind_some]
        rw [if_pos (decide_eq_true hr), if_neg hz, w64 (by omega), hm, hcons]
        by_cases hc : lensOk suf ∧ l.length ≤ 300 ∧ sum + kraft suf ≤ 32768
        · rw [if_pos hc, if_pos ⟨(lensOk_cons _ _).2 ⟨hr, hc.1⟩, hc.2⟩]
        · rw [if_neg hc, if_neg (fun h => hc ⟨((lensOk_cons _ _).1 h.1).2, h.2⟩)]
    · refine ⟨1, fun k hk => ?_⟩
      try dsimp only
      obtain ⟨m, rfl⟩ : ∃ m, k = m + 1 := ⟨k - 1, by omega⟩
      rw [impl_filled.l0, if_pos (by omega), if_pos (by omega), if_pos (by omega), hx, in_f]
      simp only [Option.bind_some]
      rw [if_neg (by simpa using hr), if_neg (fun h => hr ((lensOk_cons _ _).1 h.1).1)]
theorem filled_ev (l : List Int) (hl : l.length ≤ 1048576) : Ev (fun k => impl_filled.f k l) (if codeOkM l = true then kraft l else -1) := by
  obtain ⟨K, hK⟩ := filled_l0_ev l hl l [] 0 rfl (by omega) (by simp)
  try dsimp only at hK
  refine ⟨K, fun k hk => ?_⟩
  try dsimp only
  unfold impl_filled.f codeOkM
  refine (hK k hk).trans ?_
  simp only [Int.zero_add, decide_eq_true_eq]
theorem impl_CodeOk_ev (l : List Int) (hl : l.length ≤ 1048576) : Ev (fun k => impl_CodeOk.f k l) (codeOkM l) := by
  obtain ⟨K, hK⟩ := filled_ev l hl
  try dsimp only at hK
  have := kraft_nn l
  refine ⟨K, fun k hk => ?_⟩
  try dsimp only
  unfold impl_CodeOk.f
  rw [hK k hk]
  simp only [Option.bind_some]
  cases h : codeOkM l
  · simp
  · simp; omega
theorem impl_CodeMake_l1_ev (l : List Int) (hl : l.length ≤ 1048576) (n : Int) (hn : 1 ≤ n ∧ n ≤ 15) (r : List Int) (hnext : Ev (fun k => impl_CodeMake.l0 k l (cdL l (n + 1) [] l) (cdA n l + cdB n l) (n + 1)) r) :
    ∀ (suf pre : List Int), l = pre ++ suf → Ev (fun k => impl_CodeMake.l1 k l (cdL l (n + 1) [] pre ++ cdL l n pre suf) (cdA n l + cdB n pre) n l (l.length : Int) (pre.length : Int)) r := by
  intro suf
  induction suf with
  | nil =>
    intro pre hp
    obtain ⟨K, hK⟩ := hnext
    try dsimp only at hK
    refine ⟨K + 1, fun k hk => ?_⟩
    try dsimp only
    obtain ⟨m, rfl⟩ : ∃ m, k = m + 1 := ⟨k - 1, by omega⟩
    have hm := hK m (by omega)
    have hpl : pre = l := by rw [hp]; simp
    subst hpl
    rw [impl_CodeMake.l1, if_neg (by omega), w64 (by omega)]
    simpa [cdL] using hm
  | cons x suf ih =>
    intro pre hp
    obtain ⟨K, hK⟩ := ih (pre ++ [x]) (by simp [hp])
    try dsimp only at hK
    refine ⟨K + 1, fun k hk => ?_⟩
    try dsimp only
    obtain ⟨m, rfl⟩ : ∃ m, k = m + 1 := ⟨k - 1, by omega⟩
    have hm := hK m (by omega)
    have hll : l.length = pre.length + suf.length + 1 := by rw [hp]; simp; omega
    have hx : rd l (pre.length : Int) = x := by rw [hp]; exact rd_at _ _ _ rfl
    have hA := cdA_b n l (by omega)
    have hB := cdB_b n pre
    have hlen := cdL_length l (n + 1) pre []
    have hlen2 := cdL_length l n (x :: suf) pre
    rw [List.length_append, List.length_singleton, show ((pre.length + 1 : Nat) : Int) = (pre.length : Int) + 1 by omega, cdL_append, cdB_append] at hm
    simp only [cdL, List.nil_append, List.append_assoc, List.singleton_append, cdB] at hm
    rw [impl_CodeMake.l1, if_pos (by omega), if_pos (by omega), if_pos (by omega), hx]
    by_cases h : x = n
    · rw [if_pos (by omega), if_pos h, Int.add_zero] at hm
      rw [if_pos h, if_pos (by rw [List.length_append, hlen, hlen2]; simp; omega), Int.toNat_natCast]
      simp only [cdL]
      rw [set_at _ _ _ _ (by rw [hlen]), w64 (by omega), w64 (by omega)]
      have e : cdN l pre x = cdA n l + cdB n pre := by unfold cdN; rw [h]
      rw [e] at hm
      rw [Int.add_assoc]
      exact hm
    · rw [if_neg h, Int.add_zero, Int.add_zero] at hm
      rw [if_neg h, w64 (by omega)]
      simp only [cdL]
      by_cases h2 : 0 < x ∧ x < n
      · rw [if_pos (by omega)] at hm; rw [if_pos h2]; exact hm
      · rw [if_neg (by omega)] at hm; rw [if_neg h2]; exact hm
theorem impl_CodeMake_l0_ev (l : List Int) (hl : l.length ≤ 1048576) : ∀ (d : Nat) (n : Int), 1 ≤ n → n + d = 16 → ∀ (x : Int), 2 * x = cdA n l → Ev (fun k => impl_CodeMake.l0 k l (cdL l n [] l) x n) (codesM l) := by
  intro d
  induction d with
  | zero =>
    intro n h1 hn x hx
    refine ⟨1, fun k hk => ?_⟩
    try dsimp only
    obtain ⟨m, rfl⟩ : ∃ m, k = m + 1 := ⟨k - 1, by omega⟩
    rw [impl_CodeMake.l0, if_neg (by omega)]
    unfold codesM
    rw [show n = 16 by omega]
  | succ d ih =>
    intro n h1 hn x hx
    have hA := cdA_b n l (by omega)
    obtain ⟨K, hK⟩ := impl_CodeMake_l1_ev l hl n (by omega) (codesM l) (ih (n + 1) (by omega) (by omega) _ (by rw [cdA_succ n l h1])) l [] rfl
    try dsimp only at hK
    refine ⟨K + 1, fun k hk => ?_⟩
    try dsimp only
    obtain ⟨m, rfl⟩ : ∃ m, k = m + 1 := ⟨k - 1, by omega⟩
    have hm := hK m (by omega)
    rw [impl_CodeMake.l0, if_pos (by omega), w64 (by omega), show x * 2 = cdA n l by omega]
    simpa [cdL, cdB] using hm
theorem impl_CodeMake_ev (l : List Int) (hl : l.length ≤ 1048576) : Ev (fun k => impl_CodeMake.f k l) (codeMakeM l) := by
  obtain ⟨K1, h1⟩ := impl_CodeOk_ev l hl
  try dsimp only at h1
  obtain ⟨K, hK⟩ := impl_CodeMake_l0_ev l hl 15 1 (by omega) (by omega) 0 (by rw [cdA_one]; rfl)
  try dsimp only at hK
  refine ⟨K + K1, fun k hk => ?_⟩
  try dsimp only
  have hm := hK k (by omega)
  rw [cdL_one] at hm
  unfold impl_CodeMake.f codeMakeM
  rw [h1 k (by omega)]
  simp only [Option.bind_some]
  by_cases h : codeOkM l = true
  · rw [if_pos h, if_pos (by omega), if_pos (by omega), Int.toNat_natCast, hm, if_pos h]
  · rw [if_neg h, if_neg h]
def toB (t : Int × Int) : S50 := ⟨t.1, t.2⟩
theorem rd_atB (pre suf : List S50) (t : S50) {i : Int} (hi : i = (pre.length : Int)) : rd_T50 (pre ++ t :: suf) i = t := by
  subst hi; simp [rd_T50]
theorem set_atB (pre suf : List S50) (x y : S50) {i : Nat} (hi : i = pre.length) : (pre ++ x :: suf).set i y = pre ++ y :: suf := by
  subst hi; simp
def marksB (m : Int) : Nat → List S50
  | 0 => []
  | n + 1 => marksB m n ++ [⟨m + 2 * n, m + 2 * n + 1⟩]
theorem marksB_length (m : Int) (n : Nat) : (marksB m n).length = n := by
  induction n with
  | zero => rfl
  | succ n ih => simp [marksB, ih]
theorem rd_marksB (m : Int) : ∀ (n i : Nat), i < n → rd_T50 (marksB m n) (i : Int) = ⟨m + 2 * i, m + 2 * i + 1⟩ := by
  intro n
  induction n with
  | zero => intro i hi; omega
  | succ n ih =>
    intro i hi
    by_cases h : i = n
    · subst h; simp only [marksB]; exact rd_atB _ [] _ (by rw [marksB_length])
    · have h1 := ih i (by omega)
      have h2 : i < (marksB m n).length := by rw [marksB_length]; omega
      simp only [rd_T50, marksB, Int.toNat_natCast, List.getD_eq_getElem?_getD] at h1 ⊢
      rw [List.getElem?_append_left h2]; exact h1
theorem l3Turn_l0_ev (c : Int) (hc : 0 ≤ c ∧ c ≤ 1099511627776) (n : Nat) (hn : n ≤ 20) : ∀ d i : Nat, i + d = n → Ev (fun k => spec_l3Turn.l0 k (c / P2 i) (n : Int) (trn c i) (i : Int)) (trn c n) := by
  intro d
  induction d with
  | zero =>
    intro i hi
    refine ⟨1, fun k hk => ?_⟩
    try dsimp only
    obtain ⟨m, rfl⟩ : ∃ m, k = m + 1 := ⟨k - 1, by omega⟩
    rw [spec_l3Turn.l0, if_neg (by omega), show i = n by omega]
  | succ d ih =>
    intro i hi
    obtain ⟨K, hK⟩ := ih (i + 1) (by omega)
    try dsimp only at hK
    refine ⟨K + 1, fun k hk => ?_⟩
    try dsimp only
    obtain ⟨m, rfl⟩ : ∃ m, k = m + 1 := ⟨k - 1, by omega⟩
    have hm := hK m (by omega)
    have h1 := div_P2_b i hc.1
    have h2 := trn_b c i
    have h3 := P2_62b (n := i) (by omega)
    have h4 := P2_le (n := i) (m := 40) (by omega)
    rw [P2_40] at h4
    rw [spec_l3Turn.l0, if_pos (by omega), tdiv_pos h1.1, tmod_pos h1.1, div_P2_succ, w64 (x := c / P2 (i + 1)) (by rw [← div_P2_succ]; omega), w64 (x := 2 * trn c i) (by omega), w64 (x := 2 * trn c i + _) (by omega), w64 (by omega)]
    simp only [trn] at hm
    rw [show ((i + 1 : Nat) : Int) = (i : Int) + 1 by omega] at hm
    exact hm
theorem l3Turn_ev (c n : Int) (hc : 0 ≤ c ∧ c ≤ 1099511627776) (h0 : 0 ≤ n) (hn : n ≤ 20) : Ev (fun k => spec_l3Turn.f k c n) (trn c n.toNat) := by
  obtain ⟨K, hK⟩ := l3Turn_l0_ev c hc n.toNat (by omega) n.toNat 0 (by omega)
  try dsimp only at hK
  refine ⟨K, fun k hk => ?_⟩
  try dsimp only
  have hm := hK k hk
  rw [P2_zero, Int.ediv_one, Int.toNat_of_nonneg h0] at hm
  exact hm
theorem turned_l0_ev (c : Int) (hc : 0 ≤ c ∧ c ≤ 1099511627776) (n : Nat) (hn : n ≤ 20) : ∀ d i : Nat, i + d = n → Ev (fun k => impl_turned.l0 k c (trn c i) (n : Int) (i : Int)) (trn c n) := by
  intro d
  induction d with
  | zero =>
    intro i hi
    refine ⟨1, fun k hk => ?_⟩
    try dsimp only
    obtain ⟨m, rfl⟩ : ∃ m, k = m + 1 := ⟨k - 1, by omega⟩
    rw [impl_turned.l0, if_neg (by omega), show i = n by omega]
  | succ d ih =>
    intro i hi
    obtain ⟨K, hK⟩ := ih (i + 1) (by omega)
    try dsimp only at hK
    refine ⟨K + 1, fun k hk => ?_⟩
    try dsimp only
    obtain ⟨m, rfl⟩ : ∃ m, k = m + 1 := ⟨k - 1, by omega⟩
    have hm := hK m (by omega)
    have h1 := div_P2_b i hc.1
    have h2 := trn_b c i
    have h4 := P2_le (n := i) (m := 40) (by omega)
    rw [P2_40] at h4
    rw [impl_turned.l0, if_pos (by omega), if_pos (by omega), shr_P2 (by omega), Int.toNat_natCast, and1 h1.1 (by omega), w64 (x := trn c i * 2) (by omega), or_join (i := 1) (by omega) (by show trn c i * 2 % 2 = 0; omega) (by omega) (by omega) (by show _ < (2 : Int); omega) (by omega), w64 (by omega)]
    simp only [trn] at hm
    rw [show ((i + 1 : Nat) : Int) = (i : Int) + 1 by omega, Int.mul_comm 2] at hm
    exact hm
theorem turned_ev (c n : Int) (hc : 0 ≤ c ∧ c ≤ 1099511627776) (h0 : 0 ≤ n) (hn : n ≤ 20) : Ev (fun k => impl_turned.f k c n) (trn c n.toNat) := by
  obtain ⟨K, hK⟩ := turned_l0_ev c hc n.toNat (by omega) n.toNat 0 (by omega)
  try dsimp only at hK
  refine ⟨K, fun k hk => ?_⟩
  try dsimp only
  have hm := hK k hk
  rw [Int.toNat_of_nonneg h0] at hm
  exact hm
theorem l3Sym_ev (L : List Int) (x : Int) (hL : lensOk L) (hl : L.length ≤ 300) (hx : 0 ≤ x ∧ x < L.length) : Ev (fun k => spec_l3Sym.f k (codesM L) L x) (trn (rd (codesM L) x) (rd L x).toNat, rd L x) := by
  have hc := codesM_b L x
  have hr := lensOk_rd hL x
  have hlen := codesM_length L
  obtain ⟨K, hK⟩ := l3Turn_ev (rd (codesM L) x) (rd L x) (by omega) hr.1 (by omega)
  try dsimp only at hK
  refine ⟨K, fun k hk => ?_⟩
  try dsimp only
  unfold spec_l3Sym.f
  rw [if_pos (by omega), if_pos (by omega), if_pos (by omega), hK k hk]
  rfl
theorem spec_CodePut_l0_ev (S L : List Int) (hL : lensOk L) (hl : L.length ≤ 300) (hs : S.length ≤ 9000) : ∀ (suf pre : List Int) (acc : List (Int × Int)), S = pre ++ suf → acc.length = pre.length → Ev (fun k => spec_CodePut.l0 k S L (acc.map toB) (codesM L) (pre.length : Int)) ((cpM L acc suf).map toB) := by
  intro suf
  induction suf with
  | nil =>
    intro pre acc hp ha
    refine ⟨1, fun k hk => ?_⟩
    try dsimp only
    obtain ⟨m, rfl⟩ : ∃ m, k = m + 1 := ⟨k - 1, by omega⟩
    rw [spec_CodePut.l0, if_neg (by rw [hp]; simp)]
    rfl
  | cons x suf ih =>
    intro pre acc hp ha
    have hll : S.length = pre.length + suf.length + 1 := by rw [hp]; simp; omega
    have hx : rd S (pre.length : Int) = x := by rw [hp]; exact rd_at _ _ _ rfl
    simp only [cpM]
    by_cases h : 0 ≤ x ∧ x ≤ (L.length : Int) - 1
    · by_cases hz : rd L x = 0
      · rw [if_neg (fun hh => hh.2 hz)]
        refine ⟨1, fun k hk => ?_⟩
        try dsimp only
        obtain ⟨m, rfl⟩ : ∃ m, k = m + 1 := ⟨k - 1, by omega⟩
        rw [spec_CodePut.l0, if_pos (by omega), if_pos (by omega), hx, w64 (x := (L.length : Int) - 1) (by omega), l1In_f, Option.bind_some, if_pos (decide_eq_true h), if_pos h.1, if_pos (by omega), if_pos hz]
        rfl
      · rw [if_pos ⟨h, hz⟩]
        obtain ⟨K, hK⟩ := ih (pre ++ [x]) (acc ++ [(trn (rd (codesM L) x) (rd L x).toNat, rd L x)]) (by simp [hp]) (by simp [ha])
        try dsimp only at hK
        obtain ⟨K1, hK1⟩ := l3Sym_ev L x hL hl (by omega)
        try dsimp only at hK1
        refine ⟨K + K1 + 1, fun k hk => ?_⟩
        try dsimp only
        obtain ⟨m, rfl⟩ : ∃ m, k = m + 1 := ⟨k - 1, by omega⟩
        have hm := hK m (by omega)
        rw [spec_CodePut.l0, if_pos (by omega), if_pos (by omega), hx, w64 (x := (L.length : Int) - 1) (by omega), l1In_f, Option.bind_some, if_pos (decide_eq_true h), if_pos h.1, if_pos (by omega), if_neg hz, hK1 m (by omega), Option.bind_some, if_pos (by rw [List.length_map]; omega), w64 (by omega)]
        rw [List.length_append, List.length_singleton, List.map_append, show ((pre.length + 1 : Nat) : Int) = (pre.length : Int) + 1 by omega] at hm
        exact hm
    · rw [if_neg (fun hh => h hh.1)]
      refine ⟨1, fun k hk => ?_⟩
      try dsimp only
      obtain ⟨m, rfl⟩ : ∃ m, k = m + 1 := ⟨k - 1, by omega⟩
      rw [spec_CodePut.l0, if_pos (by omega), if_pos (by omega), hx, w64 (x := (L.length : Int) - 1) (by omega), l1In_f, Option.bind_some, if_neg (by simpa using h)]
      rfl
theorem spec_CodePut_ev (S L : List Int) (hl : L.length ≤ 1048576) (hs : S.length ≤ 1048576) : Ev (fun k => spec_CodePut.f k S L) ((codePutM S L).map toB) := by
  obtain ⟨K1, h1⟩ := spec_CodeOk_ev L hl
  try dsimp only at h1
  by_cases hok : codeOkM L = true
  · have hok' := of_decide_eq_true hok
    by_cases hs2 : (S.length : Int) > 9000
    · refine ⟨K1 + 1, fun k hk => ?_⟩
      try dsimp only
      obtain ⟨m, rfl⟩ : ∃ m, k = m + 1 := ⟨k - 1, by omega⟩
      unfold spec_CodePut.f codePutM
      rw [Option.bind_some, h1 (m + 1) (by omega), Option.bind_some, if_pos hok, spec_CodePut.j0, if_pos (decide_eq_true hs2), if_neg (by omega)]
      rfl
    · obtain ⟨K2, h2⟩ := spec_l3Make_ev L hl
      try dsimp only at h2
      obtain ⟨K3, h3⟩ := spec_CodePut_l0_ev S L hok'.1 hok'.2.1 (by omega) S [] [] rfl rfl
      try dsimp only at h3
      refine ⟨K1 + K2 + K3 + 1, fun k hk => ?_⟩
      try dsimp only
      obtain ⟨m, rfl⟩ : ∃ m, k = m + 1 := ⟨k - 1, by omega⟩
      have hm := h3 m (by omega)
      unfold spec_CodePut.f codePutM
      rw [Option.bind_some, h1 (m + 1) (by omega), Option.bind_some, if_pos hok, spec_CodePut.j0, if_neg (by simpa using hs2), h2 m (by omega), Option.bind_some, if_pos ⟨hok, by omega⟩]
      exact hm
  · refine ⟨K1 + 1, fun k hk => ?_⟩
    try dsimp only
    obtain ⟨m, rfl⟩ : ∃ m, k = m + 1 := ⟨k - 1, by omega⟩
    unfold spec_CodePut.f codePutM
    rw [Option.bind_some, h1 (m + 1) (by omega), Option.bind_some, if_neg hok, spec_CodePut.j0, if_pos rfl, if_neg (fun hh => hok hh.1)]
    rfl
theorem impl_CodePut_l0_ev (S L : List Int) (hL : lensOk L) (hl : L.length ≤ 300) (hs : S.length ≤ 9000) : ∀ (suf pre : List Int) (acc : List (Int × Int)), S = pre ++ suf → acc.length = pre.length → Ev (fun k => impl_CodePut.l0 k L (codesM L) (acc.map toB) S (S.length : Int) (pre.length : Int)) ((cpM L acc suf).map toB) := by
  intro suf
  induction suf with
  | nil =>
    intro pre acc hp ha
    refine ⟨1, fun k hk => ?_⟩
    try dsimp only
    obtain ⟨m, rfl⟩ : ∃ m, k = m + 1 := ⟨k - 1, by omega⟩
    rw [impl_CodePut.l0, if_neg (by rw [hp]; simp)]
    rfl
  | cons x suf ih =>
    intro pre acc hp ha
    have hll : S.length = pre.length + suf.length + 1 := by rw [hp]; simp; omega
    have hx : rd S (pre.length : Int) = x := by rw [hp]; exact rd_at _ _ _ rfl
    have hlen := codesM_length L
    simp only [cpM]
    by_cases h : 0 ≤ x ∧ x ≤ (L.length : Int) - 1
    · by_cases hz : rd L x = 0
      · rw [if_neg (fun hh => hh.2 hz)]
        refine ⟨1, fun k hk => ?_⟩
        try dsimp only
        obtain ⟨m, rfl⟩ : ∃ m, k = m + 1 := ⟨k - 1, by omega⟩
        rw [impl_CodePut.l0, if_pos (by omega), if_pos (by omega), if_pos (by omega), hx, w64 (x := (L.length : Int) - 1) (by omega), in_f, Option.bind_some, if_pos (decide_eq_true h), if_pos h.1, if_pos (by omega), if_pos hz]
        rfl
      · rw [if_pos ⟨h, hz⟩]
        obtain ⟨K, hK⟩ := ih (pre ++ [x]) (acc ++ [(trn (rd (codesM L) x) (rd L x).toNat, rd L x)]) (by simp [hp]) (by simp [ha])
        try dsimp only at hK
        have hc := codesM_b L x
        have hr := lensOk_rd hL x
        obtain ⟨K1, hK1⟩ := turned_ev (rd (codesM L) x) (rd L x) (by omega) hr.1 (by omega)
        try dsimp only at hK1
        refine ⟨K + K1 + 1, fun k hk => ?_⟩
        try dsimp only
        obtain ⟨m, rfl⟩ : ∃ m, k = m + 1 := ⟨k - 1, by omega⟩
        have hm := hK m (by omega)
        rw [impl_CodePut.l0, if_pos (by omega), if_pos (by omega), if_pos (by omega), hx, w64 (x := (L.length : Int) - 1) (by omega), in_f, Option.bind_some, if_pos (decide_eq_true h), if_pos h.1, if_pos (by omega), if_neg hz, if_pos (by omega), hK1 m (by omega), Option.bind_some, if_pos (by rw [List.length_map]; omega), w64 (by omega)]
        rw [List.length_append, List.length_singleton, List.map_append, show ((pre.length + 1 : Nat) : Int) = (pre.length : Int) + 1 by omega] at hm
        exact hm
    · rw [if_neg (fun hh => h hh.1)]
      refine ⟨1, fun k hk => ?_⟩
      try dsimp only
      obtain ⟨m, rfl⟩ : ∃ m, k = m + 1 := ⟨k - 1, by omega⟩
      rw [impl_CodePut.l0, if_pos (by omega), if_pos (by omega), if_pos (by omega), hx, w64 (x := (L.length : Int) - 1) (by omega), in_f, Option.bind_some, if_neg (by simpa using h)]
      rfl
theorem impl_CodePut_ev (S L : List Int) (hl : L.length ≤ 1048576) (hs : S.length ≤ 1048576) : Ev (fun k => impl_CodePut.f k S L) ((codePutM S L).map toB) := by
  obtain ⟨K1, h1⟩ := impl_CodeOk_ev L hl
  try dsimp only at h1
  by_cases hok : codeOkM L = true
  · have hok' := of_decide_eq_true hok
    by_cases hs2 : (S.length : Int) > 9000
    · refine ⟨K1 + 1, fun k hk => ?_⟩
      try dsimp only
      obtain ⟨m, rfl⟩ : ∃ m, k = m + 1 := ⟨k - 1, by omega⟩
      unfold impl_CodePut.f codePutM
      rw [h1 (m + 1) (by omega), Option.bind_some, if_pos hok, impl_CodePut.j0, if_pos (decide_eq_true hs2), if_neg (by omega)]
      rfl
    · obtain ⟨K2, h2⟩ := impl_CodeMake_ev L hl
      try dsimp only at h2
      obtain ⟨K3, h3⟩ := impl_CodePut_l0_ev S L hok'.1 hok'.2.1 (by omega) S [] [] rfl rfl
      try dsimp only at h3
      refine ⟨K1 + K2 + K3 + 1, fun k hk => ?_⟩
      try dsimp only
      obtain ⟨m, rfl⟩ : ∃ m, k = m + 1 := ⟨k - 1, by omega⟩
      have hm := h3 m (by omega)
      have e : codeMakeM L = codesM L := by unfold codeMakeM; rw [if_pos hok]
      unfold impl_CodePut.f codePutM
      rw [h1 (m + 1) (by omega), Option.bind_some, if_pos hok, impl_CodePut.j0, if_neg (by simpa using hs2), h2 m (by omega), Option.bind_some, e, if_pos ⟨hok, by omega⟩]
      exact hm
  · refine ⟨K1 + 1, fun k hk => ?_⟩
    try dsimp only
    obtain ⟨m, rfl⟩ : ∃ m, k = m + 1 := ⟨k - 1, by omega⟩
    unfold impl_CodePut.f codePutM
    rw [h1 (m + 1) (by omega), Option.bind_some, if_neg hok, impl_CodePut.j0, if_pos rfl, if_neg (fun hh => hok hh.1)]
    rfl
theorem of_ev {b : List Int} (hb : Code b) {p : Int} (hp : 0 ≤ p ∧ p ≤ 1000000000) (l : List ByteArray) (hl : 1 ≤ l.length) (hl2 : l.length ≤ 1000) : ∃ s, s ∈ l ∧ Ev (fun k => spec_l1Rd_of.f k b p l) (s, p + 1) := by
  obtain ⟨v, hv, K, hK⟩ := pick_ev hb (p := p) (n := (l.length : Int)) (by omega) (by omega)
  try dsimp only at hK
  try dsimp only at hK
  have hvl : v.toNat < l.length := by omega
  have e : rdOf ByteArray.empty l v = l[v.toNat] := by
    unfold rdOf; rw [List.getD_eq_getElem?_getD, List.getElem?_eq_getElem hvl]; rfl
  refine ⟨l[v.toNat], List.getElem_mem _, K, fun k hk => ?_⟩
  try dsimp only
  try dsimp only
  unfold spec_l1Rd_of.f
  rw [hK k hk]
  simp only [Option.bind_some]
  rw [if_pos (by omega), if_pos (by omega), e]
def manyS (s : ByteArray) : Nat → ByteArray
  | 0 => ⟨#[]⟩
  | n + 1 => manyS s n ++ s
theorem manyS_size (s : ByteArray) (n : Nat) : (manyS s n).size = n * s.size := by
  induction n with
  | zero => rw [Nat.zero_mul]; rfl
  | succ n ih => simp only [manyS, ByteArray.size_append, ih, Nat.succ_mul]
theorem l1Many_l0_ev (s : ByteArray) (n : Nat) (hn : n ≤ 100000) (hs : s.size ≤ 100000) : ∀ d i : Nat, i + d = n → Ev (fun k => spec_l1Many.l0 k s (n : Int) (manyS s i) (i : Int)) (manyS s n) := by
  intro d
  induction d with
  | zero =>
    intro i hi
    refine ⟨1, fun k hk => ?_⟩
    try dsimp only
    obtain ⟨m, rfl⟩ : ∃ m, k = m + 1 := ⟨k - 1, by omega⟩
    rw [spec_l1Many.l0, if_neg (by omega), show i = n by omega]
  | succ d ih =>
    intro i hi
    obtain ⟨K, hK⟩ := ih (i + 1) (by omega)
    try dsimp only at hK
    refine ⟨K + 1, fun k hk => ?_⟩
    try dsimp only
    obtain ⟨m, rfl⟩ : ∃ m, k = m + 1 := ⟨k - 1, by omega⟩
    have hm := hK m (by omega)
    have hz := manyS_size s i
    have hz2 : i * s.size ≤ 100000 * 100000 := Nat.mul_le_mul (by omega) hs
    rw [spec_l1Many.l0, if_pos (by omega), if_pos (by omega), w64 (by omega)]
    simp only [manyS] at hm
    rw [show ((i + 1 : Nat) : Int) = (i : Int) + 1 by omega] at hm
    exact hm
theorem l1Many_ev (s : ByteArray) (n : Int) (h0 : 0 ≤ n) (hn : n ≤ 100000) (hs : s.size ≤ 100000) : Ev (fun k => spec_l1Many.f k s n) (manyS s n.toNat) := by
  have h := l1Many_l0_ev s n.toNat (by omega) hs n.toNat 0 (by omega)
  rw [Int.toNat_of_nonneg h0] at h
  exact h
/-- A drawn text: short, or as many t's as may be, or one more. -/
def Short (s : ByteArray) : Prop := s.size ≤ 300 ∨ ∃ n : Nat, (9000 ≤ n ∧ n ≤ 9001) ∧ s = manyS ⟨#[116]⟩ n
theorem short_size {s : ByteArray} (h : Short s) : s.size ≤ 9001 := by
  rcases h with h | ⟨n, hn, rfl⟩
  · omega
  · rw [manyS_size, show (⟨#[116]⟩ : ByteArray).size = 1 from rfl]; omega
theorem l14Text_l1_ev {b : List Int} (hb : Code b) (n : Int) (P : Int) (S A : Nat) (C : Int) (hP : P ≤ 1000000) (hS : S ≤ 300)
    (next : ∀ (s : ByteArray) (p : Int), 0 ≤ p → p ≤ P → s.size ≤ S → ∃ (s' : ByteArray) (p' : Int), (s'.size ≤ s.size + A ∧ p ≤ p' ∧ p' ≤ p + C) ∧ Ev (fun k => spec_l14Text.l0 k s (wrap64 (n - 1)) b p) (s', p')) :
    ∀ (d : Nat) (s : ByteArray) (p : Int), d ≤ 12 → 0 ≤ p → p + d ≤ P → s.size + d ≤ S → ∃ (s' : ByteArray) (p' : Int), (s'.size ≤ s.size + d + A ∧ p ≤ p' ∧ p' ≤ p + d + C) ∧ Ev (fun k => spec_l14Text.l1 k s n (d : Int) b p) (s', p') := by
  intro d
  induction d with
  | zero =>
    intro s p hd h0 hp hs
    obtain ⟨s', p', hh, K, hK⟩ := next s p h0 (by omega) (by omega)
    try dsimp only at hK
    refine ⟨s', p', by omega, K + 1, fun k hk => ?_⟩
    try dsimp only
    obtain ⟨m, rfl⟩ : ∃ m, k = m + 1 := ⟨k - 1, by omega⟩
    try dsimp only
    rw [spec_l14Text.l1, if_neg (by omega)]
    exact hK m (by omega)
  | succ d ih =>
    intro s p hd h0 hp hs
    obtain ⟨v, hv, K1, hK1⟩ := pick_ev hb (p := p) (n := 256) (by omega) (by omega)
    try dsimp only at hK1
    try dsimp only at hK1
    have hz : (s ++ strOfNums [v % 256]).size = s.size + 1 := by rw [ByteArray.size_append, strOfNums_size]; rfl
    have hz1 : (strOfNums [v % 256]).size = 1 := by rw [strOfNums_size]; rfl
    obtain ⟨s', p', hh, K, hK⟩ := ih (s ++ strOfNums [v % 256]) (p + 1) (by omega) (by omega) (by omega) (by omega)
    try dsimp only at hK
    refine ⟨s', p', by omega, K + K1 + 1, fun k hk => ?_⟩
    try dsimp only
    obtain ⟨m, rfl⟩ : ∃ m, k = m + 1 := ⟨k - 1, by omega⟩
    try dsimp only
    rw [spec_l14Text.l1, if_pos (by omega), hK1 m (by omega)]
    simp only [Option.bind_some]
    rw [if_pos (by omega), w64 (by omega), show ((d + 1 : Nat) : Int) - 1 = (d : Int) by omega]
    exact hK m (by omega)
theorem l14Text_l0_ev {b : List Int} (hb : Code b) : ∀ (n : Nat) (s : ByteArray) (p : Int), n ≤ 6 → 0 ≤ p → p ≤ 1000000 - 20 * n → s.size + 39 * n ≤ 300 → ∃ (s' : ByteArray) (p' : Int), (s'.size ≤ s.size + 39 * n ∧ p ≤ p' ∧ p' ≤ p + 20 * n) ∧ Ev (fun k => spec_l14Text.l0 k s (n : Int) b p) (s', p') := by
  intro n
  induction n with
  | zero =>
    intro s p hn h0 hp hs
    refine ⟨s, p, by omega, 1, fun k hk => ?_⟩
    try dsimp only
    obtain ⟨m, rfl⟩ : ∃ m, k = m + 1 := ⟨k - 1, by omega⟩
    try dsimp only
    rw [spec_l14Text.l0, if_neg (by omega)]
  | succ n ih =>
    intro s p hn h0 hp hs
    obtain ⟨v, hv, K1, hK1⟩ := pick_ev hb (p := p) (n := 5) (by omega) (by omega)
    try dsimp only at hK1
    try dsimp only at hK1
    have en : wrap64 (((n + 1 : Nat) : Int) - 1) = (n : Int) := by rw [w64 (by omega)]; omega
    by_cases v0 : v = 0
    · obtain ⟨t, ht, K2, hK2⟩ := of_ev hb (p := p + 1) (by omega) [(⟨#[97]⟩ : ByteArray), (⟨#[98]⟩ : ByteArray), (⟨#[0]⟩ : ByteArray), (⟨#[255]⟩ : ByteArray)] (by decide) (by decide)
      try dsimp only at hK2
      try dsimp only at hK2
      have hts : t.size = 1 := by simp at ht; rcases ht with rfl | rfl | rfl | rfl <;> rfl
      obtain ⟨u, hu, K3, hK3⟩ := pick_ev hb (p := p + 1 + 1) (n := 40) (by omega) (by omega)
      try dsimp only at hK3
      try dsimp only at hK3
      obtain ⟨K4, hK4⟩ := l1Many_ev t u (by omega) (by omega) (by omega)
      try dsimp only at hK4
      try dsimp only at hK4
      have hz := manyS_size t u.toNat
      rw [hts, Nat.mul_one] at hz
      obtain ⟨s', p', hh, K, hK⟩ := ih (s ++ manyS t u.toNat) (p + 1 + 1 + 1) (by omega) (by omega) (by omega) (by rw [ByteArray.size_append]; omega)
      try dsimp only at hK
      rw [ByteArray.size_append] at hh
      refine ⟨s', p', by omega, K + K1 + K2 + K3 + K4 + 1, fun k hk => ?_⟩
      try dsimp only
      obtain ⟨m, rfl⟩ : ∃ m, k = m + 1 := ⟨k - 1, by omega⟩
      try dsimp only
      rw [spec_l14Text.l0, if_pos (by omega), hK1 m (by omega)]
      simp only [Option.bind_some]
      rw [if_pos v0, hK2 m (by omega)]
      simp only [Option.bind_some]
      rw [hK3 m (by omega)]
      simp only [Option.bind_some]
      rw [hK4 m (by omega)]
      simp only [Option.bind_some]
      rw [if_pos (by omega), en]
      exact hK m (by omega)
    by_cases v1 : v = 1
    · obtain ⟨s', p', hh, K, hK⟩ := ih (s ++ (⟨#[97, 32, 116, 101, 120, 116, 32, 116, 104, 97, 116, 32, 99, 111, 109, 101, 115, 32, 97, 103, 97, 105, 110, 44, 32]⟩ : ByteArray)) (p + 1) (by omega) (by omega) (by omega) (by rw [ByteArray.size_append, show (⟨#[97, 32, 116, 101, 120, 116, 32, 116, 104, 97, 116, 32, 99, 111, 109, 101, 115, 32, 97, 103, 97, 105, 110, 44, 32]⟩ : ByteArray).size = 25 from rfl]; omega)
      try dsimp only at hK
      rw [ByteArray.size_append, show (⟨#[97, 32, 116, 101, 120, 116, 32, 116, 104, 97, 116, 32, 99, 111, 109, 101, 115, 32, 97, 103, 97, 105, 110, 44, 32]⟩ : ByteArray).size = 25 from rfl] at hh
      refine ⟨s', p', by omega, K + K1 + 1, fun k hk => ?_⟩
      try dsimp only
      obtain ⟨m, rfl⟩ : ∃ m, k = m + 1 := ⟨k - 1, by omega⟩
      try dsimp only
      rw [spec_l14Text.l0, if_pos (by omega), hK1 m (by omega)]
      simp only [Option.bind_some]
      rw [if_neg v0, if_pos v1, if_pos (by omega), en]
      exact hK m (by omega)
    by_cases v2 : v = 2
    · obtain ⟨u, hu, K3, hK3⟩ := pick_ev hb (p := p + 1) (n := 12) (by omega) (by omega)
      try dsimp only at hK3
      try dsimp only at hK3
      obtain ⟨s', p', hh, K, hK⟩ := l14Text_l1_ev hb ((n + 1 : Nat) : Int) (1000000 - 20 * n) (300 - 39 * n) (39 * n) (20 * n) (by omega) (by omega) (fun s p a1 a2 a3 => by rw [en]; exact ih s p (by omega) a1 a2 (by omega)) u.toNat s (p + 1 + 1) (by omega) (by omega) (by omega) (by omega)
      try dsimp only at hK
      rw [Int.toNat_of_nonneg (by omega)] at hK
      refine ⟨s', p', by omega, K + K1 + K3 + 1, fun k hk => ?_⟩
      try dsimp only
      obtain ⟨m, rfl⟩ : ∃ m, k = m + 1 := ⟨k - 1, by omega⟩
      try dsimp only
      rw [spec_l14Text.l0, if_pos (by omega), hK1 m (by omega)]
      simp only [Option.bind_some]
      rw [if_neg v0, if_neg v1, if_pos v2, hK3 m (by omega)]
      simp only [Option.bind_some]
      exact hK m (by omega)
    · obtain ⟨t, ht, K2, hK2⟩ := of_ev hb (p := p + 1) (by omega) [(⟨#[120]⟩ : ByteArray), (⟨#[97, 98, 99]⟩ : ByteArray), (⟨#[97, 98, 99, 97, 98, 99, 97, 98, 99, 100]⟩ : ByteArray), (⟨#[32]⟩ : ByteArray)] (by decide) (by decide)
      try dsimp only at hK2
      try dsimp only at hK2
      have hts : t.size ≤ 10 := by simp at ht; rcases ht with rfl | rfl | rfl | rfl <;> decide
      obtain ⟨s', p', hh, K, hK⟩ := ih (s ++ t) (p + 1 + 1) (by omega) (by omega) (by omega) (by rw [ByteArray.size_append]; omega)
      try dsimp only at hK
      rw [ByteArray.size_append] at hh
      refine ⟨s', p', by omega, K + K1 + K2 + 1, fun k hk => ?_⟩
      try dsimp only
      obtain ⟨m, rfl⟩ : ∃ m, k = m + 1 := ⟨k - 1, by omega⟩
      try dsimp only
      rw [spec_l14Text.l0, if_pos (by omega), hK1 m (by omega)]
      simp only [Option.bind_some]
      rw [if_neg v0, if_neg v1, if_neg v2, hK2 m (by omega)]
      simp only [Option.bind_some]
      rw [if_pos (by omega), en]
      exact hK m (by omega)
theorem l14Text_ev {b : List Int} (hb : Code b) {p : Int} (hp : 0 ≤ p ∧ p ≤ 900000) : ∃ (s : ByteArray) (p' : Int), (Short s ∧ p ≤ p' ∧ p' ≤ p + 200) ∧ Ev (fun k => spec_l14Text.f k b p) (s, p') := by
  obtain ⟨v, hv, K1, hK1⟩ := pick_ev hb (p := p) (n := 150) (by omega) (by omega)
  try dsimp only at hK1
  try dsimp only at hK1
  by_cases v0 : v = 0
  · obtain ⟨u, hu, K2, hK2⟩ := pick_ev hb (p := p + 1) (n := 2) (by omega) (by omega)
    try dsimp only at hK2
    try dsimp only at hK2
    obtain ⟨K3, hK3⟩ := l1Many_ev (⟨#[116]⟩ : ByteArray) (9000 + u) (by omega) (by omega) (by decide)
    try dsimp only at hK3
    try dsimp only at hK3
    refine ⟨manyS ⟨#[116]⟩ (9000 + u).toNat, p + 1 + 1, ⟨?_, by omega, by omega⟩, K1 + K2 + K3, fun k hk => ?_⟩
    try dsimp only
    · exact .inr ⟨_, by omega, rfl⟩
    · dsimp only
      unfold spec_l14Text.f
      rw [hK1 k (by omega)]
      simp only [Option.bind_some]
      rw [if_pos v0, hK2 k (by omega)]
      simp only [Option.bind_some]
      rw [w64 (by omega), hK3 k (by omega)]
      rfl
  · obtain ⟨u, hu, K2, hK2⟩ := pick_ev hb (p := p + 1) (n := 7) (by omega) (by omega)
    try dsimp only at hK2
    try dsimp only at hK2
    obtain ⟨s', p', hh, K, hK⟩ := l14Text_l0_ev hb u.toNat (⟨#[]⟩ : ByteArray) (p + 1 + 1) (by omega) (by omega) (by omega) (by rw [show (⟨#[]⟩ : ByteArray).size = 0 from rfl]; omega)
    try dsimp only at hK
    rw [show (⟨#[]⟩ : ByteArray).size = 0 from rfl] at hh
    rw [Int.toNat_of_nonneg (by omega)] at hK
    refine ⟨s', p', ⟨.inl (by omega), by omega, by omega⟩, K + K1 + K2, fun k hk => ?_⟩
    try dsimp only
    try dsimp only
    unfold spec_l14Text.f
    rw [hK1 k (by omega)]
    simp only [Option.bind_some]
    rw [if_neg v0, hK2 k (by omega)]
    simp only [Option.bind_some]
    exact hK k (by omega)
theorem drawCodePut_l0_ev {b : List Int} (hb : Code b) (L : List Int) (hL : L.length ≤ 301) : ∀ (n : Nat) (S : List Int) (p : Int), n + S.length ≤ 20 → 0 ≤ p → p ≤ 1000000 - 2 * n → ∃ (S' : List Int) (p' : Int), S'.length ≤ 20 ∧ Ev (fun k => spec_DrawCodePut.l0 k L S (n : Int) b p) (S', L) := by
  intro n
  induction n with
  | zero =>
    intro S p hn h0 h1
    refine ⟨S, p, by omega, 2, fun k hk => ?_⟩
    try dsimp only
    obtain ⟨m, rfl⟩ : ∃ m, k = m + 1 + 1 := ⟨k - 2, by omega⟩
    try dsimp only
    rw [spec_DrawCodePut.l0, if_neg (by omega), spec_DrawCodePut.j1, if_neg (by decide)]
  | succ n ih =>
    intro S p hn h0 h1
    by_cases c : (L.length : Int) > 0
    · obtain ⟨v, hv, K1, hK1⟩ := pick_ev hb (p := p) (n := (L.length : Int)) (by omega) (by omega)
      try dsimp only at hK1
      try dsimp only at hK1
      by_cases c2 : rd L v > 0
      · obtain ⟨S', p', hS, K2, hK2⟩ := ih (S ++ [v]) (p + 1) (by simp; omega) (by omega) (by omega)
        try dsimp only at hK2
        refine ⟨S', p', hS, K1 + K2 + 2, fun k hk => ?_⟩
        try dsimp only
        obtain ⟨m, rfl⟩ : ∃ m, k = m + 1 + 1 := ⟨k - 2, by omega⟩
        try dsimp only
        rw [spec_DrawCodePut.l0, if_pos (by omega), decide_eq_true c, spec_DrawCodePut.j1, if_pos rfl, hK1 m (by omega), Option.bind_some]
        try dsimp only
        rw [if_pos (by omega), if_pos (by omega), if_pos c2, if_pos (by omega), w64 (by omega), show ((n + 1 : Nat) : Int) - 1 = (n : Int) by omega]
        exact hK2 m (by omega)
      · obtain ⟨u, hu, K3, hK3⟩ := pick_ev hb (p := p + 1) (n := 20) (by omega) (by omega)
        try dsimp only at hK3
        try dsimp only at hK3
        by_cases c3 : u = 0
        · obtain ⟨S', p', hS, K2, hK2⟩ := ih (S ++ [v]) (p + 1 + 1) (by simp; omega) (by omega) (by omega)
          try dsimp only at hK2
          refine ⟨S', p', hS, K1 + K2 + K3 + 2, fun k hk => ?_⟩
          try dsimp only
          obtain ⟨m, rfl⟩ : ∃ m, k = m + 1 + 1 := ⟨k - 2, by omega⟩
          try dsimp only
          rw [spec_DrawCodePut.l0, if_pos (by omega), decide_eq_true c, spec_DrawCodePut.j1, if_pos rfl, hK1 m (by omega), Option.bind_some]
          try dsimp only
          rw [if_pos (by omega), if_pos (by omega), if_neg c2, hK3 m (by omega), Option.bind_some]
          try dsimp only
          rw [if_pos c3, if_pos (by omega), w64 (by omega), show ((n + 1 : Nat) : Int) - 1 = (n : Int) by omega]
          exact hK2 m (by omega)
        · obtain ⟨S', p', hS, K2, hK2⟩ := ih S (p + 1 + 1) (by omega) (by omega) (by omega)
          try dsimp only at hK2
          refine ⟨S', p', hS, K1 + K2 + K3 + 2, fun k hk => ?_⟩
          try dsimp only
          obtain ⟨m, rfl⟩ : ∃ m, k = m + 1 + 1 := ⟨k - 2, by omega⟩
          try dsimp only
          rw [spec_DrawCodePut.l0, if_pos (by omega), decide_eq_true c, spec_DrawCodePut.j1, if_pos rfl, hK1 m (by omega), Option.bind_some]
          try dsimp only
          rw [if_pos (by omega), if_pos (by omega), if_neg c2, hK3 m (by omega), Option.bind_some]
          try dsimp only
          rw [if_neg c3, w64 (by omega), show ((n + 1 : Nat) : Int) - 1 = (n : Int) by omega]
          exact hK2 m (by omega)
    · refine ⟨S, p, by omega, 2, fun k hk => ?_⟩
      try dsimp only
      obtain ⟨m, rfl⟩ : ∃ m, k = m + 1 + 1 := ⟨k - 2, by omega⟩
      try dsimp only
      rw [spec_DrawCodePut.l0, if_pos (by omega), decide_eq_false c, spec_DrawCodePut.j1, if_neg (by decide)]
theorem drawCodePut_ev {b : List Int} (hb : ∀ x ∈ b, (Lit.int .u8 x).wf = true) : ∃ S L : List Int, (S.length ≤ 20 ∧ LenOk L) ∧ Ev (fun k => spec_DrawCodePut.f k b) (S, L) := by
  have hc := code_open hb
  obtain ⟨L, p, hL, K, hK⟩ := l14Lengths_ev hc (p := 0) (by omega) (by omega)
  try dsimp only at hK
  try dsimp only at hK
  obtain ⟨v, hv, K1, hK1⟩ := pick_ev hc (p := p) (n := 12) (by omega) (by omega)
  try dsimp only at hK1
  try dsimp only at hK1
  obtain ⟨S, p', hS, K2, hK2⟩ := drawCodePut_l0_ev hc L hL.1.1 v.toNat [] (p + 1) (by simp; omega) (by omega) (by omega)
  rw [Int.toNat_of_nonneg (by omega)] at hK2
  try dsimp only at hK2
  refine ⟨S, L, ⟨hS, hL.1⟩, K + K1 + K2, fun k hk => ?_⟩
  try dsimp only
  try dsimp only
  unfold spec_DrawCodePut.f
  rw [l1Open_f, Option.bind_some]
  try dsimp only
  rw [hK k (by omega), Option.bind_some]
  try dsimp only
  rw [hK1 k (by omega), Option.bind_some]
  try dsimp only
  exact hK2 k (by omega)
/-! The bits put into a text: that it ends, and how long the text is. -/
theorem l1Put_l1_ev (B : List S50) (i : Nat) (hi : i < B.length) (hBl : B.length ≤ 1000) (z : Nat) (hz : (rd_T50 B (i : Int)).f1 = (z : Int)) (hz2 : z ≤ 24) : ∀ (d j p : Nat) (X : List Int), j + d = z → X.length = (p + 7) / 8 → p ≤ 1000000 - d →
    ∃ X' : List Int, X'.length = (p + d + 7) / 8 ∧ ∀ r, Ev (fun k => spec_l1Put.l0 k B false X' ((p + d : Nat) : Int) ((i : Int) + 1)) r → Ev (fun k => spec_l1Put.l1 k B false X (p : Int) (i : Int) (j : Int)) r := by
  intro d
  induction d with
  | zero =>
    intro j p X hj hX hp
    refine ⟨X, by rw [hX, Nat.add_zero], fun r hE => ?_⟩
    obtain ⟨K, hK⟩ := hE
    try dsimp only at hK
    refine ⟨K + 1, fun k hk => ?_⟩
    try dsimp only
    obtain ⟨m, rfl⟩ : ∃ m, k = m + 1 := ⟨k - 1, by omega⟩
    try dsimp only
    rw [spec_l1Put.l1, if_pos (by omega), if_pos (by omega), hz, if_neg (by omega), w64 (by omega)]
    exact hK m (by omega)
  | succ d ih =>
    intro j p X hj hX hp
    obtain ⟨K1, hK1⟩ := l1Pow_evI (j : Int) (by omega) (by omega)
    try dsimp only at hK1
    obtain ⟨K2, hK2⟩ := l1Pow_evI ((p : Int) % 8) (by omega) (by omega)
    try dsimp only at hK2
    try dsimp only at hK1 hK2
    have hpw := P2_pos (j : Int).toNat
    have e8 : wrap64 (Int.tdiv (p : Int) 8) = (p : Int) / 8 := by rw [tdiv_pos (by omega), w64 (by omega)]
    have em : Int.tmod (p : Int) 8 = (p : Int) % 8 := tmod_pos (by omega)
    by_cases c : (p : Int) % 8 = 0
    · obtain ⟨X', hX', hE'⟩ := ih (j + 1) (p + 1) ((X ++ [0]).set ((p : Int) / 8).toNat (((rd (X ++ [0]) ((p : Int) / 8)) + ((wrap64 ((Int.tmod (wrap64 (Int.tdiv ((rd_T50 B (i : Int)).f0) (P2 (j : Int).toNat))) 2) * P2 ((p : Int) % 8).toNat)) % 256)) % 256)) (by omega) (by rw [List.length_set, List.length_append, List.length_singleton]; omega) (by omega)
      refine ⟨X', by rw [hX']; congr 1; omega, fun r hE => ?_⟩
      obtain ⟨K, hK⟩ := hE' r (by rw [show p + 1 + d = p + (d + 1) by omega]; exact hE)
      try dsimp only at hK
      try dsimp only at hK
      refine ⟨K + K1 + K2 + 2, fun k hk => ?_⟩
      try dsimp only
      obtain ⟨m, rfl⟩ : ∃ m, k = m + 1 + 1 := ⟨k - 2, by omega⟩
      try dsimp only
      rw [spec_l1Put.l1, if_pos (by omega), if_pos (by omega), hz, if_pos (by omega), if_neg (by decide), spec_l1Put.j2, if_pos (by omega), if_pos (by omega), hK1 m (by omega), Option.bind_some, if_neg (by omega), em, if_pos c, if_pos (by omega), Option.bind_some, if_neg (by decide), e8, if_pos (by omega), if_pos (by rw [List.length_append, List.length_singleton]; omega), hK2 m (by omega), Option.bind_some, w64 (x := (p : Int) + 1) (by omega), w64 (x := (j : Int) + 1) (by omega)]
      exact hK m (by omega)
    · obtain ⟨X', hX', hE'⟩ := ih (j + 1) (p + 1) (X.set ((p : Int) / 8).toNat (((rd X ((p : Int) / 8)) + ((wrap64 ((Int.tmod (wrap64 (Int.tdiv ((rd_T50 B (i : Int)).f0) (P2 (j : Int).toNat))) 2) * P2 ((p : Int) % 8).toNat)) % 256)) % 256)) (by omega) (by rw [List.length_set]; omega) (by omega)
      refine ⟨X', by rw [hX']; congr 1; omega, fun r hE => ?_⟩
      obtain ⟨K, hK⟩ := hE' r (by rw [show p + 1 + d = p + (d + 1) by omega]; exact hE)
      try dsimp only at hK
      try dsimp only at hK
      refine ⟨K + K1 + K2 + 2, fun k hk => ?_⟩
      try dsimp only
      obtain ⟨m, rfl⟩ : ∃ m, k = m + 1 + 1 := ⟨k - 2, by omega⟩
      try dsimp only
      rw [spec_l1Put.l1, if_pos (by omega), if_pos (by omega), hz, if_pos (by omega), if_neg (by decide), spec_l1Put.j2, if_pos (by omega), if_pos (by omega), hK1 m (by omega), Option.bind_some, if_neg (by omega), em, if_neg c, if_neg (by decide), e8, if_pos (by omega), if_pos (by omega), hK2 m (by omega), Option.bind_some, w64 (x := (p : Int) + 1) (by omega), w64 (x := (j : Int) + 1) (by omega)]
      exact hK m (by omega)
theorem rdB_map (l : List (Int × Int)) (i : Nat) (hi : i < l.length) : rd_T50 (l.map toB) (i : Int) = toB l[i] := by
  unfold rd_T50
  rw [Int.toNat_natCast, List.getD_eq_getElem?_getD, List.getElem?_map, List.getElem?_eq_getElem hi]; rfl
theorem l1Put_l0_ev (l : List (Int × Int)) (hl : l.length ≤ 1000) (hok : ∀ t ∈ l, 0 ≤ t.2 ∧ t.2 ≤ 15 ∧ 0 ≤ t.1 ∧ t.1 < P2 t.2.toNat) : ∀ (d i p : Nat) (X : List Int), i + d = l.length → X.length = (p + 7) / 8 → p ≤ 100000 - 15 * d →
    ∃ s : ByteArray, s.size ≤ 20000 ∧ Ev (fun k => spec_l1Put.l0 k (l.map toB) false X (p : Int) (i : Int)) s := by
  intro d
  induction d with
  | zero =>
    intro i p X hi hX hp
    refine ⟨strOfNums X, by rw [strOfNums_size, hX]; omega, 1, fun k hk => ?_⟩
    try dsimp only
    obtain ⟨m, rfl⟩ : ∃ m, k = m + 1 := ⟨k - 1, by omega⟩
    try dsimp only
    rw [spec_l1Put.l0, if_neg (by rw [List.length_map]; omega)]
  | succ d ih =>
    intro i p X hi hX hp
    have ht := hok _ (List.getElem_mem (show i < l.length by omega))
    obtain ⟨X', hX', hE'⟩ := l1Put_l1_ev (l.map toB) i (by rw [List.length_map]; omega) (by rw [List.length_map]; omega) (l[i]'(by omega)).2.toNat (by rw [rdB_map l i (by omega)]; show (l[i]'(by omega)).2 = _; omega) (by omega) (l[i]'(by omega)).2.toNat 0 p X (by omega) hX (by omega)
    obtain ⟨s, hs, hE⟩ := ih (i + 1) (p + (l[i]'(by omega)).2.toNat) X' (by omega) hX' (by omega)
    rw [show ((i + 1 : Nat) : Int) = (i : Int) + 1 by omega] at hE
    obtain ⟨K, hK⟩ := hE' s hE
    try dsimp only at hK
    try dsimp only at hK
    refine ⟨s, hs, K + 1, fun k hk => ?_⟩
    try dsimp only
    obtain ⟨m, rfl⟩ : ∃ m, k = m + 1 := ⟨k - 1, by omega⟩
    try dsimp only
    rw [spec_l1Put.l0, if_pos (by rw [List.length_map]; omega)]
    exact hK m (by omega)
theorem l1Ok_ev (t : Int × Int) (h : 0 ≤ t.2 ∧ t.2 ≤ 15 ∧ 0 ≤ t.1 ∧ t.1 < P2 t.2.toNat) : Ev (fun k => spec_l1Ok.f k t.1 t.2) true := by
  obtain ⟨K, hK⟩ := l1Pow_evI t.2 (by omega) (by omega)
  try dsimp only at hK
  try dsimp only at hK
  have hp := P2_b (n := t.2.toNat) (m := 15) (by omega)
  rw [P2_15] at hp
  refine ⟨K, fun k hk => ?_⟩
  try dsimp only
  try dsimp only
  unfold spec_l1Ok.f
  rw [l1In_f, Option.bind_some, if_pos (decide_eq_true (by omega)), hK k hk, Option.bind_some, w64 (by omega), l1In_f, Option.bind_some, decide_eq_true (by omega)]
theorem bitsPut_l0_ev (l : List (Int × Int)) (hl : l.length ≤ 1000) (hok : ∀ t ∈ l, 0 ≤ t.2 ∧ t.2 ≤ 15 ∧ 0 ≤ t.1 ∧ t.1 < P2 t.2.toNat) (s : ByteArray) (hE : Ev (fun k => spec_l1Put.f k (l.map toB) false) s) : ∀ (d i : Nat) (q : Int), i + d = l.length → 0 ≤ q → q ≤ 15 * i →
    Ev (fun k => spec_BitsPut.l0 k (l.map toB) false q (i : Int)) s := by
  intro d
  induction d with
  | zero =>
    intro i q hi h0 h1
    obtain ⟨K, hK⟩ := hE
    try dsimp only at hK
    try dsimp only at hK
    refine ⟨K + 1, fun k hk => ?_⟩
    try dsimp only
    obtain ⟨m, rfl⟩ : ∃ m, k = m + 1 := ⟨k - 1, by omega⟩
    try dsimp only
    rw [spec_BitsPut.l0, if_neg (by rw [List.length_map]; omega), hK m (by omega), Option.bind_some]
  | succ d ih =>
    intro i q hi h0 h1
    have ht := hok _ (List.getElem_mem (show i < l.length by omega))
    obtain ⟨K1, hK1⟩ := l1Ok_ev _ ht
    try dsimp only at hK1
    try dsimp only at hK1
    obtain ⟨K, hK⟩ := ih (i + 1) (q + (l[i]'(by omega)).2) (by omega) (by omega) (by omega)
    try dsimp only at hK
    try dsimp only at hK
    refine ⟨K + K1 + 1, fun k hk => ?_⟩
    try dsimp only
    obtain ⟨m, rfl⟩ : ∃ m, k = m + 1 := ⟨k - 1, by omega⟩
    try dsimp only
    have hm := hK m (by omega)
    rw [show ((i + 1 : Nat) : Int) = (i : Int) + 1 by omega] at hm
    rw [spec_BitsPut.l0, if_pos (by rw [List.length_map]; omega), if_pos (by omega), rdB_map l i (by omega)]
    show (spec_l1Ok.f m (l[i]'(by omega)).1 (l[i]'(by omega)).2).bind _ = _
    rw [hK1 m (by omega), Option.bind_some, if_pos rfl]
    show (if wrap64 (q + (l[i]'(by omega)).2) > 72000 then _ else spec_BitsPut.l0 m _ _ (wrap64 (q + (l[i]'(by omega)).2)) _) = _
    rw [w64 (x := q + _) (by omega), if_neg (by omega), w64 (by omega)]
    exact hm
theorem bitsPut_ev (l : List (Int × Int)) (hl : l.length ≤ 1000) (hok : ∀ t ∈ l, 0 ≤ t.2 ∧ t.2 ≤ 15 ∧ 0 ≤ t.1 ∧ t.1 < P2 t.2.toNat) : ∃ s : ByteArray, s.size ≤ 20000 ∧ Ev (fun k => spec_BitsPut.f k (l.map toB) false) s := by
  obtain ⟨s, hs, hE⟩ := l1Put_l0_ev l hl hok l.length 0 0 [] (by omega) rfl (by omega)
  exact ⟨s, hs, bitsPut_l0_ev l hl hok s hE l.length 0 0 (by omega) (by omega) (by omega)⟩
theorem drawCodeGet_ev {b : List Int} (hb : ∀ x ∈ b, (Lit.int .u8 x).wf = true) : ∃ (s : ByteArray) (at_ : Int) (L : List Int), (s.size ≤ 20000 ∧ LenOk L) ∧ Ev (fun k => spec_DrawCodeGet.f k b) (s, at_, L) := by
  have hc := code_open hb
  obtain ⟨S, L, hSL, K1, hK1⟩ := drawCodePut_ev hb
  try dsimp only at hK1
  try dsimp only at hK1
  have hLl := hSL.2.1
  obtain ⟨K2, hK2⟩ := spec_CodePut_ev S L (by omega) (by omega)
  try dsimp only at hK2
  try dsimp only at hK2
  obtain ⟨t, ht, K3, hK3⟩ := bitsPut_ev (codePutM S L) (by have := codePutM_short S L; omega) (codePutM_ok S L)
  try dsimp only at hK3
  try dsimp only at hK3
  obtain ⟨v, hv, K4, hK4⟩ := pick_ev hc (p := 0) (n := 4) (by omega) (by omega)
  try dsimp only at hK4
  try dsimp only at hK4
  by_cases c : v = 0
  · obtain ⟨s, p1, hs, K5, hK5⟩ := l14Text_ev hc (p := 0 + 1) (by omega)
    try dsimp only at hK5
    try dsimp only at hK5
    have hz := short_size hs.1
    obtain ⟨u, hu, K6, hK6⟩ := pick_ev hc (p := p1) (n := 8 * (s.size : Int) + 3) (by omega) (by omega)
    try dsimp only at hK6
    try dsimp only at hK6
    refine ⟨s, wrap64 (u - 1), L, ⟨by omega, hSL.2⟩, K1 + K2 + K3 + K4 + K5 + K6, fun k hk => ?_⟩
    try dsimp only
    try dsimp only
    unfold spec_DrawCodeGet.f
    rw [l1Open_f, Option.bind_some]
    try dsimp only
    rw [hK1 k (by omega), Option.bind_some]
    try dsimp only
    rw [hK2 k (by omega), Option.bind_some, hK3 k (by omega), Option.bind_some, hK4 k (by omega), Option.bind_some]
    try dsimp only
    rw [if_pos c, hK5 k (by omega), Option.bind_some]
    try dsimp only
    rw [w64 (x := 8 * (s.size : Int)) (by omega), w64 (x := 8 * (s.size : Int) + 3) (by omega), hK6 k (by omega), Option.bind_some]
  · obtain ⟨u, hu, K6, hK6⟩ := pick_ev hc (p := 0 + 1) (n := 8 * (t.size : Int) + 3) (by omega) (by omega)
    try dsimp only at hK6
    try dsimp only at hK6
    refine ⟨t, wrap64 (u - 1), L, ⟨ht, hSL.2⟩, K1 + K2 + K3 + K4 + K6, fun k hk => ?_⟩
    try dsimp only
    try dsimp only
    unfold spec_DrawCodeGet.f
    rw [l1Open_f, Option.bind_some]
    try dsimp only
    rw [hK1 k (by omega), Option.bind_some]
    try dsimp only
    rw [hK2 k (by omega), Option.bind_some, hK3 k (by omega), Option.bind_some, hK4 k (by omega), Option.bind_some]
    try dsimp only
    rw [if_neg c, w64 (x := 8 * (t.size : Int)) (by omega), w64 (x := 8 * (t.size : Int) + 3) (by omega), hK6 k (by omega), Option.bind_some]
theorem l1Bit_ev (s : ByteArray) (at_ : Int) (high : Bool) (h0 : 0 ≤ at_) (h1 : at_ < 8 * s.size) (hs : s.size ≤ 140737488351232) : Ev (fun k => spec_l1Bit.f k s at_ high) (bitM s at_ high) := by
  have hb := bt_range s (at_ / 8)
  unfold spec_l1Bit.f bitM
  simp only [tdiv_pos h0, tmod_pos h0]
  rw [w64 (x := at_ / 8) (by omega), w64 (x := bt s (at_ / 8)) (by omega)]
  cases high
  · obtain ⟨K, hK⟩ := l1Pow_evI (at_ % 8) (by omega) (by omega)
    try dsimp only at hK
    refine ⟨K, fun k hk => ?_⟩
    try dsimp only
    have hp := P2_62b (n := (at_ % 8).toNat) (by omega)
    have hq : 0 ≤ bt s (at_ / 8) / P2 (at_ % 8).toNat := Int.ediv_nonneg hb.1 (by omega)
    have hq2 : bt s (at_ / 8) / P2 (at_ % 8).toNat ≤ bt s (at_ / 8) := Int.ediv_le_self _ hb.1
    simp only [Bool.false_eq_true, if_false]
    rw [if_pos (by omega), if_pos (by omega), hK k hk]
    simp only [Option.bind_some]
    rw [if_neg (by omega), tdiv_pos hb.1, w64 (by omega), tmod_pos hq]
  · obtain ⟨K, hK⟩ := l1Pow_evI (7 - at_ % 8) (by omega) (by omega)
    try dsimp only at hK
    refine ⟨K, fun k hk => ?_⟩
    try dsimp only
    have hp := P2_62b (n := (7 - at_ % 8).toNat) (by omega)
    have hq : 0 ≤ bt s (at_ / 8) / P2 (7 - at_ % 8).toNat := Int.ediv_nonneg hb.1 (by omega)
    have hq2 : bt s (at_ / 8) / P2 (7 - at_ % 8).toNat ≤ bt s (at_ / 8) := Int.ediv_le_self _ hb.1
    simp only [if_true]
    rw [if_pos (by omega), if_pos (by omega), w64 (x := 7 - at_ % 8) (by omega), hK k hk]
    simp only [Option.bind_some]
    rw [if_neg (by omega), tdiv_pos hb.1, w64 (by omega), tmod_pos hq]
theorem bitAt_f (s : ByteArray) (at_ : Int) (high : Bool) (h0 : 0 ≤ at_) (h1 : at_ < 8 * s.size) (hs : s.size ≤ 140737488351232) : impl_bitAt.f s at_ high = some (bitM s at_ high) := by
  have hb := bt_range s (at_ / 8)
  unfold impl_bitAt.f bitM
  simp only [tdiv_pos h0, tmod_pos h0]
  rw [w64 (x := at_ / 8) (by omega), w64 (x := bt s (at_ / 8)) (by omega), w64 (x := 7 - at_ % 8) (by omega)]
  cases high
  · have hq : 0 ≤ bt s (at_ / 8) / P2 (at_ % 8).toNat := Int.ediv_nonneg hb.1 (by have := P2_pos (at_ % 8).toNat; omega)
    have hq2 : bt s (at_ / 8) / P2 (at_ % 8).toNat ≤ bt s (at_ / 8) := Int.ediv_le_self _ hb.1
    simp only [Bool.false_eq_true, if_false]
    rw [if_pos (by omega), if_pos (by omega), if_pos (by omega), shr_P2 (by omega), and1 hq (by omega)]
  · have hq : 0 ≤ bt s (at_ / 8) / P2 (7 - at_ % 8).toNat := Int.ediv_nonneg hb.1 (by have := P2_pos (7 - at_ % 8).toNat; omega)
    have hq2 : bt s (at_ / 8) / P2 (7 - at_ % 8).toNat ≤ bt s (at_ / 8) := Int.ediv_le_self _ hb.1
    simp only [if_true]
    rw [if_pos (by omega), if_pos (by omega), if_pos (by omega), shr_P2 (by omega), and1 hq (by omega)]
theorem impl_CodeGet_l0_ev (s : ByteArray) (at_ : Int) (L : List Int) (hs : s.size ≤ 9000) (h0 : 0 ≤ at_ ∧ at_ ≤ 8 * (s.size : Int)) (hL : L.length = (codesM L).length) : ∀ d i : Nat, i + d = 15 → (at_ + i ≤ 8 * (s.size : Int)) →
    impl_CodeGet.l0 s L (codesM L) d (acM s at_ i) (at_ + i) = some (getR (fM s at_ L d i)) := by
  intro d
  induction d with
  | zero => intro i _ _; rfl
  | succ d ih =>
    intro i hi hle
    unfold impl_CodeGet.l0 fM
    by_cases hlt : at_ + i < 8 * (s.size : Int)
    · have hb := bitM_b s (at_ + i) false
      have ha := acM_b s at_ i
      have hp := P2_b (n := i) (m := 15) (by omega)
      rw [P2_15] at hp
      have e1 : wrap64 (wrap64 (2 * acM s at_ i) + bitM s (at_ + i) false) = acM s at_ (i + 1) := by
        rw [w64 (x := 2 * acM s at_ i) (by omega), w64 (by omega)]; rfl
      rw [if_pos hlt, bitAt_f s _ _ (by omega) (by omega) (by omega), Option.bind_some, e1, show (15 - (d : Int)) = (i : Int) + 1 by omega, ← hL, if_pos hlt]
      cases hq : symF (codesM L) L (acM s at_ (i + 1)) ((i : Int) + 1) L.length with
      | some j => rfl
      | none =>
        have := ih (i + 1) (by omega) (by omega)
        rw [show ((i + 1 : Nat) : Int) = (i : Int) + 1 by omega, ← Int.add_assoc] at this
        exact this
    · rw [if_neg hlt, if_neg hlt]; rfl
theorem impl_CodeGet_ev (s : ByteArray) (at_ : Int) (L : List Int) (hl : L.length ≤ 1048576) : Ev (fun k => impl_CodeGet.f k s at_ L) (codeGetM s at_ L) := by
  obtain ⟨K1, h1⟩ := impl_CodeOk_ev L hl
  try dsimp only at h1
  obtain ⟨K2, h2⟩ := impl_CodeMake_ev L hl
  try dsimp only at h2
  try dsimp only at h1 h2
  refine ⟨K1 + K2, fun k hk => ?_⟩
  try dsimp only
  try dsimp only
  unfold impl_CodeGet.f codeGetM
  rw [h1 k (by omega), Option.bind_some]
  by_cases c : codeOkM L = true
  · have hh := of_decide_eq_true c
    rw [if_pos c]
    by_cases c2 : (s.size : Int) > 9000
    · rw [if_pos c2, if_neg (fun h => by omega)]
    · rw [if_neg c2]
      by_cases c3 : 0 ≤ at_ ∧ at_ ≤ 8 * (s.size : Int)
      · have e : codeMakeM L = codesM L := by unfold codeMakeM; rw [if_pos c]
        rw [if_pos c3, h2 k (by omega), Option.bind_some, e, if_pos ⟨c, by omega, c3.1, c3.2⟩]
        unfold impl_CodeGet.j0
        rw [if_pos ⟨codesM_length L, hh.2.1, smallI_codes hh.1 hh.2.2, fun v hv => by have := hh.1 v hv; omega⟩]
        have := impl_CodeGet_l0_ev s at_ L (by omega) c3 (codesM_length L).symm 15 0 (by omega) (by omega)
        rw [show at_ + ((0 : Nat) : Int) = at_ by omega] at this
        exact this
      · rw [if_neg c3, if_neg (fun h => c3 ⟨h.2.2.1, h.2.2.2⟩)]
  · rw [if_neg c, if_neg (fun h => c h.1)]
theorem l3Get_l1_none (s : ByteArray) (at_ : Int) (L codes : List Int) (hl : L.length ≤ 300) (hc : codes.length = L.length) (n z : Int) (hz : 0 < z) (hq : symF codes L n z L.length = none) (r : Int × Int) (hnext : Ev (fun k => spec_l3Get.l0 k s at_ codes L n (wrap64 (z + 1))) r) :
    ∀ d i : Nat, i + d = L.length → Ev (fun k => spec_l3Get.l1 k s at_ codes L n z (i : Int)) r := by
  have hno := symF_none hq
  intro d
  induction d with
  | zero =>
    intro i hi
    obtain ⟨K, hK⟩ := hnext
    try dsimp only at hK
    refine ⟨K + 1, fun k hk => ?_⟩
    try dsimp only
    obtain ⟨m, rfl⟩ : ∃ m, k = m + 1 := ⟨k - 1, by omega⟩
    rw [spec_l3Get.l1, if_neg (by omega)]
    exact hK m (by omega)
  | succ d ih =>
    intro i hi
    obtain ⟨K, hK⟩ := ih (i + 1) (by omega)
    try dsimp only at hK
    refine ⟨K + 1, fun k hk => ?_⟩
    try dsimp only
    obtain ⟨m, rfl⟩ : ∃ m, k = m + 1 := ⟨k - 1, by omega⟩
    have hm := hK m (by omega)
    try dsimp only at hm
    rw [show ((i + 1 : Nat) : Int) = (i : Int) + 1 by omega] at hm
    have hn := hno i (by omega)
    have e1 : rd L (i : Int) = L.getD i 0 := by unfold rd; rw [Int.toNat_natCast]
    have e2 : rd codes (i : Int) = codes.getD i 0 := by unfold rd; rw [Int.toNat_natCast]
    rw [spec_l3Get.l1, if_pos (by omega), if_pos (by omega), w64 (x := (i : Int) + 1) (by omega), e1, e2]
    by_cases c : L.getD i 0 = z
    · rw [if_pos c, if_pos (by omega), if_neg (fun h => hn ⟨by omega, h, c⟩)]
      exact hm
    · rw [if_neg c]
      exact hm
theorem l3Get_l1_some (s : ByteArray) (at_ : Int) (L codes : List Int) (hl : L.length ≤ 300) (hc : codes.length = L.length) (n z : Int) (j : Nat) (hj : j < L.length) (hz : L.getD j 0 = z) (hn : codes.getD j 0 = n) (hfirst : ∀ i, i < j → ¬ (L.getD i 0 = z ∧ codes.getD i 0 = n)) :
    ∀ d i : Nat, i + d = j → Ev (fun k => spec_l3Get.l1 k s at_ codes L n z (i : Int)) ((j : Int), at_) := by
  intro d
  induction d with
  | zero =>
    intro i hi
    obtain rfl : i = j := by omega
    refine ⟨1, fun k hk => ?_⟩
    try dsimp only
    obtain ⟨m, rfl⟩ : ∃ m, k = m + 1 := ⟨k - 1, by omega⟩
    have e1 : rd L (i : Int) = L.getD i 0 := by unfold rd; rw [Int.toNat_natCast]
    have e2 : rd codes (i : Int) = codes.getD i 0 := by unfold rd; rw [Int.toNat_natCast]
    rw [spec_l3Get.l1, if_pos (by omega), if_pos (by omega), e1, e2, if_pos hz, if_pos (by omega), if_pos hn]
  | succ d ih =>
    intro i hi
    obtain ⟨K, hK⟩ := ih (i + 1) (by omega)
    try dsimp only at hK
    refine ⟨K + 1, fun k hk => ?_⟩
    try dsimp only
    obtain ⟨m, rfl⟩ : ∃ m, k = m + 1 := ⟨k - 1, by omega⟩
    have hm := hK m (by omega)
    try dsimp only at hm
    rw [show ((i + 1 : Nat) : Int) = (i : Int) + 1 by omega] at hm
    have hno := hfirst i (by omega)
    have e1 : rd L (i : Int) = L.getD i 0 := by unfold rd; rw [Int.toNat_natCast]
    have e2 : rd codes (i : Int) = codes.getD i 0 := by unfold rd; rw [Int.toNat_natCast]
    rw [spec_l3Get.l1, if_pos (by omega), if_pos (by omega), w64 (x := (i : Int) + 1) (by omega), e1, e2]
    by_cases c : L.getD i 0 = z
    · rw [if_pos c, if_pos (by omega), if_neg (fun h => hno ⟨c, h⟩)]
      exact hm
    · rw [if_neg c]
      exact hm
/-- What the reference finds, or a number below nought. -/
theorem l3Get_l0_ev (s : ByteArray) (at_ : Int) (L : List Int) (hok : lensOk L) (hk15 : kraft L ≤ 32768) (hl : L.length ≤ 300) (hs : s.size ≤ 9000) (h0 : 0 ≤ at_ ∧ at_ ≤ 8 * (s.size : Int)) : ∀ d i : Nat, i + d = 15 → (at_ + i ≤ 8 * (s.size : Int)) →
    ∃ r : Int × Int, (if r.1 < 0 then ((-1 : Int), (0 : Int)) else r) = getR (fM s at_ L d i) ∧ Ev (fun k => spec_l3Get.l0 k s (at_ + i) (codesM L) L (acM s at_ i) ((i : Int) + 1)) r := by
  have hcl := codesM_length L
  intro d
  induction d with
  | zero =>
    intro i hi hle
    refine ⟨(-1, at_ + i), rfl, 2, fun k hk => ?_⟩
    try dsimp only
    obtain ⟨m, rfl⟩ : ∃ m, k = m + 1 + 1 := ⟨k - 2, by omega⟩
    try dsimp only
    rw [spec_l3Get.l0, if_neg (by omega), spec_l3Get.j1, if_neg (by decide)]
  | succ d ih =>
    intro i hi hle
    unfold fM
    by_cases hlt : at_ + i < 8 * (s.size : Int)
    · have hb := bitM_b s (at_ + i) false
      have ha := acM_b s at_ i
      have hp := P2_b (n := i) (m := 15) (by omega)
      rw [P2_15] at hp
      have e1 : wrap64 (wrap64 (2 * acM s at_ i) + bitM s (at_ + i) false) = acM s at_ (i + 1) := by
        rw [w64 (x := 2 * acM s at_ i) (by omega), w64 (by omega)]; rfl
      obtain ⟨K1, hK1⟩ := l1Bit_ev s (at_ + i) false (by omega) (by omega) (by omega)
      try dsimp only at hK1
      try dsimp only at hK1
      rw [if_pos hlt]
      have start : ∀ (r : Int × Int), Ev (fun k => spec_l3Get.l1 k s (at_ + i + 1) (codesM L) L (acM s at_ (i + 1)) ((i : Int) + 1) 0) r → Ev (fun k => spec_l3Get.l0 k s (at_ + i) (codesM L) L (acM s at_ i) ((i : Int) + 1)) r := by
        intro r hE
        obtain ⟨K, hK⟩ := hE
        try dsimp only at hK
        refine ⟨K + K1 + 2, fun k hk => ?_⟩
        try dsimp only
        obtain ⟨m, rfl⟩ : ∃ m, k = m + 1 + 1 := ⟨k - 2, by omega⟩
        have hm := hK m (by omega)
        try dsimp only at hm ⊢
        rw [spec_l3Get.l0, if_pos (by omega), w64 (x := 8 * (s.size : Int)) (by omega), decide_eq_true hlt, spec_l3Get.j1, if_pos rfl, hK1 m (by omega), Option.bind_some, e1, w64 (x := at_ + i + 1) (by omega)]
        exact hm
      cases hq : symF (codesM L) L (acM s at_ (i + 1)) ((i : Int) + 1) L.length with
      | some j =>
        obtain ⟨q1, q2, q3, q4⟩ := symF_some hq
        refine ⟨((j : Int), at_ + i + 1), ?_, start _ ?_⟩
        · show (if (j : Int) < 0 then _ else _) = _
          rw [if_neg (by omega)]; rfl
        · exact l3Get_l1_some s _ L (codesM L) hl hcl _ _ j q1 q4 q3 (symF_first hok hk15 hq) j 0 (by omega)
      | none =>
        obtain ⟨r, hr, hE⟩ := ih (i + 1) (by omega) (by omega)
        refine ⟨r, hr, start _ ?_⟩
        refine l3Get_l1_none s _ L (codesM L) hl hcl _ _ (by omega) hq r ?_ L.length 0 (by omega)
        rw [w64 (x := (i : Int) + 1 + 1) (by omega)]
        rw [show ((i + 1 : Nat) : Int) = (i : Int) + 1 by omega, ← Int.add_assoc] at hE
        exact hE
    · rw [if_neg hlt]
      refine ⟨(-1, at_ + i), rfl, 2, fun k hk => ?_⟩
      try dsimp only
      obtain ⟨m, rfl⟩ : ∃ m, k = m + 1 + 1 := ⟨k - 2, by omega⟩
      try dsimp only
      rw [spec_l3Get.l0, if_pos (by omega), w64 (x := 8 * (s.size : Int)) (by omega), decide_eq_false hlt, spec_l3Get.j1, if_neg (by decide)]
theorem spec_CodeGet_ev (s : ByteArray) (at_ : Int) (L : List Int) (hl : L.length ≤ 1048576) : Ev (fun k => spec_CodeGet.f k s at_ L) (codeGetM s at_ L) := by
  obtain ⟨K1, h1⟩ := spec_CodeOk_ev L hl
  try dsimp only at h1
  obtain ⟨K2, h2⟩ := spec_l3Make_ev L hl
  try dsimp only at h2
  try dsimp only at h1 h2
  unfold codeGetM
  by_cases c : codeOkM L = true
  · have hh := of_decide_eq_true c
    by_cases c2 : (s.size : Int) > 9000
    · rw [if_neg (fun h => by omega)]
      refine ⟨K1 + 1, fun k hk => ?_⟩
      try dsimp only
      obtain ⟨m, rfl⟩ : ∃ m, k = m + 1 := ⟨k - 1, by omega⟩
      try dsimp only
      unfold spec_CodeGet.f
      rw [h1 _ (by omega), Option.bind_some, if_pos c, if_pos c2, spec_CodeGet.j0, if_pos rfl]
    · by_cases c3 : 0 ≤ at_ ∧ at_ ≤ 8 * (s.size : Int)
      · rw [if_pos ⟨c, by omega, c3.1, c3.2⟩]
        obtain ⟨r, hr, K3, h3⟩ := l3Get_l0_ev s at_ L hh.1 hh.2.2 hh.2.1 (by omega) c3 15 0 (by omega) (by omega)
        try dsimp only at h3
        try dsimp only at h3
        refine ⟨K1 + K2 + K3 + 1, fun k hk => ?_⟩
        try dsimp only
        obtain ⟨m, rfl⟩ : ∃ m, k = m + 1 := ⟨k - 1, by omega⟩
        try dsimp only
        have h3m := h3 m (by omega)
        rw [show at_ + ((0 : Nat) : Int) = at_ by omega] at h3m
        unfold spec_CodeGet.f
        rw [h1 _ (by omega), Option.bind_some, if_pos c, if_neg c2, w64 (x := 8 * (s.size : Int)) (by omega), l1In_f, Option.bind_some, decide_eq_true c3, spec_CodeGet.j0, if_neg (by decide), h2 m (by omega), Option.bind_some]
        unfold spec_l3Get.f
        have e0 : acM s at_ 0 = 0 := rfl
        rw [e0] at h3m
        rw [show ((0 : Nat) : Int) + 1 = 1 from rfl] at h3m
        rw [h3m, Option.bind_some, ← hr]
        by_cases c4 : r.1 < 0
        · rw [if_pos c4, if_pos c4]
        · rw [if_neg c4, if_neg c4]
      · rw [if_neg (fun h => c3 ⟨h.2.2.1, h.2.2.2⟩)]
        refine ⟨K1 + 1, fun k hk => ?_⟩
        try dsimp only
        obtain ⟨m, rfl⟩ : ∃ m, k = m + 1 := ⟨k - 1, by omega⟩
        try dsimp only
        unfold spec_CodeGet.f
        rw [h1 _ (by omega), Option.bind_some, if_pos c, if_neg c2, w64 (x := 8 * (s.size : Int)) (by omega), l1In_f, Option.bind_some, decide_eq_false c3, spec_CodeGet.j0, if_pos (by decide)]
  · rw [if_neg (fun h => c h.1)]
    refine ⟨K1 + 1, fun k hk => ?_⟩
    try dsimp only
    obtain ⟨m, rfl⟩ : ∃ m, k = m + 1 := ⟨k - 1, by omega⟩
    try dsimp only
    unfold spec_CodeGet.f
    rw [h1 _ (by omega), Option.bind_some, if_neg c, spec_CodeGet.j0, if_pos rfl]
def bitsGetM (s : ByteArray) (at_ size : Int) (high : Bool) : Int × Bool :=
  if 0 ≤ size ∧ size ≤ 24 ∧ s.size ≤ 9000 ∧ 0 ≤ at_ ∧ at_ + size ≤ 8 * s.size then (bitsM s at_ high size.toNat, true) else (0, false)
theorem impl_BitsGet_l0_ev (s : ByteArray) (at_ : Int) (size : Nat) (high : Bool) (h0 : 0 ≤ at_) (hz : size ≤ 32) (h1 : at_ + size ≤ 8 * s.size) (hs : s.size ≤ 140737488351232) :
    ∀ d i : Nat, i + d = size → Ev (fun k => impl_BitsGet.l0 k s at_ high (bitsM s at_ high i) (size : Int) (i : Int)) (bitsM s at_ high size, true) := by
  intro d
  induction d with
  | zero =>
    intro i hi
    refine ⟨1, fun k hk => ?_⟩
    try dsimp only
    obtain ⟨m, rfl⟩ : ∃ m, k = m + 1 := ⟨k - 1, by omega⟩
    rw [impl_BitsGet.l0, if_neg (by omega), show i = size by omega]
  | succ d ih =>
    intro i hi
    obtain ⟨K, hK⟩ := ih (i + 1) (by omega)
    try dsimp only at hK
    have hb := bitsM_b s at_ high i
    have hp := P2_b (n := i) (m := 40) (by omega)
    rw [P2_40] at hp
    have hv := bitM_b s (at_ + i) high
    refine ⟨K + 1, fun k hk => ?_⟩
    try dsimp only
    obtain ⟨m, rfl⟩ : ∃ m, k = m + 1 := ⟨k - 1, by omega⟩
    have hm := hK m (by omega)
    rw [impl_BitsGet.l0, if_pos (by omega), w64 (x := at_ + i) (by omega), bitAt_f s _ _ (by omega) (by omega) hs]
    simp only [Option.bind_some]
    cases high
    · have hm2 := mul01 (x := P2 i) hv
      simp only [bitsM, bitsLo, Bool.false_eq_true, if_false] at hm hb ⊢
      have ei : (i : Int).toNat = i := by omega
      rw [if_pos (by omega), shl_P2 (by omega) (by omega) (by rw [ei]; omega), ei, or_comm' (by omega) (by omega) (by omega) (by omega), or_join (i := i) (by omega) (Int.mul_emod_left _ _) (by omega) (by omega) (by omega) (by omega), w64 (by omega), Int.add_comm (bitM s (at_ + i) false * P2 i)]
      exact hm
    · simp only [bitsM, bitsHi, if_true] at hm hb ⊢
      rw [w64 (x := 2 * bitsHi s at_ i) (by omega), w64 (x := (i : Int) + 1) (by omega), w64 (by omega)]
      exact hm
theorem impl_BitsGet_ev (s : ByteArray) (at_ size : Int) (high : Bool) (hs : s.size ≤ 1048576) : Ev (fun k => impl_BitsGet.f k s at_ size high) (bitsGetM s at_ size high) := by
  unfold impl_BitsGet.f bitsGetM
  simp only [in_f, Option.bind_some, decide_eq_true_eq]
  by_cases h1 : 0 ≤ size ∧ size ≤ 24
  · rw [w64 (x := 8 * (s.size : Int)) (by omega), w64 (x := 8 * (s.size : Int) - size) (by omega)]
    by_cases h2 : s.size ≤ 9000
    · by_cases h3 : 0 ≤ at_ ∧ at_ + size ≤ 8 * s.size
      · obtain ⟨K, hK⟩ := impl_BitsGet_l0_ev s at_ size.toNat high h3.1 (by omega) (by omega) (by omega) size.toNat 0 (by omega)
        try dsimp only at hK
        refine ⟨K + 1, fun k hk => ?_⟩
        try dsimp only
        obtain ⟨m, rfl⟩ : ∃ m, k = m + 1 := ⟨k - 1, by omega⟩
        have hm := hK m (by omega)
        have e : bitsM s at_ high 0 = 0 := by cases high <;> simp [bitsM, bitsHi, bitsLo]
        rw [Int.toNat_of_nonneg h1.1, e] at hm
        rw [if_pos h1, if_neg (by omega), decide_eq_true (by omega), if_pos (by omega), impl_BitsGet.j0]
        simp only [Bool.not_true, Bool.false_eq_true, if_false]
        exact hm
      · refine ⟨1, fun k hk => ?_⟩
        try dsimp only
        obtain ⟨m, rfl⟩ : ∃ m, k = m + 1 := ⟨k - 1, by omega⟩
        rw [if_pos h1, if_neg (by omega), decide_eq_false (by omega), if_neg (by omega), impl_BitsGet.j0]
        simp
    · refine ⟨1, fun k hk => ?_⟩
      try dsimp only
      obtain ⟨m, rfl⟩ : ∃ m, k = m + 1 := ⟨k - 1, by omega⟩
      rw [if_pos h1, if_pos (by omega), if_neg (by omega), impl_BitsGet.j0]
      simp
  · refine ⟨1, fun k hk => ?_⟩
    try dsimp only
    obtain ⟨m, rfl⟩ : ∃ m, k = m + 1 := ⟨k - 1, by omega⟩
    rw [if_neg h1, if_neg (by omega), impl_BitsGet.j0]
    simp

theorem put_one {L : List Int} {j n : Nat} {s : ByteArray} {at_ : Int} (hL : codeOkM L = true) (hj : j < L.length) (hn : 0 < n) (h1 : L.getD j 0 = n) (h2 : (codesM L).getD j 0 = acM s at_ n) : codePutM [(j : Int)] L = [(bitsLo s at_ n, (n : Int))] := by
  have e1 : rd L (j : Int) = n := by unfold rd; rw [Int.toNat_natCast]; exact h1
  have e2 : rd (codesM L) (j : Int) = acM s at_ n := by unfold rd; rw [Int.toNat_natCast]; exact h2
  unfold codePutM
  rw [if_pos ⟨hL, by simp⟩]
  simp only [cpM]
  rw [if_pos ⟨by omega, by omega⟩, e1, e2, Int.toNat_natCast, trn_ac]; rfl
theorem FnCodeGet : laws_FnCodeGet.Pure := by
  intro b hbl hb8 hw
  unfold laws_FnCodeGet.f
  by_cases h : (b.length : Int) > 1048576
  · exact ⟨0, by rw [if_pos h]⟩
  obtain ⟨s, at_, L, hsL, K1, h1⟩ := drawCodeGet_ev hw
  try dsimp only at h1
  try dsimp only at h1
  have hLl := hsL.2.1
  obtain ⟨K2, h2⟩ := impl_CodeGet_ev s at_ L (by omega)
  try dsimp only at h2
  obtain ⟨K3, h3⟩ := spec_CodeGet_ev s at_ L (by omega)
  try dsimp only at h3
  try dsimp only at h2 h3
  have hx : ∀ a : Int, (a != a) = false := by simp
  by_cases c : codeOkM L = true ∧ (s.size : Int) ≤ 9000 ∧ 0 ≤ at_ ∧ at_ ≤ 8 * (s.size : Int)
  · cases hq : fM s at_ L 15 0 with
    | none =>
      have hg : codeGetM s at_ L = (-1, 0) := by unfold codeGetM; rw [if_pos c, hq]; rfl
      refine ⟨K1 + K2 + K3 + 1, ?_⟩
      rw [if_neg h, h1 _ (by omega), Option.bind_some]
      try dsimp only
      rw [h2 _ (by omega), Option.bind_some, h3 _ (by omega), Option.bind_some, if_pos rfl, hx, hg]
      try dsimp only
      rw [laws_FnCodeGet.j0, if_neg (by decide), if_pos (by omega), if_pos rfl, beq_self_eq_true]
    | some q =>
      obtain ⟨j, nx⟩ := q
      obtain ⟨n, q1, q2, q3, q4, q5, q6, q7⟩ := fM_some hq
      have hg : codeGetM s at_ L = ((j : Int), nx) := by unfold codeGetM; rw [if_pos c, hq]; rfl
      have hp := put_one (s := s) (at_ := at_) c.1 q3 (by omega) q4 q5
      have e1 : rd L (j : Int) = n := by unfold rd; rw [Int.toNat_natCast]; exact q4
      obtain ⟨K4, h4⟩ := impl_CodePut_ev [(j : Int)] L (by omega) (by simp)
      try dsimp only at h4
      obtain ⟨K5, h5⟩ := impl_BitsGet_ev s at_ (n : Int) false (by omega)
      try dsimp only at h5
      try dsimp only at h4 h5
      have hbg : bitsGetM s at_ (n : Int) false = (bitsLo s at_ n, true) := by
        unfold bitsGetM
        rw [if_pos (by omega), Int.toNat_natCast]; rfl
      refine ⟨K1 + K2 + K3 + K4 + K5 + 1, ?_⟩
      rw [if_neg h, h1 _ (by omega), Option.bind_some]
      try dsimp only
      rw [h2 _ (by omega), Option.bind_some, h3 _ (by omega), Option.bind_some, if_pos rfl, hx, hg]
      try dsimp only
      rw [laws_FnCodeGet.j0, if_neg (by decide), if_neg (by omega), h4 _ (by omega), Option.bind_some, if_pos (by omega), if_pos (by omega), e1, h5 _ (by omega), Option.bind_some, hbg, hp]
      try dsimp only
      rw [if_pos (by rfl), if_pos rfl, if_pos (by simp), if_pos (by rfl), q6, w64 (by omega)]
      simp
  · have hg : codeGetM s at_ L = (-1, 0) := by unfold codeGetM; rw [if_neg c]
    refine ⟨K1 + K2 + K3 + 1, ?_⟩
    rw [if_neg h, h1 _ (by omega), Option.bind_some]
    try dsimp only
    rw [h2 _ (by omega), Option.bind_some, h3 _ (by omega), Option.bind_some, if_pos rfl, hx, hg]
    try dsimp only
    rw [laws_FnCodeGet.j0, if_neg (by decide), if_pos (by omega), if_pos rfl, beq_self_eq_true]

end Go.Proofs.Ytgajagocenffeaa.Pure
