/- Of all that the reference draws from a list of at most 1048576 bytes (a longer one is let by): the program's CodeFit answers as the reference; where lengths are answered, what does not come has none, none is above the limit, they are a code's, a full one's if two symbols come, and what comes more often has no longer code if no limit matters. -/
import Derived.Test.YtgajagocenffeaaHFnCodeFitx7
import Derived.Test.YtgajagocenffeaaThNum
import Derived.Test.YtgajagocenffeaaThXor
import Derived.Test.YtgajagocenffeaaThFit
import Derived.Test.YtgajagocenffeaaThCode
namespace Go.Proofs.Ytgajagocenffeaa.Pure
open Go.RowKit Go.Proofs.Ytgajagocenffeaa.PFnCodeFit Go.Proofs.YtgajagocenffeaaW.PrintWords Go.Proofs.YtgajagocenffeaaW.PrintLast Go.Proofs.YtgajagocenffeaaW.PrintMore Go.Proofs.Ytgajagocenffeaa.Th
set_option linter.unusedVariables false
set_option linter.unusedSimpArgs false

/-- A drawing's bytes. -/
def Code (b : List Int) : Prop := b.length ≤ 2000 ∧ ∀ x ∈ b, 0 ≤ x ∧ x ≤ 255
theorem l1Open_f (l : List Int) : spec_l1Open.f l = some (l.take 2000, 0) := by
  unfold spec_l1Open.f
  by_cases h : (l.length : Int) > 2000
  · rw [if_pos h, if_pos (by omega)]
  · rw [if_neg h, List.take_of_length_le (by omega)]
theorem code_open {l : List Int} (h : ∀ x ∈ l, (Lit.int .u8 x).wf = true) : Code (l.take 2000) := by
  refine ⟨by rw [List.length_take]; omega, fun x hx => ?_⟩
  have := h x (List.mem_of_mem_take hx)
  simp [Lit.wf, IntKind.min, IntKind.max, IntKind.bits, IntKind.signed] at this
  omega
theorem code_rd {b : List Int} (h : Code b) (i : Int) : 0 ≤ rd b i ∧ rd b i ≤ 255 := by
  rcases rd_mem_or b i with h1 | h1
  · exact h.2 _ h1
  · omega
/-- What is picked is there, and the place is one further. -/
theorem pick_ev {b : List Int} (hb : Code b) {p n : Int} (hp : 0 ≤ p ∧ p ≤ 1099511627776) (hn : n ≤ 1099511627776) : ∃ v : Int, (0 ≤ v ∧ (v < n ∨ n < 1 ∧ v = 0)) ∧ Ev (fun k => spec_l1Rd_pick.f k b p n) (v, p + 1) := by
  unfold spec_l1Rd_pick.f
  rw [w64 (x := p + 1) (by omega)]
  by_cases h1 : n < 1
  · refine ⟨0, ⟨by omega, .inr ⟨h1, rfl⟩⟩, 1, fun k hk => ?_⟩
    try dsimp only
    obtain ⟨m, rfl⟩ : ∃ m, k = m + 1 := ⟨k - 1, by omega⟩
    try dsimp only
    rw [if_pos h1, spec_l1Rd_pick.j0, if_pos rfl]
  by_cases h2 : b.length = 0
  · refine ⟨0, ⟨by omega, .inl (by omega)⟩, 1, fun k hk => ?_⟩
    try dsimp only
    obtain ⟨m, rfl⟩ : ∃ m, k = m + 1 := ⟨k - 1, by omega⟩
    try dsimp only
    rw [if_neg h1, spec_l1Rd_pick.j0, if_pos (by simp [h2])]
  have e0 : wrap64 (p + 1 - 1) = p := by rw [w64 (by omega)]; omega
  by_cases h3 : p < b.length
  · have hr := code_rd hb p
    refine ⟨rd b p % n, ⟨Int.emod_nonneg _ (by omega), .inl (Int.emod_lt_of_pos _ (by omega))⟩, 1, fun k hk => ?_⟩
    try dsimp only
    obtain ⟨m, rfl⟩ : ∃ m, k = m + 1 := ⟨k - 1, by omega⟩
    try dsimp only
    rw [if_neg h1, spec_l1Rd_pick.j0, if_neg (by simpa using h2), e0, if_pos h3, if_pos hp.1, if_neg (by omega), w64 (by omega), tmod_pos hr.1]
  · have hl := hb.1
    have m1 : 0 ≤ p % (b.length : Int) ∧ p % (b.length : Int) < b.length := ⟨Int.emod_nonneg _ (by omega), Int.emod_lt_of_pos _ (by omega)⟩
    have m2 : 0 ≤ (p * 7 + 3) % (b.length : Int) ∧ (p * 7 + 3) % (b.length : Int) < b.length := ⟨Int.emod_nonneg _ (by omega), Int.emod_lt_of_pos _ (by omega)⟩
    have r1 := code_rd hb (p % (b.length : Int))
    have r2 := code_rd hb ((p * 7 + 3) % (b.length : Int))
    have q1 : 0 ≤ p / (b.length : Int) := Int.ediv_nonneg hp.1 (by omega)
    have q2 : p / (b.length : Int) ≤ p := Int.ediv_le_self _ hp.1
    obtain ⟨X, hX⟩ : ∃ X, X = rd b (p % (b.length : Int)) * 131 + rd b ((p * 7 + 3) % (b.length : Int)) * 1117 + p * 29 + p / (b.length : Int) * 53 := ⟨_, rfl⟩
    have bX : 0 ≤ X ∧ X ≤ 4611686018427387904 := by omega
    have hx := xor_b (x := X) (y := X / 64) (by omega) (by omega)
    refine ⟨Go.bits .xor .i64 X (X / 64) % n, ⟨Int.emod_nonneg _ (by omega), .inl (Int.emod_lt_of_pos _ (by omega))⟩, 1, fun k hk => ?_⟩
    try dsimp only
    obtain ⟨m, rfl⟩ : ∃ m, k = m + 1 := ⟨k - 1, by omega⟩
    try dsimp only
    rw [if_neg h1, spec_l1Rd_pick.j0, if_neg (by simpa using h2), e0, if_neg h3, if_neg (by omega)]
    rw [w64 (x := p * 7) (by omega), w64 (x := p * 7 + 3) (by omega), tmod_pos (a := p) hp.1, tmod_pos (a := p * 7 + 3) (by omega), tdiv_pos (a := p) hp.1]
    rw [if_pos m1.1, if_pos m1.2, if_pos m2.1, if_pos m2.2, if_neg (by omega)]
    rw [w64 (x := rd b (p % (b.length : Int))) (by omega), w64 (x := rd b ((p * 7 + 3) % (b.length : Int))) (by omega), w64 (x := p / (b.length : Int)) (by omega)]
    rw [w64 (x := rd b (p % (b.length : Int)) * 131) (by omega), w64 (x := rd b ((p * 7 + 3) % (b.length : Int)) * 1117) (by omega), w64 (x := p * 29) (by omega), w64 (x := p / (b.length : Int) * 53) (by omega)]
    rw [w64 (x := rd b (p % (b.length : Int)) * 131 + rd b ((p * 7 + 3) % (b.length : Int)) * 1117) (by omega), w64 (x := rd b (p % (b.length : Int)) * 131 + rd b ((p * 7 + 3) % (b.length : Int)) * 1117 + p * 29) (by omega), w64 (x := rd b (p % (b.length : Int)) * 131 + rd b ((p * 7 + 3) % (b.length : Int)) * 1117 + p * 29 + p / (b.length : Int) * 53) (by omega), ← hX]
    rw [tdiv_pos (by omega), w64 (x := X / 64) (by omega), tmod_pos hx.1]
theorem l4SameO_l0_ev (x : Int) (n : Nat) (hn : n ≤ 100000) : ∀ d i : Nat, i + d = n → Ev (fun k => spec_l4Same.l0 k x (n : Int) (List.replicate i x) (i : Int)) (List.replicate n x) := by
  intro d
  induction d with
  | zero =>
    intro i hi
    refine ⟨1, fun k hk => ?_⟩
    try dsimp only
    obtain ⟨m, rfl⟩ : ∃ m, k = m + 1 := ⟨k - 1, by omega⟩
    rw [spec_l4Same.l0, if_neg (by omega), show i = n by omega]
  | succ d ih =>
    intro i hi
    obtain ⟨K, hK⟩ := ih (i + 1) (by omega)
    try dsimp only at hK
    refine ⟨K + 1, fun k hk => ?_⟩
    try dsimp only
    obtain ⟨m, rfl⟩ : ∃ m, k = m + 1 := ⟨k - 1, by omega⟩
    have hm := hK m (by omega)
    rw [spec_l4Same.l0, if_pos (by omega), if_pos (by rw [List.length_replicate]; omega), w64 (by omega)]
    rw [List.replicate_succ', show ((i + 1 : Nat) : Int) = (i : Int) + 1 by omega] at hm
    exact hm
theorem l4SameO_ev (x n : Int) (h0 : 0 ≤ n) (hn : n ≤ 100000) : Ev (fun k => spec_l4Same.f k x n) (List.replicate n.toNat x) := by
  have h := l4SameO_l0_ev x n.toNat (by omega) n.toNat 0 (by omega)
  rw [Int.toNat_of_nonneg h0] at h
  exact h
theorem l1Pow_l0_ev (n : Nat) (hn : n ≤ 62) : ∀ d i : Nat, i + d = n → Ev (fun k => spec_l1Pow.l0 k (n : Int) (P2 i) (i : Int)) (P2 n) := by
  intro d
  induction d with
  | zero =>
    intro i hi
    refine ⟨1, fun k hk => ?_⟩
    try dsimp only
    obtain ⟨m, rfl⟩ : ∃ m, k = m + 1 := ⟨k - 1, by omega⟩
    rw [spec_l1Pow.l0, if_neg (by omega), show i = n by omega]
  | succ d ih =>
    intro i hi
    obtain ⟨K, hK⟩ := ih (i + 1) (by omega)
    try dsimp only at hK
    refine ⟨K + 1, fun k hk => ?_⟩
    try dsimp only
    obtain ⟨m, rfl⟩ : ∃ m, k = m + 1 := ⟨k - 1, by omega⟩
    have hm := hK m (by omega)
    have hb := P2_62b (n := i) (by omega)
    have hb' := P2_62b (n := i + 1) (by omega)
    have hs := P2_succ i
    rw [spec_l1Pow.l0, if_pos (by omega), w64 (by omega), w64 (by omega), show P2 i * 2 = P2 (i + 1) by omega, show (i : Int) + 1 = ((i + 1 : Nat) : Int) by omega]
    exact hm
theorem l1Pow_ev (n : Nat) (hn : n ≤ 62) : Ev (fun k => spec_l1Pow.f k (n : Int)) (P2 n) := l1Pow_l0_ev n hn n 0 (by omega)
theorem l1Pow_evI (n : Int) (h0 : 0 ≤ n) (hn : n ≤ 62) : Ev (fun k => spec_l1Pow.f k n) (P2 n.toNat) := by
  have h := l1Pow_ev n.toNat (by omega)
  rw [Int.toNat_of_nonneg h0] at h
  exact h
/-- How often each comes, as it is drawn: few of them, or all once. -/
def OftenOk (L : List Int) : Prop := (L.length ≤ 14 ∧ ∀ v ∈ L, -1 ≤ v ∧ v ≤ 9001) ∨ ∃ n : Nat, n ≤ 301 ∧ L = List.replicate n 1
theorem OftenOk.len {L : List Int} (h : OftenOk L) : L.length ≤ 301 := by
  rcases h with h | ⟨n, hn, rfl⟩
  · omega
  · rw [List.length_replicate]; exact hn
theorem mem_rd {L : List Int} {i : Int} (h0 : 0 ≤ i) (h1 : i < L.length) : rd L i ∈ L := by
  unfold rd
  rw [List.getD_eq_getElem?_getD, List.getElem?_eq_getElem (by omega)]
  exact List.getElem_mem _
theorem l14Often_l0_ev {b : List Int} (hb : Code b) : ∀ (n : Nat) (L : List Int) (p : Int), n + L.length ≤ 13 → 0 ≤ p → p ≤ 1000000 - 4 * n → (∀ v ∈ L, -1 ≤ v ∧ v ≤ 9001) →
    ∃ (L' : List Int) (p' : Int), (OftenOk L' ∧ p ≤ p' ∧ p' ≤ p + 4 * n + 2) ∧ Ev (fun k => spec_l14Often.l0 k L (n : Int) b p) (L', p') := by
  intro n
  induction n with
  | zero =>
    intro L p hn h0 h1 hL
    obtain ⟨v, hv, K1, hK1⟩ := pick_ev hb (p := p) (n := 20) (by omega) (by omega)
    try dsimp only at hK1
    try dsimp only at hK1
    by_cases hz : v = 0
    · obtain ⟨u, hu, K2, hK2⟩ := pick_ev hb (p := p + 1) (n := 2) (by omega) (by omega)
      try dsimp only at hK2
      try dsimp only at hK2
      have hm := mem_rd (L := [(-1 : Int), 9001]) (i := u) (by omega) (by simp; omega)
      refine ⟨L ++ [rd [(-1), 9001] u], p + 1 + 1, ⟨.inl ⟨by simp; omega, fun x hx => ?_⟩, by omega, by omega⟩, K1 + K2 + 1, fun k hk => ?_⟩
      try dsimp only
      · rcases List.mem_append.1 hx with hx | hx
        · exact hL x hx
        · rw [List.mem_singleton] at hx
          rw [hx]
          simp only [List.mem_cons, List.not_mem_nil, or_false] at hm
          omega
      · dsimp only
        obtain ⟨m, rfl⟩ : ∃ m, k = m + 1 := ⟨k - 1, by omega⟩
        rw [spec_l14Often.l0, if_neg (by omega), hK1 m (by omega), Option.bind_some]
        try dsimp only
        rw [if_pos hz, Option.bind_some, hK2 m (by omega), Option.bind_some]
        try dsimp only
        rw [if_pos (by omega), if_pos (by simp; omega), if_pos (by omega)]
    · refine ⟨L, p + 1, ⟨.inl ⟨by omega, hL⟩, by omega, by omega⟩, K1 + 1, fun k hk => ?_⟩
      try dsimp only
      obtain ⟨m, rfl⟩ : ∃ m, k = m + 1 := ⟨k - 1, by omega⟩
      rw [spec_l14Often.l0, if_neg (by omega), hK1 m (by omega), Option.bind_some]
      try dsimp only
      rw [if_neg hz]
  | succ n ih =>
    intro L p hn h0 h1 hL
    obtain ⟨v1, hv1, K1, hK1⟩ := pick_ev hb (p := p) (n := 5) (by omega) (by omega)
    try dsimp only at hK1
    try dsimp only at hK1
    obtain ⟨v2, hv2, K2, hK2⟩ := pick_ev hb (p := p + 1) (n := 90) (by omega) (by omega)
    try dsimp only at hK2
    try dsimp only at hK2
    obtain ⟨v3, hv3, K3, hK3⟩ := pick_ev hb (p := p + 1 + 1) (n := 12) (by omega) (by omega)
    try dsimp only at hK3
    try dsimp only at hK3
    obtain ⟨K4, hK4⟩ := l1Pow_evI v3 (by omega) (by omega)
    try dsimp only at hK4
    try dsimp only at hK4
    have hp := P2_b (n := v3.toNat) (m := 11) (by omega)
    have e11 : P2 11 = 2048 := rfl
    rw [e11] at hp
    obtain ⟨v5, hv5, K5, hK5⟩ := pick_ev hb (p := p + 1 + 1 + 1) (n := 5) (by omega) (by omega)
    try dsimp only at hK5
    try dsimp only at hK5
    have hm := mem_rd (L := [0, 1, v1, v2, P2 v3.toNat]) (i := v5) (by omega) (by simp; omega)
    obtain ⟨L', p', hh, K6, hK6⟩ := ih (L ++ [rd [0, 1, v1, v2, P2 v3.toNat] v5]) (p + 1 + 1 + 1 + 1) (by simp; omega) (by omega) (by omega) (fun x hx => by
      rcases List.mem_append.1 hx with hx | hx
      · exact hL x hx
      · rw [List.mem_singleton] at hx
        rw [hx]
        simp only [List.mem_cons, List.not_mem_nil, or_false] at hm
        omega)
    refine ⟨L', p', ⟨hh.1, by omega, by omega⟩, K1 + K2 + K3 + K4 + K5 + K6 + 1, fun k hk => ?_⟩
    try dsimp only
    obtain ⟨m, rfl⟩ : ∃ m, k = m + 1 := ⟨k - 1, by omega⟩
    have h6 := hK6 m (by omega)
    rw [spec_l14Often.l0, if_pos (by omega), hK1 m (by omega), Option.bind_some]
    try dsimp only
    rw [hK2 m (by omega), Option.bind_some]
    try dsimp only
    rw [hK3 m (by omega), Option.bind_some]
    try dsimp only
    rw [hK4 m (by omega), Option.bind_some, Option.bind_some, hK5 m (by omega), Option.bind_some]
    try dsimp only
    rw [if_pos (by omega), if_pos (by simp; omega), if_pos (by omega), w64 (by omega), show ((n + 1 : Nat) : Int) - 1 = (n : Int) by omega]
    exact h6
theorem l14Often_ev {b : List Int} (hb : Code b) {p : Int} (h0 : 0 ≤ p) (h1 : p ≤ 200000) : ∃ (L : List Int) (p' : Int), (OftenOk L ∧ p ≤ p' ∧ p' ≤ p + 100) ∧ Ev (fun k => spec_l14Often.f k b p) (L, p') := by
  obtain ⟨v1, hv1, K1, hK1⟩ := pick_ev hb (p := p) (n := 80) (by omega) (by omega)
  try dsimp only at hK1
  try dsimp only at hK1
  by_cases hz : v1 = 0
  · obtain ⟨v2, hv2, K2, hK2⟩ := pick_ev hb (p := p + 1) (n := 2) (by omega) (by omega)
    try dsimp only at hK2
    try dsimp only at hK2
    obtain ⟨K3, hK3⟩ := l4SameO_ev 1 (300 + v2) (by omega) (by omega)
    try dsimp only at hK3
    try dsimp only at hK3
    refine ⟨List.replicate (300 + v2).toNat 1, p + 1 + 1, ⟨.inr ⟨_, by omega, rfl⟩, by omega, by omega⟩, K1 + K2 + K3, fun k hk => ?_⟩
    try dsimp only
    try dsimp only
    unfold spec_l14Often.f
    rw [hK1 k (by omega), Option.bind_some]
    try dsimp only
    rw [if_pos hz, hK2 k (by omega), Option.bind_some]
    try dsimp only
    rw [w64 (by omega), hK3 k (by omega), Option.bind_some]
  · obtain ⟨v2, hv2, K2, hK2⟩ := pick_ev hb (p := p + 1) (n := 14) (by omega) (by omega)
    try dsimp only at hK2
    try dsimp only at hK2
    obtain ⟨L', p', hh, K3, hK3⟩ := l14Often_l0_ev hb v2.toNat [] (p + 1 + 1) (by simp; omega) (by omega) (by omega) (fun v hv => by simp at hv)
    rw [Int.toNat_of_nonneg (by omega)] at hK3
    try dsimp only at hK3
    refine ⟨L', p', ⟨hh.1, by omega, by omega⟩, K1 + K2 + K3, fun k hk => ?_⟩
    try dsimp only
    try dsimp only
    unfold spec_l14Often.f
    rw [hK1 k (by omega), Option.bind_some]
    try dsimp only
    rw [if_neg hz, hK2 k (by omega), Option.bind_some]
    try dsimp only
    exact hK3 k (by omega)
theorem l1In_f (a b c : Int) : spec_l1In.f a b c = some (decide (b ≤ a ∧ a ≤ c)) := by
  unfold spec_l1In.f
  by_cases h : b ≤ a
  · rw [if_pos h]; simp [h]
  · rw [if_neg h]; simp [h]
theorem l3Tree_f (l : List Int) (hl : l.length ≤ 300) (hv : ∀ v ∈ l, v ≤ 4294967296) : spec_l3Tree.f l = some (treeM l) := by
  unfold spec_l3Tree.f
  rw [if_pos ⟨hl, hv⟩]
theorem l3Room_l0_ev (l : List Int) (hl : l.length ≤ 1048576) (m : Int) : ∀ (suf pre : List Int), l = pre ++ suf → (∀ v ∈ pre, 0 ≤ v ∧ v ≤ 9000) → Ev (fun k => spec_l3Room.l0 k l m (manyM pre : Int) (pre.length : Int)) (roomM l m) := by
  intro suf
  induction suf with
  | nil =>
    intro pre hp h0
    have hpl : pre = l := by rw [hp]; simp
    subst hpl
    by_cases c : 1 ≤ m ∧ m ≤ 15
    · obtain ⟨K, hK⟩ := l1Pow_evI m (by omega) (by omega)
      try dsimp only at hK
      refine ⟨K + 1, fun k hk => ?_⟩
      try dsimp only
      obtain ⟨n, rfl⟩ : ∃ n, k = n + 1 := ⟨k - 1, by omega⟩
      rw [spec_l3Room.l0, if_neg (by omega), l1In_f, Option.bind_some, if_pos (decide_eq_true c), hK n (by omega), Option.bind_some]
      unfold P2 roomM
      by_cases c2 : manyM pre ≤ 2 ^ m.toNat
      · rw [if_pos (by omega)]
        congr 1
        rw [decide_eq_decide]
        exact ⟨fun h => ⟨h0, c.1, c.2, c2, by omega⟩, fun h => by omega⟩
      · rw [if_neg (by omega), decide_eq_false (fun h => c2 h.2.2.2.1)]
    · refine ⟨1, fun k hk => ?_⟩
      try dsimp only
      obtain ⟨n, rfl⟩ : ∃ n, k = n + 1 := ⟨k - 1, by omega⟩
      rw [spec_l3Room.l0, if_neg (by omega), l1In_f, Option.bind_some, if_neg (by simpa using c)]
      unfold roomM
      rw [decide_eq_false (fun h => c ⟨h.2.1, h.2.2.1⟩)]
  | cons x suf ih =>
    intro pre hp h0
    have hll : l.length = pre.length + suf.length + 1 := by rw [hp]; simp; omega
    have hx : rd l (pre.length : Int) = x := by rw [hp]; exact rd_at _ _ _ rfl
    have hml := manyM_le pre
    by_cases c : 0 ≤ x ∧ x ≤ 9000
    · obtain ⟨K, hK⟩ := ih (pre ++ [x]) (by simp [hp]) (fun v hv => by
        rcases List.mem_append.1 hv with hv | hv
        · exact h0 v hv
        · rw [List.mem_singleton] at hv; rw [hv]; exact c)
      try dsimp only at hK
      refine ⟨K + 1, fun k hk => ?_⟩
      try dsimp only
      obtain ⟨n, rfl⟩ : ∃ n, k = n + 1 := ⟨k - 1, by omega⟩
      have hm := hK n (by omega)
      rw [List.length_append, List.length_singleton, show ((pre.length + 1 : Nat) : Int) = (pre.length : Int) + 1 by omega, manyM_append, manyM_cons] at hm
      rw [spec_l3Room.l0, if_pos (by omega), if_pos (by omega), hx, l1In_f, Option.bind_some, if_pos (decide_eq_true c)]
      by_cases c2 : 0 < x
      · rw [if_pos c2] at hm
        rw [if_pos c2, w64 (by omega), w64 (by omega)]
        rw [show ((manyM pre + (1 + manyM []) : Nat) : Int) = (manyM pre : Int) + 1 by simp [manyM, leavesN]] at hm
        exact hm
      · rw [if_neg c2] at hm
        rw [if_neg c2, w64 (by omega)]
        rw [show ((manyM pre + (0 + manyM []) : Nat) : Int) = (manyM pre : Int) by simp [manyM, leavesN]] at hm
        exact hm
    · refine ⟨1, fun k hk => ?_⟩
      try dsimp only
      obtain ⟨n, rfl⟩ : ∃ n, k = n + 1 := ⟨k - 1, by omega⟩
      rw [spec_l3Room.l0, if_pos (by omega), if_pos (by omega), hx, l1In_f, Option.bind_some, if_neg (by simpa using c)]
      unfold roomM
      rw [decide_eq_false (fun h => c (h.1 x (by rw [hp]; simp)))]
theorem l3Room_ev (l : List Int) (hl : l.length ≤ 1048576) (m : Int) : Ev (fun k => spec_l3Room.f k l m) (roomM l m) := l3Room_l0_ev l hl m l [] rfl (fun v hv => by simp at hv)
theorem l3Most_l0_ev (l : List Int) (hl : l.length ≤ 1048576) : ∀ (suf pre : List Int) (M : Int), l = pre ++ suf → 0 ≤ M → ∃ r : Int, (∀ b : Int, 0 ≤ b → (b < r ↔ b < M ∨ ∃ v ∈ suf, b < v)) ∧ Ev (fun k => spec_l3Most.l0 k l M (pre.length : Int)) r := by
  intro suf
  induction suf with
  | nil =>
    intro pre M hp h0
    refine ⟨M, fun b _ => by simp, 1, fun k hk => ?_⟩
    try dsimp only
    obtain ⟨n, rfl⟩ : ∃ n, k = n + 1 := ⟨k - 1, by omega⟩
    rw [spec_l3Most.l0, if_neg (by rw [hp]; simp)]
  | cons x suf ih =>
    intro pre M hp h0
    have hll : l.length = pre.length + suf.length + 1 := by rw [hp]; simp; omega
    have hx : rd l (pre.length : Int) = x := by rw [hp]; exact rd_at _ _ _ rfl
    by_cases c : x > M
    · obtain ⟨r, h1, K, hK⟩ := ih (pre ++ [x]) x (by simp [hp]) (by omega)
      try dsimp only at hK
      refine ⟨r, fun b hb => ?_, K + 1, fun k hk => ?_⟩
      try dsimp only
      · rw [h1 b hb]
        constructor
        · rintro (h | ⟨v, hv, h⟩)
          · exact .inr ⟨x, by simp, h⟩
          · exact .inr ⟨v, by simp [hv], h⟩
        · rintro (h | ⟨v, hv, h⟩)
          · exact .inl (by omega)
          · rcases List.mem_cons.1 hv with rfl | hv
            · exact .inl h
            · exact .inr ⟨v, hv, h⟩
      · dsimp only
        obtain ⟨n, rfl⟩ : ∃ n, k = n + 1 := ⟨k - 1, by omega⟩
        have hm := hK n (by omega)
        rw [List.length_append, List.length_singleton, show ((pre.length + 1 : Nat) : Int) = (pre.length : Int) + 1 by omega] at hm
        rw [spec_l3Most.l0, if_pos (by omega), if_pos (by omega), hx, if_pos c, w64 (by omega)]
        exact hm
    · obtain ⟨r, h1, K, hK⟩ := ih (pre ++ [x]) M (by simp [hp]) h0
      try dsimp only at hK
      refine ⟨r, fun b hb => ?_, K + 1, fun k hk => ?_⟩
      try dsimp only
      · rw [h1 b hb]
        constructor
        · rintro (h | ⟨v, hv, h⟩)
          · exact .inl h
          · exact .inr ⟨v, by simp [hv], h⟩
        · rintro (h | ⟨v, hv, h⟩)
          · exact .inl h
          · rcases List.mem_cons.1 hv with rfl | hv
            · exact .inl (by omega)
            · exact .inr ⟨v, hv, h⟩
      · dsimp only
        obtain ⟨n, rfl⟩ : ∃ n, k = n + 1 := ⟨k - 1, by omega⟩
        have hm := hK n (by omega)
        rw [List.length_append, List.length_singleton, show ((pre.length + 1 : Nat) : Int) = (pre.length : Int) + 1 by omega] at hm
        rw [spec_l3Most.l0, if_pos (by omega), if_pos (by omega), hx, if_neg c, w64 (by omega)]
        exact hm
/-- The test of the greatest against a limit. -/
theorem l3Most_ev (l : List Int) (hl : l.length ≤ 1048576) (m : Int) (hm : 0 ≤ m) : ∃ r : Int, (r > m ↔ overM m l = true) ∧ Ev (fun k => spec_l3Most.f k l) r := by
  obtain ⟨r, h1, hE⟩ := l3Most_l0_ev l hl l [] 0 rfl (by omega)
  refine ⟨r, ?_, hE⟩
  have h2 := h1 m hm
  unfold overM
  rw [List.any_eq_true]
  constructor
  · intro h
    rcases h2.1 h with h | ⟨v, hv, h⟩
    · omega
    · exact ⟨v, hv, decide_eq_true h⟩
  · rintro ⟨v, hv, h⟩
    exact h2.2 (.inr ⟨v, hv, of_decide_eq_true h⟩)
theorem l3Fit_l1_ev (m : Int) (r : List Int) (y : List Int) (hl : y.length ≤ 300) (hy : ∀ v ∈ y, 0 ≤ v ∧ v ≤ 16384) (hnext : Ev (fun k => spec_l3Fit.l0 k m (halfL y) (treeM (halfL y))) r) :
    ∀ (suf pre : List Int), y = pre ++ suf → Ev (fun k => spec_l3Fit.l1 k m (halfL pre ++ suf) (pre.length : Int)) r := by
  intro suf
  induction suf with
  | nil =>
    intro pre hp
    have hpl : pre = y := by rw [hp]; simp
    subst hpl
    obtain ⟨K, hK⟩ := hnext
    try dsimp only at hK
    refine ⟨K + 1, fun k hk => ?_⟩
    try dsimp only
    obtain ⟨n, rfl⟩ : ∃ n, k = n + 1 := ⟨k - 1, by omega⟩
    rw [spec_l3Fit.l1, if_neg (by rw [List.append_nil, halfL_length]; omega), List.append_nil, l3Tree_f _ (by rw [halfL_length]; exact hl) (fun v hv => by
      obtain ⟨u, hu, rfl⟩ := List.mem_map.1 hv
      have := hy u hu; omega), Option.bind_some]
    exact hK n (by omega)
  | cons x suf ih =>
    intro pre hp
    have hx0 := hy x (by rw [hp]; simp)
    have hll : y.length = pre.length + suf.length + 1 := by rw [hp]; simp; omega
    obtain ⟨K, hK⟩ := ih (pre ++ [x]) (by simp [hp])
    try dsimp only at hK
    have e1 : halfL (pre ++ [x]) ++ suf = halfL pre ++ (x + 1) / 2 :: suf := by simp [halfL]
    rw [e1] at hK
    have hhl := halfL_length pre
    refine ⟨K + 1, fun k hk => ?_⟩
    try dsimp only
    obtain ⟨n, rfl⟩ : ∃ n, k = n + 1 := ⟨k - 1, by omega⟩
    have hm := hK n (by omega)
    rw [List.length_append, List.length_singleton, show ((pre.length + 1 : Nat) : Int) = (pre.length : Int) + 1 by omega] at hm
    have hrd : rd (halfL pre ++ x :: suf) (pre.length : Int) = x := rd_at _ _ _ (by rw [hhl])
    rw [spec_l3Fit.l1, if_pos (by rw [List.length_append, List.length_cons, hhl]; omega), if_pos (by omega), hrd, w64 (x := x + 1) (by omega), tdiv_pos (by omega), w64 (x := (x + 1) / 2) (by omega), w64 (x := (pre.length : Int) + 1) (by omega), Int.toNat_natCast, set_at _ _ _ _ (by rw [hhl])]
    exact hm
theorem l3Fit_l0_ev (m : Int) (hm : 1 ≤ m) : ∀ (n : Nat) (x : List Int), n ≤ 14 → x.length ≤ 300 → (∀ v ∈ x, 0 ≤ v ∧ v ≤ ((2 ^ n : Nat) : Int)) → manyM x ≤ 2 ^ m.toNat → Ev (fun k => spec_l3Fit.l0 k m x (treeM x)) (fitM n x m) := by
  intro n
  induction n with
  | zero =>
    intro x hn hl hx hP
    obtain ⟨q, h1, K, hK⟩ := l3Most_ev (treeM x) (by rw [treeM_length]; omega) m (by omega)
    try dsimp only at hK
    have hf := treeM_flat x (fun v hv => by have := hx v hv; simpa using this) m hm hP
    refine ⟨K + 1, fun k hk => ?_⟩
    try dsimp only
    obtain ⟨j, rfl⟩ : ∃ j, k = j + 1 := ⟨k - 1, by omega⟩
    rw [spec_l3Fit.l0, hK j (by omega), Option.bind_some, if_neg (fun h => by have := h1.1 h; rw [hf] at this; cases this)]
    rfl
  | succ n ih =>
    intro x hn hl hx hP
    obtain ⟨q, h1, K, hK⟩ := l3Most_ev (treeM x) (by rw [treeM_length]; omega) m (by omega)
    try dsimp only at hK
    unfold fitM
    by_cases c : overM m (treeM x) = true
    · have h14 : ((2 ^ (n + 1) : Nat) : Int) ≤ 16384 := by
        have := Nat.pow_le_pow_right (n := 2) (by decide) hn
        have e : (2 ^ 14 : Nat) = 16384 := rfl
        rw [e] at this; omega
      have hnext := ih (halfL x) (by omega) (by rw [halfL_length]; exact hl) (halfL_b n x hx) (by rw [halfL_many x (fun v hv => (hx v hv).1)]; exact hP)
      obtain ⟨K2, hK2⟩ := l3Fit_l1_ev m _ x hl (fun v hv => by have := hx v hv; omega) hnext x [] rfl
      try dsimp only at hK2
      refine ⟨K + K2 + 1, fun k hk => ?_⟩
      try dsimp only
      obtain ⟨j, rfl⟩ : ∃ j, k = j + 1 := ⟨k - 1, by omega⟩
      rw [spec_l3Fit.l0, hK j (by omega), Option.bind_some, if_pos (h1.2 c), if_pos c]
      exact hK2 j (by omega)
    · refine ⟨K + 1, fun k hk => ?_⟩
      try dsimp only
      obtain ⟨j, rfl⟩ : ∃ j, k = j + 1 := ⟨k - 1, by omega⟩
      rw [spec_l3Fit.l0, hK j (by omega), Option.bind_some, if_neg (fun h => c (h1.1 h)), if_neg c]
theorem spec_CodeFit_ev (l : List Int) (hl : l.length ≤ 1048576) (m : Int) : Ev (fun k => spec_CodeFit.f k l m) (codeFitM l m) := by
  obtain ⟨K, hK⟩ := l3Room_ev l hl m
  try dsimp only at hK
  unfold codeFitM
  by_cases c : roomM l m = true
  · have h2 := of_decide_eq_true c
    obtain ⟨K2, hK2⟩ := l3Fit_l0_ev m h2.2.1 14 l (by omega) h2.2.2.2.2 (fun v hv => by have := h2.1 v hv; have e : ((2 ^ 14 : Nat) : Int) = 16384 := rfl; rw [e]; omega) h2.2.2.2.1
    try dsimp only at hK2
    refine ⟨K + K2, fun k hk => ?_⟩
    try dsimp only
    unfold spec_CodeFit.f
    rw [hK k (by omega), Option.bind_some, if_pos c, if_pos c]
    unfold spec_l3Fit.f
    simp only [Option.bind_some]
    rw [if_pos (by simp; omega)]
    simp only [List.nil_append]
    rw [l3Tree_f l h2.2.2.2.2 (fun v hv => by have := h2.1 v hv; omega), Option.bind_some, hK2 k (by omega), Option.bind_some]
  · refine ⟨K, fun k hk => ?_⟩
    try dsimp only
    unfold spec_CodeFit.f
    rw [hK k (by omega), Option.bind_some, if_neg c, if_neg c]
theorem in_f (a b c : Int) : impl_in.f a b c = some (decide (b ≤ a ∧ a ≤ c)) := by
  unfold impl_in.f
  by_cases h : b ≤ a
  · rw [if_pos h]; simp [h]
  · rw [if_neg h]; simp [h]
theorem filled_l0_ev (l : List Int) (hl : l.length ≤ 1048576) : ∀ (suf pre : List Int) (sum : Int), l = pre ++ suf → 0 ≤ sum → sum ≤ 16384 * pre.length → Ev (fun k => impl_filled.l0 k l sum l (l.length : Int) (pre.length : Int)) (if lensOk suf ∧ l.length ≤ 300 ∧ sum + kraft suf ≤ 32768 then sum + kraft suf else -1) := by
  intro suf
  induction suf with
  | nil =>
    intro pre sum hp h0 h1
    refine ⟨1, fun k hk => ?_⟩
    try dsimp only
    obtain ⟨m, rfl⟩ : ∃ m, k = m + 1 := ⟨k - 1, by omega⟩
    have hpl : l.length = pre.length := by rw [hp]; simp
    rw [impl_filled.l0, if_neg (by omega)]
    have e0 : kraft ([] : List Int) = 0 := rfl
    by_cases h3 : l.length ≤ 300
    · by_cases h4 : sum ≤ 32768
      · rw [if_neg (by omega), if_neg (by omega), if_pos ⟨lensOk_nil, h3, by omega⟩, e0, Int.add_zero]
      · rw [if_neg (by omega), if_pos (by omega), if_neg (by omega)]
    · rw [if_pos (by omega), if_neg (by omega)]
  | cons x suf ih =>
    intro pre sum hp h0 h1
    have hll : l.length = pre.length + suf.length + 1 := by rw [hp]; simp; omega
    have hx : rd l (pre.length : Int) = x := by rw [hp]; exact rd_at _ _ _ rfl
    have hk0 := kraft_nn suf
    have e1 : ((pre ++ [x]).length : Int) = (pre.length : Int) + 1 := by simp
    by_cases hr : 0 ≤ x ∧ x ≤ 15
    · by_cases hz : x > 0
      · have hp2 := P2_b (n := (15 - x).toNat) (m := 14) (by omega)
        rw [show P2 14 = 16384 from rfl] at hp2
        have hcons : kraft (x :: suf) = P2 (15 - x).toNat + kraft suf := by simp only [kraft, if_pos hz]
        obtain ⟨K, hK⟩ := ih (pre ++ [x]) (sum + P2 (15 - x).toNat) (by simp [hp]) (by omega) (by rw [e1]; omega)
        try dsimp only at hK
        refine ⟨K + 1, fun k hk => ?_⟩
        try dsimp only
        obtain ⟨m, rfl⟩ : ∃ m, k = m + 1 := ⟨k - 1, by omega⟩
        have hm := hK m (by omega)
        rw [e1] at hm
        rw [impl_filled.l0, if_pos (by omega), if_pos (by omega), if_pos (by omega), hx, in_f]
        simp only [Option.bind_some]
        rw [if_pos (decide_eq_true hr), if_pos hz, w64 (x := 15 - x) (by omega), if_pos (by omega), shl1_P2 (by omega) (by omega), w64 (x := sum + _) (by omega), w64 (by omega), hm, hcons]
        by_cases hc : lensOk suf ∧ l.length ≤ 300 ∧ sum + P2 (15 - x).toNat + kraft suf ≤ 32768
        · rw [if_pos hc, if_pos ⟨(lensOk_cons _ _).2 ⟨hr, hc.1⟩, hc.2.1, by omega⟩]; congr 1; omega
        · rw [if_neg hc, if_neg (fun h => hc ⟨((lensOk_cons _ _).1 h.1).2, h.2.1, by omega⟩)]
      · obtain ⟨K, hK⟩ := ih (pre ++ [x]) sum (by simp [hp]) (by omega) (by rw [e1]; omega)
        try dsimp only at hK
        have hcons : kraft (x :: suf) = kraft suf := by simp only [kraft, if_neg (show ¬ 0 < x by omega)]; omega
        refine ⟨K + 1, fun k hk => ?_⟩
        try dsimp only
        obtain ⟨m, rfl⟩ : ∃ m, k = m + 1 := ⟨k - 1, by omega⟩
        have hm := hK m (by omega)
        rw [e1] at hm
        rw [impl_filled.l0, if_pos (by omega), if_pos (by omega), if_pos (by omega), hx, in_f]
        simp only [Option.bind_some]
        rw [if_pos (decide_eq_true hr), if_neg hz, w64 (by omega), hm, hcons]
        by_cases hc : lensOk suf ∧ l.length ≤ 300 ∧ sum + kraft suf ≤ 32768
        · rw [if_pos hc, if_pos ⟨(lensOk_cons _ _).2 ⟨hr, hc.1⟩, hc.2⟩]
        · rw [if_neg hc, if_neg (fun h => hc ⟨((lensOk_cons _ _).1 h.1).2, h.2⟩)]
    · refine ⟨1, fun k hk => ?_⟩
      try dsimp only
      obtain ⟨m, rfl⟩ : ∃ m, k = m + 1 := ⟨k - 1, by omega⟩
      rw [impl_filled.l0, if_pos (by omega), if_pos (by omega), if_pos (by omega), hx, in_f]
      simp only [Option.bind_some]
      rw [if_neg (by simpa using hr), if_neg (fun h => hr ((lensOk_cons _ _).1 h.1).1)]
theorem filled_ev (l : List Int) (hl : l.length ≤ 1048576) : Ev (fun k => impl_filled.f k l) (if codeOkM l = true then kraft l else -1) := by
  obtain ⟨K, hK⟩ := filled_l0_ev l hl l [] 0 rfl (by omega) (by simp)
  try dsimp only at hK
  refine ⟨K, fun k hk => ?_⟩
  try dsimp only
  unfold impl_filled.f codeOkM
  refine (hK k hk).trans ?_
  simp only [Int.zero_add, decide_eq_true_eq]
theorem impl_CodeOk_ev (l : List Int) (hl : l.length ≤ 1048576) : Ev (fun k => impl_CodeOk.f k l) (codeOkM l) := by
  obtain ⟨K, hK⟩ := filled_ev l hl
  try dsimp only at hK
  have := kraft_nn l
  refine ⟨K, fun k hk => ?_⟩
  try dsimp only
  unfold impl_CodeOk.f
  rw [hK k hk]
  simp only [Option.bind_some]
  cases h : codeOkM l
  · simp
  · simp; omega
def codeFullM (l : List Int) : Bool := codeOkM l && decide (kraft l = 32768)
theorem impl_CodeFull_ev (l : List Int) (hl : l.length ≤ 1048576) : Ev (fun k => impl_CodeFull.f k l) (codeFullM l) := by
  obtain ⟨K, hK⟩ := filled_ev l hl
  try dsimp only at hK
  refine ⟨K, fun k hk => ?_⟩
  try dsimp only
  unfold impl_CodeFull.f codeFullM
  rw [hK k hk]
  simp only [Option.bind_some, Option.some.injEq]
  by_cases h : codeOkM l = true
  · rw [if_pos h, h]; rw [Bool.eq_iff_iff]; simp
  · rw [if_neg h]; simp at h; simp [h]
theorem wiInts_l0_ev (a : List Int) (hl : a.length ≤ 35184372088832) : ∀ (sa pa : List Int), a = pa ++ sa → Ev (fun k => laws_wiInts.l0 k a a (pa.length : Int)) true := by
  intro sa
  induction sa with
  | nil =>
    intro pa ha
    refine ⟨1, fun k hk => ?_⟩
    try dsimp only
    obtain ⟨m, rfl⟩ : ∃ m, k = m + 1 := ⟨k - 1, by omega⟩
    rw [laws_wiInts.l0, if_neg (by rw [ha]; simp)]
  | cons x sa ih =>
    intro pa ha
    have hll : a.length = pa.length + sa.length + 1 := by rw [ha]; simp; omega
    obtain ⟨K, hK⟩ := ih (pa ++ [x]) (by simp [ha])
    try dsimp only at hK
    refine ⟨K + 1, fun k hk => ?_⟩
    try dsimp only
    obtain ⟨m, rfl⟩ : ∃ m, k = m + 1 := ⟨k - 1, by omega⟩
    have hm := hK m (by omega)
    rw [laws_wiInts.l0, if_pos (by omega), if_pos (by omega), if_pos (by omega), if_pos rfl, w64 (by omega)]
    rw [List.length_append, List.length_singleton, show ((pa.length + 1 : Nat) : Int) = (pa.length : Int) + 1 by omega] at hm
    exact hm
theorem wiInts_ev (a : List Int) (hl : a.length ≤ 35184372088832) : Ev (fun k => laws_wiInts.f k a a) true := by
  obtain ⟨K, hK⟩ := wiInts_l0_ev a hl a [] rfl
  try dsimp only at hK
  refine ⟨K, fun k hk => ?_⟩
  try dsimp only
  unfold laws_wiInts.f
  rw [if_pos rfl]
  exact hK k hk

theorem rd_nat (l : List Int) (i : Nat) : rd l (i : Int) = l.getD i 0 := by unfold rd; rw [Int.toNat_natCast]
theorem drawCodeFit_ev {b : List Int} (hb : ∀ x ∈ b, (Lit.int .u8 x).wf = true) : ∃ (L : List Int) (m : Int), OftenOk L ∧ Ev (fun k => spec_DrawCodeFit.f k b) (L, m) := by
  have hc := code_open hb
  obtain ⟨L, p, hL, K1, hK1⟩ := l14Often_ev hc (p := 0) (by omega) (by omega)
  try dsimp only at hK1
  try dsimp only at hK1
  obtain ⟨v, hv, K2, hK2⟩ := pick_ev hc (p := p) (n := 14) (by omega) (by omega)
  try dsimp only at hK2
  try dsimp only at hK2
  refine ⟨L, rd [15, 7, 4, 3, 0, 16] (v * 6 / 14), hL.1, K1 + K2, fun k hk => ?_⟩
  try dsimp only
  try dsimp only
  unfold spec_DrawCodeFit.f
  rw [l1Open_f, Option.bind_some]
  try dsimp only
  rw [hK1 k (by omega), Option.bind_some]
  try dsimp only
  rw [Option.bind_some, hK2 k (by omega), Option.bind_some]
  try dsimp only
  rw [w64 (x := v * 6) (by omega), tdiv_pos (by omega), w64 (x := v * 6 / 14) (by omega), if_pos (by omega), if_pos (by simp; omega)]
theorem fit15 {L : List Int} {m : Int} (hL : OftenOk L) (h : roomM L m = true) : roomM L 15 = true ∧ (codeFitM L 15).length = L.length ∧ ∀ i k : Nat, i < L.length → k < L.length → 0 < L.getD i 0 → L.getD i 0 < L.getD k 0 → (codeFitM L 15).getD k 0 ≤ (codeFitM L 15).getD i 0 := by
  have hh := of_decide_eq_true h
  have hmy := manyM_le L
  have hr : roomM L 15 = true := decide_eq_true ⟨hh.1, by omega, by omega, by have : (2 ^ (15 : Int).toNat : Nat) = 32768 := rfl; omega, hh.2.2.2.2⟩
  refine ⟨hr, ?_, fun i k hi hk hp hlt => ?_⟩
  · obtain ⟨y, e, hl, _⟩ := codeFitM_is hr
    rw [e, treeM_length, hl]
  · rcases hL with hL | ⟨n, hn, rfl⟩
    · have h2 : 2 ≤ (leavesN L 0).length := by
        refine Nat.not_lt.1 fun hc => ?_
        rcases (show manyM L = 0 ∨ manyM L = 1 by have : (leavesN L 0).length = manyM L := rfl; omega) with h0 | h0
        · have := (treeM_none h0).2 i hi; omega
        · obtain ⟨j, _, _, _, h1⟩ := treeM_one h0
          by_cases c : i = j
          · have := h1 k hk (fun e => by subst c; subst e; omega); omega
          · have := h1 i hi c; omega
      have hov : overM 15 (treeM L) = false := over_at fun j hj => by
        rw [treeM_length] at hj
        have := (treeM_zero L j hj).2.2; omega
      have e : codeFitM L 15 = treeM L := by
        unfold codeFitM
        rw [if_pos hr, fitM, if_neg (by rw [hov]; decide)]
      rw [e]
      exact treeM_mono L h2 i k hi hk hp hlt
    · rw [List.length_replicate] at hi hk
      rw [List.getD_eq_getElem?_getD, List.getElem?_replicate, if_pos hi, List.getD_eq_getElem?_getD, List.getElem?_replicate, if_pos hk] at hlt
      simp at hlt
theorem fit_l2_ev (L l F : List Int) (n : Int) (hl : L.length ≤ 300) (hF : F.length = L.length) (hm : ∀ i k : Nat, i < L.length → k < L.length → 0 < L.getD i 0 → L.getD i 0 < L.getD k 0 → F.getD k 0 ≤ F.getD i 0) (i : Nat) (hi : i < L.length) (hnext : Ev (fun k => laws_FnCodeFit.l1 k L l n F ((i + 1 : Nat) : Int)) true) :
    ∀ d j : Nat, j + d = L.length → Ev (fun k => laws_FnCodeFit.l2 k L l n F (i : Int) (j : Int)) true := by
  intro d
  induction d with
  | zero =>
    intro j hj
    obtain ⟨K, hK⟩ := hnext
    try dsimp only at hK
    refine ⟨K + 1, fun k hk => ?_⟩
    try dsimp only
    obtain ⟨m, rfl⟩ : ∃ m, k = m + 1 := ⟨k - 1, by omega⟩
    rw [laws_FnCodeFit.l2, if_neg (by omega), w64 (by omega), show (i : Int) + 1 = ((i + 1 : Nat) : Int) by omega]
    exact hK m (by omega)
  | succ d ih =>
    intro j hj
    obtain ⟨K, hK⟩ := ih (j + 1) (by omega)
    try dsimp only at hK
    refine ⟨K + 1, fun k hk => ?_⟩
    try dsimp only
    obtain ⟨m, rfl⟩ : ∃ m, k = m + 1 := ⟨k - 1, by omega⟩
    rw [laws_FnCodeFit.l2, if_pos (by omega), if_pos (by omega), if_pos (by omega), w64 (x := (j : Int) + 1) (by omega), show (j : Int) + 1 = ((j + 1 : Nat) : Int) by omega]
    simp only [rd_nat]
    have hk2 := hK m (by omega)
    try dsimp only at hk2
    by_cases c : L.getD i 0 > 0
    · rw [if_pos c, if_pos (by omega)]
      by_cases c2 : L.getD i 0 < L.getD j 0
      · have := hm i j hi (by omega) c c2
        rw [if_pos c2, if_pos (by omega), if_pos (by omega), if_neg (by omega)]
        exact hk2
      · rw [if_neg c2]
        exact hk2
    · rw [if_neg c]
      exact hk2
theorem fit_l1_ev (L l F : List Int) (n : Int) (hl : L.length ≤ 300) (hll : l.length = L.length) (hF : F.length = L.length) (hm : ∀ i k : Nat, i < L.length → k < L.length → 0 < L.getD i 0 → L.getD i 0 < L.getD k 0 → F.getD k 0 ≤ F.getD i 0) (hok : codeOkM l = true) (hfull : n < 2 ∨ codeFullM l = true) :
    ∀ d i : Nat, i + d = L.length → Ev (fun k => laws_FnCodeFit.l1 k L l n F (i : Int)) true := by
  intro d
  induction d with
  | zero =>
    intro i hi
    obtain ⟨K1, hK1⟩ := impl_CodeOk_ev l (by omega)
    try dsimp only at hK1
    obtain ⟨K2, hK2⟩ := impl_CodeFull_ev l (by omega)
    try dsimp only at hK2
    try dsimp only at hK1 hK2
    refine ⟨K1 + K2 + 1, fun k hk => ?_⟩
    try dsimp only
    obtain ⟨m, rfl⟩ : ∃ m, k = m + 1 := ⟨k - 1, by omega⟩
    rw [laws_FnCodeFit.l1, if_neg (by omega), hK1 m (by omega), Option.bind_some, if_pos hok, hll]
    by_cases c : n < 2
    · rw [if_pos c]; simp
    · rw [if_neg c, hK2 m (by omega), Option.bind_some, if_pos (hfull.resolve_left c)]; simp
  | succ d ih =>
    intro i hi
    obtain ⟨K, hK⟩ := fit_l2_ev L l F n hl hF hm i (by omega) (ih (i + 1) (by omega)) L.length 0 (by omega)
    try dsimp only at hK
    refine ⟨K + 1, fun k hk => ?_⟩
    try dsimp only
    obtain ⟨m, rfl⟩ : ∃ m, k = m + 1 := ⟨k - 1, by omega⟩
    rw [laws_FnCodeFit.l1, if_pos (by omega)]
    exact hK m (by omega)
theorem manyM_take (L : List Int) (i : Nat) (hi : i < L.length) : manyM (L.take (i + 1)) = manyM (L.take i) + (if 0 < L.getD i 0 then 1 else 0) := by
  rw [List.take_add_one, List.getElem?_eq_getElem hi, Option.toList_some, manyM_append, manyM_cons, List.getD_eq_getElem?_getD, List.getElem?_eq_getElem hi]
  simp [manyM, leavesN]
theorem fit_l0_ev (L : List Int) (m : Int) (l F : List Int) (hl : L.length ≤ 300) (hll : l.length = L.length) (hfF : impl_CodeFit.f L 15 = some F) (hz : ∀ j : Nat, j < L.length → (l.getD j 0 = 0 ↔ L.getD j 0 = 0) ∧ l.getD j 0 ≤ m)
    (hend : Ev (fun k => laws_FnCodeFit.l1 k L l (manyM L : Int) F 0) true) :
    ∀ d j : Nat, j + d = L.length → Ev (fun k => laws_FnCodeFit.l0 k L m l (manyM (L.take j) : Int) (j : Int)) true := by
  intro d
  induction d with
  | zero =>
    intro j hj
    obtain ⟨K, hK⟩ := hend
    try dsimp only at hK
    refine ⟨K + 1, fun k hk => ?_⟩
    try dsimp only
    obtain ⟨n, rfl⟩ : ∃ n, k = n + 1 := ⟨k - 1, by omega⟩
    rw [laws_FnCodeFit.l0, if_neg (by omega), hfF, Option.bind_some, List.take_of_length_le (by omega)]
    exact hK n (by omega)
  | succ d ih =>
    intro j hj
    obtain ⟨K, hK⟩ := ih (j + 1) (by omega)
    try dsimp only at hK
    obtain ⟨h1, h2⟩ := hz j (by omega)
    have hmy := manyM_le (L.take j)
    rw [List.length_take] at hmy
    refine ⟨K + 2, fun k hk => ?_⟩
    try dsimp only
    obtain ⟨n, rfl⟩ : ∃ n, k = n + 1 + 1 := ⟨k - 2, by omega⟩
    have hk2 := hK n (by omega)
    try dsimp only at hk2
    rw [manyM_take L j (by omega)] at hk2
    rw [laws_FnCodeFit.l0, if_pos (by omega), if_pos (by omega), if_pos (by omega)]
    simp only [rd_nat]
    have hb : ((l.getD j 0 == 0) != (L.getD j 0 == 0)) = false := by
      by_cases c : l.getD j 0 = 0
      · rw [h1.1 c, c]; rfl
      · have c2 : ¬ L.getD j 0 = 0 := fun e => c (h1.2 e)
        rw [beq_eq_false_iff_ne.2 c, beq_eq_false_iff_ne.2 c2]; rfl
    rw [hb, if_neg (by decide), decide_eq_false (by omega), laws_FnCodeFit.j2, if_neg (by decide), if_pos (by omega), if_pos (by omega)]
    simp only [rd_nat]
    rw [w64 (x := (j : Int) + 1) (by omega), show (j : Int) + 1 = ((j + 1 : Nat) : Int) by omega]
    by_cases c : L.getD j 0 > 0
    · rw [if_pos c] at hk2
      rw [if_pos c, w64 (by omega), show (manyM (L.take j) : Int) + 1 = ((manyM (L.take j) + 1 : Nat) : Int) by omega]
      exact hk2
    · rw [if_neg c] at hk2
      rw [if_neg c]
      exact hk2
theorem impl_CodeFit_f (l : List Int) (m : Int) : impl_CodeFit.f l m = some (codeFitM l m) := rfl
theorem FnCodeFit : laws_FnCodeFit.Pure := by
  intro b hbl hb8 hw
  unfold laws_FnCodeFit.f
  by_cases h : (b.length : Int) > 1048576
  · exact ⟨0, by rw [if_pos h]⟩
  obtain ⟨L, m, hL, K1, h1⟩ := drawCodeFit_ev hw
  try dsimp only at h1
  try dsimp only at h1
  have hLl := hL.len
  obtain ⟨K2, h2⟩ := spec_CodeFit_ev L (by omega) m
  try dsimp only at h2
  try dsimp only at h2
  have hcl := codeFitM_length L m
  obtain ⟨K3, h3⟩ := wiInts_ev (codeFitM L m) (by omega)
  try dsimp only at h3
  try dsimp only at h3
  by_cases c : (codeFitM L m).length = 0
  · refine ⟨K1 + K2 + K3 + 1, ?_⟩
    rw [if_neg h, h1 _ (by omega), Option.bind_some]
    try dsimp only
    rw [impl_CodeFit_f, Option.bind_some, h2 _ (by omega), Option.bind_some, h3 _ (by omega), Option.bind_some, if_pos rfl, laws_FnCodeFit.j0, if_pos (by rw [c]; rfl), h2 _ (by omega), Option.bind_some, h3 _ (by omega), Option.bind_some]
  · have hr : roomM L m = true := by
      refine Classical.byContradiction fun hn => c ?_
      unfold codeFitM
      rw [if_neg hn]; rfl
    have hh := of_decide_eq_true hr
    obtain ⟨hr15, hF, hmono⟩ := fit15 hL hr
    obtain ⟨y, e, hy1, hy2, hy3, hy4, hy5⟩ := codeFitM_is hr
    have ho15 : overM 15 (treeM y) = false := over_at fun j hj => by
      have hv := over_false hy5 _ (List.getElem_mem hj)
      rw [List.getD_eq_getElem?_getD, List.getElem?_eq_getElem hj, Option.getD_some]; omega
    have hlen : (codeFitM L m).length = L.length := by rw [e, treeM_length, hy1]
    have hok : codeOkM (codeFitM L m) = true := by rw [e]; exact treeM_ok y (by omega) ho15
    have hfull : (manyM L : Int) < 2 ∨ codeFullM (codeFitM L m) = true := by
      by_cases c2 : manyM L < 2
      · exact .inl (by omega)
      · refine .inr ?_
        unfold codeFullM
        rw [hok, e, treeM_full (by omega) ho15]; rfl
    have hz : ∀ j : Nat, j < L.length → ((codeFitM L m).getD j 0 = 0 ↔ L.getD j 0 = 0) ∧ (codeFitM L m).getD j 0 ≤ m := by
      intro j hj
      rw [e]
      obtain ⟨z1, z2, z3⟩ := treeM_zero y j (by omega)
      have z4 := hy3 j
      have hv : L.getD j 0 ∈ L := by rw [List.getD_eq_getElem?_getD, List.getElem?_eq_getElem hj]; exact List.getElem_mem _
      have := hh.1 _ hv
      refine ⟨by omega, ?_⟩
      have hj2 : j < (treeM y).length := by rw [treeM_length]; omega
      have hv := over_false hy5 _ (List.getElem_mem hj2)
      rw [List.getD_eq_getElem?_getD, List.getElem?_eq_getElem hj2, Option.getD_some]; exact hv
    have hE := fit_l1_ev L (codeFitM L m) (codeFitM L 15) (manyM L : Int) (by omega) hlen hF hmono hok hfull L.length 0 (by omega)
    obtain ⟨K4, h4⟩ := fit_l0_ev L m (codeFitM L m) (codeFitM L 15) (by omega) hlen (impl_CodeFit_f L 15) hz hE L.length 0 (by omega)
    try dsimp only at h4
    try dsimp only at h4
    refine ⟨K1 + K2 + K3 + K4 + 1, ?_⟩
    rw [if_neg h, h1 _ (by omega), Option.bind_some]
    try dsimp only
    rw [impl_CodeFit_f, Option.bind_some, h2 _ (by omega), Option.bind_some, h3 _ (by omega), Option.bind_some, if_pos rfl, laws_FnCodeFit.j0, if_neg (by simp; exact List.ne_nil_of_length_pos (by omega))]
    have := h4 (K1 + K2 + K3 + K4) (by omega)
    rw [List.take_zero] at this
    exact this

end Go.Proofs.Ytgajagocenffeaa.Pure
