/- Of all that the reference draws from two lists of at most 1048576 bytes (longer ones are let by): the program's CodeCost and CodeFit answer as the reference, and no other drawn code that has all that come takes fewer bits than the fitted one, if no limit matters. -/
import Derived.Test.YtgajagocenffeaaHFnCodeBestx8
import Derived.Test.YtgajagocenffeaaThNum
import Derived.Test.YtgajagocenffeaaThXor
import Derived.Test.YtgajagocenffeaaThFit
import Derived.Test.YtgajagocenffeaaThCode
namespace Go.Proofs.Ytgajagocenffeaa.Pure
open Go.RowKit Go.Proofs.Ytgajagocenffeaa.PFnCodeBest Go.Proofs.YtgajagocenffeaaW.PrintWords Go.Proofs.YtgajagocenffeaaW.PrintLast Go.Proofs.YtgajagocenffeaaW.PrintMore Go.Proofs.Ytgajagocenffeaa.Th
set_option linter.unusedVariables false
set_option linter.unusedSimpArgs false

/-- A drawing's bytes. -/
def Code (b : List Int) : Prop := b.length ≤ 2000 ∧ ∀ x ∈ b, 0 ≤ x ∧ x ≤ 255
theorem l1Open_f (l : List Int) : spec_l1Open.f l = some (l.take 2000, 0) := by
  unfold spec_l1Open.f
  by_cases h : (l.length : Int) > 2000
  · rw [if_pos h, if_pos (by omega)]
  · rw [if_neg h, List.take_of_length_le (by omega)]
theorem code_open {l : List Int} (h : ∀ x ∈ l, (Lit.int .u8 x).wf = true) : Code (l.take 2000) := by
  refine ⟨by rw [List.length_take]; omega, fun x hx => ?_⟩
  have := h x (List.mem_of_mem_take hx)
  simp [Lit.wf, IntKind.min, IntKind.max, IntKind.bits, IntKind.signed] at this
  omega
theorem code_rd {b : List Int} (h : Code b) (i : Int) : 0 ≤ rd b i ∧ rd b i ≤ 255 := by
  rcases rd_mem_or b i with h1 | h1
  · exact h.2 _ h1
  · omega
/-- What is picked is there, and the place is one further. -/
theorem pick_ev {b : List Int} (hb : Code b) {p n : Int} (hp : 0 ≤ p ∧ p ≤ 1099511627776) (hn : n ≤ 1099511627776) : ∃ v : Int, (0 ≤ v ∧ (v < n ∨ n < 1 ∧ v = 0)) ∧ Ev (fun k => spec_l1Rd_pick.f k b p n) (v, p + 1) := by
  unfold spec_l1Rd_pick.f
  rw [w64 (x := p + 1) (by omega)]
  by_cases h1 : n < 1
  · refine ⟨0, ⟨by omega, .inr ⟨h1, rfl⟩⟩, 1, fun k hk => ?_⟩
    try dsimp only
    obtain ⟨m, rfl⟩ : ∃ m, k = m + 1 := ⟨k - 1, by omega⟩
    try dsimp only
    rw [if_pos h1, spec_l1Rd_pick.j0, if_pos rfl]
  by_cases h2 : b.length = 0
  · refine ⟨0, ⟨by omega, .inl (by omega)⟩, 1, fun k hk => ?_⟩
    try dsimp only
    obtain ⟨m, rfl⟩ : ∃ m, k = m + 1 := ⟨k - 1, by omega⟩
    try dsimp only
    rw [if_neg h1, spec_l1Rd_pick.j0, if_pos (by simp [h2])]
  have e0 : wrap64 (p + 1 - 1) = p := by rw [w64 (by omega)]; omega
  by_cases h3 : p < b.length
  · have hr := code_rd hb p
    refine ⟨rd b p % n, ⟨Int.emod_nonneg _ (by omega), .inl (Int.emod_lt_of_pos _ (by omega))⟩, 1, fun k hk => ?_⟩
    try dsimp only
    obtain ⟨m, rfl⟩ : ∃ m, k = m + 1 := ⟨k - 1, by omega⟩
    try dsimp only
    rw [if_neg h1, spec_l1Rd_pick.j0, if_neg (by simpa using h2), e0, if_pos h3, if_pos hp.1, if_neg (by omega), w64 (by omega), tmod_pos hr.1]
  · have hl := hb.1
    have m1 : 0 ≤ p % (b.length : Int) ∧ p % (b.length : Int) < b.length := ⟨Int.emod_nonneg _ (by omega), Int.emod_lt_of_pos _ (by omega)⟩
    have m2 : 0 ≤ (p * 7 + 3) % (b.length : Int) ∧ (p * 7 + 3) % (b.length : Int) < b.length := ⟨Int.emod_nonneg _ (by omega), Int.emod_lt_of_pos _ (by omega)⟩
    have r1 := code_rd hb (p % (b.length : Int))
    have r2 := code_rd hb ((p * 7 + 3) % (b.length : Int))
    have q1 : 0 ≤ p / (b.length : Int) := Int.ediv_nonneg hp.1 (by omega)
    have q2 : p / (b.length : Int) ≤ p := Int.ediv_le_self _ hp.1
    obtain ⟨X, hX⟩ : ∃ X, X = rd b (p % (b.length : Int)) * 131 + rd b ((p * 7 + 3) % (b.length : Int)) * 1117 + p * 29 + p / (b.length : Int) * 53 := ⟨_, rfl⟩
    have bX : 0 ≤ X ∧ X ≤ 4611686018427387904 := by omega
    have hx := xor_b (x := X) (y := X / 64) (by omega) (by omega)
    refine ⟨Go.bits .xor .i64 X (X / 64) % n, ⟨Int.emod_nonneg _ (by omega), .inl (Int.emod_lt_of_pos _ (by omega))⟩, 1, fun k hk => ?_⟩
    try dsimp only
    obtain ⟨m, rfl⟩ : ∃ m, k = m + 1 := ⟨k - 1, by omega⟩
    try dsimp only
    rw [if_neg h1, spec_l1Rd_pick.j0, if_neg (by simpa using h2), e0, if_neg h3, if_neg (by omega)]
    rw [w64 (x := p * 7) (by omega), w64 (x := p * 7 + 3) (by omega), tmod_pos (a := p) hp.1, tmod_pos (a := p * 7 + 3) (by omega), tdiv_pos (a := p) hp.1]
    rw [if_pos m1.1, if_pos m1.2, if_pos m2.1, if_pos m2.2, if_neg (by omega)]
    rw [w64 (x := rd b (p % (b.length : Int))) (by omega), w64 (x := rd b ((p * 7 + 3) % (b.length : Int))) (by omega), w64 (x := p / (b.length : Int)) (by omega)]
    rw [w64 (x := rd b (p % (b.length : Int)) * 131) (by omega), w64 (x := rd b ((p * 7 + 3) % (b.length : Int)) * 1117) (by omega), w64 (x := p * 29) (by omega), w64 (x := p / (b.length : Int) * 53) (by omega)]
    rw [w64 (x := rd b (p % (b.length : Int)) * 131 + rd b ((p * 7 + 3) % (b.length : Int)) * 1117) (by omega), w64 (x := rd b (p % (b.length : Int)) * 131 + rd b ((p * 7 + 3) % (b.length : Int)) * 1117 + p * 29) (by omega), w64 (x := rd b (p % (b.length : Int)) * 131 + rd b ((p * 7 + 3) % (b.length : Int)) * 1117 + p * 29 + p / (b.length : Int) * 53) (by omega), ← hX]
    rw [tdiv_pos (by omega), w64 (x := X / 64) (by omega), tmod_pos hx.1]
theorem l4SameO_l0_ev (x : Int) (n : Nat) (hn : n ≤ 100000) : ∀ d i : Nat, i + d = n → Ev (fun k => spec_l4Same.l0 k x (n : Int) (List.replicate i x) (i : Int)) (List.replicate n x) := by
  intro d
  induction d with
  | zero =>
    intro i hi
    refine ⟨1, fun k hk => ?_⟩
    try dsimp only
    obtain ⟨m, rfl⟩ : ∃ m, k = m + 1 := ⟨k - 1, by omega⟩
    rw [spec_l4Same.l0, if_neg (by omega), show i = n by omega]
  | succ d ih =>
    intro i hi
    obtain ⟨K, hK⟩ := ih (i + 1) (by omega)
    try dsimp only at hK
    refine ⟨K + 1, fun k hk => ?_⟩
    try dsimp only
    obtain ⟨m, rfl⟩ : ∃ m, k = m + 1 := ⟨k - 1, by omega⟩
    have hm := hK m (by omega)
    rw [spec_l4Same.l0, if_pos (by omega), if_pos (by rw [List.length_replicate]; omega), w64 (by omega)]
    rw [List.replicate_succ', show ((i + 1 : Nat) : Int) = (i : Int) + 1 by omega] at hm
    exact hm
theorem l4SameO_ev (x n : Int) (h0 : 0 ≤ n) (hn : n ≤ 100000) : Ev (fun k => spec_l4Same.f k x n) (List.replicate n.toNat x) := by
  have h := l4SameO_l0_ev x n.toNat (by omega) n.toNat 0 (by omega)
  rw [Int.toNat_of_nonneg h0] at h
  exact h
theorem l1Pow_l0_ev (n : Nat) (hn : n ≤ 62) : ∀ d i : Nat, i + d = n → Ev (fun k => spec_l1Pow.l0 k (n : Int) (P2 i) (i : Int)) (P2 n) := by
  intro d
  induction d with
  | zero =>
    intro i hi
    refine ⟨1, fun k hk => ?_⟩
    try dsimp only
    obtain ⟨m, rfl⟩ : ∃ m, k = m + 1 := ⟨k - 1, by omega⟩
    rw [spec_l1Pow.l0, if_neg (by omega), show i = n by omega]
  | succ d ih =>
    intro i hi
    obtain ⟨K, hK⟩ := ih (i + 1) (by omega)
    try dsimp only at hK
    refine ⟨K + 1, fun k hk => ?_⟩
    try dsimp only
    obtain ⟨m, rfl⟩ : ∃ m, k = m + 1 := ⟨k - 1, by omega⟩
    have hm := hK m (by omega)
    have hb := P2_62b (n := i) (by omega)
    have hb' := P2_62b (n := i + 1) (by omega)
    have hs := P2_succ i
    rw [spec_l1Pow.l0, if_pos (by omega), w64 (by omega), w64 (by omega), show P2 i * 2 = P2 (i + 1) by omega, show (i : Int) + 1 = ((i + 1 : Nat) : Int) by omega]
    exact hm
theorem l1Pow_ev (n : Nat) (hn : n ≤ 62) : Ev (fun k => spec_l1Pow.f k (n : Int)) (P2 n) := l1Pow_l0_ev n hn n 0 (by omega)
theorem l1Pow_evI (n : Int) (h0 : 0 ≤ n) (hn : n ≤ 62) : Ev (fun k => spec_l1Pow.f k n) (P2 n.toNat) := by
  have h := l1Pow_ev n.toNat (by omega)
  rw [Int.toNat_of_nonneg h0] at h
  exact h
/-- How often each comes, as it is drawn: few of them, or all once. -/
def OftenOk (L : List Int) : Prop := (L.length ≤ 14 ∧ ∀ v ∈ L, -1 ≤ v ∧ v ≤ 9001) ∨ ∃ n : Nat, n ≤ 301 ∧ L = List.replicate n 1
theorem OftenOk.len {L : List Int} (h : OftenOk L) : L.length ≤ 301 := by
  rcases h with h | ⟨n, hn, rfl⟩
  · omega
  · rw [List.length_replicate]; exact hn
theorem mem_rd {L : List Int} {i : Int} (h0 : 0 ≤ i) (h1 : i < L.length) : rd L i ∈ L := by
  unfold rd
  rw [List.getD_eq_getElem?_getD, List.getElem?_eq_getElem (by omega)]
  exact List.getElem_mem _
theorem l14Often_l0_ev {b : List Int} (hb : Code b) : ∀ (n : Nat) (L : List Int) (p : Int), n + L.length ≤ 13 → 0 ≤ p → p ≤ 1000000 - 4 * n → (∀ v ∈ L, -1 ≤ v ∧ v ≤ 9001) →
    ∃ (L' : List Int) (p' : Int), (OftenOk L' ∧ p ≤ p' ∧ p' ≤ p + 4 * n + 2) ∧ Ev (fun k => spec_l14Often.l0 k L (n : Int) b p) (L', p') := by
  intro n
  induction n with
  | zero =>
    intro L p hn h0 h1 hL
    obtain ⟨v, hv, K1, hK1⟩ := pick_ev hb (p := p) (n := 20) (by omega) (by omega)
    try dsimp only at hK1
    try dsimp only at hK1
    by_cases hz : v = 0
    · obtain ⟨u, hu, K2, hK2⟩ := pick_ev hb (p := p + 1) (n := 2) (by omega) (by omega)
      try dsimp only at hK2
      try dsimp only at hK2
      have hm := mem_rd (L := [(-1 : Int), 9001]) (i := u) (by omega) (by simp; omega)
      refine ⟨L ++ [rd [(-1), 9001] u], p + 1 + 1, ⟨.inl ⟨by simp; omega, fun x hx => ?_⟩, by omega, by omega⟩, K1 + K2 + 1, fun k hk => ?_⟩
      try dsimp only
      · rcases List.mem_append.1 hx with hx | hx
        · exact hL x hx
        · rw [List.mem_singleton] at hx
          rw [hx]
          simp only [List.mem_cons, List.not_mem_nil, or_false] at hm
          omega
      · dsimp only
        obtain ⟨m, rfl⟩ : ∃ m, k = m + 1 := ⟨k - 1, by omega⟩
        rw [spec_l14Often.l0, if_neg (by omega), hK1 m (by omega), Option.bind_some]
        try dsimp only
        rw [if_pos hz, Option.bind_some, hK2 m (by omega), Option.bind_some]
        try dsimp only
        rw [if_pos (by omega), if_pos (by simp; omega), if_pos (by omega)]
    · refine ⟨L, p + 1, ⟨.inl ⟨by omega, hL⟩, by omega, by omega⟩, K1 + 1, fun k hk => ?_⟩
      try dsimp only
      obtain ⟨m, rfl⟩ : ∃ m, k = m + 1 := ⟨k - 1, by omega⟩
      rw [spec_l14Often.l0, if_neg (by omega), hK1 m (by omega), Option.bind_some]
      try dsimp only
      rw [if_neg hz]
  | succ n ih =>
    intro L p hn h0 h1 hL
    obtain ⟨v1, hv1, K1, hK1⟩ := pick_ev hb (p := p) (n := 5) (by omega) (by omega)
    try dsimp only at hK1
    try dsimp only at hK1
    obtain ⟨v2, hv2, K2, hK2⟩ := pick_ev hb (p := p + 1) (n := 90) (by omega) (by omega)
    try dsimp only at hK2
    try dsimp only at hK2
    obtain ⟨v3, hv3, K3, hK3⟩ := pick_ev hb (p := p + 1 + 1) (n := 12) (by omega) (by omega)
    try dsimp only at hK3
    try dsimp only at hK3
    obtain ⟨K4, hK4⟩ := l1Pow_evI v3 (by omega) (by omega)
    try dsimp only at hK4
    try dsimp only at hK4
    have hp := P2_b (n := v3.toNat) (m := 11) (by omega)
    have e11 : P2 11 = 2048 := rfl
    rw [e11] at hp
    obtain ⟨v5, hv5, K5, hK5⟩ := pick_ev hb (p := p + 1 + 1 + 1) (n := 5) (by omega) (by omega)
    try dsimp only at hK5
    try dsimp only at hK5
    have hm := mem_rd (L := [0, 1, v1, v2, P2 v3.toNat]) (i := v5) (by omega) (by simp; omega)
    obtain ⟨L', p', hh, K6, hK6⟩ := ih (L ++ [rd [0, 1, v1, v2, P2 v3.toNat] v5]) (p + 1 + 1 + 1 + 1) (by simp; omega) (by omega) (by omega) (fun x hx => by
      rcases List.mem_append.1 hx with hx | hx
      · exact hL x hx
      · rw [List.mem_singleton] at hx
        rw [hx]
        simp only [List.mem_cons, List.not_mem_nil, or_false] at hm
        omega)
    refine ⟨L', p', ⟨hh.1, by omega, by omega⟩, K1 + K2 + K3 + K4 + K5 + K6 + 1, fun k hk => ?_⟩
    try dsimp only
    obtain ⟨m, rfl⟩ : ∃ m, k = m + 1 := ⟨k - 1, by omega⟩
    have h6 := hK6 m (by omega)
    rw [spec_l14Often.l0, if_pos (by omega), hK1 m (by omega), Option.bind_some]
    try dsimp only
    rw [hK2 m (by omega), Option.bind_some]
    try dsimp only
    rw [hK3 m (by omega), Option.bind_some]
    try dsimp only
    rw [hK4 m (by omega), Option.bind_some, Option.bind_some, hK5 m (by omega), Option.bind_some]
    try dsimp only
    rw [if_pos (by omega), if_pos (by simp; omega), if_pos (by omega), w64 (by omega), show ((n + 1 : Nat) : Int) - 1 = (n : Int) by omega]
    exact h6
theorem l14Often_ev {b : List Int} (hb : Code b) {p : Int} (h0 : 0 ≤ p) (h1 : p ≤ 200000) : ∃ (L : List Int) (p' : Int), (OftenOk L ∧ p ≤ p' ∧ p' ≤ p + 100) ∧ Ev (fun k => spec_l14Often.f k b p) (L, p') := by
  obtain ⟨v1, hv1, K1, hK1⟩ := pick_ev hb (p := p) (n := 80) (by omega) (by omega)
  try dsimp only at hK1
  try dsimp only at hK1
  by_cases hz : v1 = 0
  · obtain ⟨v2, hv2, K2, hK2⟩ := pick_ev hb (p := p + 1) (n := 2) (by omega) (by omega)
    try dsimp only at hK2
    try dsimp only at hK2
    obtain ⟨K3, hK3⟩ := l4SameO_ev 1 (300 + v2) (by omega) (by omega)
    try dsimp only at hK3
    try dsimp only at hK3
    refine ⟨List.replicate (300 + v2).toNat 1, p + 1 + 1, ⟨.inr ⟨_, by omega, rfl⟩, by omega, by omega⟩, K1 + K2 + K3, fun k hk => ?_⟩
    try dsimp only
    try dsimp only
    unfold spec_l14Often.f
    rw [hK1 k (by omega), Option.bind_some]
    try dsimp only
    rw [if_pos hz, hK2 k (by omega), Option.bind_some]
    try dsimp only
    rw [w64 (by omega), hK3 k (by omega), Option.bind_some]
  · obtain ⟨v2, hv2, K2, hK2⟩ := pick_ev hb (p := p + 1) (n := 14) (by omega) (by omega)
    try dsimp only at hK2
    try dsimp only at hK2
    obtain ⟨L', p', hh, K3, hK3⟩ := l14Often_l0_ev hb v2.toNat [] (p + 1 + 1) (by simp; omega) (by omega) (by omega) (fun v hv => by simp at hv)
    rw [Int.toNat_of_nonneg (by omega)] at hK3
    try dsimp only at hK3
    refine ⟨L', p', ⟨hh.1, by omega, by omega⟩, K1 + K2 + K3, fun k hk => ?_⟩
    try dsimp only
    try dsimp only
    unfold spec_l14Often.f
    rw [hK1 k (by omega), Option.bind_some]
    try dsimp only
    rw [if_neg hz, hK2 k (by omega), Option.bind_some]
    try dsimp only
    exact hK3 k (by omega)
theorem l1In_f (a b c : Int) : spec_l1In.f a b c = some (decide (b ≤ a ∧ a ≤ c)) := by
  unfold spec_l1In.f
  by_cases h : b ≤ a
  · rw [if_pos h]; simp [h]
  · rw [if_neg h]; simp [h]
theorem l3Tree_f (l : List Int) (hl : l.length ≤ 300) (hv : ∀ v ∈ l, v ≤ 4294967296) : spec_l3Tree.f l = some (treeM l) := by
  unfold spec_l3Tree.f
  rw [if_pos ⟨hl, hv⟩]
theorem l3Room_l0_ev (l : List Int) (hl : l.length ≤ 1048576) (m : Int) : ∀ (suf pre : List Int), l = pre ++ suf → (∀ v ∈ pre, 0 ≤ v ∧ v ≤ 9000) → Ev (fun k => spec_l3Room.l0 k l m (manyM pre : Int) (pre.length : Int)) (roomM l m) := by
  intro suf
  induction suf with
  | nil =>
    intro pre hp h0
    have hpl : pre = l := by rw [hp]; simp
    subst hpl
    by_cases c : 1 ≤ m ∧ m ≤ 15
    · obtain ⟨K, hK⟩ := l1Pow_evI m (by omega) (by omega)
      try dsimp only at hK
      refine ⟨K + 1, fun k hk => ?_⟩
      try dsimp only
      obtain ⟨n, rfl⟩ : ∃ n, k = n + 1 := ⟨k - 1, by omega⟩
      rw [spec_l3Room.l0, if_neg (by omega), l1In_f, Option.bind_some, if_pos (decide_eq_true c), hK n (by omega), Option.bind_some]
      unfold P2 roomM
      by_cases c2 : manyM pre ≤ 2 ^ m.toNat
      · rw [if_pos (by omega)]
        congr 1
        rw [decide_eq_decide]
        exact ⟨fun h => ⟨h0, c.1, c.2, c2, by omega⟩, fun h => by omega⟩
      · rw [if_neg (by omega), decide_eq_false (fun h => c2 h.2.2.2.1)]
    · refine ⟨1, fun k hk => ?_⟩
      try dsimp only
      obtain ⟨n, rfl⟩ : ∃ n, k = n + 1 := ⟨k - 1, by omega⟩
      rw [spec_l3Room.l0, if_neg (by omega), l1In_f, Option.bind_some, if_neg (by simpa using c)]
      unfold roomM
      rw [decide_eq_false (fun h => c ⟨h.2.1, h.2.2.1⟩)]
  | cons x suf ih =>
    intro pre hp h0
    have hll : l.length = pre.length + suf.length + 1 := by rw [hp]; simp; omega
    have hx : rd l (pre.length : Int) = x := by rw [hp]; exact rd_at _ _ _ rfl
    have hml := manyM_le pre
    by_cases c : 0 ≤ x ∧ x ≤ 9000
    · obtain ⟨K, hK⟩ := ih (pre ++ [x]) (by simp [hp]) (fun v hv => by
        rcases List.mem_append.1 hv with hv | hv
        · exact h0 v hv
        · rw [List.mem_singleton] at hv; rw [hv]; exact c)
      try dsimp only at hK
      refine ⟨K + 1, fun k hk => ?_⟩
      try dsimp only
      obtain ⟨n, rfl⟩ : ∃ n, k = n + 1 := ⟨k - 1, by omega⟩
      have hm := hK n (by omega)
      rw [List.length_append, List.length_singleton, show ((pre.length + 1 : Nat) : Int) = (pre.length : Int) + 1 by omega, manyM_append, manyM_cons] at hm
      rw [spec_l3Room.l0, if_pos (by omega), if_pos (by omega), hx, l1In_f, Option.bind_some, if_pos (decide_eq_true c)]
      by_cases c2 : 0 < x
      · rw [if_pos c2] at hm
        rw [if_pos c2, w64 (by omega), w64 (by omega)]
        rw [show ((manyM pre + (1 + manyM []) : Nat) : Int) = (manyM pre : Int) + 1 by simp [manyM, leavesN]] at hm
        exact hm
      · rw [if_neg c2] at hm
        rw [if_neg c2, w64 (by omega)]
        rw [show ((manyM pre + (0 + manyM []) : Nat) : Int) = (manyM pre : Int) by simp [manyM, leavesN]] at hm
        exact hm
    · refine ⟨1, fun k hk => ?_⟩
      try dsimp only
      obtain ⟨n, rfl⟩ : ∃ n, k = n + 1 := ⟨k - 1, by omega⟩
      rw [spec_l3Room.l0, if_pos (by omega), if_pos (by omega), hx, l1In_f, Option.bind_some, if_neg (by simpa using c)]
      unfold roomM
      rw [decide_eq_false (fun h => c (h.1 x (by rw [hp]; simp)))]
theorem l3Room_ev (l : List Int) (hl : l.length ≤ 1048576) (m : Int) : Ev (fun k => spec_l3Room.f k l m) (roomM l m) := l3Room_l0_ev l hl m l [] rfl (fun v hv => by simp at hv)
theorem l3Most_l0_ev (l : List Int) (hl : l.length ≤ 1048576) : ∀ (suf pre : List Int) (M : Int), l = pre ++ suf → 0 ≤ M → ∃ r : Int, (∀ b : Int, 0 ≤ b → (b < r ↔ b < M ∨ ∃ v ∈ suf, b < v)) ∧ Ev (fun k => spec_l3Most.l0 k l M (pre.length : Int)) r := by
  intro suf
  induction suf with
  | nil =>
    intro pre M hp h0
    refine ⟨M, fun b _ => by simp, 1, fun k hk => ?_⟩
    try dsimp only
    obtain ⟨n, rfl⟩ : ∃ n, k = n + 1 := ⟨k - 1, by omega⟩
    rw [spec_l3Most.l0, if_neg (by rw [hp]; simp)]
  | cons x suf ih =>
    intro pre M hp h0
    have hll : l.length = pre.length + suf.length + 1 := by rw [hp]; simp; omega
    have hx : rd l (pre.length : Int) = x := by rw [hp]; exact rd_at _ _ _ rfl
    by_cases c : x > M
    · obtain ⟨r, h1, K, hK⟩ := ih (pre ++ [x]) x (by simp [hp]) (by omega)
      try dsimp only at hK
      refine ⟨r, fun b hb => ?_, K + 1, fun k hk => ?_⟩
      try dsimp only
      · rw [h1 b hb]
        constructor
        · rintro (h | ⟨v, hv, h⟩)
          · exact .inr ⟨x, by simp, h⟩
          · exact .inr ⟨v, by simp [hv], h⟩
        · rintro (h | ⟨v, hv, h⟩)
          · exact .inl (by omega)
          · rcases List.mem_cons.1 hv with rfl | hv
            · exact .inl h
            · exact .inr ⟨v, hv, h⟩
      · dsimp only
        obtain ⟨n, rfl⟩ : ∃ n, k = n + 1 := ⟨k - 1, by omega⟩
        have hm := hK n (by omega)
        rw [List.length_append, List.length_singleton, show ((pre.length + 1 : Nat) : Int) = (pre.length : Int) + 1 by omega] at hm
        rw [spec_l3Most.l0, if_pos (by omega), if_pos (by omega), hx, if_pos c, w64 (by omega)]
        exact hm
    · obtain ⟨r, h1, K, hK⟩ := ih (pre ++ [x]) M (by simp [hp]) h0
      try dsimp only at hK
      refine ⟨r, fun b hb => ?_, K + 1, fun k hk => ?_⟩
      try dsimp only
      · rw [h1 b hb]
        constructor
        · rintro (h | ⟨v, hv, h⟩)
          · exact .inl h
          · exact .inr ⟨v, by simp [hv], h⟩
        · rintro (h | ⟨v, hv, h⟩)
          · exact .inl h
          · rcases List.mem_cons.1 hv with rfl | hv
            · exact .inl (by omega)
            · exact .inr ⟨v, hv, h⟩
      · dsimp only
        obtain ⟨n, rfl⟩ : ∃ n, k = n + 1 := ⟨k - 1, by omega⟩
        have hm := hK n (by omega)
        rw [List.length_append, List.length_singleton, show ((pre.length + 1 : Nat) : Int) = (pre.length : Int) + 1 by omega] at hm
        rw [spec_l3Most.l0, if_pos (by omega), if_pos (by omega), hx, if_neg c, w64 (by omega)]
        exact hm
/-- The test of the greatest against a limit. -/
theorem l3Most_ev (l : List Int) (hl : l.length ≤ 1048576) (m : Int) (hm : 0 ≤ m) : ∃ r : Int, (r > m ↔ overM m l = true) ∧ Ev (fun k => spec_l3Most.f k l) r := by
  obtain ⟨r, h1, hE⟩ := l3Most_l0_ev l hl l [] 0 rfl (by omega)
  refine ⟨r, ?_, hE⟩
  have h2 := h1 m hm
  unfold overM
  rw [List.any_eq_true]
  constructor
  · intro h
    rcases h2.1 h with h | ⟨v, hv, h⟩
    · omega
    · exact ⟨v, hv, decide_eq_true h⟩
  · rintro ⟨v, hv, h⟩
    exact h2.2 (.inr ⟨v, hv, of_decide_eq_true h⟩)
theorem l3Fit_l1_ev (m : Int) (r : List Int) (y : List Int) (hl : y.length ≤ 300) (hy : ∀ v ∈ y, 0 ≤ v ∧ v ≤ 16384) (hnext : Ev (fun k => spec_l3Fit.l0 k m (halfL y) (treeM (halfL y))) r) :
    ∀ (suf pre : List Int), y = pre ++ suf → Ev (fun k => spec_l3Fit.l1 k m (halfL pre ++ suf) (pre.length : Int)) r := by
  intro suf
  induction suf with
  | nil =>
    intro pre hp
    have hpl : pre = y := by rw [hp]; simp
    subst hpl
    obtain ⟨K, hK⟩ := hnext
    try dsimp only at hK
    refine ⟨K + 1, fun k hk => ?_⟩
    try dsimp only
    obtain ⟨n, rfl⟩ : ∃ n, k = n + 1 := ⟨k - 1, by omega⟩
    rw [spec_l3Fit.l1, if_neg (by rw [List.append_nil, halfL_length]; omega), List.append_nil, l3Tree_f _ (by rw [halfL_length]; exact hl) (fun v hv => by
      obtain ⟨u, hu, rfl⟩ := List.mem_map.1 hv
      have := hy u hu; omega), Option.bind_some]
    exact hK n (by omega)
  | cons x suf ih =>
    intro pre hp
    have hx0 := hy x (by rw [hp]; simp)
    have hll : y.length = pre.length + suf.length + 1 := by rw [hp]; simp; omega
    obtain ⟨K, hK⟩ := ih (pre ++ [x]) (by simp [hp])
    try dsimp only at hK
    have e1 : halfL (pre ++ [x]) ++ suf = halfL pre ++ (x + 1) / 2 :: suf := by simp [halfL]
    rw [e1] at hK
    have hhl := halfL_length pre
    refine ⟨K + 1, fun k hk => ?_⟩
    try dsimp only
    obtain ⟨n, rfl⟩ : ∃ n, k = n + 1 := ⟨k - 1, by omega⟩
    have hm := hK n (by omega)
    rw [List.length_append, List.length_singleton, show ((pre.length + 1 : Nat) : Int) = (pre.length : Int) + 1 by omega] at hm
    have hrd : rd (halfL pre ++ x :: suf) (pre.length : Int) = x := rd_at _ _ _ (by rw [hhl])
    rw [spec_l3Fit.l1, if_pos (by rw [List.length_append, List.length_cons, hhl]; omega), if_pos (by omega), hrd, w64 (x := x + 1) (by omega), tdiv_pos (by omega), w64 (x := (x + 1) / 2) (by omega), w64 (x := (pre.length : Int) + 1) (by omega), Int.toNat_natCast, set_at _ _ _ _ (by rw [hhl])]
    exact hm
theorem l3Fit_l0_ev (m : Int) (hm : 1 ≤ m) : ∀ (n : Nat) (x : List Int), n ≤ 14 → x.length ≤ 300 → (∀ v ∈ x, 0 ≤ v ∧ v ≤ ((2 ^ n : Nat) : Int)) → manyM x ≤ 2 ^ m.toNat → Ev (fun k => spec_l3Fit.l0 k m x (treeM x)) (fitM n x m) := by
  intro n
  induction n with
  | zero =>
    intro x hn hl hx hP
    obtain ⟨q, h1, K, hK⟩ := l3Most_ev (treeM x) (by rw [treeM_length]; omega) m (by omega)
    try dsimp only at hK
    have hf := treeM_flat x (fun v hv => by have := hx v hv; simpa using this) m hm hP
    refine ⟨K + 1, fun k hk => ?_⟩
    try dsimp only
    obtain ⟨j, rfl⟩ : ∃ j, k = j + 1 := ⟨k - 1, by omega⟩
    rw [spec_l3Fit.l0, hK j (by omega), Option.bind_some, if_neg (fun h => by have := h1.1 h; rw [hf] at this; cases this)]
    rfl
  | succ n ih =>
    intro x hn hl hx hP
    obtain ⟨q, h1, K, hK⟩ := l3Most_ev (treeM x) (by rw [treeM_length]; omega) m (by omega)
    try dsimp only at hK
    unfold fitM
    by_cases c : overM m (treeM x) = true
    · have h14 : ((2 ^ (n + 1) : Nat) : Int) ≤ 16384 := by
        have := Nat.pow_le_pow_right (n := 2) (by decide) hn
        have e : (2 ^ 14 : Nat) = 16384 := rfl
        rw [e] at this; omega
      have hnext := ih (halfL x) (by omega) (by rw [halfL_length]; exact hl) (halfL_b n x hx) (by rw [halfL_many x (fun v hv => (hx v hv).1)]; exact hP)
      obtain ⟨K2, hK2⟩ := l3Fit_l1_ev m _ x hl (fun v hv => by have := hx v hv; omega) hnext x [] rfl
      try dsimp only at hK2
      refine ⟨K + K2 + 1, fun k hk => ?_⟩
      try dsimp only
      obtain ⟨j, rfl⟩ : ∃ j, k = j + 1 := ⟨k - 1, by omega⟩
      rw [spec_l3Fit.l0, hK j (by omega), Option.bind_some, if_pos (h1.2 c), if_pos c]
      exact hK2 j (by omega)
    · refine ⟨K + 1, fun k hk => ?_⟩
      try dsimp only
      obtain ⟨j, rfl⟩ : ∃ j, k = j + 1 := ⟨k - 1, by omega⟩
      rw [spec_l3Fit.l0, hK j (by omega), Option.bind_some, if_neg (fun h => c (h1.1 h)), if_neg c]
theorem spec_CodeFit_ev (l : List Int) (hl : l.length ≤ 1048576) (m : Int) : Ev (fun k => spec_CodeFit.f k l m) (codeFitM l m) := by
  obtain ⟨K, hK⟩ := l3Room_ev l hl m
  try dsimp only at hK
  unfold codeFitM
  by_cases c : roomM l m = true
  · have h2 := of_decide_eq_true c
    obtain ⟨K2, hK2⟩ := l3Fit_l0_ev m h2.2.1 14 l (by omega) h2.2.2.2.2 (fun v hv => by have := h2.1 v hv; have e : ((2 ^ 14 : Nat) : Int) = 16384 := rfl; rw [e]; omega) h2.2.2.2.1
    try dsimp only at hK2
    refine ⟨K + K2, fun k hk => ?_⟩
    try dsimp only
    unfold spec_CodeFit.f
    rw [hK k (by omega), Option.bind_some, if_pos c, if_pos c]
    unfold spec_l3Fit.f
    simp only [Option.bind_some]
    rw [if_pos (by simp; omega)]
    simp only [List.nil_append]
    rw [l3Tree_f l h2.2.2.2.2 (fun v hv => by have := h2.1 v hv; omega), Option.bind_some, hK2 k (by omega), Option.bind_some]
  · refine ⟨K, fun k hk => ?_⟩
    try dsimp only
    unfold spec_CodeFit.f
    rw [hK k (by omega), Option.bind_some, if_neg c, if_neg c]
theorem codeFit_b (L : List Int) (m : Int) : ∀ v ∈ codeFitM L m, 0 ≤ v ∧ v ≤ 15 := by
  intro v hv
  by_cases h : roomM L m = true
  · have h15 := (of_decide_eq_true h).2.2.1
    obtain ⟨y, e, hl, hy, _, _, ho⟩ := codeFitM_is h
    rw [e] at hv
    have h1 := over_false ho v hv
    obtain ⟨j, hj, rfl⟩ := List.mem_iff_getElem.1 hv
    rw [treeM_length] at hj
    have := (treeM_zero y j hj).2.1
    rw [List.getD_eq_getElem?_getD, List.getElem?_eq_getElem (by rw [treeM_length]; exact hj)] at this
    simp only [Option.getD_some] at this
    omega
  · unfold codeFitM at hv
    rw [if_neg h] at hv
    simp at hv
/-- Lengths, as they are drawn. -/
def LenOk (L : List Int) : Prop := L.length ≤ 301 ∧ ∀ v ∈ L, -1 ≤ v ∧ v ≤ 16
theorem LenOk.set {L : List Int} (h : LenOk L) (i : Nat) {x : Int} (hx : -1 ≤ x ∧ x ≤ 16) : LenOk (L.set i x) := by
  refine ⟨by rw [List.length_set]; exact h.1, fun v hv => ?_⟩
  rcases List.mem_or_eq_of_mem_set hv with hv | rfl
  · exact h.2 v hv
  · exact hx
theorem l14Lengths_l0_ev {b : List Int} (hb : Code b) : ∀ (n : Nat) (L : List Int) (p : Int), n + L.length ≤ 10 → 0 ≤ p → p ≤ 1000000 - n → LenOk L →
    ∃ (L' : List Int) (p' : Int), (LenOk L' ∧ p ≤ p' ∧ p' ≤ p + n + 2) ∧ Ev (fun k => spec_l14Lengths.l0 k L (n : Int) b p) (L', p') := by
  intro n
  induction n with
  | zero =>
    intro L p hn h0 h1 hL
    by_cases hl : (L.length : Int) > 0
    · obtain ⟨v, hv, K1, hK1⟩ := pick_ev hb (p := p) (n := 8) (by omega) (by omega)
      try dsimp only at hK1
      try dsimp only at hK1
      by_cases hz : v = 0
      · obtain ⟨u, hu, K2, hK2⟩ := pick_ev hb (p := p + 1) (n := 2) (by omega) (by omega)
        try dsimp only at hK2
        try dsimp only at hK2
        have hm := mem_rd (L := [(-1 : Int), 16]) (i := u) (by omega) (by simp; omega)
        simp only [List.mem_cons, List.not_mem_nil, or_false] at hm
        refine ⟨L.set (0 : Int).toNat (rd [(-1), 16] u), p + 1 + 1, ⟨hL.set _ (by omega), by omega, by omega⟩, K1 + K2 + 1, fun k hk => ?_⟩
        try dsimp only
        obtain ⟨m, rfl⟩ : ∃ m, k = m + 1 := ⟨k - 1, by omega⟩
        rw [spec_l14Lengths.l0, if_neg (by omega), if_pos hl, hK1 m (by omega), Option.bind_some]
        try dsimp only
        rw [if_pos hz, Option.bind_some, hK2 m (by omega), Option.bind_some]
        try dsimp only
        rw [if_pos (by omega), if_pos (by simp; omega), if_pos (by omega)]
      · refine ⟨L, p + 1, ⟨hL, by omega, by omega⟩, K1 + 1, fun k hk => ?_⟩
        try dsimp only
        obtain ⟨m, rfl⟩ : ∃ m, k = m + 1 := ⟨k - 1, by omega⟩
        rw [spec_l14Lengths.l0, if_neg (by omega), if_pos hl, hK1 m (by omega), Option.bind_some]
        try dsimp only
        rw [if_neg hz]
    · refine ⟨L, p, ⟨hL, by omega, by omega⟩, 1, fun k hk => ?_⟩
      try dsimp only
      obtain ⟨m, rfl⟩ : ∃ m, k = m + 1 := ⟨k - 1, by omega⟩
      rw [spec_l14Lengths.l0, if_neg (by omega), if_neg hl]
  | succ n ih =>
    intro L p hn h0 h1 hL
    obtain ⟨v1, hv1, K1, hK1⟩ := pick_ev hb (p := p) (n := 5) (by omega) (by omega)
    try dsimp only at hK1
    try dsimp only at hK1
    obtain ⟨L', p', hh, K2, hK2⟩ := ih (L ++ [v1]) (p + 1) (by simp; omega) (by omega) (by omega) ⟨by simp; have := hL.1; omega, fun x hx => by
      rcases List.mem_append.1 hx with hx | hx
      · exact hL.2 x hx
      · rw [List.mem_singleton] at hx; omega⟩
    refine ⟨L', p', ⟨hh.1, by omega, by omega⟩, K1 + K2 + 1, fun k hk => ?_⟩
    try dsimp only
    obtain ⟨m, rfl⟩ : ∃ m, k = m + 1 := ⟨k - 1, by omega⟩
    have h6 := hK2 m (by omega)
    rw [spec_l14Lengths.l0, if_pos (by omega), hK1 m (by omega), Option.bind_some]
    try dsimp only
    rw [if_pos (by omega), w64 (by omega), show ((n + 1 : Nat) : Int) - 1 = (n : Int) by omega]
    exact h6
theorem l14Lengths_j0_ev {b : List Int} (hb : Code b) {L : List Int} (hL : LenOk L) {p : Int} (h0 : 0 ≤ p) (h1 : p ≤ 1000000) (c : Bool) (hc : c = true → 0 < L.length) :
    ∃ (L' : List Int) (p' : Int), (LenOk L' ∧ p ≤ p' ∧ p' ≤ p + 2) ∧ Ev (fun k => spec_l14Lengths.j0 k L c b p) (L', p') := by
  cases c with
  | true =>
    have hp := hc rfl
    have hl := hL.1
    obtain ⟨v, hv, K1, hK1⟩ := pick_ev hb (p := p) (n := (L.length : Int)) (by omega) (by omega)
    try dsimp only at hK1
    try dsimp only at hK1
    obtain ⟨u, hu, K2, hK2⟩ := pick_ev hb (p := p + 1) (n := 6) (by omega) (by omega)
    try dsimp only at hK2
    try dsimp only at hK2
    refine ⟨L.set v.toNat u, p + 1 + 1, ⟨hL.set _ (by omega), by omega, by omega⟩, K1 + K2 + 1, fun k hk => ?_⟩
    try dsimp only
    obtain ⟨m, rfl⟩ : ∃ m, k = m + 1 := ⟨k - 1, by omega⟩
    rw [spec_l14Lengths.j0, if_pos rfl, hK1 m (by omega), Option.bind_some]
    try dsimp only
    rw [hK2 m (by omega), Option.bind_some]
    try dsimp only
    rw [if_pos (by omega), if_pos (by omega)]
  | false =>
    refine ⟨L, p, ⟨hL, by omega, by omega⟩, 1, fun k hk => ?_⟩
    try dsimp only
    obtain ⟨m, rfl⟩ : ∃ m, k = m + 1 := ⟨k - 1, by omega⟩
    rw [spec_l14Lengths.j0, if_neg (by decide)]
theorem l14Lengths_ev {b : List Int} (hb : Code b) {p : Int} (h0 : 0 ≤ p) (h1 : p ≤ 100000) : ∃ (L : List Int) (p' : Int), (LenOk L ∧ p ≤ p' ∧ p' ≤ p + 200) ∧ Ev (fun k => spec_l14Lengths.f k b p) (L, p') := by
  obtain ⟨v1, hv1, K1, hK1⟩ := pick_ev hb (p := p) (n := 3) (by omega) (by omega)
  try dsimp only at hK1
  try dsimp only at hK1
  by_cases hz : v1 > 0
  · obtain ⟨O, p1, hO, K2, hK2⟩ := l14Often_ev hb (p := p + 1) (by omega) (by omega)
    try dsimp only at hK2
    try dsimp only at hK2
    have hOl := hO.1.len
    obtain ⟨K3, hK3⟩ := spec_CodeFit_ev O (by omega) 15
    try dsimp only at hK3
    try dsimp only at hK3
    have hLO : LenOk (codeFitM O 15) := ⟨by have := codeFitM_length O 15; omega, fun v hv => by have := codeFit_b O 15 v hv; omega⟩
    by_cases hl : ((codeFitM O 15).length : Int) > 0
    · obtain ⟨v2, hv2, K4, hK4⟩ := pick_ev hb (p := p1) (n := 4) (by omega) (by omega)
      try dsimp only at hK4
      try dsimp only at hK4
      obtain ⟨L', p', hh, K5, hK5⟩ := l14Lengths_j0_ev hb hLO (p := p1 + 1) (by omega) (by omega) (v2 == 0) (fun _ => by omega)
      try dsimp only at hK5
      refine ⟨L', p', ⟨hh.1, by omega, by omega⟩, K1 + K2 + K3 + K4 + K5, fun k hk => ?_⟩
      try dsimp only
      try dsimp only
      unfold spec_l14Lengths.f
      rw [hK1 k (by omega), Option.bind_some]
      try dsimp only
      rw [if_pos hz, hK2 k (by omega), Option.bind_some]
      try dsimp only
      rw [hK3 k (by omega), Option.bind_some, if_pos hl, hK4 k (by omega), Option.bind_some]
      try dsimp only
      exact hK5 k (by omega)
    · obtain ⟨L', p', hh, K5, hK5⟩ := l14Lengths_j0_ev hb hLO (p := p1) (by omega) (by omega) false (fun h => by cases h)
      try dsimp only at hK5
      refine ⟨L', p', ⟨hh.1, by omega, by omega⟩, K1 + K2 + K3 + K5, fun k hk => ?_⟩
      try dsimp only
      try dsimp only
      unfold spec_l14Lengths.f
      rw [hK1 k (by omega), Option.bind_some]
      try dsimp only
      rw [if_pos hz, hK2 k (by omega), Option.bind_some]
      try dsimp only
      rw [hK3 k (by omega), Option.bind_some, if_neg hl]
      exact hK5 k (by omega)
  · obtain ⟨v2, hv2, K2, hK2⟩ := pick_ev hb (p := p + 1) (n := 7) (by omega) (by omega)
    try dsimp only at hK2
    try dsimp only at hK2
    obtain ⟨L', p', hh, K3, hK3⟩ := l14Lengths_l0_ev hb v2.toNat [] (p + 1 + 1) (by simp; omega) (by omega) (by omega) ⟨by simp, fun v hv => by simp at hv⟩
    rw [Int.toNat_of_nonneg (by omega)] at hK3
    try dsimp only at hK3
    refine ⟨L', p', ⟨hh.1, by omega, by omega⟩, K1 + K2 + K3, fun k hk => ?_⟩
    try dsimp only
    try dsimp only
    unfold spec_l14Lengths.f
    rw [hK1 k (by omega), Option.bind_some]
    try dsimp only
    rw [if_neg hz, hK2 k (by omega), Option.bind_some]
    try dsimp only
    exact hK3 k (by omega)
theorem in_f (a b c : Int) : impl_in.f a b c = some (decide (b ≤ a ∧ a ≤ c)) := by
  unfold impl_in.f
  by_cases h : b ≤ a
  · rw [if_pos h]; simp [h]
  · rw [if_neg h]; simp [h]
theorem l3Left_l0_ev (l : List Int) (hl : l.length ≤ 1048576) : ∀ (suf pre : List Int) (left : Int), l = pre ++ suf → 0 ≤ left → left ≤ 32768 → Ev (fun k => spec_l3Left.l0 k l left (pre.length : Int)) (if lensOk suf ∧ kraft suf ≤ left then left - kraft suf else -1) := by
  intro suf
  induction suf with
  | nil =>
    intro pre left hp h0 h1
    refine ⟨1, fun k hk => ?_⟩
    try dsimp only
    obtain ⟨m, rfl⟩ : ∃ m, k = m + 1 := ⟨k - 1, by omega⟩
    subst hp
    rw [spec_l3Left.l0, if_neg (by simp), if_pos ⟨lensOk_nil, by simp [kraft]; omega⟩]
    simp [kraft]
  | cons x suf ih =>
    intro pre left hp h0 h1
    have hll : l.length = pre.length + suf.length + 1 := by rw [hp]; simp; omega
    have hx : rd l (pre.length : Int) = x := by rw [hp]; exact rd_at _ _ _ rfl
    have hk0 := kraft_nn suf
    have e1 : ((pre ++ [x]).length : Int) = (pre.length : Int) + 1 := by simp
    by_cases hr : 0 ≤ x ∧ x ≤ 15
    · by_cases hz : x > 0
      · obtain ⟨K1, hK1⟩ := l1Pow_evI (15 - x) (by omega) (by omega)
        try dsimp only at hK1
        have hp2 := P2_b (n := (15 - x).toNat) (m := 15) (by omega)
        rw [P2_15] at hp2
        have hcons : kraft (x :: suf) = P2 (15 - x).toNat + kraft suf := by simp only [kraft, if_pos hz]
        by_cases hn : left - P2 (15 - x).toNat < 0
        · refine ⟨K1 + 1, fun k hk => ?_⟩
          try dsimp only
          obtain ⟨m, rfl⟩ : ∃ m, k = m + 1 := ⟨k - 1, by omega⟩
          rw [spec_l3Left.l0, if_pos (by omega), if_pos (by omega), hx, l1In_f]
          simp only [Option.bind_some]
          rw [if_pos (decide_eq_true hr), if_pos hz, w64 (x := 15 - x) (by omega), hK1 m (by omega)]
          simp only [Option.bind_some]
          rw [w64 (by omega), if_pos hn, if_neg (by rw [hcons]; omega)]
        · obtain ⟨K, hK⟩ := ih (pre ++ [x]) (left - P2 (15 - x).toNat) (by simp [hp]) (by omega) (by omega)
          try dsimp only at hK
          refine ⟨K + K1 + 1, fun k hk => ?_⟩
          try dsimp only
          obtain ⟨m, rfl⟩ : ∃ m, k = m + 1 := ⟨k - 1, by omega⟩
          have hm := hK m (by omega)
          rw [e1] at hm
          rw [spec_l3Left.l0, if_pos (by omega), if_pos (by omega), hx, l1In_f]
          simp only [Option.bind_some]
          rw [if_pos (decide_eq_true hr), if_pos hz, w64 (x := 15 - x) (by omega), hK1 m (by omega)]
          simp only [Option.bind_some]
          rw [w64 (x := left - _) (by omega), if_neg hn, w64 (by omega), hm, hcons]
          by_cases hc : lensOk suf ∧ kraft suf ≤ left - P2 (15 - x).toNat
          · rw [if_pos hc, if_pos ⟨(lensOk_cons _ _).2 ⟨hr, hc.1⟩, by omega⟩]; congr 1; omega
          · rw [if_neg hc, if_neg (fun h => hc ⟨((lensOk_cons _ _).1 h.1).2, by omega⟩)]
      · obtain ⟨K, hK⟩ := ih (pre ++ [x]) left (by simp [hp]) (by omega) (by omega)
        try dsimp only at hK
        have hcons : kraft (x :: suf) = kraft suf := by simp only [kraft, if_neg (show ¬ 0 < x by omega)]; omega
        refine ⟨K + 1, fun k hk => ?_⟩
        try dsimp only
        obtain ⟨m, rfl⟩ : ∃ m, k = m + 1 := ⟨k - 1, by omega⟩
        have hm := hK m (by omega)
        rw [e1] at hm
        rw [spec_l3Left.l0, if_pos (by omega), if_pos (by omega), hx, l1In_f]
        simp only [Option.bind_some]
        rw [if_pos (decide_eq_true hr), if_neg hz, if_neg (by omega), w64 (by omega), hm, hcons]
        by_cases hc : lensOk suf ∧ kraft suf ≤ left
        · rw [if_pos hc, if_pos ⟨(lensOk_cons _ _).2 ⟨hr, hc.1⟩, by omega⟩]
        · rw [if_neg hc, if_neg (fun h => hc ⟨((lensOk_cons _ _).1 h.1).2, by omega⟩)]
    · refine ⟨1, fun k hk => ?_⟩
      try dsimp only
      obtain ⟨m, rfl⟩ : ∃ m, k = m + 1 := ⟨k - 1, by omega⟩
      rw [spec_l3Left.l0, if_pos (by omega), if_pos (by omega), hx, l1In_f]
      simp only [Option.bind_some]
      rw [if_neg (by simpa using hr), if_neg (fun h => hr ((lensOk_cons _ _).1 h.1).1)]
theorem l3Left_ev (l : List Int) (hl : l.length ≤ 1048576) : Ev (fun k => spec_l3Left.f k l) (if lensOk l ∧ kraft l ≤ 32768 then 32768 - kraft l else -1) := by
  obtain ⟨K, hK⟩ := l3Left_l0_ev l hl l [] 32768 rfl (by omega) (by omega)
  try dsimp only at hK
  obtain ⟨K1, hK1⟩ := l1Pow_evI 15 (by omega) (by omega)
  try dsimp only at hK1
  refine ⟨K + K1, fun k hk => ?_⟩
  try dsimp only
  unfold spec_l3Left.f
  rw [hK1 k (by omega)]
  exact hK k (by omega)
theorem spec_CodeOk_ev (l : List Int) (hl : l.length ≤ 1048576) : Ev (fun k => spec_CodeOk.f k l) (codeOkM l) := by
  unfold spec_CodeOk.f codeOkM
  by_cases h : l.length ≤ 300
  · obtain ⟨K, hK⟩ := l3Left_ev l hl
    try dsimp only at hK
    refine ⟨K, fun k hk => ?_⟩
    try dsimp only
    rw [if_pos (by omega), hK k hk]
    simp only [Option.bind_some]
    by_cases hc : lensOk l ∧ kraft l ≤ 32768
    · rw [if_pos hc, decide_eq_true (by omega), decide_eq_true ⟨hc.1, h, hc.2⟩]
    · rw [if_neg hc, decide_eq_false (by omega), decide_eq_false (fun h => hc ⟨h.1, h.2.2⟩)]
  · refine ⟨0, fun k hk => ?_⟩
    try dsimp only
    rw [if_neg (by omega), decide_eq_false (fun hh => h hh.2.1)]
theorem filled_l0_ev (l : List Int) (hl : l.length ≤ 1048576) : ∀ (suf pre : List Int) (sum : Int), l = pre ++ suf → 0 ≤ sum → sum ≤ 16384 * pre.length → Ev (fun k => impl_filled.l0 k l sum l (l.length : Int) (pre.length : Int)) (if lensOk suf ∧ l.length ≤ 300 ∧ sum + kraft suf ≤ 32768 then sum + kraft suf else -1) := by
  intro suf
  induction suf with
  | nil =>
    intro pre sum hp h0 h1
    refine ⟨1, fun k hk => ?_⟩
    try dsimp only
    obtain ⟨m, rfl⟩ : ∃ m, k = m + 1 := ⟨k - 1, by omega⟩
    have hpl : l.length = pre.length := by rw [hp]; simp
    rw [impl_filled.l0, if_neg (by omega)]
    have e0 : kraft ([] : List Int) = 0 := rfl
    by_cases h3 : l.length ≤ 300
    · by_cases h4 : sum ≤ 32768
      · rw [if_neg (by omega), if_neg (by omega), if_pos ⟨lensOk_nil, h3, by omega⟩, e0, Int.add_zero]
      · rw [if_neg (by omega), if_pos (by omega), if_neg (by omega)]
    · rw [if_pos (by omega), if_neg (by omega)]
  | cons x suf ih =>
    intro pre sum hp h0 h1
    have hll : l.length = pre.length + suf.length + 1 := by rw [hp]; simp; omega
    have hx : rd l (pre.length : Int) = x := by rw [hp]; exact rd_at _ _ _ rfl
    have hk0 := kraft_nn suf
    have e1 : ((pre ++ [x]).length : Int) = (pre.length : Int) + 1 := by simp
    by_cases hr : 0 ≤ x ∧ x ≤ 15
    · by_cases hz : x > 0
      · have hp2 := P2_b (n := (15 - x).toNat) (m := 14) (by omega)
        rw [show P2 14 = 16384 from rfl] at hp2
        have hcons : kraft (x :: suf) = P2 (15 - x).toNat + kraft suf := by simp only [kraft, if_pos hz]
        obtain ⟨K, hK⟩ := ih (pre ++ [x]) (sum + P2 (15 - x).toNat) (by simp [hp]) (by omega) (by rw [e1]; omega)
        try dsimp only at hK
        refine ⟨K + 1, fun k hk => ?_⟩
        try dsimp only
        obtain ⟨m, rfl⟩ : ∃ m, k = m + 1 := ⟨k - 1, by omega⟩
        have hm := hK m (by omega)
        rw [e1] at hm
        rw [impl_filled.l0, if_pos (by omega), if_pos (by omega), if_pos (by omega), hx, in_f]
        simp only [Option.bind_some]
        rw [if_pos (decide_eq_true hr), if_pos hz, w64 (x := 15 - x) (by omega), if_pos (by omega), shl1_P2 (by omega) (by omega), w64 (x := sum + _) (by omega), w64 (by omega), hm, hcons]
        by_cases hc : lensOk suf ∧ l.length ≤ 300 ∧ sum + P2 (15 - x).toNat + kraft suf ≤ 32768
        · rw [if_pos hc, if_pos ⟨(lensOk_cons _ _).2 ⟨hr, hc.1⟩, hc.2.1, by omega⟩]; congr 1; omega
        · rw [if_neg hc, if_neg (fun h => hc ⟨((lensOk_cons _ _).1 h.1).2, h.2.1, by omega⟩)]
      · obtain ⟨K, hK⟩ := ih (pre ++ [x]) sum (by simp [hp]) (by omega) (by rw [e1]; omega)
        try dsimp only at hK
        have hcons : kraft (x :: suf) = kraft suf := by simp only [kraft, if_neg (show ¬ 0 < x by omega)]; omega
        refine ⟨K + 1, fun k hk => ?_⟩
        try dsimp only
        obtain ⟨m, rfl⟩ : ∃ m, k = m + 1 := ⟨k - 1, by omega⟩
        have hm := hK m (by omega)
        rw [e1] at hm
        rw [impl_filled.l0, if_pos (by omega), if_pos (by omega), if_pos (by omega), hx, in_f]
        simp only [Option.bind_some]
        rw [if_pos (decide_eq_true hr), if_neg hz, w64 (by omega), hm, hcons]
        by_cases hc : lensOk suf ∧ l.length ≤ 300 ∧ sum + kraft suf ≤ 32768
        · rw [if_pos hc, if_pos ⟨(lensOk_cons _ _).2 ⟨hr, hc.1⟩, hc.2⟩]
        · rw [if_neg hc, if_neg (fun h => hc ⟨((lensOk_cons _ _).1 h.1).2, h.2⟩)]
    · refine ⟨1, fun k hk => ?_⟩
      try dsimp only
      obtain ⟨m, rfl⟩ : ∃ m, k = m + 1 := ⟨k - 1, by omega⟩
      rw [impl_filled.l0, if_pos (by omega), if_pos (by omega), if_pos (by omega), hx, in_f]
      simp only [Option.bind_some]
      rw [if_neg (by simpa using hr), if_neg (fun h => hr ((lensOk_cons _ _).1 h.1).1)]
theorem filled_ev (l : List Int) (hl : l.length ≤ 1048576) : Ev (fun k => impl_filled.f k l) (if codeOkM l = true then kraft l else -1) := by
  obtain ⟨K, hK⟩ := filled_l0_ev l hl l [] 0 rfl (by omega) (by simp)
  try dsimp only at hK
  refine ⟨K, fun k hk => ?_⟩
  try dsimp only
  unfold impl_filled.f codeOkM
  refine (hK k hk).trans ?_
  simp only [Int.zero_add, decide_eq_true_eq]
theorem impl_CodeOk_ev (l : List Int) (hl : l.length ≤ 1048576) : Ev (fun k => impl_CodeOk.f k l) (codeOkM l) := by
  obtain ⟨K, hK⟩ := filled_ev l hl
  try dsimp only at hK
  have := kraft_nn l
  refine ⟨K, fun k hk => ?_⟩
  try dsimp only
  unfold impl_CodeOk.f
  rw [hK k hk]
  simp only [Option.bind_some]
  cases h : codeOkM l
  · simp
  · simp; omega
def costOk (often : List Int) : Prop := ∀ x ∈ often, 0 ≤ x ∧ x ≤ 9000
def costM : List Int → List Int → Int
  | x :: a, y :: b => x * y + costM a b
  | _, _ => 0
def costA (sum : Int) : List Int → List Int → Int
  | x :: a, y :: b => if 0 ≤ x ∧ x ≤ 9000 then costA (sum + x * y) a b else 0
  | _, _ => sum
theorem spec_CodeCost_l0_ev (a b : List Int) (hab : a.length = b.length) (hb : ∀ y ∈ b, 0 ≤ y ∧ y ≤ 15) (hl : a.length ≤ 1048576) : ∀ (sa sb pa pb : List Int) (sum : Int), a = pa ++ sa → b = pb ++ sb → pa.length = pb.length → 0 ≤ sum → sum ≤ 135000 * pa.length → Ev (fun k => spec_CodeCost.l0 k a b sum (pa.length : Int)) (costA sum sa sb) := by
  intro sa
  induction sa with
  | nil =>
    intro sb pa pb sum ha hbb hp h0 h1
    refine ⟨1, fun k hk => ?_⟩
    try dsimp only
    obtain ⟨m, rfl⟩ : ∃ m, k = m + 1 := ⟨k - 1, by omega⟩
    rw [spec_CodeCost.l0, if_neg (by rw [ha]; simp)]
    simp [costA]
  | cons x sa ih =>
    intro sb pa pb sum ha hbb hp h0 h1
    cases sb with
    | nil => rw [ha, hbb] at hab; simp at hab; omega
    | cons y sb =>
      have hll : a.length = pa.length + sa.length + 1 := by rw [ha]; simp; omega
      have hx : rd a (pa.length : Int) = x := by rw [ha]; exact rd_at _ _ _ rfl
      have hy : rd b (pa.length : Int) = y := by rw [hbb]; exact rd_at _ _ _ (by omega)
      have hyb := hb y (by rw [hbb]; simp)
      by_cases hr : 0 ≤ x ∧ x ≤ 9000
      · have hxy : 0 ≤ x * y := Int.mul_nonneg hr.1 hyb.1
        have hxy2 : x * y ≤ 9000 * 15 := Int.mul_le_mul hr.2 hyb.2 hyb.1 (by omega)
        obtain ⟨K, hK⟩ := ih sb (pa ++ [x]) (pb ++ [y]) (sum + x * y) (by simp [ha]) (by simp [hbb]) (by simp [hp]) (by omega) (by simp; omega)
        try dsimp only at hK
        refine ⟨K + 1, fun k hk => ?_⟩
        try dsimp only
        obtain ⟨m, rfl⟩ : ∃ m, k = m + 1 := ⟨k - 1, by omega⟩
        have hm := hK m (by omega)
        rw [spec_CodeCost.l0, if_pos (by omega), if_pos (by omega), hx, hy, l1In_f]
        simp only [Option.bind_some]
        rw [if_pos (decide_eq_true hr), if_pos (by omega), w64 (x := x * y) (by omega), w64 (by omega), w64 (by omega)]
        rw [List.length_append, List.length_singleton, show ((pa.length + 1 : Nat) : Int) = (pa.length : Int) + 1 by omega] at hm
        rw [hm]; simp only [costA]; rw [if_pos hr]
      · refine ⟨1, fun k hk => ?_⟩
        try dsimp only
        obtain ⟨m, rfl⟩ : ∃ m, k = m + 1 := ⟨k - 1, by omega⟩
        rw [spec_CodeCost.l0, if_pos (by omega), if_pos (by omega), hx, l1In_f]
        simp only [Option.bind_some]
        rw [if_neg (by simpa using hr)]; simp only [costA]; rw [if_neg hr]
theorem impl_CodeCost_l0_ev (a b : List Int) (hab : a.length = b.length) (hb : ∀ y ∈ b, 0 ≤ y ∧ y ≤ 15) (hl : a.length ≤ 1048576) : ∀ (sa sb pa pb : List Int) (sum : Int), a = pa ++ sa → b = pb ++ sb → pa.length = pb.length → 0 ≤ sum → sum ≤ 135000 * pa.length → Ev (fun k => impl_CodeCost.l0 k b sum a (a.length : Int) (pa.length : Int)) (costA sum sa sb) := by
  intro sa
  induction sa with
  | nil =>
    intro sb pa pb sum ha hbb hp h0 h1
    refine ⟨1, fun k hk => ?_⟩
    try dsimp only
    obtain ⟨m, rfl⟩ : ∃ m, k = m + 1 := ⟨k - 1, by omega⟩
    rw [impl_CodeCost.l0, if_neg (by rw [ha]; simp)]
    simp [costA]
  | cons x sa ih =>
    intro sb pa pb sum ha hbb hp h0 h1
    cases sb with
    | nil => rw [ha, hbb] at hab; simp at hab; omega
    | cons y sb =>
      have hll : a.length = pa.length + sa.length + 1 := by rw [ha]; simp; omega
      have hx : rd a (pa.length : Int) = x := by rw [ha]; exact rd_at _ _ _ rfl
      have hy : rd b (pa.length : Int) = y := by rw [hbb]; exact rd_at _ _ _ (by omega)
      have hyb := hb y (by rw [hbb]; simp)
      by_cases hr : 0 ≤ x ∧ x ≤ 9000
      · have hxy : 0 ≤ x * y := Int.mul_nonneg hr.1 hyb.1
        have hxy2 : x * y ≤ 9000 * 15 := Int.mul_le_mul hr.2 hyb.2 hyb.1 (by omega)
        obtain ⟨K, hK⟩ := ih sb (pa ++ [x]) (pb ++ [y]) (sum + x * y) (by simp [ha]) (by simp [hbb]) (by simp [hp]) (by omega) (by simp; omega)
        try dsimp only at hK
        refine ⟨K + 1, fun k hk => ?_⟩
        try dsimp only
        obtain ⟨m, rfl⟩ : ∃ m, k = m + 1 := ⟨k - 1, by omega⟩
        have hm := hK m (by omega)
        rw [impl_CodeCost.l0, if_pos (by omega), if_pos (by omega), if_pos (by omega), hx, hy, in_f]
        simp only [Option.bind_some]
        rw [if_pos (decide_eq_true hr), if_pos (by omega), w64 (x := x * y) (by omega), w64 (by omega), w64 (by omega)]
        rw [List.length_append, List.length_singleton, show ((pa.length + 1 : Nat) : Int) = (pa.length : Int) + 1 by omega] at hm
        rw [hm]; simp only [costA]; rw [if_pos hr]
      · refine ⟨1, fun k hk => ?_⟩
        try dsimp only
        obtain ⟨m, rfl⟩ : ∃ m, k = m + 1 := ⟨k - 1, by omega⟩
        rw [impl_CodeCost.l0, if_pos (by omega), if_pos (by omega), if_pos (by omega), hx, in_f]
        simp only [Option.bind_some]
        rw [if_neg (by simpa using hr)]; simp only [costA]; rw [if_neg hr]
def codeCostM (a b : List Int) : Int := if codeOkM b = true ∧ a.length = b.length then costA 0 a b else 0
theorem spec_CodeCost_ev (a b : List Int) (ha : a.length ≤ 1048576) (hb : b.length ≤ 1048576) : Ev (fun k => spec_CodeCost.f k a b) (codeCostM a b) := by
  obtain ⟨K1, h1⟩ := spec_CodeOk_ev b hb
  try dsimp only at h1
  unfold spec_CodeCost.f codeCostM
  by_cases h : codeOkM b = true
  · have hh := of_decide_eq_true h
    by_cases hl : a.length = b.length
    · obtain ⟨K, hK⟩ := spec_CodeCost_l0_ev a b hl hh.1 ha a b [] [] 0 rfl rfl rfl (by omega) (by simp)
      try dsimp only at hK
      refine ⟨K + K1 + 1, fun k hk => ?_⟩
      try dsimp only
      obtain ⟨m, rfl⟩ : ∃ m, k = m + 1 := ⟨k - 1, by omega⟩
      rw [h1 (m + 1) (by omega)]
      simp only [Option.bind_some]
      rw [if_pos h, if_pos ⟨h, hl⟩, spec_CodeCost.j0, if_neg (by simp [hl])]
      exact hK m (by omega)
    · refine ⟨K1 + 1, fun k hk => ?_⟩
      try dsimp only
      obtain ⟨m, rfl⟩ : ∃ m, k = m + 1 := ⟨k - 1, by omega⟩
      rw [h1 (m + 1) (by omega)]
      simp only [Option.bind_some]
      rw [if_pos h, if_neg (fun e => hl e.2), spec_CodeCost.j0, if_pos (by simp; omega)]
  · refine ⟨K1 + 1, fun k hk => ?_⟩
    try dsimp only
    obtain ⟨m, rfl⟩ : ∃ m, k = m + 1 := ⟨k - 1, by omega⟩
    rw [h1 (m + 1) (by omega)]
    simp only [Option.bind_some]
    rw [if_neg h, if_neg (fun e => h e.1), spec_CodeCost.j0, if_pos rfl]
theorem impl_CodeCost_ev (a b : List Int) (ha : a.length ≤ 1048576) (hb : b.length ≤ 1048576) : Ev (fun k => impl_CodeCost.f k a b) (codeCostM a b) := by
  obtain ⟨K1, h1⟩ := impl_CodeOk_ev b hb
  try dsimp only at h1
  unfold impl_CodeCost.f codeCostM
  by_cases h : codeOkM b = true
  · have hh := of_decide_eq_true h
    by_cases hl : a.length = b.length
    · obtain ⟨K, hK⟩ := impl_CodeCost_l0_ev a b hl hh.1 ha a b [] [] 0 rfl rfl rfl (by omega) (by simp)
      try dsimp only at hK
      refine ⟨K + K1 + 1, fun k hk => ?_⟩
      try dsimp only
      obtain ⟨m, rfl⟩ : ∃ m, k = m + 1 := ⟨k - 1, by omega⟩
      rw [h1 (m + 1) (by omega)]
      simp only [Option.bind_some]
      rw [if_pos h, if_pos ⟨h, hl⟩, impl_CodeCost.j0, if_neg (by simp [hl])]
      exact hK m (by omega)
    · refine ⟨K1 + 1, fun k hk => ?_⟩
      try dsimp only
      obtain ⟨m, rfl⟩ : ∃ m, k = m + 1 := ⟨k - 1, by omega⟩
      rw [h1 (m + 1) (by omega)]
      simp only [Option.bind_some]
      rw [if_pos h, if_neg (fun e => hl e.2), impl_CodeCost.j0, if_pos (by simp; omega)]
  · refine ⟨K1 + 1, fun k hk => ?_⟩
    try dsimp only
    obtain ⟨m, rfl⟩ : ∃ m, k = m + 1 := ⟨k - 1, by omega⟩
    rw [h1 (m + 1) (by omega)]
    simp only [Option.bind_some]
    rw [if_neg h, if_neg (fun e => h e.1), impl_CodeCost.j0, if_pos rfl]
theorem wiInts_l0_ev (a : List Int) (hl : a.length ≤ 35184372088832) : ∀ (sa pa : List Int), a = pa ++ sa → Ev (fun k => laws_wiInts.l0 k a a (pa.length : Int)) true := by
  intro sa
  induction sa with
  | nil =>
    intro pa ha
    refine ⟨1, fun k hk => ?_⟩
    try dsimp only
    obtain ⟨m, rfl⟩ : ∃ m, k = m + 1 := ⟨k - 1, by omega⟩
    rw [laws_wiInts.l0, if_neg (by rw [ha]; simp)]
  | cons x sa ih =>
    intro pa ha
    have hll : a.length = pa.length + sa.length + 1 := by rw [ha]; simp; omega
    obtain ⟨K, hK⟩ := ih (pa ++ [x]) (by simp [ha])
    try dsimp only at hK
    refine ⟨K + 1, fun k hk => ?_⟩
    try dsimp only
    obtain ⟨m, rfl⟩ : ∃ m, k = m + 1 := ⟨k - 1, by omega⟩
    have hm := hK m (by omega)
    rw [laws_wiInts.l0, if_pos (by omega), if_pos (by omega), if_pos (by omega), if_pos rfl, w64 (by omega)]
    rw [List.length_append, List.length_singleton, show ((pa.length + 1 : Nat) : Int) = (pa.length : Int) + 1 by omega] at hm
    exact hm
theorem wiInts_ev (a : List Int) (hl : a.length ≤ 35184372088832) : Ev (fun k => laws_wiInts.f k a a) true := by
  obtain ⟨K, hK⟩ := wiInts_l0_ev a hl a [] rfl
  try dsimp only at hK
  refine ⟨K, fun k hk => ?_⟩
  try dsimp only
  unfold laws_wiInts.f
  rw [if_pos rfl]
  exact hK k hk

theorem rd_nat (l : List Int) (i : Nat) : rd l (i : Int) = l.getD i 0 := by unfold rd; rw [Int.toNat_natCast]
theorem drawCodeMake_ev {b : List Int} (hb : ∀ x ∈ b, (Lit.int .u8 x).wf = true) : ∃ L : List Int, LenOk L ∧ Ev (fun k => spec_DrawCodeMake.f k b) L := by
  have hc := code_open hb
  obtain ⟨L, p, hL, K, hK⟩ := l14Lengths_ev hc (p := 0) (by omega) (by omega)
  try dsimp only at hK
  try dsimp only at hK
  refine ⟨L, hL.1, K, fun k hk => ?_⟩
  try dsimp only
  try dsimp only
  unfold spec_DrawCodeMake.f
  rw [l1Open_f, Option.bind_some]
  try dsimp only
  rw [hK k hk, Option.bind_some]
theorem drawCodeCost_ev {b : List Int} (hb : ∀ x ∈ b, (Lit.int .u8 x).wf = true) : ∃ L T : List Int, (OftenOk L ∧ T.length ≤ 301) ∧ Ev (fun k => spec_DrawCodeCost.f k b) (L, T) := by
  have hc := code_open hb
  obtain ⟨L, p, hL, K1, hK1⟩ := l14Often_ev hc (p := 0) (by omega) (by omega)
  try dsimp only at hK1
  try dsimp only at hK1
  have hLl := hL.1.len
  obtain ⟨K2, hK2⟩ := spec_CodeFit_ev L (by omega) 15
  try dsimp only at hK2
  try dsimp only at hK2
  have hcl := codeFitM_length L 15
  by_cases hz : ((codeFitM L 15).length : Int) > 0
  · obtain ⟨v, hv, K3, hK3⟩ := pick_ev hc (p := p) (n := 6) (by omega) (by omega)
    try dsimp only at hK3
    try dsimp only at hK3
    by_cases h0 : v = 0
    · obtain ⟨u, hu, K4, hK4⟩ := pick_ev hc (p := p + 1) (n := 9) (by omega) (by omega)
      try dsimp only at hK4
      try dsimp only at hK4
      refine ⟨L, (codeFitM L 15).set (0 : Int).toNat u, ⟨hL.1, by rw [List.length_set]; omega⟩, K1 + K2 + K3 + K4, fun k hk => ?_⟩
      try dsimp only
      try dsimp only
      unfold spec_DrawCodeCost.f
      rw [l1Open_f, Option.bind_some]
      try dsimp only
      rw [hK1 k (by omega), Option.bind_some]
      try dsimp only
      rw [hK2 k (by omega), Option.bind_some, if_pos hz, hK3 k (by omega), Option.bind_some]
      try dsimp only
      rw [if_pos h0, hK4 k (by omega), Option.bind_some]
      try dsimp only
      rw [if_pos (by omega)]
    · refine ⟨L, codeFitM L 15, ⟨hL.1, by omega⟩, K1 + K2 + K3, fun k hk => ?_⟩
      try dsimp only
      try dsimp only
      unfold spec_DrawCodeCost.f
      rw [l1Open_f, Option.bind_some]
      try dsimp only
      rw [hK1 k (by omega), Option.bind_some]
      try dsimp only
      rw [hK2 k (by omega), Option.bind_some, if_pos hz, hK3 k (by omega), Option.bind_some]
      try dsimp only
      rw [if_neg h0]
  · refine ⟨L, codeFitM L 15, ⟨hL.1, by omega⟩, K1 + K2, fun k hk => ?_⟩
    try dsimp only
    try dsimp only
    unfold spec_DrawCodeCost.f
    rw [l1Open_f, Option.bind_some]
    try dsimp only
    rw [hK1 k (by omega), Option.bind_some]
    try dsimp only
    rw [hK2 k (by omega), Option.bind_some, if_neg hz]
/-- Where no limit matters, what is fitted is the tree's. -/
theorem fit15 {L : List Int} (hL : OftenOk L) (hr : roomM L 15 = true) : codeFitM L 15 = treeM L ∧ overM 15 (treeM L) = false := by
  have hh := of_decide_eq_true hr
  have hov : overM 15 (treeM L) = false := by
    rcases hL with hL | ⟨n, hn, rfl⟩
    · exact over_at fun j hj => by
        rw [treeM_length] at hj
        have := (treeM_zero L j hj).2.2; omega
    · exact treeM_flat _ (fun v hv => by rw [List.eq_of_mem_replicate hv]; omega) 15 (by omega) hh.2.2.2.1
  refine ⟨?_, hov⟩
  unfold codeFitM
  rw [if_pos hr, fitM, if_neg (by rw [hov]; decide)]
theorem fsum_le {F G : Int → Int → Int} : ∀ (r : List Int) (i : Int), (∀ j : Nat, j < r.length → 0 < r.getD j 0 → F (r.getD j 0) (i + j) ≤ G (r.getD j 0) (i + j)) → fsum F r i ≤ fsum G r i := by
  intro r
  induction r with
  | nil => intro i _; exact Int.le_refl _
  | cons n r ih =>
    intro i h
    simp only [fsum]
    have h1 := ih (i + 1) (fun j hj hp => by have := h (j + 1) (by simp; omega) (by simpa using hp); simp only [List.getD_cons_succ] at this; rw [show i + ((j + 1 : Nat) : Int) = i + 1 + (j : Int) by omega] at this; exact this)
    by_cases c : 0 < n
    · have h2 := h 0 (by simp) (by simpa using c)
      simp only [List.getD_cons_zero] at h2
      rw [show i + ((0 : Nat) : Int) = i by omega] at h2
      rw [if_pos c, if_pos c]; omega
    · rw [if_neg c, if_neg c]; omega
theorem kraft_ge : ∀ (X often : List Int), X.length = often.length → (∀ v ∈ X, 0 ≤ v) → (∀ j : Nat, 0 < often.getD j 0 → 0 < X.getD j 0) → ∀ (pre : List Int), fsum (fun _ i => ((2 ^ (15 - ((pre ++ X).getD i.toNat 0).toNat) : Nat) : Int)) often (pre.length : Int) ≤ kraft X := by
  intro X
  induction X with
  | nil =>
    intro often hl _ _ pre
    have : often = [] := List.eq_nil_of_length_eq_zero hl.symm
    subst this; exact Int.le_refl _
  | cons v X ih =>
    intro often hl h0 hz pre
    cases often with
    | nil => simp at hl
    | cons n r =>
      have h1 := ih r (by simpa using hl) (fun u hu => h0 u (by simp [hu])) (fun j hj => by have := hz (j + 1) (by simpa using hj); simpa using this) (pre ++ [v])
      rw [List.append_assoc, List.singleton_append, List.length_append, List.length_singleton] at h1
      simp only [kraft, fsum]
      rw [show ((pre.length + 1 : Nat) : Int) = (pre.length : Int) + 1 by omega] at h1
      have h2 := hz 0
      simp only [List.getD_cons_zero] at h2
      have hget : (pre ++ v :: X).getD ((pre.length : Int)).toNat 0 = v := by
        rw [Int.toNat_natCast, List.getD_eq_getElem?_getD, List.getElem?_append_right (Nat.le_refl _)]; simp
      by_cases c : 0 < n
      · rw [if_pos c, if_pos (h2 c), hget]
        unfold P2
        rw [show (15 - v).toNat = 15 - v.toNat by omega]; omega
      · rw [if_neg c]
        by_cases c2 : 0 < v
        · rw [if_pos c2]; have := P2_pos (15 - v).toNat; omega
        · rw [if_neg c2]; omega
theorem costA_fsum : ∀ (a b : List Int), a.length = b.length → (∀ v ∈ a, 0 ≤ v ∧ v ≤ 9000) → ∀ (s : Int) (pre : List Int), costA s a b = s + fsum (fun w i => w * (pre ++ b).getD i.toNat 0) a (pre.length : Int) := by
  intro a
  induction a with
  | nil => intro b _ _ s pre; simp [costA, fsum]
  | cons x a ih =>
    intro b hl h s pre
    cases b with
    | nil => simp at hl
    | cons y b =>
      have h1 := ih b (by simpa using hl) (fun u hu => h u (by simp [hu])) (s + x * y) (pre ++ [y])
      rw [List.append_assoc, List.singleton_append, List.length_append, List.length_singleton, show ((pre.length + 1 : Nat) : Int) = (pre.length : Int) + 1 by omega] at h1
      have hx := h x (by simp)
      have hget : (pre ++ y :: b).getD ((pre.length : Int)).toNat 0 = y := by
        rw [Int.toNat_natCast, List.getD_eq_getElem?_getD, List.getElem?_append_right (Nat.le_refl _)]; simp
      simp only [costA, fsum]
      rw [if_pos hx, h1, hget]
      by_cases c : 0 < x
      · rw [if_pos c]; omega
      · have : x = 0 := by omega
        subst this
        rw [if_neg c]; simp
/-- No other code takes less. -/
theorem best_cost {L : List Int} (hL : OftenOk L) (hr : roomM L 15 = true) (X : List Int) (hX : codeOkM X = true) (hlx : L.length = X.length) (hz : ∀ j : Nat, j < L.length → 0 < L.getD j 0 → X.getD j 0 ≠ 0) : codeCostM L (codeFitM L 15) ≤ codeCostM L X := by
  have hh := of_decide_eq_true hr
  have hx := of_decide_eq_true hX
  obtain ⟨e, hov⟩ := fit15 hL hr
  rw [e]
  unfold codeCostM
  rw [if_pos ⟨treeM_ok L hh.2.2.2.2 hov, by rw [treeM_length]⟩, if_pos ⟨hX, hlx⟩, costA_fsum L (treeM L) (by rw [treeM_length]) hh.1 0 [], costA_fsum L X hlx hh.1 0 []]
  simp only [List.nil_append, List.length_nil, Int.zero_add]
  have hb : ∀ j : Nat, j < L.length → 0 ≤ X.getD j 0 ∧ X.getD j 0 ≤ 15 := fun j hj => hx.1 _ (by
    rw [List.getD_eq_getElem?_getD, List.getElem?_eq_getElem (by omega)]; exact List.getElem_mem _)
  have hp : ∀ j : Nat, 0 < L.getD j 0 → 0 < X.getD j 0 := by
    intro j hj
    by_cases hjl : j < L.length
    · have := hb j hjl; have := hz j hjl hj; omega
    · rw [List.getD_eq_getElem?_getD, List.getElem?_eq_none (by omega)] at hj; simp at hj
  by_cases h2 : 2 ≤ manyM L
  · refine treeM_best L h2 X 15 (fun j hj => hb j hj) ?_
    have := kraft_ge X L hlx.symm (fun v hv => (hx.1 v hv).1) hp []
    simp only [List.nil_append, List.length_nil] at this
    have e2 : ((2 ^ 15 : Nat) : Int) = 32768 := rfl
    have hk := hx.2.2
    rw [e2]
    exact Int.le_trans this hk
  · refine fsum_le L _ fun j hj hpj => ?_
    have h3 : (treeM L).getD j 0 = 1 := by
      rcases (show manyM L = 0 ∨ manyM L = 1 by omega) with h0 | h0
      · have := (treeM_none h0).2 j hj; omega
      · obtain ⟨i, hi, _, e1, h1⟩ := treeM_one h0
        by_cases c : j = i
        · subst c
          rw [e1, List.getD_eq_getElem?_getD, List.getElem?_set, if_pos rfl, if_pos (by simpa using hi)]; rfl
        · have := h1 j hj c; omega
    have h4 := hp j hpj
    rw [show ((0 : Nat) : Int) + (j : Int) = (j : Int) by omega, Int.toNat_natCast, h3]
    have := Int.mul_le_mul_of_nonneg_left (show (1 : Int) ≤ X.getD j 0 by omega) (show (0 : Int) ≤ L.getD j 0 by omega)
    exact this
theorem best_l1_ev {L : List Int} (hL : OftenOk L) (hr : roomM L 15 = true) (O : List Int) (hO : O.length ≤ 301) (deep : Int) : ∀ d i : Nat, i + d = L.length → i ≤ O.length → (∀ j : Nat, j < i → 0 < L.getD j 0 → O.getD j 0 ≠ 0) → Ev (fun k => laws_FnCodeBest.l1 k L O (codeFitM L 15) deep (i : Int)) true := by
  have hll := hL.len
  have hcl := codeFitM_length L 15
  intro d
  induction d with
  | zero =>
    intro i hi hio hz
    have hlx : L.length = (O.take L.length).length := by rw [List.length_take]; omega
    obtain ⟨K1, hK1⟩ := impl_CodeOk_ev (O.take L.length) (by omega)
    try dsimp only at hK1
    obtain ⟨K2, hK2⟩ := impl_CodeCost_ev L (codeFitM L 15) (by omega) (by omega)
    try dsimp only at hK2
    obtain ⟨K3, hK3⟩ := impl_CodeCost_ev L (O.take L.length) (by omega) (by omega)
    try dsimp only at hK3
    try dsimp only at hK1 hK2 hK3
    refine ⟨K1 + K2 + K3 + 1, fun k hk => ?_⟩
    try dsimp only
    obtain ⟨m, rfl⟩ : ∃ m, k = m + 1 := ⟨k - 1, by omega⟩
    rw [laws_FnCodeBest.l1, if_neg (by omega), if_pos (by omega), if_pos (by omega), Option.bind_some, Int.toNat_natCast]
    by_cases c : deep ≥ 14
    · rw [if_pos c]
    · rw [if_neg c, hK1 m (by omega), Option.bind_some]
      by_cases c2 : codeOkM (O.take L.length) = true
      · rw [if_pos c2, hK2 m (by omega), Option.bind_some, hK3 m (by omega), Option.bind_some]
        refine congrArg some (decide_eq_true (best_cost hL hr _ c2 hlx fun j hj hp => ?_))
        have := hz j (by omega) hp
        rw [List.getD_eq_getElem?_getD, List.getElem?_take, if_pos hj, ← List.getD_eq_getElem?_getD]
        exact this
      · rw [if_neg c2]
  | succ d ih =>
    intro i hi hio hz
    by_cases c : i < O.length
    · by_cases c2 : 0 < L.getD i 0 ∧ O.getD i 0 = 0
      · refine ⟨1, fun k hk => ?_⟩
        try dsimp only
        obtain ⟨m, rfl⟩ : ∃ m, k = m + 1 := ⟨k - 1, by omega⟩
        rw [laws_FnCodeBest.l1, if_pos (by omega), if_neg (by omega), if_pos (by omega)]
        simp only [rd_nat]
        rw [if_pos c2.1, if_pos (by omega), if_pos c2.2]
      · obtain ⟨K, hK⟩ := ih (i + 1) (by omega) (by omega) (fun j hj hp => by
          by_cases e : j = i
          · subst e; exact fun h => c2 ⟨hp, h⟩
          · exact hz j (by omega) hp)
        try dsimp only at hK
        refine ⟨K + 1, fun k hk => ?_⟩
        try dsimp only
        obtain ⟨m, rfl⟩ : ∃ m, k = m + 1 := ⟨k - 1, by omega⟩
        have hk2 := hK m (by omega)
        try dsimp only at hk2
        rw [laws_FnCodeBest.l1, if_pos (by omega), if_neg (by omega), if_pos (by omega), w64 (x := (i : Int) + 1) (by omega), show (i : Int) + 1 = ((i + 1 : Nat) : Int) by omega]
        simp only [rd_nat]
        by_cases c3 : 0 < L.getD i 0
        · rw [if_pos c3, if_pos (by omega), if_neg (fun h => c2 ⟨c3, h⟩)]
          exact hk2
        · rw [if_neg c3]
          exact hk2
    · refine ⟨1, fun k hk => ?_⟩
      try dsimp only
      obtain ⟨m, rfl⟩ : ∃ m, k = m + 1 := ⟨k - 1, by omega⟩
      rw [laws_FnCodeBest.l1, if_pos (by omega), if_pos (by omega)]
theorem best_l0_ev {L : List Int} (hL : OftenOk L) (hr : roomM L 15 = true) (O : List Int) (hO : O.length ≤ 301) : ∀ (d i : Nat) (deep : Int), i + d = (codeFitM L 15).length → Ev (fun k => laws_FnCodeBest.l0 k L O (codeFitM L 15) deep (i : Int)) true := by
  have hll := hL.len
  have hcl := codeFitM_length L 15
  intro d
  induction d with
  | zero =>
    intro i deep hi
    obtain ⟨K, hK⟩ := best_l1_ev hL hr O hO deep L.length 0 (by omega) (by omega) (fun j hj => by omega)
    try dsimp only at hK
    refine ⟨K + 1, fun k hk => ?_⟩
    try dsimp only
    obtain ⟨m, rfl⟩ : ∃ m, k = m + 1 := ⟨k - 1, by omega⟩
    rw [laws_FnCodeBest.l0, if_neg (by omega)]
    exact hK m (by omega)
  | succ d ih =>
    intro i deep hi
    obtain ⟨K1, hK1⟩ := ih (i + 1) deep (by omega)
    try dsimp only at hK1
    obtain ⟨K2, hK2⟩ := ih (i + 1) (rd (codeFitM L 15) (i : Int)) (by omega)
    try dsimp only at hK2
    refine ⟨K1 + K2 + 1, fun k hk => ?_⟩
    try dsimp only
    obtain ⟨m, rfl⟩ : ∃ m, k = m + 1 := ⟨k - 1, by omega⟩
    rw [laws_FnCodeBest.l0, if_pos (by omega), if_pos (by omega), w64 (x := (i : Int) + 1) (by omega), show (i : Int) + 1 = ((i + 1 : Nat) : Int) by omega]
    by_cases c : rd (codeFitM L 15) (i : Int) > deep
    · rw [if_pos c]; exact hK2 m (by omega)
    · rw [if_neg c]; exact hK1 m (by omega)
theorem impl_CodeFit_f (l : List Int) (m : Int) : impl_CodeFit.f l m = some (codeFitM l m) := rfl
theorem FnCodeBest : laws_FnCodeBest.Pure := by
  intro b1 b2 hl1 hl18 hw1 hl2 hl28 hw2
  by_cases h : (b1.length : Int) > 1048576
  · exact ⟨1, by unfold laws_FnCodeBest.f; rw [if_pos h, laws_FnCodeBest.j0, if_pos rfl]⟩
  by_cases h' : (b2.length : Int) > 1048576
  · exact ⟨1, by unfold laws_FnCodeBest.f; rw [if_neg h, decide_eq_true h', laws_FnCodeBest.j0, if_pos rfl]⟩
  obtain ⟨L, T, hL, K1, h1⟩ := drawCodeCost_ev hw1
  try dsimp only at h1
  obtain ⟨O, hO, K2, h2⟩ := drawCodeMake_ev hw2
  try dsimp only at h2
  try dsimp only at h1 h2
  have hLl := hL.1.len
  have hcl := codeFitM_length L 15
  obtain ⟨K3, h3⟩ := impl_CodeCost_ev L T (by omega) (by omega)
  try dsimp only at h3
  obtain ⟨K4, h4⟩ := spec_CodeCost_ev L T (by omega) (by omega)
  try dsimp only at h4
  obtain ⟨K5, h5⟩ := spec_CodeFit_ev L (by omega) 15
  try dsimp only at h5
  obtain ⟨K6, h6⟩ := wiInts_ev (codeFitM L 15) (by omega)
  try dsimp only at h6
  try dsimp only at h3 h4 h5 h6
  obtain ⟨K, hK⟩ : ∃ K, K = K1 + K2 + K3 + K4 + K5 + K6 := ⟨_, rfl⟩
  have start : ∀ k, K ≤ k → laws_FnCodeBest.f (k + 1) b1 b2 = laws_FnCodeBest.j1 k L T O (codeCostM L T) (codeFitM L 15) (((codeFitM L 15).length : Int) == 0) := by
    intro k hk
    unfold laws_FnCodeBest.f
    rw [if_neg h, decide_eq_false h', laws_FnCodeBest.j0, if_neg (by decide), h1 k (by omega), Option.bind_some]
    try dsimp only
    rw [h2 k (by omega), Option.bind_some, h3 k (by omega), Option.bind_some, impl_CodeFit_f, Option.bind_some, h4 k (by omega), Option.bind_some, if_pos rfl, h5 k (by omega), Option.bind_some, h6 k (by omega), Option.bind_some, if_pos rfl]
  by_cases c : (codeFitM L 15).length = 0
  · refine ⟨K + 1 + 1, ?_⟩
    rw [start (K + 1) (by omega), laws_FnCodeBest.j1, if_pos (by rw [c]; rfl), h4 K (by omega), Option.bind_some, if_pos rfl, h5 K (by omega), Option.bind_some, h6 K (by omega), Option.bind_some]
  · have hr : roomM L 15 = true := by
      refine Classical.byContradiction fun hn => c ?_
      unfold codeFitM
      rw [if_neg hn]; rfl
    obtain ⟨K7, h7⟩ := best_l0_ev hL.1 hr O hO.1 (codeFitM L 15).length 0 0 (by omega)
    try dsimp only at h7
    try dsimp only at h7
    refine ⟨K + K7 + 1 + 1, ?_⟩
    rw [start (K + K7 + 1) (by omega), laws_FnCodeBest.j1, if_neg (by simp; exact List.ne_nil_of_length_pos (by omega))]
    exact h7 (K + K7) (by omega)

end Go.Proofs.Ytgajagocenffeaa.Pure
