/- A part of a picture, at every code of at most 1048576 bytes (a longer one is let by): of the picture and the part that the drawing draws: each point is where it was, seen from the part's corner; all of it is the picture. -/
import Derived.Test.YtkjfefiphdloiaaHFnImageCutx13
import Derived.Test.YtkjfefiphdloiaaThNum
import Derived.Test.YtkjfefiphdloiaaThXor
import Derived.Test.YtkjfefiphdloiaaThImg
import Derived.Test.YtkjfefiphdloiaaThGen
import Derived.Test.YtkjfefiphdloiaaThFlip
namespace Go.Proofs.Ytkjfefiphdloiaa.Pure
open Go.RowKit Go.Proofs.Ytkjfefiphdloiaa.PFnImageCut Go.Proofs.YtkjfefiphdloiaaW.PrintWords Go.Proofs.YtkjfefiphdloiaaW.PrintLast Go.Proofs.YtkjfefiphdloiaaW.PrintMore Go.Proofs.Ytkjfefiphdloiaa.Th
set_option linter.unusedVariables false
set_option linter.unusedSimpArgs false

/-- A drawing's bytes. -/
def Code (b : List Int) : Prop := b.length ≤ 2000 ∧ ∀ x ∈ b, 0 ≤ x ∧ x ≤ 255
theorem l1Open_f (l : List Int) : spec_l1Open.f l = some (l.take 2000, 0) := by
  unfold spec_l1Open.f
  by_cases h : (l.length : Int) > 2000
  · rw [if_pos h, if_pos (by omega)]
  · rw [if_neg h, List.take_of_length_le (by omega)]
theorem code_open {l : List Int} (h : ∀ x ∈ l, (Lit.int .u8 x).wf = true) : Code (l.take 2000) := by
  refine ⟨by rw [List.length_take]; omega, fun x hx => ?_⟩
  have := h x (List.mem_of_mem_take hx)
  simp [Lit.wf, IntKind.min, IntKind.max, IntKind.bits, IntKind.signed] at this
  omega
theorem code_rd {b : List Int} (h : Code b) (i : Int) : 0 ≤ rd b i ∧ rd b i ≤ 255 := by
  rcases rd_mem_or b i with h1 | h1
  · exact h.2 _ h1
  · omega
/-- What is picked is there, and the place is one further. -/
theorem pick_ev {b : List Int} (hb : Code b) {p n : Int} (hp : 0 ≤ p ∧ p ≤ 1099511627776) (hn : n ≤ 1099511627776) : ∃ v : Int, (0 ≤ v ∧ (v < n ∨ n < 1 ∧ v = 0)) ∧ Ev (fun k => spec_l1Rd_pick.f k b p n) (v, p + 1) := by
  unfold spec_l1Rd_pick.f
  rw [w64 (x := p + 1) (by omega)]
  by_cases h1 : n < 1
  · refine ⟨0, ⟨by omega, .inr ⟨h1, rfl⟩⟩, 1, fun k hk => ?_⟩
    try dsimp only
    obtain ⟨m, rfl⟩ : ∃ m, k = m + 1 := ⟨k - 1, by omega⟩
    try dsimp only
    rw [if_pos h1, spec_l1Rd_pick.j0, if_pos rfl]
  by_cases h2 : b.length = 0
  · refine ⟨0, ⟨by omega, .inl (by omega)⟩, 1, fun k hk => ?_⟩
    try dsimp only
    obtain ⟨m, rfl⟩ : ∃ m, k = m + 1 := ⟨k - 1, by omega⟩
    try dsimp only
    rw [if_neg h1, spec_l1Rd_pick.j0, if_pos (by simp [h2])]
  have e0 : wrap64 (p + 1 - 1) = p := by rw [w64 (by omega)]; omega
  by_cases h3 : p < b.length
  · have hr := code_rd hb p
    refine ⟨rd b p % n, ⟨Int.emod_nonneg _ (by omega), .inl (Int.emod_lt_of_pos _ (by omega))⟩, 1, fun k hk => ?_⟩
    try dsimp only
    obtain ⟨m, rfl⟩ : ∃ m, k = m + 1 := ⟨k - 1, by omega⟩
    try dsimp only
    rw [if_neg h1, spec_l1Rd_pick.j0, if_neg (by simpa using h2), e0, if_pos h3, if_pos hp.1, if_neg (by omega), w64 (by omega), tmod_pos hr.1]
  · have hl := hb.1
    have m1 : 0 ≤ p % (b.length : Int) ∧ p % (b.length : Int) < b.length := ⟨Int.emod_nonneg _ (by omega), Int.emod_lt_of_pos _ (by omega)⟩
    have m2 : 0 ≤ (p * 7 + 3) % (b.length : Int) ∧ (p * 7 + 3) % (b.length : Int) < b.length := ⟨Int.emod_nonneg _ (by omega), Int.emod_lt_of_pos _ (by omega)⟩
    have r1 := code_rd hb (p % (b.length : Int))
    have r2 := code_rd hb ((p * 7 + 3) % (b.length : Int))
    have q1 : 0 ≤ p / (b.length : Int) := Int.ediv_nonneg hp.1 (by omega)
    have q2 : p / (b.length : Int) ≤ p := Int.ediv_le_self _ hp.1
    obtain ⟨X, hX⟩ : ∃ X, X = rd b (p % (b.length : Int)) * 131 + rd b ((p * 7 + 3) % (b.length : Int)) * 1117 + p * 29 + p / (b.length : Int) * 53 := ⟨_, rfl⟩
    have bX : 0 ≤ X ∧ X ≤ 4611686018427387904 := by omega
    have hx := xor_b (x := X) (y := X / 64) (by omega) (by omega)
    refine ⟨Go.bits .xor .i64 X (X / 64) % n, ⟨Int.emod_nonneg _ (by omega), .inl (Int.emod_lt_of_pos _ (by omega))⟩, 1, fun k hk => ?_⟩
    try dsimp only
    obtain ⟨m, rfl⟩ : ∃ m, k = m + 1 := ⟨k - 1, by omega⟩
    try dsimp only
    rw [if_neg h1, spec_l1Rd_pick.j0, if_neg (by simpa using h2), e0, if_neg h3, if_neg (by omega)]
    rw [w64 (x := p * 7) (by omega), w64 (x := p * 7 + 3) (by omega), tmod_pos (a := p) hp.1, tmod_pos (a := p * 7 + 3) (by omega), tdiv_pos (a := p) hp.1]
    rw [if_pos m1.1, if_pos m1.2, if_pos m2.1, if_pos m2.2, if_neg (by omega)]
    rw [w64 (x := rd b (p % (b.length : Int))) (by omega), w64 (x := rd b ((p * 7 + 3) % (b.length : Int))) (by omega), w64 (x := p / (b.length : Int)) (by omega)]
    rw [w64 (x := rd b (p % (b.length : Int)) * 131) (by omega), w64 (x := rd b ((p * 7 + 3) % (b.length : Int)) * 1117) (by omega), w64 (x := p * 29) (by omega), w64 (x := p / (b.length : Int) * 53) (by omega)]
    rw [w64 (x := rd b (p % (b.length : Int)) * 131 + rd b ((p * 7 + 3) % (b.length : Int)) * 1117) (by omega), w64 (x := rd b (p % (b.length : Int)) * 131 + rd b ((p * 7 + 3) % (b.length : Int)) * 1117 + p * 29) (by omega), w64 (x := rd b (p % (b.length : Int)) * 131 + rd b ((p * 7 + 3) % (b.length : Int)) * 1117 + p * 29 + p / (b.length : Int) * 53) (by omega), ← hX]
    rw [tdiv_pos (by omega), w64 (x := X / 64) (by omega), tmod_pos hx.1]
theorem l1Pow_l0_ev (n : Nat) (hn : n ≤ 62) : ∀ d i : Nat, i + d = n → Ev (fun k => spec_l1Pow.l0 k (n : Int) (P2 i) (i : Int)) (P2 n) := by
  intro d
  induction d with
  | zero =>
    intro i hi
    refine ⟨1, fun k hk => ?_⟩
    try dsimp only
    obtain ⟨m, rfl⟩ : ∃ m, k = m + 1 := ⟨k - 1, by omega⟩
    rw [spec_l1Pow.l0, if_neg (by omega), show i = n by omega]
  | succ d ih =>
    intro i hi
    obtain ⟨K, hK⟩ := ih (i + 1) (by omega)
    try dsimp only at hK
    refine ⟨K + 1, fun k hk => ?_⟩
    try dsimp only
    obtain ⟨m, rfl⟩ : ∃ m, k = m + 1 := ⟨k - 1, by omega⟩
    have hm := hK m (by omega)
    have hb := P2_62b (n := i) (by omega)
    have hb' := P2_62b (n := i + 1) (by omega)
    have hs := P2_succ i
    rw [spec_l1Pow.l0, if_pos (by omega), w64 (by omega), w64 (by omega), show P2 i * 2 = P2 (i + 1) by omega, show (i : Int) + 1 = ((i + 1 : Nat) : Int) by omega]
    exact hm
theorem l1Pow_ev (n : Nat) (hn : n ≤ 62) : Ev (fun k => spec_l1Pow.f k (n : Int)) (P2 n) := l1Pow_l0_ev n hn n 0 (by omega)
theorem l1Pow_evI (n : Int) (h0 : 0 ≤ n) (hn : n ≤ 62) : Ev (fun k => spec_l1Pow.f k n) (P2 n.toNat) := by
  have h := l1Pow_ev n.toNat (by omega)
  rw [Int.toNat_of_nonneg h0] at h
  exact h
def GoodI (r : Int × Int × Int × Int × List Int × List Int × Int) : Prop := r.2.2.2.2.1.length ≤ 256 ∧ (1 ≤ r.2.2.2.2.2.1.length ∧ r.2.2.2.2.2.1.length ≤ 400) ∧ (0 ≤ r.2.2.2.2.2.2 ∧ r.2.2.2.2.2.2 ≤ 1000000)
theorem imgPts_ev {b : List Int} (hb : Code b) (most : Int) (hm : 1 ≤ most) (kd dd w h : Int) (N : Nat) (hN : 1 ≤ N ∧ N ≤ 400) (hw : wrap64 (w * h) = (N : Int)) (c : List Int) (hc : c.length ≤ 256) :
    ∀ d i : Nat, i + d = N → ∀ (pts : List Int) (p v : Int), pts.length = i → (0 ≤ p ∧ p ≤ 10000 + 5 * i) → ∃ r, GoodI r ∧ Ev (fun k => spec_l14Image.l1 k most v (i : Int) b p kd dd w h c pts) r := by
  intro d
  induction d with
  | zero =>
    intro i hi pts p v hp hpp
    refine ⟨(kd, dd, w, h, c, pts, p), ⟨hc, by dsimp only; omega, by dsimp only; omega⟩, 1, fun k hk => ?_⟩
    try dsimp only
    obtain ⟨m, rfl⟩ : ∃ m, k = m + 1 := ⟨k - 1, by omega⟩
    try dsimp only
    rw [spec_l14Image.l1, hw, if_neg (by omega)]
  | succ d ih =>
    intro i hi pts p v hp hpp
    have hj : ∀ (v p : Int), (0 ≤ p ∧ p ≤ 10000 + 5 * i + 4) → ∃ r, GoodI r ∧ Ev (fun k => spec_l14Image.j6 k most v (i : Int) b p kd dd w h c pts) r := by
      intro v p hp9
      by_cases h3 : kd = 3
      · obtain ⟨u, hu, K1, h1⟩ := pick_ev hb (p := p) (n := 2) (by omega) (by omega)
        try dsimp only at h1
        try dsimp only at h1
        obtain ⟨v2, hv2⟩ : ∃ v2, v2 = if u = 0 then wrap64 (wrap64 (wrap64 (Int.tdiv v 256) * 256) + 255) else v := ⟨_, rfl⟩
        obtain ⟨r, hr, K2, h2⟩ := ih (i + 1) (by omega) (pts ++ [v2]) (p + 1) v2 (by simp; omega) (by omega)
        try dsimp only at h2
        try dsimp only at h2
        refine ⟨r, hr, K1 + K2 + 1, fun k hk => ?_⟩
        try dsimp only
        obtain ⟨m, rfl⟩ : ∃ m, k = m + 1 := ⟨k - 1, by omega⟩
        have hm2 := h2 m (by omega)
        rw [show ((i + 1 : Nat) : Int) = (i : Int) + 1 by omega] at hm2
        try dsimp only
        rw [spec_l14Image.j6, if_pos h3, h1 m (by omega), Option.bind_some]
        try dsimp only
        by_cases hu0 : u = 0
        · rw [if_pos hu0] at hv2
          rw [if_pos hu0, if_pos (by omega), w64 (x := (i : Int) + 1) (by omega), ← hv2]
          exact hm2
        · rw [if_neg hu0] at hv2
          rw [if_neg hu0, if_pos (by omega), w64 (x := (i : Int) + 1) (by omega), ← hv2]
          exact hm2
      · obtain ⟨r, hr, K2, h2⟩ := ih (i + 1) (by omega) (pts ++ [v]) p v (by simp; omega) (by omega)
        try dsimp only at h2
        try dsimp only at h2
        refine ⟨r, hr, K2 + 1, fun k hk => ?_⟩
        try dsimp only
        obtain ⟨m, rfl⟩ : ∃ m, k = m + 1 := ⟨k - 1, by omega⟩
        have hm2 := h2 m (by omega)
        rw [show ((i + 1 : Nat) : Int) = (i : Int) + 1 by omega] at hm2
        try dsimp only
        rw [spec_l14Image.j6, if_neg h3, if_pos (by omega), w64 (x := (i : Int) + 1) (by omega)]
        exact hm2
    obtain ⟨u, hu, K1, h1⟩ := pick_ev hb (p := p) (n := 3) (by omega) (by omega)
    try dsimp only at h1
    try dsimp only at h1
    by_cases hu0 : u > 0
    · obtain ⟨u2, hu2, K2, h2⟩ := pick_ev hb (p := p + 1) (n := 256) (by omega) (by omega)
      try dsimp only at h2
      obtain ⟨u3, hu3, K3, h3⟩ := pick_ev hb (p := p + 1 + 1) (n := 3) (by omega) (by omega)
      try dsimp only at h3
      obtain ⟨u4, hu4, K4, h4⟩ := pick_ev hb (p := p + 1 + 1 + 1) (n := 256) (by omega) (by omega)
      try dsimp only at h4
      try dsimp only at h2 h3 h4
      obtain ⟨r, hr, K5, h5⟩ := hj (Int.tmod (wrap64 (wrap64 (wrap64 (u2 * 16777216) + wrap64 (u3 * 65536)) + u4)) most) (p + 1 + 1 + 1 + 1) (by omega)
      try dsimp only at h5
      try dsimp only at h5
      refine ⟨r, hr, K1 + K2 + K3 + K4 + K5 + 1, fun k hk => ?_⟩
      try dsimp only
      obtain ⟨m, rfl⟩ : ∃ m, k = m + 1 := ⟨k - 1, by omega⟩
      try dsimp only
      rw [spec_l14Image.l1, hw, if_pos (by omega), h1 m (by omega), Option.bind_some]
      try dsimp only
      rw [if_pos hu0, h2 m (by omega), Option.bind_some]
      try dsimp only
      rw [h3 m (by omega), Option.bind_some]
      try dsimp only
      rw [h4 m (by omega), Option.bind_some]
      try dsimp only
      rw [if_neg (by omega)]
      exact h5 m (by omega)
    · obtain ⟨r, hr, K5, h5⟩ := hj v (p + 1) (by omega)
      try dsimp only at h5
      try dsimp only at h5
      refine ⟨r, hr, K1 + K5 + 1, fun k hk => ?_⟩
      try dsimp only
      obtain ⟨m, rfl⟩ : ∃ m, k = m + 1 := ⟨k - 1, by omega⟩
      try dsimp only
      rw [spec_l14Image.l1, hw, if_pos (by omega), h1 m (by omega), Option.bind_some]
      try dsimp only
      rw [if_neg hu0]
      exact h5 m (by omega)
theorem imgJ3_ev {b : List Int} (hb : Code b) (kd dd w h : Int) (hd : 0 ≤ dd ∧ dd ≤ 62) (hw : 1 ≤ w ∧ w ≤ 20) (hh : 1 ≤ h ∧ h ≤ 20) (c : List Int) (hc : c.length ≤ 256) (hk : kd = 4 → 1 ≤ c.length) {p : Int} (hp : 0 ≤ p ∧ p ≤ 10000) : ∃ r, GoodI r ∧ Ev (fun k => spec_l14Image.j3 k b p kd dd w h c) r := by
  have hwh := mul20 hw hh
  obtain ⟨N, hN⟩ : ∃ N : Nat, (N : Int) = w * h := ⟨(w * h).toNat, by omega⟩
  obtain ⟨K1, h1⟩ := l1Pow_evI dd hd.1 hd.2
  try dsimp only at h1
  try dsimp only at h1
  have hpow : 1 ≤ P2 dd.toNat := P2_pos _
  obtain ⟨most, hmost⟩ : ∃ most : Int, most = if kd = 4 then (c.length : Int) else P2 dd.toNat := ⟨_, rfl⟩
  have hm1 : 1 ≤ most := by
    rw [hmost]; split
    · rename_i e; have := hk e; omega
    · exact hpow
  obtain ⟨r, hr, K2, h2⟩ := imgPts_ev hb most hm1 kd dd w h N (by omega) (by rw [w64 (by omega), hN]) c hc N 0 (by omega) [] p 0 rfl (by omega)
  try dsimp only at h2
  try dsimp only at h2
  refine ⟨r, hr, K1 + K2 + 2, fun k hk => ?_⟩
  try dsimp only
  obtain ⟨m, rfl⟩ : ∃ m, k = m + 2 := ⟨k - 2, by omega⟩
  have hm2 := h2 m (by omega)
  try dsimp only
  rw [spec_l14Image.j3, h1 (m + 1) (by omega), Option.bind_some]
  by_cases e : kd = 4
  · rw [if_pos e] at hmost
    rw [if_pos e, spec_l14Image.j4, ← hmost]; exact hm2
  · rw [if_neg e] at hmost
    rw [if_neg e, spec_l14Image.j4, ← hmost]; exact hm2
theorem imgCols_ev {b : List Int} (hb : Code b) (kd dd w h : Int) (hd : 0 ≤ dd ∧ dd ≤ 62) (hw : 1 ≤ w ∧ w ≤ 20) (hh : 1 ≤ h ∧ h ≤ 20) (n : Nat) (hn : 1 ≤ n ∧ n ≤ 256) :
    ∀ d i : Nat, i + d = n → ∀ (c : List Int) (p : Int), c.length = i → (0 ≤ p ∧ p ≤ 100 + 3 * i) → ∃ r, GoodI r ∧ Ev (fun k => spec_l14Image.l0 k (n : Int) (i : Int) b p kd dd w h c) r := by
  intro d
  induction d with
  | zero =>
    intro i hi c p hc hp
    obtain ⟨r, hr, K1, h1⟩ := imgJ3_ev hb kd dd w h hd hw hh c (by omega) (fun _ => by omega) (p := p) (by omega)
    try dsimp only at h1
    try dsimp only at h1
    refine ⟨r, hr, K1 + 1, fun k hk => ?_⟩
    try dsimp only
    obtain ⟨m, rfl⟩ : ∃ m, k = m + 1 := ⟨k - 1, by omega⟩
    try dsimp only
    rw [spec_l14Image.l0, if_neg (by omega)]
    exact h1 m (by omega)
  | succ d ih =>
    intro i hi c p hc hp
    obtain ⟨u1, hu1, K1, h1⟩ := pick_ev hb (p := p) (n := 256) (by omega) (by omega)
    try dsimp only at h1
    obtain ⟨u2, hu2, K2, h2⟩ := pick_ev hb (p := p + 1) (n := 256) (by omega) (by omega)
    try dsimp only at h2
    obtain ⟨u3, hu3, K3, h3⟩ := pick_ev hb (p := p + 1 + 1) (n := 9) (by omega) (by omega)
    try dsimp only at h3
    try dsimp only at h1 h2 h3
    obtain ⟨r, hr, K4, h4⟩ := ih (i + 1) (by omega) (c ++ [wrap64 (wrap64 (wrap64 (u1 * 65536) + wrap64 (u2 * 256)) + u3)]) (p + 1 + 1 + 1) (by simp; omega) (by omega)
    try dsimp only at h4
    try dsimp only at h4
    refine ⟨r, hr, K1 + K2 + K3 + K4 + 1, fun k hk => ?_⟩
    try dsimp only
    obtain ⟨m, rfl⟩ : ∃ m, k = m + 1 := ⟨k - 1, by omega⟩
    have hm2 := h4 m (by omega)
    rw [show ((i + 1 : Nat) : Int) = (i : Int) + 1 by omega] at hm2
    try dsimp only
    rw [spec_l14Image.l0, if_pos (by omega), h1 m (by omega), Option.bind_some]
    try dsimp only
    rw [h2 m (by omega), Option.bind_some]
    try dsimp only
    rw [h3 m (by omega), Option.bind_some]
    try dsimp only
    rw [if_pos (by omega), w64 (x := (i : Int) + 1) (by omega)]
    exact hm2
theorem imgJ1_ev {b : List Int} (hb : Code b) (kd dd w h : Int) (hd : 0 ≤ dd ∧ dd ≤ 62) (hw : 1 ≤ w ∧ w ≤ 20) (hh : 1 ≤ h ∧ h ≤ 20) (n : Int) (hn : 1 ≤ n ∧ n ≤ 256) {p : Int} (hp : 0 ≤ p ∧ p ≤ 100) : ∃ r, GoodI r ∧ Ev (fun k => spec_l14Image.j1 k n b p kd dd w h) r := by
  obtain ⟨N, hN⟩ : ∃ N : Nat, n = (N : Int) := ⟨n.toNat, by omega⟩
  obtain ⟨r, hr, K1, h1⟩ := imgCols_ev hb kd dd w h hd hw hh N (by omega) N 0 (by omega) [] p rfl (by omega)
  try dsimp only at h1
  try dsimp only at h1
  refine ⟨r, hr, K1 + 1, fun k hk => ?_⟩
  try dsimp only
  obtain ⟨m, rfl⟩ : ∃ m, k = m + 1 := ⟨k - 1, by omega⟩
  try dsimp only
  rw [spec_l14Image.j1, hN]
  exact h1 m (by omega)
theorem rd1248 {t : Int} (h : 0 ≤ t ∧ t < 4) : (1 ≤ rd [1, 2, 4, 8] t ∧ rd [1, 2, 4, 8] t ≤ 8) ∧ P2 (rd [1, 2, 4, 8] t).toNat ≤ 256 := by
  rcases (show t = 0 ∨ t = 1 ∨ t = 2 ∨ t = 3 by omega) with rfl | rfl | rfl | rfl <;> decide
theorem imgJ0_ev {b : List Int} (hb : Code b) (kd dd w h : Int) (hw : 1 ≤ w ∧ w ≤ 20) (hh : 1 ≤ h ∧ h ≤ 20) {p : Int} (hp : 0 ≤ p ∧ p ≤ 50) : ∃ r, GoodI r ∧ Ev (fun k => spec_l14Image.j0 k b p kd dd w h) r := by
  obtain ⟨t, ht, K1, h1⟩ := pick_ev hb (p := p) (n := 4) (by omega) (by omega)
  try dsimp only at h1
  try dsimp only at h1
  have hr4 := rd1248 (t := t) (by omega)
  have hlen : ((([1, 2, 4, 8] : List Int)).length : Int) = 4 := rfl
  by_cases k2 : kd = 2
  · obtain ⟨r, hr, K2, h2⟩ := imgJ3_ev hb kd 24 w h (by omega) hw hh [] (by simp) (fun e => by omega) (p := p + 1) (by omega)
    try dsimp only at h2
    try dsimp only at h2
    refine ⟨r, hr, K1 + K2 + 1, fun k hk => ?_⟩
    try dsimp only
    obtain ⟨m, rfl⟩ : ∃ m, k = m + 1 := ⟨k - 1, by omega⟩
    try dsimp only
    rw [spec_l14Image.j0, Option.bind_some, h1 m (by omega), Option.bind_some]
    try dsimp only
    rw [if_pos (by omega), if_pos (by rw [hlen]; omega), if_pos k2]
    exact h2 m (by omega)
  · by_cases k3 : kd = 3
    · obtain ⟨r, hr, K2, h2⟩ := imgJ3_ev hb kd 32 w h (by omega) hw hh [] (by simp) (fun e => by omega) (p := p + 1) (by omega)
      try dsimp only at h2
      try dsimp only at h2
      refine ⟨r, hr, K1 + K2 + 1, fun k hk => ?_⟩
      try dsimp only
      obtain ⟨m, rfl⟩ : ∃ m, k = m + 1 := ⟨k - 1, by omega⟩
      try dsimp only
      rw [spec_l14Image.j0, Option.bind_some, h1 m (by omega), Option.bind_some]
      try dsimp only
      rw [if_pos (by omega), if_pos (by rw [hlen]; omega), if_neg k2, if_pos k3]
      exact h2 m (by omega)
    · by_cases k4 : kd = 4
      · obtain ⟨K3, h3⟩ := l1Pow_evI (rd [1, 2, 4, 8] t) (by omega) (by omega)
        try dsimp only at h3
        obtain ⟨u, hu, K4, h4⟩ := pick_ev hb (p := p + 1) (n := 2) (by omega) (by omega)
        try dsimp only at h4
        try dsimp only at h3 h4
        have hpow : 1 ≤ P2 (rd [1, 2, 4, 8] t).toNat := P2_pos _
        by_cases u0 : u = 0
        · obtain ⟨n, hn, K5, h5⟩ := pick_ev hb (p := p + 1 + 1) (n := P2 (rd [1, 2, 4, 8] t).toNat) (by omega) (by omega)
          try dsimp only at h5
          try dsimp only at h5
          obtain ⟨r, hr, K6, h6⟩ := imgJ1_ev hb kd (rd [1, 2, 4, 8] t) w h (by omega) hw hh (1 + n) (by omega) (p := p + 1 + 1 + 1) (by omega)
          try dsimp only at h6
          try dsimp only at h6
          refine ⟨r, hr, K1 + K3 + K4 + K5 + K6 + 1, fun k hk => ?_⟩
          try dsimp only
          obtain ⟨m, rfl⟩ : ∃ m, k = m + 1 := ⟨k - 1, by omega⟩
          try dsimp only
          rw [spec_l14Image.j0, Option.bind_some, h1 m (by omega), Option.bind_some]
          try dsimp only
          rw [if_pos (by omega), if_pos (by rw [hlen]; omega), if_neg k2, if_neg k3, if_pos k4, h3 m (by omega), Option.bind_some, h4 m (by omega), Option.bind_some]
          try dsimp only
          rw [if_pos u0, h5 m (by omega), Option.bind_some]
          try dsimp only
          rw [w64 (x := 1 + n) (by omega)]
          exact h6 m (by omega)
        · obtain ⟨r, hr, K6, h6⟩ := imgJ1_ev hb kd (rd [1, 2, 4, 8] t) w h (by omega) hw hh (P2 (rd [1, 2, 4, 8] t).toNat) (by omega) (p := p + 1 + 1) (by omega)
          try dsimp only at h6
          try dsimp only at h6
          refine ⟨r, hr, K1 + K3 + K4 + K6 + 1, fun k hk => ?_⟩
          try dsimp only
          obtain ⟨m, rfl⟩ : ∃ m, k = m + 1 := ⟨k - 1, by omega⟩
          try dsimp only
          rw [spec_l14Image.j0, Option.bind_some, h1 m (by omega), Option.bind_some]
          try dsimp only
          rw [if_pos (by omega), if_pos (by rw [hlen]; omega), if_neg k2, if_neg k3, if_pos k4, h3 m (by omega), Option.bind_some, h4 m (by omega), Option.bind_some]
          try dsimp only
          rw [if_neg u0]
          exact h6 m (by omega)
      · obtain ⟨r, hr, K2, h2⟩ := imgJ3_ev hb kd (rd [1, 2, 4, 8] t) w h (by omega) hw hh [] (by simp) (fun e => by omega) (p := p + 1) (by omega)
        try dsimp only at h2
        try dsimp only at h2
        refine ⟨r, hr, K1 + K2 + 1, fun k hk => ?_⟩
        try dsimp only
        obtain ⟨m, rfl⟩ : ∃ m, k = m + 1 := ⟨k - 1, by omega⟩
        try dsimp only
        rw [spec_l14Image.j0, Option.bind_some, h1 m (by omega), Option.bind_some]
        try dsimp only
        rw [if_pos (by omega), if_pos (by rw [hlen]; omega), if_neg k2, if_neg k3, if_neg k4]
        exact h2 m (by omega)
theorem l14Image_ev {b : List Int} (hb : Code b) : ∃ r, GoodI r ∧ Ev (fun k => spec_l14Image.f k b 0) r := by
  obtain ⟨u1, hu1, K1, h1⟩ := pick_ev hb (p := 0) (n := 4) (by omega) (by omega)
  try dsimp only at h1
  obtain ⟨u2, hu2, K2, h2⟩ := pick_ev hb (p := 0 + 1) (n := 9) (by omega) (by omega)
  try dsimp only at h2
  obtain ⟨u3, hu3, K3, h3⟩ := pick_ev hb (p := 0 + 1 + 1) (n := 9) (by omega) (by omega)
  try dsimp only at h3
  obtain ⟨u4, hu4, K4, h4⟩ := pick_ev hb (p := 0 + 1 + 1 + 1) (n := 8) (by omega) (by omega)
  try dsimp only at h4
  try dsimp only at h1 h2 h3 h4
  by_cases e : u4 = 0
  · obtain ⟨u5, hu5, K5, h5⟩ := pick_ev hb (p := 0 + 1 + 1 + 1 + 1) (n := 20) (by omega) (by omega)
    try dsimp only at h5
    obtain ⟨u6, hu6, K6, h6⟩ := pick_ev hb (p := 0 + 1 + 1 + 1 + 1 + 1) (n := 20) (by omega) (by omega)
    try dsimp only at h6
    try dsimp only at h5 h6
    obtain ⟨r, hr, K7, h7⟩ := imgJ0_ev hb (1 + u1) 0 (1 + u5) (1 + u6) (by omega) (by omega) (p := 0 + 1 + 1 + 1 + 1 + 1 + 1) (by omega)
    try dsimp only at h7
    try dsimp only at h7
    refine ⟨r, hr, K1 + K2 + K3 + K4 + K5 + K6 + K7, fun k hk => ?_⟩
    try dsimp only
    try dsimp only
    unfold spec_l14Image.f
    rw [h1 k (by omega), Option.bind_some]
    try dsimp only
    rw [h2 k (by omega), Option.bind_some]
    try dsimp only
    rw [h3 k (by omega), Option.bind_some]
    try dsimp only
    rw [h4 k (by omega), Option.bind_some]
    try dsimp only
    rw [if_pos e, h5 k (by omega), Option.bind_some]
    try dsimp only
    rw [h6 k (by omega), Option.bind_some]
    try dsimp only
    rw [w64 (x := 1 + u1) (by omega), w64 (x := 1 + u5) (by omega), w64 (x := 1 + u6) (by omega)]
    exact h7 k (by omega)
  · obtain ⟨r, hr, K7, h7⟩ := imgJ0_ev hb (1 + u1) 0 (1 + u2) (1 + u3) (by omega) (by omega) (p := 0 + 1 + 1 + 1 + 1) (by omega)
    try dsimp only at h7
    try dsimp only at h7
    refine ⟨r, hr, K1 + K2 + K3 + K4 + K7, fun k hk => ?_⟩
    try dsimp only
    try dsimp only
    unfold spec_l14Image.f
    rw [h1 k (by omega), Option.bind_some]
    try dsimp only
    rw [h2 k (by omega), Option.bind_some]
    try dsimp only
    rw [h3 k (by omega), Option.bind_some]
    try dsimp only
    rw [h4 k (by omega), Option.bind_some]
    try dsimp only
    rw [if_neg e, w64 (x := 1 + u1) (by omega), w64 (x := 1 + u2) (by omega), w64 (x := 1 + u3) (by omega)]
    exact h7 k (by omega)
def Good2 (r : Int × Int × Int × Int × List Int × List Int × Int) : Prop := r.2.2.2.2.1.length ≤ 1000 ∧ r.2.2.2.2.2.1.length ≤ 1000 ∧ (0 ≤ r.2.2.2.2.2.2 ∧ r.2.2.2.2.2.2 ≤ 2000000)
theorem l14Copy_f (a b wd h : Int) (c p : List Int) (hc : c.length ≤ 1048576) (hp : p.length ≤ 1048576) : spec_l14Copy.f a b wd h c p = some (a, b, wd, h, c, p) := by
  unfold spec_l14Copy.f
  rw [Option.bind_some, if_pos (by simp; omega), Option.bind_some, if_pos (by simp; omega), List.nil_append, List.nil_append]
theorem spoil_l0_ev (b : List Int) (p a dd w h : Int) (pt : List Int) : ∀ d i : Nat, i + d = 257 → ∀ c : List Int, c.length ≤ 256 + i → Ev (fun k => spec_l14Spoil.l0 k (i : Int) b p a dd w h c pt) (a, dd, w, h, c ++ List.replicate d 7, pt, p) := by
  intro d
  induction d with
  | zero =>
    intro i hi c hc
    refine ⟨1, fun k hk => ?_⟩
    try dsimp only
    obtain ⟨m, rfl⟩ : ∃ m, k = m + 1 := ⟨k - 1, by omega⟩
    try dsimp only
    rw [spec_l14Spoil.l0, if_neg (by omega)]
    simp
  | succ d ih =>
    intro i hi c hc
    obtain ⟨K, hK⟩ := ih (i + 1) (by omega) (c ++ [7]) (by simp; omega)
    try dsimp only at hK
    try dsimp only at hK
    refine ⟨K + 1, fun k hk => ?_⟩
    try dsimp only
    obtain ⟨m, rfl⟩ : ∃ m, k = m + 1 := ⟨k - 1, by omega⟩
    have hm := hK m (by omega)
    rw [show ((i + 1 : Nat) : Int) = (i : Int) + 1 by omega, List.append_assoc] at hm
    try dsimp only
    rw [spec_l14Spoil.l0, if_pos (by omega), if_pos (by omega), w64 (by omega), List.replicate_succ]
    exact hm
theorem spoil_ev {b : List Int} (hb : Code b) (a dd w h : Int) (c pt : List Int) (hc : c.length ≤ 256) (hpt : 1 ≤ pt.length ∧ pt.length ≤ 400) {p : Int} (hp : 0 ≤ p ∧ p ≤ 1000010) : ∃ r, Good2 r ∧ Ev (fun k => spec_l14Spoil.f k b p a dd w h c pt) r := by
  obtain ⟨t, ht, K1, h1⟩ := pick_ev hb (p := p) (n := 8) (by omega) (by omega)
  try dsimp only at h1
  obtain ⟨u, hu, K2, h2⟩ := pick_ev hb (p := p + 1) (n := 3) (by omega) (by omega)
  try dsimp only at h2
  obtain ⟨v, hv, K3, h3⟩ := pick_ev hb (p := p + 1) (n := (pt.length : Int)) (by omega) (by omega)
  try dsimp only at h3
  obtain ⟨x, hx, K4, h4⟩ := pick_ev hb (p := p + 1 + 1) (n := 2) (by omega) (by omega)
  try dsimp only at h4
  try dsimp only at h1 h2 h3 h4
  obtain ⟨K5, h5⟩ := spoil_l0_ev b (p + 1) a dd w h pt 257 0 (by omega) c (by omega)
  try dsimp only at h5
  try dsimp only at h5
  have l3 : ∀ q0 q1 q2 : Int, ((([q0, q1, q2] : List Int)).length : Int) = 3 := fun _ _ _ => rfl
  have l2 : ∀ q0 q1 : Int, ((([q0, q1] : List Int)).length : Int) = 2 := fun _ _ => rfl
  have hcopy := l14Copy_f a dd w h c pt (by omega) (by omega)
  obtain ⟨KK, hKK⟩ : ∃ KK, KK = K1 + K2 + K3 + K4 + K5 := ⟨_, rfl⟩
  by_cases e0 : t = 0
  · refine ⟨(rd [0, 5, wrap64 (1 + Int.tmod a 4)] u, dd, w, h, c, pt, p + 1 + 1), ⟨by dsimp only; omega, by dsimp only; omega, by dsimp only; omega⟩, KK, fun k hk => ?_⟩
    try dsimp only
    try dsimp only
    unfold spec_l14Spoil.f
    rw [hcopy, Option.bind_some]
    try dsimp only
    rw [h1 k (by omega), Option.bind_some]
    try dsimp only
    rw [if_pos e0, Option.bind_some, h2 k (by omega), Option.bind_some]
    try dsimp only
    rw [if_pos (by omega), if_pos (by rw [l3]; omega)]
  by_cases e1 : t = 1
  · refine ⟨(a, rd [0, 3, 16] u, w, h, c, pt, p + 1 + 1), ⟨by dsimp only; omega, by dsimp only; omega, by dsimp only; omega⟩, KK, fun k hk => ?_⟩
    try dsimp only
    try dsimp only
    unfold spec_l14Spoil.f
    rw [hcopy, Option.bind_some]
    try dsimp only
    rw [h1 k (by omega), Option.bind_some]
    try dsimp only
    rw [if_neg e0, if_pos e1, Option.bind_some, h2 k (by omega), Option.bind_some]
    try dsimp only
    rw [if_pos (by omega), if_pos (by rw [l3]; omega)]
  by_cases e2 : t = 2
  · refine ⟨(a, dd, rd [0, wrap64 (w + 1), 21] u, h, c, pt, p + 1 + 1), ⟨by dsimp only; omega, by dsimp only; omega, by dsimp only; omega⟩, KK, fun k hk => ?_⟩
    try dsimp only
    try dsimp only
    unfold spec_l14Spoil.f
    rw [hcopy, Option.bind_some]
    try dsimp only
    rw [h1 k (by omega), Option.bind_some]
    try dsimp only
    rw [if_neg e0, if_neg e1, if_pos e2, Option.bind_some, h2 k (by omega), Option.bind_some]
    try dsimp only
    rw [if_pos (by omega), if_pos (by rw [l3]; omega)]
  by_cases e3 : t = 3
  · refine ⟨(a, dd, w, h, c, pt.drop (1 : Int).toNat, p + 1), ⟨by dsimp only; omega, by dsimp only; rw [List.length_drop]; omega, by dsimp only; omega⟩, KK, fun k hk => ?_⟩
    try dsimp only
    try dsimp only
    unfold spec_l14Spoil.f
    rw [hcopy, Option.bind_some]
    try dsimp only
    rw [h1 k (by omega), Option.bind_some]
    try dsimp only
    rw [if_neg e0, if_neg e1, if_neg e2, if_pos e3, if_pos (by omega)]
  by_cases e4 : t = 4
  · refine ⟨(a, dd, w, h, c, pt.set v.toNat (rd [-1, 4294967296] x), p + 1 + 1 + 1), ⟨by dsimp only; omega, by dsimp only; rw [List.length_set]; omega, by dsimp only; omega⟩, KK, fun k hk => ?_⟩
    try dsimp only
    try dsimp only
    unfold spec_l14Spoil.f
    rw [hcopy, Option.bind_some]
    try dsimp only
    rw [h1 k (by omega), Option.bind_some]
    try dsimp only
    rw [if_neg e0, if_neg e1, if_neg e2, if_neg e3, if_pos e4, h3 k (by omega), Option.bind_some]
    try dsimp only
    rw [Option.bind_some, h4 k (by omega), Option.bind_some]
    try dsimp only
    rw [if_pos (by omega), if_pos (by rw [l2]; omega), if_pos (by omega), if_pos (by omega)]
  by_cases e5 : t = 5
  · refine ⟨(a, dd, w, h, c ++ [rd [-1, 16777216, 5] u], pt, p + 1 + 1), ⟨by dsimp only; rw [List.length_append, List.length_singleton]; omega, by dsimp only; omega, by dsimp only; omega⟩, KK, fun k hk => ?_⟩
    try dsimp only
    try dsimp only
    unfold spec_l14Spoil.f
    rw [hcopy, Option.bind_some]
    try dsimp only
    rw [h1 k (by omega), Option.bind_some]
    try dsimp only
    rw [if_neg e0, if_neg e1, if_neg e2, if_neg e3, if_neg e4, if_pos e5, Option.bind_some, h2 k (by omega), Option.bind_some]
    try dsimp only
    rw [if_pos (by omega), if_pos (by rw [l3]; omega), if_pos (by omega)]
  by_cases e6 : t = 6
  · refine ⟨(a, dd, w, h, c ++ List.replicate 257 7, pt, p + 1), ⟨by dsimp only; rw [List.length_append, List.length_replicate]; omega, by dsimp only; omega, by dsimp only; omega⟩, KK, fun k hk => ?_⟩
    try dsimp only
    try dsimp only
    unfold spec_l14Spoil.f
    rw [hcopy, Option.bind_some]
    try dsimp only
    rw [h1 k (by omega), Option.bind_some]
    try dsimp only
    rw [if_neg e0, if_neg e1, if_neg e2, if_neg e3, if_neg e4, if_neg e5, if_pos e6]
    exact h5 k (by omega)
  · refine ⟨(a, dd, w, 0, c, pt, p + 1), ⟨by dsimp only; omega, by dsimp only; omega, by dsimp only; omega⟩, KK, fun k hk => ?_⟩
    try dsimp only
    try dsimp only
    unfold spec_l14Spoil.f
    rw [hcopy, Option.bind_some]
    try dsimp only
    rw [h1 k (by omega), Option.bind_some]
    try dsimp only
    rw [if_neg e0, if_neg e1, if_neg e2, if_neg e3, if_neg e4, if_neg e5, if_neg e6]
theorem l14Any_ev {b : List Int} (hb : Code b) : ∃ r, Good2 r ∧ Ev (fun k => spec_l14Any.f k b 0) r := by
  obtain ⟨⟨a, dd, w, h, c, pt, p⟩, hg, K1, h1⟩ := l14Image_ev hb
  obtain ⟨g1, g2, g3⟩ := hg
  try dsimp only at g1 g2 g3 h1
  obtain ⟨t, ht, K2, h2⟩ := pick_ev hb (p := p) (n := 14) (by omega) (by omega)
  try dsimp only at h2
  try dsimp only at h2
  by_cases e : t = 0
  · obtain ⟨⟨a', dd', w', h', c', pt', p'⟩, hg, K3, h3⟩ := spoil_ev hb a dd w h c pt g1 g2 (p := p + 1) (by omega)
    try dsimp only at h3
    refine ⟨(a', dd', w', h', c', pt', p'), hg, K1 + K2 + K3, fun k hk => ?_⟩
    try dsimp only
    try dsimp only
    unfold spec_l14Any.f
    rw [h1 k (by omega), Option.bind_some]
    try dsimp only
    rw [h2 k (by omega), Option.bind_some]
    try dsimp only
    rw [if_pos e, h3 k (by omega), Option.bind_some]
  · refine ⟨(a, dd, w, h, c, pt, p + 1), ⟨by dsimp only; omega, by dsimp only; omega, by dsimp only; omega⟩, K1 + K2, fun k hk => ?_⟩
    try dsimp only
    try dsimp only
    unfold spec_l14Any.f
    rw [h1 k (by omega), Option.bind_some]
    try dsimp only
    rw [h2 k (by omega), Option.bind_some]
    try dsimp only
    rw [if_neg e]
theorem wiInts_l0_ev (a : List Int) (hl : a.length ≤ 35184372088832) : ∀ (sa pa : List Int), a = pa ++ sa → Ev (fun k => laws_wiInts.l0 k a a (pa.length : Int)) true := by
  intro sa
  induction sa with
  | nil =>
    intro pa ha
    refine ⟨1, fun k hk => ?_⟩
    try dsimp only
    obtain ⟨m, rfl⟩ : ∃ m, k = m + 1 := ⟨k - 1, by omega⟩
    rw [laws_wiInts.l0, if_neg (by rw [ha]; simp)]
  | cons x sa ih =>
    intro pa ha
    have hll : a.length = pa.length + sa.length + 1 := by rw [ha]; simp; omega
    obtain ⟨K, hK⟩ := ih (pa ++ [x]) (by simp [ha])
    try dsimp only at hK
    refine ⟨K + 1, fun k hk => ?_⟩
    try dsimp only
    obtain ⟨m, rfl⟩ : ∃ m, k = m + 1 := ⟨k - 1, by omega⟩
    have hm := hK m (by omega)
    rw [laws_wiInts.l0, if_pos (by omega), if_pos (by omega), if_pos (by omega), if_pos rfl, w64 (by omega)]
    rw [List.length_append, List.length_singleton, show ((pa.length + 1 : Nat) : Int) = (pa.length : Int) + 1 by omega] at hm
    exact hm
theorem wiInts_ev (a : List Int) (hl : a.length ≤ 35184372088832) : Ev (fun k => laws_wiInts.f k a a) true := by
  obtain ⟨K, hK⟩ := wiInts_l0_ev a hl a [] rfl
  try dsimp only at hK
  refine ⟨K, fun k hk => ?_⟩
  try dsimp only
  unfold laws_wiInts.f
  rw [if_pos rfl]
  exact hK k hk
theorem wiImage_ev (a b wd h : Int) (c p : List Int) (hc : c.length ≤ 1048576) (hp : p.length ≤ 1048576) : Ev (fun k => laws_wiImage.f k a b wd h c p a b wd h c p) true := by
  obtain ⟨K1, h1⟩ := wiInts_ev c (by omega)
  try dsimp only at h1
  obtain ⟨K2, h2⟩ := wiInts_ev p (by omega)
  try dsimp only at h2
  try dsimp only at h1 h2
  refine ⟨K1 + K2, fun k hk => ?_⟩
  try dsimp only
  try dsimp only
  unfold laws_wiImage.f
  rw [if_pos rfl, if_pos rfl, if_pos rfl, if_pos rfl, h1 k (by omega), Option.bind_some, if_pos rfl, h2 k (by omega), Option.bind_some]
theorem in_f (a b c : Int) : impl_in.f a b c = some (decide (b ≤ a ∧ a ≤ c)) := by
  unfold impl_in.f
  by_cases h : b ≤ a
  · rw [if_pos h]; simp [h]
  · rw [if_neg h]; simp [h]
theorem l1In_f (a b c : Int) : spec_l1In.f a b c = some (decide (b ≤ a ∧ a ≤ c)) := by
  unfold spec_l1In.f
  by_cases h : b ≤ a
  · rw [if_pos h]; simp [h]
  · rw [if_neg h]; simp [h]
theorem l8Depth_f (k : Nat) (a b : Int) : spec_l8Depth.f (k + 1) a b = some (decide (depP a b)) := by
  have hj : ∀ t : Bool, spec_l8Depth.j0 (k + 1) b a t = if t = true then some (decide (b = 1 ∨ b = 2 ∨ b = 4 ∨ b = 8)) else some (decide ((a = 2 ∧ b = 24) ∨ (a = 3 ∧ b = 32))) := by
    intro t
    rw [spec_l8Depth.j0]
    by_cases h : t = true
    · rw [if_pos h, if_pos h]
      by_cases h1 : b = 1
      · rw [if_pos h1]; simp [h1]
      · rw [if_neg h1]
        by_cases h2 : b = 2
        · rw [if_pos h2]; simp [h2]
        · rw [if_neg h2]
          by_cases h4 : b = 4
          · rw [if_pos h4]; simp [h4]
          · rw [if_neg h4]; congr 1; rw [Bool.eq_iff_iff]; simp [h1, h2, h4]
    · rw [if_neg h, if_neg h]
      by_cases h1 : a = 2
      · rw [if_pos h1]; congr 1; rw [Bool.eq_iff_iff]; simp [h1]
      · rw [if_neg h1]
        by_cases h2 : a = 3
        · rw [if_pos h2]; congr 1; rw [Bool.eq_iff_iff]; simp [h2]
        · rw [if_neg h2]; congr 1; simp [h1, h2]
  unfold spec_l8Depth.f
  rw [hj, hj]
  unfold depP
  by_cases h : a = 1
  · rw [if_pos h, if_pos (by simp [h])]; congr 1; simp [h]
  · rw [if_neg h]
    by_cases h4 : a = 4
    · rw [if_pos (by simp [h4])]; congr 1; simp [h4]
    · rw [if_neg (by simp [h4])]; congr 1; simp [h, h4]
theorem l8Colors_l0_ev (a b wd h : Int) (c p : List Int) (hd : depP a b) (hc : c.length ≤ 1048576) : ∀ (suf pre : List Int), c = pre ++ suf → Ev (fun k => spec_l8Colors.l0 k (pre.length : Int) a b wd h c p) (decide (inAll suf 16777215 ∧ if a = 4 then 1 ≤ (c.length : Int) ∧ (c.length : Int) ≤ P2 b.toNat else c = [])) := by
  have hb := depP_b hd
  intro suf
  induction suf with
  | nil =>
    intro pre hp
    obtain ⟨K, hK⟩ := l1Pow_evI b (by omega) (by omega)
    try dsimp only at hK
    try dsimp only at hK
    refine ⟨K + 1, fun k hk => ?_⟩
    try dsimp only
    obtain ⟨m, rfl⟩ : ∃ m, k = m + 1 := ⟨k - 1, by omega⟩
    try dsimp only
    rw [spec_l8Colors.l0, if_neg (by rw [hp]; simp)]
    by_cases h4 : a = 4
    · rw [if_pos h4, hK m (by omega), Option.bind_some, l1In_f, Option.bind_some]
      congr 1
      rw [Bool.eq_iff_iff]; simp [inAll_nil, h4]
    · rw [if_neg h4]
      congr 1
      rw [Bool.eq_iff_iff]; simp [inAll_nil, h4]
  | cons x suf ih =>
    intro pre hp
    have hll : c.length = pre.length + suf.length + 1 := by rw [hp]; simp; omega
    have hx : rd c (pre.length : Int) = x := by rw [hp]; exact rd_at _ _ _ rfl
    obtain ⟨K, hK⟩ := ih (pre ++ [x]) (by simp [hp])
    try dsimp only at hK
    try dsimp only at hK
    refine ⟨K + 1, fun k hk => ?_⟩
    try dsimp only
    obtain ⟨m, rfl⟩ : ∃ m, k = m + 1 := ⟨k - 1, by omega⟩
    try dsimp only
    have hm := hK m (by omega)
    rw [List.length_append, List.length_singleton, show ((pre.length + 1 : Nat) : Int) = (pre.length : Int) + 1 by omega] at hm
    rw [spec_l8Colors.l0, if_pos (by omega), if_pos (by omega), hx, l1In_f, Option.bind_some]
    by_cases hr : 0 ≤ x ∧ x ≤ 16777215
    · rw [if_pos (decide_eq_true hr), w64 (by omega), hm]
      congr 1
      rw [Bool.eq_iff_iff, decide_eq_true_iff, decide_eq_true_iff, inAll_cons]
      simp [hr]
    · rw [if_neg (by simpa using hr)]
      congr 1
      symm
      rw [decide_eq_false_iff_not, inAll_cons]
      exact fun h => hr h.1.1
theorem specImageOk_l0_ev (most a b wd h : Int) (c p : List Int) (hp8 : p.length ≤ 1048576) : ∀ (suf pre : List Int), p = pre ++ suf → Ev (fun k => spec_ImageOk.l0 k most (pre.length : Int) a b wd h c p) (decide (inAll suf most)) := by
  intro suf
  induction suf with
  | nil =>
    intro pre hp
    refine ⟨1, fun k hk => ?_⟩
    try dsimp only
    obtain ⟨m, rfl⟩ : ∃ m, k = m + 1 := ⟨k - 1, by omega⟩
    try dsimp only
    rw [spec_ImageOk.l0, if_neg (by rw [hp]; simp), decide_eq_true (inAll_nil most)]
  | cons x suf ih =>
    intro pre hp
    have hll : p.length = pre.length + suf.length + 1 := by rw [hp]; simp; omega
    have hx : rd p (pre.length : Int) = x := by rw [hp]; exact rd_at _ _ _ rfl
    obtain ⟨K, hK⟩ := ih (pre ++ [x]) (by simp [hp])
    try dsimp only at hK
    try dsimp only at hK
    refine ⟨K + 1, fun k hk => ?_⟩
    try dsimp only
    obtain ⟨m, rfl⟩ : ∃ m, k = m + 1 := ⟨k - 1, by omega⟩
    try dsimp only
    have hm := hK m (by omega)
    rw [List.length_append, List.length_singleton, show ((pre.length + 1 : Nat) : Int) = (pre.length : Int) + 1 by omega] at hm
    rw [spec_ImageOk.l0, if_pos (by omega), if_pos (by omega), hx, l1In_f, Option.bind_some]
    by_cases hr : 0 ≤ x ∧ x ≤ most
    · rw [if_pos (decide_eq_true hr), w64 (by omega), hm]
      congr 1
      rw [Bool.eq_iff_iff, decide_eq_true_iff, decide_eq_true_iff, inAll_cons]
      simp [hr]
    · rw [if_neg (by simpa using hr)]
      congr 1
      symm
      rw [decide_eq_false_iff_not, inAll_cons]
      exact fun h => hr h.1
theorem spec_ImageOk_ev (a b wd h : Int) (c p : List Int) (hc : c.length ≤ 1048576) (hp : p.length ≤ 1048576) : Ev (fun k => spec_ImageOk.f k a b wd h c p) (imgM a b wd h c p) := by
  have hfalse : ∀ K : Nat, ∀ k, K + 2 ≤ k → spec_ImageOk.j0 k true a b wd h c p = some false := by
    intro K k hk
    obtain ⟨m, rfl⟩ : ∃ m, k = m + 1 := ⟨k - 1, by omega⟩
    rw [spec_ImageOk.j0, if_pos rfl]
  by_cases hd : depP a b
  · have hb := depP_b hd
    obtain ⟨K1, h1⟩ := l8Colors_l0_ev a b wd h c p hd hc c [] rfl
    try dsimp only at h1
    obtain ⟨K2, h2⟩ := l1Pow_evI b (by omega) (by omega)
    try dsimp only at h2
    try dsimp only at h1 h2
    obtain ⟨K3, h3⟩ := specImageOk_l0_ev ((c.length : Int) - 1) a b wd h c p hp p [] rfl
    try dsimp only at h3
    obtain ⟨K4, h4⟩ := specImageOk_l0_ev (P2 b.toNat - 1) a b wd h c p hp p [] rfl
    try dsimp only at h4
    try dsimp only at h3 h4
    have hpb := P2_62b (n := b.toNat) (by omega)
    refine ⟨K1 + K2 + K3 + K4 + 4, fun k hk => ?_⟩
    try dsimp only
    obtain ⟨m, rfl⟩ : ∃ m, k = m + 1 := ⟨k - 1, by omega⟩
    try dsimp only
    unfold spec_ImageOk.f
    rw [l8Depth_f, Option.bind_some, if_pos (decide_eq_true hd), l1In_f, Option.bind_some, l1In_f, Option.bind_some]
    unfold imgM
    by_cases hw : 1 ≤ wd ∧ wd ≤ 20
    · rw [if_pos (decide_eq_true hw)]
      by_cases hh : 1 ≤ h ∧ h ≤ 20
      · have hm := mul20 hw hh
        rw [if_pos (decide_eq_true hh), w64 (by omega)]
        by_cases hl : (p.length : Int) = wd * h
        · have hcc : spec_l8Colors.f (m + 1) a b wd h c p = some (decide (inAll c 16777215 ∧ if a = 4 then 1 ≤ (c.length : Int) ∧ (c.length : Int) ≤ P2 b.toNat else c = [])) := by
            unfold spec_l8Colors.f; exact h1 (m + 1) (by omega)
          rw [if_pos hl, hcc, Option.bind_some]
          by_cases hcol : inAll c 16777215 ∧ if a = 4 then 1 ≤ (c.length : Int) ∧ (c.length : Int) ≤ P2 b.toNat else c = []
          · obtain ⟨m', rfl⟩ : ∃ m', m = m' + 2 := ⟨m - 2, by omega⟩
            rw [decide_eq_true hcol, spec_ImageOk.j0, if_neg (by decide), h2 _ (by omega), Option.bind_some]
            by_cases ha : a = 4
            · rw [if_pos ha] at hcol
              have := h3 (m' + 1) (by omega)
              rw [if_pos ha, spec_ImageOk.j1, w64 (by omega)]
              rw [show (([] : List Int).length : Int) = 0 from rfl] at this
              rw [this]
              congr 1
              rw [Bool.eq_iff_iff, decide_eq_true_iff, decide_eq_true_iff]
              unfold imgP
              exact ⟨fun h => ⟨hd, hw, hh, hl, .inl ⟨ha, hcol.2, hcol.1, h⟩⟩, fun h => h.2.2.2.2.elim (fun h => h.2.2.2) (fun h => absurd ha h.1)⟩
            · rw [if_neg ha] at hcol
              have := h4 (m' + 1) (by omega)
              rw [if_neg ha, spec_ImageOk.j1, w64 (by omega)]
              rw [show (([] : List Int).length : Int) = 0 from rfl] at this
              rw [this]
              congr 1
              rw [Bool.eq_iff_iff, decide_eq_true_iff, decide_eq_true_iff]
              unfold imgP
              exact ⟨fun h => ⟨hd, hw, hh, hl, .inr ⟨ha, hcol.2, h⟩⟩, fun h => h.2.2.2.2.elim (fun h => absurd h.1 ha) (fun h => h.2.2)⟩
          · rw [decide_eq_false hcol, Bool.not_false, hfalse 0 _ (by omega)]
            congr 1
            symm
            rw [decide_eq_false_iff_not]
            rintro ⟨-, -, -, -, ⟨ha, h5, h6, h7⟩ | ⟨ha, h5, h6⟩⟩
            · exact hcol ⟨h6, by rw [if_pos ha]; exact h5⟩
            · exact hcol ⟨by rw [h5]; exact inAll_nil _, by rw [if_neg ha]; exact h5⟩
        · rw [if_neg hl, hfalse 0 _ (by omega)]
          congr 1; symm; rw [decide_eq_false_iff_not]; exact fun h => hl h.2.2.2.1
      · rw [if_neg (by simpa using hh), hfalse 0 _ (by omega)]
        congr 1; symm; rw [decide_eq_false_iff_not]; exact fun h => hh h.2.2.1
    · rw [if_neg (by simpa using hw), hfalse 0 _ (by omega)]
      congr 1; symm; rw [decide_eq_false_iff_not]; exact fun h => hw h.2.1
  · refine ⟨2, fun k hk => ?_⟩
    try dsimp only
    obtain ⟨m, rfl⟩ : ∃ m, k = m + 1 := ⟨k - 1, by omega⟩
    try dsimp only
    unfold spec_ImageOk.f imgM
    rw [l8Depth_f, Option.bind_some, if_neg (by simpa using hd), hfalse 0 _ (by omega)]
    congr 1; symm; rw [decide_eq_false_iff_not]; exact fun h => hd h.1
theorem smallDepth_f (b : Int) : impl_smallDepth.f b = some (decide (b = 1 ∨ b = 2 ∨ b = 4 ∨ b = 8)) := by
  unfold impl_smallDepth.f
  by_cases h1 : b = 1
  · rw [if_pos h1]; simp [h1]
  · rw [if_neg h1]
    by_cases h2 : b = 2
    · rw [if_pos h2]; simp [h2]
    · rw [if_neg h2]
      by_cases h4 : b = 4
      · rw [if_pos h4]; simp [h4]
      · rw [if_neg h4]; congr 1; rw [Bool.eq_iff_iff]; simp [h1, h2, h4]
theorem depthOk_f (k : Nat) (a b : Int) : impl_depthOk.f (k + 1) a b = some (decide (depP a b)) := by
  have hj : ∀ t : Bool, impl_depthOk.j0 (k + 1) b a t = if t = true then some (decide (b = 1 ∨ b = 2 ∨ b = 4 ∨ b = 8)) else some (decide ((a = 2 ∧ b = 24) ∨ (a = 3 ∧ b = 32))) := by
    intro t
    rw [impl_depthOk.j0]
    by_cases h : t = true
    · rw [if_pos h, if_pos h, smallDepth_f, Option.bind_some]
    · rw [if_neg h, if_neg h]
      by_cases h1 : a = 2
      · rw [if_pos h1]; congr 1; rw [Bool.eq_iff_iff]; simp [h1]
      · rw [if_neg h1]
        by_cases h2 : a = 3
        · rw [if_pos h2]; congr 1; rw [Bool.eq_iff_iff]; simp [h2]
        · rw [if_neg h2]; congr 1; simp [h1, h2]
  unfold impl_depthOk.f
  rw [hj, hj]
  unfold depP
  by_cases h : a = 1
  · rw [if_pos h, if_pos (by simp [h])]; congr 1; simp [h]
  · rw [if_neg h]
    by_cases h4 : a = 4
    · rw [if_pos (by simp [h4])]; congr 1; simp [h4]
    · rw [if_neg (by simp [h4])]; congr 1; simp [h, h4]
theorem outside_f (l : List Int) (m : Int) : impl_outside.f l m = some (!(decide (inAll l m))) := by unfold impl_outside.f; rw [any_inAll]
theorem impl_ImageOk_f (k : Nat) (a b wd h : Int) (c p : List Int) (hc : c.length ≤ 1048576) (hp : p.length ≤ 1048576) : impl_ImageOk.f (k + 1) a b wd h c p = some (imgM a b wd h c p) := by
  have hfalse : impl_ImageOk.j0 (k + 1) true a b wd h c p = some false := by rw [impl_ImageOk.j0, if_pos rfl]
  unfold impl_ImageOk.f imgM
  rw [depthOk_f, Option.bind_some]
  by_cases hd : depP a b
  · have hb := depP_b hd
    have hpb := P2_62b (n := b.toNat) (by omega)
    rw [if_pos (decide_eq_true hd), in_f, Option.bind_some, in_f, Option.bind_some]
    by_cases hw : 1 ≤ wd ∧ wd ≤ 20
    · rw [if_pos (decide_eq_true hw)]
      by_cases hh : 1 ≤ h ∧ h ≤ 20
      · have hm := mul20 hw hh
        rw [if_pos (decide_eq_true hh), w64 (by omega)]
        by_cases hl : (p.length : Int) = wd * h
        · rw [show ((p.length : Int) != wd * h) = false by simp [hl], impl_ImageOk.j0, if_neg (by decide), shl1_P2 (by omega) (by omega)]
          by_cases ha : a = 4
          · rw [if_pos ha, if_pos (show 0 ≤ b by omega), in_f, Option.bind_some, outside_f, Option.bind_some, outside_f, Option.bind_some, w64 (x := (c.length : Int) - 1) (by omega), Bool.not_not]
            by_cases h5 : 1 ≤ (c.length : Int) ∧ (c.length : Int) ≤ P2 b.toNat
            · rw [if_pos (decide_eq_true h5)]
              by_cases h6 : inAll c 16777215
              · rw [if_neg (by simpa using h6)]
                congr 1
                rw [Bool.eq_iff_iff, decide_eq_true_iff, decide_eq_true_iff]
                exact ⟨fun h => ⟨hd, hw, hh, hl, .inl ⟨ha, h5, h6, h⟩⟩, fun h => h.2.2.2.2.elim (fun h => h.2.2.2) (fun h => absurd ha h.1)⟩
              · rw [if_pos (by simpa using h6)]
                congr 1; symm; rw [decide_eq_false_iff_not]
                exact fun h => h.2.2.2.2.elim (fun h => h6 h.2.2.1) (fun h => h.1 ha)
            · rw [if_neg (by simpa using h5)]
              congr 1; symm; rw [decide_eq_false_iff_not]
              exact fun h => h.2.2.2.2.elim (fun h => h5 h.2.1) (fun h => h.1 ha)
          · rw [if_neg ha, if_pos (show 0 ≤ b by omega), w64 (x := P2 b.toNat - 1) (by omega), outside_f, Option.bind_some, Bool.not_not]
            by_cases h5 : (c.length : Int) = 0
            · have h6 : c = [] := List.eq_nil_of_length_eq_zero (by omega)
              rw [if_pos h5]
              congr 1
              rw [Bool.eq_iff_iff, decide_eq_true_iff, decide_eq_true_iff]
              exact ⟨fun h => ⟨hd, hw, hh, hl, .inr ⟨ha, h6, h⟩⟩, fun h => h.2.2.2.2.elim (fun h => absurd h.1 ha) (fun h => h.2.2)⟩
            · rw [if_neg h5]
              congr 1; symm; rw [decide_eq_false_iff_not]
              exact fun h => h.2.2.2.2.elim (fun h => ha h.1) (fun h => h5 (by rw [h.2.1]; rfl))
        · rw [show ((p.length : Int) != wd * h) = true by simp [hl], hfalse]
          congr 1; symm; rw [decide_eq_false_iff_not]; exact fun h => hl h.2.2.2.1
      · rw [if_neg (by simpa using hh), hfalse]
        congr 1; symm; rw [decide_eq_false_iff_not]; exact fun h => hh h.2.2.1
    · rw [if_neg (by simpa using hw), hfalse]
      congr 1; symm; rw [decide_eq_false_iff_not]; exact fun h => hw h.2.1
  · rw [if_neg (by simpa using hd), hfalse]
    congr 1; symm; rw [decide_eq_false_iff_not]; exact fun h => hd h.1
theorem clone_f (l : List Int) (hl : l.length ≤ 1048576) : slices_Clone_int_int.f l = some l := by
  unfold slices_Clone_int_int.f
  rw [Option.bind_some, if_pos (by simp; omega), List.nil_append]
theorem blank_f (a b wd h : Int) (c p : List Int) (x y : Int) (hl : c.length ≤ 1048576) : spec_l8Blank.f a b wd h c p x y = some (a, b, x, y, c, []) := by
  unfold spec_l8Blank.f
  rw [Option.bind_some, if_pos (by simp; omega), List.nil_append]
theorem made_l1_ev (cl : Int → Int → Option (Int × Int)) (fa fb : Nat → Nat → Int) (a b wd h : Int) (c p : List Int) (q0 q1 q2 q3 : Int) (q4 : List Int) (wide high y : Nat) (hw : wide ≤ 20) (hh : high ≤ 20) (hy : y < high) (hp : p.length ≤ 400) (hwd : 1 ≤ wd ∧ wd ≤ 20)
    (hcl : ∀ x : Nat, x < wide → cl (x : Int) (y : Int) = some (fa x y, fb x y) ∧ (0 ≤ fb x y ∧ fb x y ≤ 20) ∧ (0 ≤ fa x y ∧ fa x y ≤ 20) ∧ fb x y * wd + fa x y < p.length) (out : List Int) (ho : out.length ≤ y * wide) (r : Int × Int × Int × Int × List Int × List Int)
    (hnext : Ev (fun k => impl_Image_made.l0 cl k (wide : Int) (high : Int) ((y : Int) + 1) a b wd h c p q0 q1 q2 q3 q4 (out ++ rowL (fun x y => rd p (fb x y * wd + fa x y)) wide y)) r) :
    ∀ d x : Nat, x + d = wide → Ev (fun k => impl_Image_made.l1 cl k (wide : Int) (y : Int) (high : Int) (y : Int) (wide : Int) (x : Int) a b wd h c p q0 q1 q2 q3 q4 (out ++ rowL (fun x y => rd p (fb x y * wd + fa x y)) x y)) r := by
  intro d
  induction d with
  | zero =>
    intro x hx
    obtain ⟨K, hK⟩ := hnext
    try dsimp only at hK
    try dsimp only at hK
    refine ⟨K + 1, fun k hk => ?_⟩
    try dsimp only
    obtain ⟨m, rfl⟩ : ∃ m, k = m + 1 := ⟨k - 1, by omega⟩
    have e : x = wide := by omega
    subst e
    try dsimp only
    rw [impl_Image_made.l1, if_neg (by omega), w64 (by omega)]
    exact hK m (by omega)
  | succ d ih =>
    intro x hx
    obtain ⟨K, hK⟩ := ih (x + 1) (by omega)
    try dsimp only at hK
    try dsimp only at hK
    obtain ⟨h1, h2, h3, h4⟩ := hcl x (by omega)
    have h5 : 0 ≤ fb x y * wd := Int.mul_nonneg h2.1 (by omega)
    have h6 : y * wide ≤ 20 * 20 := Nat.mul_le_mul (by omega) hw
    refine ⟨K + 1, fun k hk => ?_⟩
    try dsimp only
    obtain ⟨m, rfl⟩ : ∃ m, k = m + 1 := ⟨k - 1, by omega⟩
    have hm := hK m (by omega)
    try dsimp only
    rw [impl_Image_made.l1, if_pos (by omega), h1, Option.bind_some]
    try dsimp only
    rw [w64 (x := fb x y * wd) (by omega), w64 (x := fb x y * wd + fa x y) (by omega), if_pos (by omega), if_pos h4, if_pos (by rw [List.length_append, rowL_length]; omega), w64 (by omega), List.append_assoc, ← rowL_succ (fun x y => rd p (fb x y * wd + fa x y))]
    rw [show ((x + 1 : Nat) : Int) = (x : Int) + 1 by omega] at hm
    exact hm
theorem made_l0_ev (cl : Int → Int → Option (Int × Int)) (fa fb : Nat → Nat → Int) (a b wd h : Int) (c p : List Int) (q0 q1 q2 q3 : Int) (q4 : List Int) (wide high : Nat) (hw : wide ≤ 20) (hh : high ≤ 20) (hp : p.length ≤ 400) (hwd : 1 ≤ wd ∧ wd ≤ 20)
    (hcl : ∀ x y : Nat, x < wide → y < high → cl (x : Int) (y : Int) = some (fa x y, fb x y) ∧ (0 ≤ fb x y ∧ fb x y ≤ 20) ∧ (0 ≤ fa x y ∧ fa x y ≤ 20) ∧ fb x y * wd + fa x y < p.length) :
    ∀ d y : Nat, y + d = high → Ev (fun k => impl_Image_made.l0 cl k (wide : Int) (high : Int) (y : Int) a b wd h c p q0 q1 q2 q3 q4 (genL (fun x y => rd p (fb x y * wd + fa x y)) wide y)) (q0, q1, q2, q3, q4, genL (fun x y => rd p (fb x y * wd + fa x y)) wide high) := by
  intro d
  induction d with
  | zero =>
    intro y hy
    refine ⟨1, fun k hk => ?_⟩
    try dsimp only
    obtain ⟨m, rfl⟩ : ∃ m, k = m + 1 := ⟨k - 1, by omega⟩
    have e : y = high := by omega
    subst e
    try dsimp only
    rw [impl_Image_made.l0, if_neg (by omega)]
  | succ d ih =>
    intro y hy
    have hn := ih (y + 1) (by omega)
    rw [genL_succ, show ((y + 1 : Nat) : Int) = (y : Int) + 1 by omega] at hn
    obtain ⟨K, hK⟩ := made_l1_ev cl fa fb a b wd h c p q0 q1 q2 q3 q4 wide high y hw hh (by omega) hp hwd (fun x hx => hcl x y hx (by omega)) _ (by rw [genL_length]; omega) _ hn wide 0 (by omega)
    try dsimp only at hK
    try dsimp only at hK
    refine ⟨K + 1, fun k hk => ?_⟩
    try dsimp only
    obtain ⟨m, rfl⟩ : ∃ m, k = m + 1 := ⟨k - 1, by omega⟩
    have hm := hK m (by omega)
    try dsimp only
    rw [impl_Image_made.l0, if_pos (by omega)]
    simp only [rowL, List.range_zero, List.map_nil, List.append_nil] at hm
    exact hm
theorem made_ev (cl : Int → Int → Option (Int × Int)) (fa fb : Nat → Nat → Int) (a b wd h : Int) (c p : List Int) (wide high : Nat) (hw : wide ≤ 20) (hh : high ≤ 20) (hc : c.length ≤ 1048576) (hp : p.length ≤ 400) (hwd : 1 ≤ wd ∧ wd ≤ 20)
    (hcl : ∀ x y : Nat, x < wide → y < high → cl (x : Int) (y : Int) = some (fa x y, fb x y) ∧ (0 ≤ fb x y ∧ fb x y ≤ 20) ∧ (0 ≤ fa x y ∧ fa x y ≤ 20) ∧ fb x y * wd + fa x y < p.length) :
    Ev (fun k => impl_Image_made.f cl k a b wd h c p (wide : Int) (high : Int)) (a, b, (wide : Int), (high : Int), c, genL (fun x y => rd p (fb x y * wd + fa x y)) wide high) := by
  obtain ⟨K, hK⟩ := made_l0_ev cl fa fb a b wd h c p a b wide high c wide high hw hh hp hwd hcl high 0 (by omega)
  try dsimp only at hK
  try dsimp only at hK
  refine ⟨K, fun k hk => ?_⟩
  try dsimp only
  try dsimp only
  unfold impl_Image_made.f
  rw [clone_f c hc, Option.bind_some]
  exact hK k hk
theorem specCut_l0_ev (a b : Int) (W : Nat) (h : Int) (c p : List Int) (q0 q1 q2 q3 : Int) (q4 : List Int) (X Y wide high : Nat) (hW : 1 ≤ W ∧ W ≤ 20) (hY : Y + high ≤ 20) (hX : X + wide ≤ W) (hp : p.length ≤ 400) (hpl : (Y + high) * W ≤ p.length) :
    ∀ d i : Nat, i + d = high → Ev (fun k => spec_ImageCut.l0 k (X : Int) (Y : Int) (wide : Int) (high : Int) (i : Int) a b (W : Int) h c p q0 q1 q2 q3 q4 (genL (fun a b => rd p (((Y : Int) + (b : Int)) * (W : Int) + ((X : Int) + (a : Int)))) wide i)) (q0, q1, q2, q3, q4, genL (fun a b => rd p (((Y : Int) + (b : Int)) * (W : Int) + ((X : Int) + (a : Int)))) wide high, true) := by
  intro d
  induction d with
  | zero =>
    intro i hi
    refine ⟨1, fun k hk => ?_⟩
    try dsimp only
    obtain ⟨m, rfl⟩ : ∃ m, k = m + 1 := ⟨k - 1, by omega⟩
    have e : i = high := by omega
    subst e
    try dsimp only
    rw [spec_ImageCut.l0, if_neg (by omega)]
  | succ d ih =>
    intro i hi
    obtain ⟨K, hK⟩ := ih (i + 1) (by omega)
    try dsimp only at hK
    try dsimp only at hK
    have h1 : (Y + i + 1) * W ≤ (Y + high) * W := Nat.mul_le_mul_right _ (by omega)
    have h3 : (Y + i + 1) * W = (Y + i) * W + W := Nat.succ_mul _ _
    have e1 : ((Y : Int) + (i : Int)) * (W : Int) = (((Y + i) * W : Nat) : Int) := by simp
    obtain ⟨F, hF⟩ : ∃ F, F = (Y + i) * W + X := ⟨_, rfl⟩
    have e2 : (((Y + i) * W : Nat) : Int) + (X : Int) = (F : Int) := by rw [hF]; simp
    refine ⟨K + 1, fun k hk => ?_⟩
    try dsimp only
    obtain ⟨m, rfl⟩ : ∃ m, k = m + 1 := ⟨k - 1, by omega⟩
    have hm := hK m (by omega)
    try dsimp only
    have hgl := genL_length (fun a b => rd p (((Y : Int) + (b : Int)) * (W : Int) + ((X : Int) + (a : Int)))) wide i
    have hiW : i * wide ≤ 20 * 20 := Nat.mul_le_mul (by omega) (by omega)
    rw [spec_ImageCut.l0, if_pos (by omega), w64 (x := (Y : Int) + (i : Int)) (by omega), e1, w64 (x := (((Y + i) * W : Nat) : Int)) (by omega), e2, w64 (x := (F : Int)) (by omega), w64 (x := (F : Int) + (wide : Int)) (by omega), if_pos (by omega), if_pos (by omega), if_pos (by omega)]
    rw [show ((F : Int) + (wide : Int)).toNat = F + wide by omega, Int.toNat_natCast, cut_row p F wide (by omega)]
    rw [if_pos (by rw [hgl]; simp; omega), w64 (by omega)]
    rw [genL_succ, show ((i + 1 : Nat) : Int) = (i : Int) + 1 by omega] at hm
    rw [show (List.range wide).map (fun j : Nat => rd p ((F : Int) + (j : Int))) = rowL (fun a b => rd p (((Y : Int) + (b : Int)) * (W : Int) + ((X : Int) + (a : Int)))) wide i by
      unfold rowL
      refine List.map_congr_left fun j _ => ?_
      show rd p ((F : Int) + (j : Int)) = rd p (((Y : Int) + (i : Int)) * (W : Int) + ((X : Int) + (j : Int)))
      rw [e1, ← e2, Int.add_assoc]]
    exact hm
theorem cutP_nat {a b wd h : Int} {c p : List Int} {x y wide high : Int} (hi : imgP a b wd h c p) (hc : cutP wd h x y wide high) : ∃ W H X Y V U : Nat, wd = (W : Int) ∧ h = (H : Int) ∧ x = (X : Int) ∧ y = (Y : Int) ∧ wide = (V : Int) ∧ high = (U : Int) ∧ (1 ≤ W ∧ W ≤ 20) ∧ (1 ≤ H ∧ H ≤ 20) ∧ 1 ≤ V ∧ 1 ≤ U ∧ X + V ≤ W ∧ Y + U ≤ H ∧ p.length = H * W ∧ p.length ≤ 400 := by
  obtain ⟨-, hw, hh, hl, -⟩ := hi
  obtain ⟨c1, c2, c3, c4, c5, c6⟩ := hc
  have h4 := mul20 hw hh
  refine ⟨wd.toNat, h.toNat, x.toNat, y.toNat, wide.toNat, high.toNat, by omega, by omega, by omega, by omega, by omega, by omega, by omega, by omega, by omega, by omega, by omega, by omega, ?_, by omega⟩
  have e : (p.length : Int) = ((h.toNat * wd.toNat : Nat) : Int) := by
    rw [hl, Int.natCast_mul, Int.toNat_of_nonneg (by omega), Int.toNat_of_nonneg (by omega), Int.mul_comm]
  omega
theorem specCut_ev (a b wd h : Int) (c p : List Int) (x y wide high : Int) (hc : c.length ≤ 1048576) (hp : p.length ≤ 1048576) : Ev (fun k => spec_ImageCut.f k a b wd h c p x y wide high) (cutImg a b wd h c p x y wide high) := by
  obtain ⟨K1, h1⟩ := spec_ImageOk_ev a b wd h c p hc hp
  try dsimp only at h1
  try dsimp only at h1
  by_cases hi : imgP a b wd h c p
  · obtain ⟨-, hw, hh, -, -⟩ := id hi
    by_cases hcut : cutP wd h x y wide high
    · have e2 : cutImg a b wd h c p x y wide high = (a, b, wide, high, c, cutL wd p x y wide high, true) := if_pos ⟨hi, hcut⟩
      obtain ⟨W, H, X, Y, V, U, rfl, rfl, rfl, rfl, rfl, rfl, hW, hH, hV, hU, hX, hY, hpl, hp4⟩ := cutP_nat hi hcut
      obtain ⟨K2, h2⟩ := specCut_l0_ev a b W H c p a b V U c X Y V U hW (by omega) hX hp4 (by rw [hpl]; exact Nat.mul_le_mul_right _ hY) U 0 (by omega)
      try dsimp only at h2
      try dsimp only at h2
      refine ⟨K1 + K2 + 1, fun k hk => ?_⟩
      try dsimp only
      obtain ⟨m, rfl⟩ : ∃ m, k = m + 1 := ⟨k - 1, by omega⟩
      have h2' := h2 m (by omega)
      try dsimp only
      unfold spec_ImageCut.f
      rw [h1 _ (by omega), Option.bind_some]
      unfold imgM
      rw [if_pos (decide_eq_true hi), l1In_f, Option.bind_some, if_pos (decide_eq_true (by omega)), l1In_f, Option.bind_some, if_pos (decide_eq_true (by omega)), w64 (x := (W : Int) - (V : Int)) (by omega), l1In_f, Option.bind_some, if_pos (decide_eq_true (by omega)), w64 (x := (H : Int) - (U : Int)) (by omega), l1In_f, Option.bind_some, spec_ImageCut.j0, if_neg (by simp; omega), blank_f _ _ _ _ _ _ _ _ hc, Option.bind_some, e2]
      try dsimp only
      unfold cutL
      rw [Int.toNat_natCast, Int.toNat_natCast]
      exact h2'
    · have e2 : cutImg a b wd h c p x y wide high = (0, 0, 0, 0, [], [], false) := if_neg (fun e => hcut e.2)
      refine ⟨K1 + 1, fun k hk => ?_⟩
      try dsimp only
      obtain ⟨m, rfl⟩ : ∃ m, k = m + 1 := ⟨k - 1, by omega⟩
      try dsimp only
      unfold spec_ImageCut.f
      rw [h1 _ (by omega), Option.bind_some, e2]
      unfold imgM
      rw [if_pos (decide_eq_true hi), l1In_f, Option.bind_some]
      by_cases c1 : 1 ≤ wide ∧ wide ≤ wd
      · rw [if_pos (decide_eq_true c1), l1In_f, Option.bind_some]
        by_cases c2 : 1 ≤ high ∧ high ≤ h
        · rw [if_pos (decide_eq_true c2), w64 (x := wd - wide) (by omega), l1In_f, Option.bind_some]
          by_cases c3 : 0 ≤ x ∧ x ≤ wd - wide
          · rw [if_pos (decide_eq_true c3), w64 (x := h - high) (by omega), l1In_f, Option.bind_some]
            have c4 : ¬ (0 ≤ y ∧ y ≤ h - high) := fun e => hcut ⟨c3.1, e.1, c1.1, c2.1, by omega, by omega⟩
            rw [spec_ImageCut.j0, if_pos (by rw [decide_eq_false c4]; rfl)]
          · rw [if_neg (by simpa using c3), spec_ImageCut.j0, if_pos rfl]
        · rw [if_neg (by simpa using c2), spec_ImageCut.j0, if_pos rfl]
      · rw [if_neg (by simpa using c1), spec_ImageCut.j0, if_pos rfl]
  · have e2 : cutImg a b wd h c p x y wide high = (0, 0, 0, 0, [], [], false) := if_neg (fun e => hi e.1)
    refine ⟨K1 + 1, fun k hk => ?_⟩
    try dsimp only
    obtain ⟨m, rfl⟩ : ∃ m, k = m + 1 := ⟨k - 1, by omega⟩
    try dsimp only
    unfold spec_ImageCut.f
    rw [h1 _ (by omega), Option.bind_some]
    unfold imgM
    rw [if_neg (by simpa using hi), spec_ImageCut.j0, if_pos rfl, e2]
theorem has_f (a b wd h : Int) (c p : List Int) (x y : Int) (hw : 1 ≤ wd ∧ wd ≤ 20) (hh : 1 ≤ h ∧ h ≤ 20) : impl_Image_has.f a b wd h c p x y = some (decide ((0 ≤ x ∧ x ≤ wd - 1) ∧ (0 ≤ y ∧ y ≤ h - 1))) := by
  unfold impl_Image_has.f
  rw [w64 (x := wd - 1) (by omega), in_f, Option.bind_some]
  by_cases c1 : 0 ≤ x ∧ x ≤ wd - 1
  · rw [if_pos (decide_eq_true c1), w64 (x := h - 1) (by omega), in_f, Option.bind_some]
    by_cases c2 : 0 ≤ y ∧ y ≤ h - 1
    · rw [decide_eq_true c2, decide_eq_true ⟨c1, c2⟩]
    · rw [decide_eq_false c2, decide_eq_false (fun e => c2 e.2)]
  · rw [if_neg (by simpa using c1), decide_eq_false (fun e => c1 e.1)]
theorem implCut_ev (a b wd h : Int) (c p : List Int) (x y wide high : Int) (hc : c.length ≤ 1048576) (hp : p.length ≤ 1048576) : Ev (fun k => impl_ImageCut.f k a b wd h c p x y wide high) (cutImg a b wd h c p x y wide high) := by
  have h1 := fun k => impl_ImageOk_f k a b wd h c p hc hp
  by_cases hi : imgP a b wd h c p
  · obtain ⟨-, hw, hh, hl, -⟩ := id hi
    by_cases hcut : cutP wd h x y wide high
    · have e2 : cutImg a b wd h c p x y wide high = (a, b, wide, high, c, cutL wd p x y wide high, true) := if_pos ⟨hi, hcut⟩
      obtain ⟨W, H, X, Y, V, U, rfl, rfl, rfl, rfl, rfl, rfl, hW, hH, hV, hU, hX, hY, hpl, hp4⟩ := cutP_nat hi hcut
      obtain ⟨K2, h2⟩ := made_ev (fun x' y' => some (wrap64 ((X : Int) + x'), wrap64 ((Y : Int) + y'))) (fun x' _ => (X : Int) + (x' : Int)) (fun _ y' => (Y : Int) + (y' : Int)) a b W H c p V U (by omega) (by omega) hc (by omega) (by omega) (fun x' y' hx hy => by
        refine ⟨?_, by omega, by omega, ?_⟩
        · try dsimp only
          rw [w64 (x := (X : Int) + (x' : Int)) (by omega), w64 (x := (Y : Int) + (y' : Int)) (by omega)]
        · have := (place_lt hw hh (x := (X : Int) + (x' : Int)) (y := (Y : Int) + (y' : Int)) (by omega) (by omega)).2.1
          rw [hl]; exact this)
      try dsimp only at h2
      try dsimp only at h2
      refine ⟨K2 + 1, fun k hk => ?_⟩
      try dsimp only
      obtain ⟨m, rfl⟩ : ∃ m, k = m + 1 := ⟨k - 1, by omega⟩
      have h2' := h2 (m + 1) (by omega)
      try dsimp only
      unfold impl_ImageCut.f
      rw [h1, Option.bind_some]
      unfold imgM
      rw [if_pos (decide_eq_true hi), has_f _ _ _ _ _ _ _ _ hw hh, Option.bind_some, if_pos (decide_eq_true (by omega)), w64 (x := (W : Int) - (X : Int)) (by omega), in_f, Option.bind_some, if_pos (decide_eq_true (by omega)), w64 (x := (H : Int) - (Y : Int)) (by omega), in_f, Option.bind_some, if_pos (decide_eq_true (by omega)), h2', Option.bind_some, e2]
      try dsimp only
      unfold cutL
      rw [Int.toNat_natCast, Int.toNat_natCast]
    · have e2 : cutImg a b wd h c p x y wide high = (0, 0, 0, 0, [], [], false) := if_neg (fun e => hcut e.2)
      refine ⟨1, fun k hk => ?_⟩
      try dsimp only
      obtain ⟨m, rfl⟩ : ∃ m, k = m + 1 := ⟨k - 1, by omega⟩
      try dsimp only
      unfold impl_ImageCut.f
      rw [h1, Option.bind_some, e2]
      unfold imgM
      rw [if_pos (decide_eq_true hi), has_f _ _ _ _ _ _ _ _ hw hh, Option.bind_some]
      by_cases c1 : (0 ≤ x ∧ x ≤ wd - 1) ∧ (0 ≤ y ∧ y ≤ h - 1)
      · rw [if_pos (decide_eq_true c1), w64 (x := wd - x) (by omega), in_f, Option.bind_some]
        by_cases c2 : 1 ≤ wide ∧ wide ≤ wd - x
        · rw [if_pos (decide_eq_true c2), w64 (x := h - y) (by omega), in_f, Option.bind_some]
          have c4 : ¬ (1 ≤ high ∧ high ≤ h - y) := fun e => hcut ⟨c1.1.1, c1.2.1, c2.1, e.1, by omega, by omega⟩
          rw [if_neg (by simpa using c4)]
        · rw [if_neg (by simpa using c2)]
      · rw [if_neg (by rw [decide_eq_false c1]; decide)]
  · have e2 : cutImg a b wd h c p x y wide high = (0, 0, 0, 0, [], [], false) := if_neg (fun e => hi e.1)
    refine ⟨1, fun k hk => ?_⟩
    try dsimp only
    obtain ⟨m, rfl⟩ : ∃ m, k = m + 1 := ⟨k - 1, by omega⟩
    try dsimp only
    unfold impl_ImageCut.f
    rw [h1, Option.bind_some]
    unfold imgM
    rw [if_neg (by simpa using hi), e2]
theorem cutImg_small (a b wd h : Int) (c p : List Int) (x y wide high : Int) (hc : c.length ≤ 1048576) : (cutImg a b wd h c p x y wide high).2.2.2.2.1.length ≤ 1048576 ∧ (cutImg a b wd h c p x y wide high).2.2.2.2.2.1.length ≤ 400 := by
  unfold cutImg
  split
  · rename_i e
    obtain ⟨⟨-, hw, hh, -, -⟩, c1, c2, c3, c4, c5, c6⟩ := e
    exact ⟨hc, genL_small _ (by omega) (by omega)⟩
  · simp
theorem implAt_f (k : Nat) (a b wd h : Int) (c p : List Int) (x y : Int) (hc : c.length ≤ 1048576) (hp : p.length ≤ 1048576) : impl_ImageAt.f (k + 1) a b wd h c p x y = some (atM a b wd h c p x y) := by
  unfold impl_ImageAt.f atM
  rw [impl_ImageOk_f k a b wd h c p hc hp, Option.bind_some]
  unfold imgM
  by_cases hi : imgP a b wd h c p
  · have hi2 := hi
    obtain ⟨-, hw, hh, hl, -⟩ := hi2
    rw [if_pos (decide_eq_true hi)]
    unfold impl_Image_has.f
    rw [w64 (x := wd - 1) (by omega), w64 (x := h - 1) (by omega), in_f, Option.bind_some]
    by_cases hx : 0 ≤ x ∧ x ≤ wd - 1
    · rw [if_pos (decide_eq_true hx), in_f, Option.bind_some, Option.bind_some]
      by_cases hy : 0 ≤ y ∧ y ≤ h - 1
      · have hpl := place_b hw hh hx hy
        rw [if_pos (decide_eq_true hy), w64 (x := y * wd) (by omega), w64 (x := y * wd + x) (by omega), if_pos (by omega), if_pos (by omega), if_pos ⟨hi, hx, hy⟩]
      · rw [if_neg (by simpa using hy), if_neg (fun h => hy h.2.2)]
    · rw [if_neg (by simpa using hx), Option.bind_some, if_neg (by decide), if_neg (fun h => hx h.2.1)]
  · rw [if_neg (by simpa using hi), if_neg (fun h => hi h.1)]

theorem l1LeastC_f (n : Int) : ∃ v : Int, (0 ≤ v ∧ v ≤ 40) ∧ spec_l1Least.f n = some v := by
  unfold spec_l1Least.f
  by_cases h1 : n < 0
  · exact ⟨0, by omega, by rw [if_pos h1]⟩
  · by_cases h2 : n > 40
    · exact ⟨40, by omega, by rw [if_neg h1, if_pos h2]⟩
    · exact ⟨n, by omega, by rw [if_neg h1, if_neg h2]⟩
theorem drawImageCut_ev {b : List Int} (hb : ∀ x ∈ b, (Lit.int .u8 x).wf = true) : ∃ (a dd w h : Int) (c p : List Int) (x y u v : Int), (c.length ≤ 1000 ∧ p.length ≤ 1000) ∧ Ev (fun k => spec_DrawImageCut.f k b) (a, dd, w, h, c, p, x, y, u, v) := by
  obtain ⟨⟨a, dd, w, h, c, pt, p⟩, hg, K1, h1⟩ := l14Any_ev (code_open hb)
  obtain ⟨g1, g2, g3⟩ := hg
  try dsimp only at g1 g2 g3 h1
  obtain ⟨v1, hv1, e1⟩ := l1LeastC_f w
  obtain ⟨v2, hv2, e2⟩ := l1LeastC_f h
  obtain ⟨x, hx, K2, h2⟩ := pick_ev (code_open hb) (p := p) (n := v1 + 1) (by omega) (by omega)
  try dsimp only at h2
  obtain ⟨y, hy, K3, h3⟩ := pick_ev (code_open hb) (p := p + 1) (n := v2 + 1) (by omega) (by omega)
  try dsimp only at h3
  obtain ⟨u, hu, K4, h4⟩ := pick_ev (code_open hb) (p := p + 1 + 1) (n := v1 - x + 2) (by omega) (by omega)
  try dsimp only at h4
  obtain ⟨v, hv, K5, h5⟩ := pick_ev (code_open hb) (p := p + 1 + 1 + 1) (n := v2 - y + 2) (by omega) (by omega)
  try dsimp only at h5
  try dsimp only at h2 h3 h4 h5
  refine ⟨a, dd, w, h, c, pt, x, y, u, v, ⟨g1, g2⟩, K1 + K2 + K3 + K4 + K5, fun k hk => ?_⟩
  try dsimp only
  try dsimp only
  unfold spec_DrawImageCut.f
  rw [l1Open_f, Option.bind_some]
  try dsimp only
  rw [h1 k (by omega), Option.bind_some]
  try dsimp only
  rw [e1, Option.bind_some, w64 (x := v1 + 1) (by omega), h2 k (by omega), Option.bind_some]
  try dsimp only
  rw [e2, Option.bind_some, w64 (x := v2 + 1) (by omega), h3 k (by omega), Option.bind_some]
  try dsimp only
  rw [Option.bind_some, w64 (x := v1 - x) (by omega), w64 (x := v1 - x + 2) (by omega), h4 k (by omega), Option.bind_some]
  try dsimp only
  rw [Option.bind_some, w64 (x := v2 - y) (by omega), w64 (x := v2 - y + 2) (by omega), h5 k (by omega), Option.bind_some]
theorem cut_end {k d : Int} {W H : Nat} {c p : List Int} (hi : imgP k d W H c p) (hc : c.length ≤ 1000) (hp : p.length ≤ 1000) : Ev (fun m => impl_ImageCut.f m k d W H c p 0 0 W H) (k, d, (W : Int), (H : Int), c, p, true) := by
  obtain ⟨W', H', e1, e2, hW, hH, hpl, hp4⟩ := imgP_nat hi
  have e3 : W' = W := by omega
  have e4 : H' = H := by omega
  subst e3; subst e4
  have h := implCut_ev k d W' H' c p 0 0 W' H' (by omega) (by omega)
  have e : cutImg k d W' H' c p 0 0 W' H' = (k, d, (W' : Int), (H' : Int), c, p, true) := by
    unfold cutImg
    rw [if_pos ⟨hi, by omega, by omega, by omega, by omega, by omega, by omega⟩]
    have : cutL (W' : Int) p 0 0 W' H' = p := by
      unfold cutL
      rw [Int.toNat_natCast, Int.toNat_natCast]
      refine Eq.trans ?_ (genL_self p W' H' hpl)
      refine genL_congr fun x y _ _ => ?_
      rw [Int.zero_add, Int.zero_add]
    rw [this]
  rw [e] at h
  exact h
theorem cut_ok {k d : Int} {W H X Y V U : Nat} {c p : List Int} (hi : imgP k d W H c p) (hV : 1 ≤ V) (hU : 1 ≤ U) (hX : X + V ≤ W) (hY : Y + U ≤ H) : imgP k d V U c (cutL W p X Y V U) := by
  obtain ⟨-, hw, hh, hl, -⟩ := id hi
  unfold cutL
  rw [Int.toNat_natCast, Int.toNat_natCast]
  refine gen_ok hi V U (by omega) (by omega) _ fun x y hx hy => ⟨_, ?_, ?_, rfl⟩
  · have := place_lt hw hh (x := (X : Int) + (x : Int)) (y := (Y : Int) + (y : Int)) (by omega) (by omega)
    omega
  · have := place_lt hw hh (x := (X : Int) + (x : Int)) (y := (Y : Int) + (y : Int)) (by omega) (by omega)
    omega
theorem cut_at {k d : Int} {W H X Y V U : Nat} {c p : List Int} (hi : imgP k d W H c p) (hV : 1 ≤ V) (hU : 1 ≤ U) (hX : X + V ≤ W) (hY : Y + U ≤ H) {s q : Nat} (hs : s < V) (hq : q < U) : atM k d V U c (cutL W p X Y V U) (s : Int) (q : Int) = (rd p (((Y : Int) + (q : Int)) * (W : Int) + ((X : Int) + (s : Int))), true) ∧ atM k d W H c p ((X : Int) + (s : Int)) ((Y : Int) + (q : Int)) = (rd p (((Y : Int) + (q : Int)) * (W : Int) + ((X : Int) + (s : Int))), true) := by
  have hok := cut_ok hi hV hU hX hY
  obtain ⟨-, hw, hh, hl, -⟩ := id hi
  constructor
  · unfold atM
    rw [if_pos ⟨hok, by omega, by omega⟩]
    unfold cutL
    rw [Int.toNat_natCast, Int.toNat_natCast, rd_genL _ hs hq]
  · unfold atM
    rw [if_pos ⟨hi, by omega, by omega⟩]
theorem cut_l0_ev {k d : Int} {W H X Y V U : Nat} {c p : List Int} (hi : imgP k d W H c p) (hc : c.length ≤ 1000) (hp : p.length ≤ 1000) (hW : W ≤ 20) (hH : H ≤ 20) (hV : 1 ≤ V) (hU : 1 ≤ U) (hX : X + V ≤ W) (hY : Y + U ≤ H) : ∀ e i : Nat, i + e = V * U → Ev (fun m => laws_FnImageCut.l0 m (X : Int) (Y : Int) (V : Int) (U : Int) (i : Int) k d W H c p k d V U c (cutL W p X Y V U)) true := by
  have hok := cut_ok hi hV hU hX hY
  have hVU : V * U ≤ 20 * 20 := Nat.mul_le_mul (by omega) (by omega)
  have eVU : (V : Int) * (U : Int) = ((V * U : Nat) : Int) := by simp
  have hcl : (cutL W p X Y V U).length ≤ 400 := by
    unfold cutL
    rw [Int.toNat_natCast, Int.toNat_natCast, genL_length, Nat.mul_comm]; omega
  intro e
  induction e with
  | zero =>
    intro i hie
    obtain ⟨K1, h1⟩ := cut_end hi hc hp
    try dsimp only at h1
    obtain ⟨K2, h2⟩ := wiImage_ev k d W H c p (by omega) (by omega)
    try dsimp only at h2
    try dsimp only at h1 h2
    refine ⟨K1 + K2 + 2, fun m hm => ?_⟩
    obtain ⟨n, rfl⟩ : ∃ n, m = n + 2 := ⟨m - 2, by omega⟩
    try dsimp only
    rw [laws_FnImageCut.l0, eVU, w64 (x := ((V * U : Nat) : Int)) (by omega), if_neg (by omega), h1 _ (by omega), Option.bind_some]
    try dsimp only
    rw [impl_ImageOk_f n _ _ _ _ _ _ (by omega) (by omega), Option.bind_some]
    unfold imgM
    rw [if_pos (decide_eq_true hok), if_pos rfl, h2 _ (by omega), Option.bind_some]
  | succ e ih =>
    intro i hie
    obtain ⟨K1, h1⟩ := ih (i + 1) (by omega)
    try dsimp only at h1
    try dsimp only at h1
    have hx : i % V < V := Nat.mod_lt _ hV
    have hy : i / V < U := by rw [Nat.div_lt_iff_lt_mul hV, Nat.mul_comm]; omega
    have em : Int.tmod (i : Int) (V : Int) = ((i % V : Nat) : Int) := by rw [tmod_pos (by omega)]; simp
    have ed : Int.tdiv (i : Int) (V : Int) = ((i / V : Nat) : Int) := by rw [tdiv_pos (by omega)]; simp
    obtain ⟨s, hs⟩ : ∃ s, s = i % V := ⟨_, rfl⟩
    obtain ⟨q, hq⟩ : ∃ q, q = i / V := ⟨_, rfl⟩
    rw [← hs] at hx em
    rw [← hq] at hy ed
    obtain ⟨a1, a2⟩ := cut_at hi hV hU hX hY hx hy
    refine ⟨K1 + 3, fun m hm => ?_⟩
    obtain ⟨n, rfl⟩ : ∃ n, m = n + 3 := ⟨m - 3, by omega⟩
    have hm1 := h1 (n + 1) (by omega)
    rw [show ((i + 1 : Nat) : Int) = (i : Int) + 1 by omega] at hm1
    try dsimp only
    rw [laws_FnImageCut.l0, eVU, w64 (x := ((V * U : Nat) : Int)) (by omega), if_pos (by omega), if_neg (by omega), em, ed, w64 (x := (q : Int)) (by omega), w64 (x := (X : Int) + (s : Int)) (by omega), w64 (x := (Y : Int) + (q : Int)) (by omega), implAt_f (n + 1) _ _ _ _ _ _ _ _ (by omega) (by omega), Option.bind_some, implAt_f (n + 1) _ _ _ _ _ _ _ _ (by omega) (by omega), Option.bind_some, a1, a2]
    try dsimp only
    rw [if_pos rfl, if_pos rfl, bne_self_eq_false, laws_FnImageCut.j2, if_neg (by decide), w64 (by omega)]
    exact hm1
theorem FnImageCut : laws_FnImageCut.Pure := by
  intro l hl _ hw
  unfold laws_FnImageCut.f
  by_cases hz : (l.length : Int) > 1048576
  · exact ⟨0, by rw [if_pos hz]⟩
  obtain ⟨a, dd, w, h, c, p, x, y, u, v, ⟨hc, hp⟩, K1, h1⟩ := drawImageCut_ev hw
  try dsimp only at h1
  obtain ⟨K2, h2⟩ := implCut_ev a dd w h c p x y u v (by omega) (by omega)
  try dsimp only at h2
  obtain ⟨K3, h3⟩ := specCut_ev a dd w h c p x y u v (by omega) (by omega)
  try dsimp only at h3
  obtain ⟨K4, h4⟩ := spec_ImageOk_ev a dd w h c p (by omega) (by omega)
  try dsimp only at h4
  have hs := cutImg_small a dd w h c p x y u v (by omega)
  try dsimp only at h1 h2 h3 h4
  by_cases hcu : imgP a dd w h c p ∧ cutP w h x y u v
  · obtain ⟨hi, hcut⟩ := hcu
    have e0 : cutImg a dd w h c p x y u v = (a, dd, u, v, c, cutL w p x y u v, true) := if_pos ⟨hi, hcut⟩
    rw [e0] at h2 h3 hs
    try dsimp only at hs
    obtain ⟨W, H, X, Y, V, U, rfl, rfl, rfl, rfl, rfl, rfl, hW, hH, hV, hU, hX, hY, hpl, hp4⟩ := cutP_nat hi hcut
    obtain ⟨K5, h5⟩ := cut_l0_ev hi hc hp hW.2 hH.2 hV hU hX hY (V * U) 0 (by omega)
    try dsimp only at h5
    obtain ⟨K6, h6⟩ := wiImage_ev a dd V U c (cutL W p X Y V U) (by omega) (by omega)
    try dsimp only at h6
    try dsimp only at h5 h6
    refine ⟨K1 + K2 + K3 + K4 + K5 + K6 + 2, ?_⟩
    rw [if_neg hz, h1 _ (by omega), Option.bind_some]
    try dsimp only
    rw [h2 _ (by omega), Option.bind_some]
    try dsimp only
    rw [h3 _ (by omega), Option.bind_some]
    try dsimp only
    rw [h6 _ (by omega), Option.bind_some, if_pos rfl, bne_self_eq_false, if_neg (by decide), impl_ImageOk_f _ _ _ _ _ _ _ (by omega) (by omega), Option.bind_some, h4 _ (by omega), Option.bind_some, bne_self_eq_false, laws_FnImageCut.j0, if_neg (by decide), if_pos rfl]
    exact h5 _ (by omega)
  · have e0 : cutImg a dd w h c p x y u v = (0, 0, 0, 0, [], [], false) := if_neg hcu
    rw [e0] at h2 h3 hs
    obtain ⟨K6, h6⟩ := wiImage_ev 0 0 0 0 [] [] (by simp) (by simp)
    try dsimp only at h6
    try dsimp only at h6
    refine ⟨K1 + K2 + K3 + K4 + K6 + 2, ?_⟩
    rw [if_neg hz, h1 _ (by omega), Option.bind_some]
    try dsimp only
    rw [h2 _ (by omega), Option.bind_some]
    try dsimp only
    rw [h3 _ (by omega), Option.bind_some]
    try dsimp only
    rw [h6 _ (by omega), Option.bind_some, if_pos rfl, bne_self_eq_false, if_neg (by decide), impl_ImageOk_f _ _ _ _ _ _ _ (by omega) (by omega), Option.bind_some, h4 _ (by omega), Option.bind_some, bne_self_eq_false, laws_FnImageCut.j0, if_neg (by decide), if_neg (by decide)]
    rfl

end Go.Proofs.Ytkjfefiphdloiaa.Pure
