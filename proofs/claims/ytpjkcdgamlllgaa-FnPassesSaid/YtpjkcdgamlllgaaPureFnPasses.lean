/- Each point of a picture is in just one part, at every code of at most 1048576 bytes (a longer one is let by): of the size that the drawing draws: the parts together have as many points as there are, and no two have one. -/
import Derived.Test.YtpjkcdgamlllgaaHFnPassesx5
import Derived.Test.YtpjkcdgamlllgaaThNum
import Derived.Test.YtpjkcdgamlllgaaThXor
import Derived.Test.YtpjkcdgamlllgaaThPasses
namespace Go.Proofs.Ytpjkcdgamlllgaa.Pure
open Go.RowKit Go.Proofs.Ytpjkcdgamlllgaa.PFnPasses Go.Proofs.YtpjkcdgamlllgaaW.PrintWords Go.Proofs.YtpjkcdgamlllgaaW.PrintLast Go.Proofs.YtpjkcdgamlllgaaW.PrintMore Go.Proofs.Ytpjkcdgamlllgaa.Th
set_option linter.unusedVariables false
set_option linter.unusedSimpArgs false

/-- A drawing's bytes. -/
def Code (b : List Int) : Prop := b.length ≤ 2000 ∧ ∀ x ∈ b, 0 ≤ x ∧ x ≤ 255
theorem l1Open_f (l : List Int) : spec_l1Open.f l = some (l.take 2000, 0) := by
  unfold spec_l1Open.f
  by_cases h : (l.length : Int) > 2000
  · rw [if_pos h, if_pos (by omega)]
  · rw [if_neg h, List.take_of_length_le (by omega)]
theorem code_open {l : List Int} (h : ∀ x ∈ l, (Lit.int .u8 x).wf = true) : Code (l.take 2000) := by
  refine ⟨by rw [List.length_take]; omega, fun x hx => ?_⟩
  have := h x (List.mem_of_mem_take hx)
  simp [Lit.wf, IntKind.min, IntKind.max, IntKind.bits, IntKind.signed] at this
  omega
theorem code_rd {b : List Int} (h : Code b) (i : Int) : 0 ≤ rd b i ∧ rd b i ≤ 255 := by
  rcases rd_mem_or b i with h1 | h1
  · exact h.2 _ h1
  · omega
/-- What is picked is there, and the place is one further. -/
theorem pick_ev {b : List Int} (hb : Code b) {p n : Int} (hp : 0 ≤ p ∧ p ≤ 1099511627776) (hn : n ≤ 1099511627776) : ∃ v : Int, (0 ≤ v ∧ (v < n ∨ n < 1 ∧ v = 0)) ∧ Ev (fun k => spec_l1Rd_pick.f k b p n) (v, p + 1) := by
  unfold spec_l1Rd_pick.f
  rw [w64 (x := p + 1) (by omega)]
  by_cases h1 : n < 1
  · refine ⟨0, ⟨by omega, .inr ⟨h1, rfl⟩⟩, 1, fun k hk => ?_⟩
    try dsimp only
    obtain ⟨m, rfl⟩ : ∃ m, k = m + 1 := ⟨k - 1, by omega⟩
    try dsimp only
    rw [if_pos h1, spec_l1Rd_pick.j0, if_pos rfl]
  by_cases h2 : b.length = 0
  · refine ⟨0, ⟨by omega, .inl (by omega)⟩, 1, fun k hk => ?_⟩
    try dsimp only
    obtain ⟨m, rfl⟩ : ∃ m, k = m + 1 := ⟨k - 1, by omega⟩
    try dsimp only
    rw [if_neg h1, spec_l1Rd_pick.j0, if_pos (by simp [h2])]
  have e0 : wrap64 (p + 1 - 1) = p := by rw [w64 (by omega)]; omega
  by_cases h3 : p < b.length
  · have hr := code_rd hb p
    refine ⟨rd b p % n, ⟨Int.emod_nonneg _ (by omega), .inl (Int.emod_lt_of_pos _ (by omega))⟩, 1, fun k hk => ?_⟩
    try dsimp only
    obtain ⟨m, rfl⟩ : ∃ m, k = m + 1 := ⟨k - 1, by omega⟩
    try dsimp only
    rw [if_neg h1, spec_l1Rd_pick.j0, if_neg (by simpa using h2), e0, if_pos h3, if_pos hp.1, if_neg (by omega), w64 (by omega), tmod_pos hr.1]
  · have hl := hb.1
    have m1 : 0 ≤ p % (b.length : Int) ∧ p % (b.length : Int) < b.length := ⟨Int.emod_nonneg _ (by omega), Int.emod_lt_of_pos _ (by omega)⟩
    have m2 : 0 ≤ (p * 7 + 3) % (b.length : Int) ∧ (p * 7 + 3) % (b.length : Int) < b.length := ⟨Int.emod_nonneg _ (by omega), Int.emod_lt_of_pos _ (by omega)⟩
    have r1 := code_rd hb (p % (b.length : Int))
    have r2 := code_rd hb ((p * 7 + 3) % (b.length : Int))
    have q1 : 0 ≤ p / (b.length : Int) := Int.ediv_nonneg hp.1 (by omega)
    have q2 : p / (b.length : Int) ≤ p := Int.ediv_le_self _ hp.1
    obtain ⟨X, hX⟩ : ∃ X, X = rd b (p % (b.length : Int)) * 131 + rd b ((p * 7 + 3) % (b.length : Int)) * 1117 + p * 29 + p / (b.length : Int) * 53 := ⟨_, rfl⟩
    have bX : 0 ≤ X ∧ X ≤ 4611686018427387904 := by omega
    have hx := xor_b (x := X) (y := X / 64) (by omega) (by omega)
    refine ⟨Go.bits .xor .i64 X (X / 64) % n, ⟨Int.emod_nonneg _ (by omega), .inl (Int.emod_lt_of_pos _ (by omega))⟩, 1, fun k hk => ?_⟩
    try dsimp only
    obtain ⟨m, rfl⟩ : ∃ m, k = m + 1 := ⟨k - 1, by omega⟩
    try dsimp only
    rw [if_neg h1, spec_l1Rd_pick.j0, if_neg (by simpa using h2), e0, if_neg h3, if_neg (by omega)]
    rw [w64 (x := p * 7) (by omega), w64 (x := p * 7 + 3) (by omega), tmod_pos (a := p) hp.1, tmod_pos (a := p * 7 + 3) (by omega), tdiv_pos (a := p) hp.1]
    rw [if_pos m1.1, if_pos m1.2, if_pos m2.1, if_pos m2.2, if_neg (by omega)]
    rw [w64 (x := rd b (p % (b.length : Int))) (by omega), w64 (x := rd b ((p * 7 + 3) % (b.length : Int))) (by omega), w64 (x := p / (b.length : Int)) (by omega)]
    rw [w64 (x := rd b (p % (b.length : Int)) * 131) (by omega), w64 (x := rd b ((p * 7 + 3) % (b.length : Int)) * 1117) (by omega), w64 (x := p * 29) (by omega), w64 (x := p / (b.length : Int) * 53) (by omega)]
    rw [w64 (x := rd b (p % (b.length : Int)) * 131 + rd b ((p * 7 + 3) % (b.length : Int)) * 1117) (by omega), w64 (x := rd b (p % (b.length : Int)) * 131 + rd b ((p * 7 + 3) % (b.length : Int)) * 1117 + p * 29) (by omega), w64 (x := rd b (p % (b.length : Int)) * 131 + rd b ((p * 7 + 3) % (b.length : Int)) * 1117 + p * 29 + p / (b.length : Int) * 53) (by omega), ← hX]
    rw [tdiv_pos (by omega), w64 (x := X / 64) (by omega), tmod_pos hx.1]
theorem in_f (a b c : Int) : impl_in.f a b c = some (decide (b ≤ a ∧ a ≤ c)) := by
  unfold impl_in.f
  by_cases h : b ≤ a
  · rw [if_pos h]; simp [h]
  · rw [if_neg h]; simp [h]
theorem l1In_f (a b c : Int) : spec_l1In.f a b c = some (decide (b ≤ a ∧ a ≤ c)) := by
  unfold spec_l1In.f
  by_cases h : b ≤ a
  · rw [if_pos h]; simp [h]
  · rw [if_neg h]; simp [h]

def base (q : Nat × Nat × Nat × Nat) : S62 := ⟨(q.1 : Int), (q.2.1 : Int), (q.2.2.1 : Int), (q.2.2.2 : Int), 0, 0⟩
def toP (w h : Nat) (q : Nat × Nat × Nat × Nat) : S62 := ⟨(q.1 : Int), (q.2.1 : Int), (q.2.2.1 : Int), (q.2.2.2 : Int), (many w q.1 q.2.2.1 : Int), (many h q.2.1 q.2.2.2 : Int)⟩
def passL (w h : Nat) : List S62 := (Q7.filter (keep w h)).map (toP w h)
theorem B7_eq : ([(⟨0, 0, 8, 8, 0, 0⟩ : S62), (⟨4, 0, 8, 8, 0, 0⟩ : S62), (⟨0, 4, 4, 8, 0, 0⟩ : S62), (⟨2, 0, 4, 4, 0, 0⟩ : S62), (⟨0, 2, 2, 4, 0, 0⟩ : S62), (⟨1, 0, 2, 2, 0, 0⟩ : S62), (⟨0, 1, 1, 2, 0, 0⟩ : S62)] : List S62) = Q7.map base := rfl
theorem rd_base (pre suf : List (Nat × Nat × Nat × Nat)) (q : Nat × Nat × Nat × Nat) : rd_T62 ((pre ++ q :: suf).map base) (pre.length : Int) = base q := by
  unfold rd_T62
  rw [Int.toNat_natCast, List.map_append, List.map_cons, List.getD_eq_getElem?_getD, List.getElem?_append_right (by simp)]
  simp
theorem rd_pass (w h : Nat) (pre suf : List (Nat × Nat × Nat × Nat)) (q : Nat × Nat × Nat × Nat) : rd_T62 ((pre ++ q :: suf).map (toP w h)) (pre.length : Int) = toP w h q := by
  unfold rd_T62
  rw [Int.toNat_natCast, List.map_append, List.map_cons, List.getD_eq_getElem?_getD, List.getElem?_append_right (by simp)]
  simp
theorem many_int {n o d : Nat} (hn : n ≤ 20) (ho : o < n) (hd : 1 ≤ d ∧ d ≤ 8) : wrap64 (Int.tdiv (wrap64 (wrap64 (wrap64 ((n : Int) - (o : Int)) + (d : Int)) - 1)) (d : Int)) = (many n o d : Int) := by
  rw [w64 (x := (n : Int) - (o : Int)) (by omega), w64 (x := (n : Int) - (o : Int) + (d : Int)) (by omega), w64 (x := (n : Int) - (o : Int) + (d : Int) - 1) (by omega), tdiv_pos (by omega)]
  unfold many
  rw [show (n : Int) - (o : Int) + (d : Int) - 1 = ((n - o + d - 1 : Nat) : Int) by omega]
  have hle : (n - o + d - 1) / d ≤ n - o + d - 1 := Nat.div_le_self _ _
  rw [show ((n - o + d - 1 : Nat) : Int) / (d : Int) = (((n - o + d - 1) / d : Nat) : Int) by simp]
  generalize (n - o + d - 1) / d = z at hle
  rw [w64 (by omega)]
theorem specPass_l0_ev (w h : Nat) (hw : 1 ≤ w ∧ w ≤ 20) (hh : 1 ≤ h ∧ h ≤ 20) : ∀ (suf pre : List (Nat × Nat × Nat × Nat)) (out : List S62), Q7 = pre ++ suf → out.length ≤ pre.length → Ev (fun k => spec_l9Passes.l0 k (w : Int) (h : Int) (Q7.map base) out (pre.length : Int)) (out ++ (suf.filter (keep w h)).map (toP w h)) := by
  have h7 : Q7.length = 7 := rfl
  intro suf
  induction suf with
  | nil =>
    intro pre out e ho
    refine ⟨1, fun k hk => ?_⟩
    try dsimp only
    obtain ⟨m, rfl⟩ : ∃ m, k = m + 1 := ⟨k - 1, by omega⟩
    try dsimp only
    rw [spec_l9Passes.l0, if_neg (by rw [e]; simp)]
    simp
  | cons q suf ih =>
    intro pre out e ho
    have hll : pre.length + suf.length + 1 = 7 := by rw [← h7, e]; simp; omega
    have hml : ((Q7.map base).length : Int) = 7 := by rw [List.length_map, h7]; rfl
    have hq := Q7_b q (by rw [e]; simp)
    have hrd : rd_T62 (Q7.map base) (pre.length : Int) = base q := by rw [e]; exact rd_base pre suf q
    by_cases c : keep w h q = true
    · have c1 := of_decide_eq_true c
      obtain ⟨K, hK⟩ := ih (pre ++ [q]) (out ++ [toP w h q]) (by simp [e]) (by simp; omega)
      try dsimp only at hK
      try dsimp only at hK
      refine ⟨K + 1, fun k hk => ?_⟩
      try dsimp only
      obtain ⟨m, rfl⟩ : ∃ m, k = m + 1 := ⟨k - 1, by omega⟩
      have hm := hK m (by omega)
      rw [List.length_append, List.length_singleton, show ((pre.length + 1 : Nat) : Int) = (pre.length : Int) + 1 by omega, List.append_assoc] at hm
      try dsimp only
      rw [spec_l9Passes.l0, if_pos (by omega), if_pos (by omega), hrd, if_neg (show ¬ (base q).f2 = 0 by simp only [base]; omega), if_neg (show ¬ (base q).f3 = 0 by simp only [base]; omega), if_pos (by simp only [base]; omega), if_pos (by simp only [base]; omega), if_pos (by omega)]
      try dsimp only [base]
      rw [many_int hw.2 c1.1 hq.2.2.1, many_int hh.2 c1.2 hq.2.2.2, w64 (by omega), List.filter_cons_of_pos c, List.map_cons]
      exact hm
    · obtain ⟨K, hK⟩ := ih (pre ++ [q]) out (by simp [e]) (by simp; omega)
      try dsimp only at hK
      try dsimp only at hK
      refine ⟨K + 1, fun k hk => ?_⟩
      try dsimp only
      obtain ⟨m, rfl⟩ : ∃ m, k = m + 1 := ⟨k - 1, by omega⟩
      have hm := hK m (by omega)
      rw [List.length_append, List.length_singleton, show ((pre.length + 1 : Nat) : Int) = (pre.length : Int) + 1 by omega] at hm
      try dsimp only
      rw [spec_l9Passes.l0, if_pos (by omega), if_pos (by omega), hrd, List.filter_cons_of_neg c, if_neg (show ¬ (base q).f2 = 0 by simp only [base]; omega), if_neg (show ¬ (base q).f3 = 0 by simp only [base]; omega), w64 (x := (pre.length : Int) + 1) (by omega)]
      by_cases c1 : (base q).f0 < (w : Int)
      · have c2 : ¬ ((base q).f1 < (h : Int)) := fun e9 => c (decide_eq_true ⟨by simp only [base] at c1; omega, by simp only [base] at e9; omega⟩)
        rw [if_pos c1, if_neg c2]; exact hm
      · rw [if_neg c1]; exact hm
theorem implPass_l0_ev (w h : Nat) (hw : 1 ≤ w ∧ w ≤ 20) (hh : 1 ≤ h ∧ h ≤ 20) : ∀ (suf pre : List (Nat × Nat × Nat × Nat)) (out : List S62), Q7 = pre ++ suf → out.length ≤ pre.length → Ev (fun k => impl_PassesOf.l0 k (w : Int) (h : Int) out (Q7.map base) 7 (pre.length : Int)) (out ++ (suf.filter (keep w h)).map (toP w h)) := by
  have h7 : Q7.length = 7 := rfl
  intro suf
  induction suf with
  | nil =>
    intro pre out e ho
    have hll : pre.length = 7 := by rw [← h7, e]; simp
    refine ⟨1, fun k hk => ?_⟩
    try dsimp only
    obtain ⟨m, rfl⟩ : ∃ m, k = m + 1 := ⟨k - 1, by omega⟩
    try dsimp only
    rw [impl_PassesOf.l0, if_neg (by omega)]
    simp
  | cons q suf ih =>
    intro pre out e ho
    have hll : pre.length + suf.length + 1 = 7 := by rw [← h7, e]; simp; omega
    have hml : ((Q7.map base).length : Int) = 7 := by rw [List.length_map, h7]; rfl
    have hq := Q7_b q (by rw [e]; simp)
    have hrd : rd_T62 (Q7.map base) (pre.length : Int) = base q := by rw [e]; exact rd_base pre suf q
    by_cases c : keep w h q = true
    · have c1 := of_decide_eq_true c
      obtain ⟨K, hK⟩ := ih (pre ++ [q]) (out ++ [toP w h q]) (by simp [e]) (by simp; omega)
      try dsimp only at hK
      try dsimp only at hK
      refine ⟨K + 1, fun k hk => ?_⟩
      try dsimp only
      obtain ⟨m, rfl⟩ : ∃ m, k = m + 1 := ⟨k - 1, by omega⟩
      have hm := hK m (by omega)
      rw [List.length_append, List.length_singleton, show ((pre.length + 1 : Nat) : Int) = (pre.length : Int) + 1 by omega, List.append_assoc] at hm
      try dsimp only
      rw [impl_PassesOf.l0, if_pos (by omega), if_pos (by omega), if_pos (by omega), hrd, if_neg (show ¬ (base q).f2 = 0 by simp only [base]; omega), if_neg (show ¬ (base q).f3 = 0 by simp only [base]; omega), if_pos (by simp only [base]; omega), if_pos (by simp only [base]; omega), if_pos (by omega)]
      try dsimp only [base]
      rw [many_int hw.2 c1.1 hq.2.2.1, many_int hh.2 c1.2 hq.2.2.2, w64 (by omega), List.filter_cons_of_pos c, List.map_cons]
      exact hm
    · obtain ⟨K, hK⟩ := ih (pre ++ [q]) out (by simp [e]) (by simp; omega)
      try dsimp only at hK
      try dsimp only at hK
      refine ⟨K + 1, fun k hk => ?_⟩
      try dsimp only
      obtain ⟨m, rfl⟩ : ∃ m, k = m + 1 := ⟨k - 1, by omega⟩
      have hm := hK m (by omega)
      rw [List.length_append, List.length_singleton, show ((pre.length + 1 : Nat) : Int) = (pre.length : Int) + 1 by omega] at hm
      try dsimp only
      rw [impl_PassesOf.l0, if_pos (by omega), if_pos (by omega), if_pos (by omega), hrd, List.filter_cons_of_neg c, if_neg (show ¬ (base q).f2 = 0 by simp only [base]; omega), if_neg (show ¬ (base q).f3 = 0 by simp only [base]; omega), w64 (x := (pre.length : Int) + 1) (by omega)]
      by_cases c1 : (w : Int) > (base q).f0
      · have c2 : ¬ ((h : Int) > (base q).f1) := fun e9 => c (decide_eq_true ⟨by simp only [base] at c1; omega, by simp only [base] at e9; omega⟩)
        rw [if_pos c1, if_neg c2]; exact hm
      · rw [if_neg c1]; exact hm
def sizeP (w h : Int) : Prop := (1 ≤ w ∧ w ≤ 20) ∧ (1 ≤ h ∧ h ≤ 20)
instance (w h : Int) : Decidable (sizeP w h) := by unfold sizeP; infer_instance
def passM (w h : Int) : List S62 := if sizeP w h then passL w.toNat h.toNat else []
theorem specPass_ev (w h : Int) : Ev (fun k => spec_PassesOf.f k w h) (passM w h) := by
  unfold passM
  by_cases c : sizeP w h
  · obtain ⟨c1, c2⟩ := id c
    obtain ⟨W, rfl⟩ : ∃ W : Nat, w = (W : Int) := ⟨w.toNat, by omega⟩
    obtain ⟨H, rfl⟩ : ∃ H : Nat, h = (H : Int) := ⟨h.toNat, by omega⟩
    obtain ⟨K, hK⟩ := specPass_l0_ev W H (by omega) (by omega) Q7 [] [] rfl (by simp)
    try dsimp only at hK
    try dsimp only at hK
    refine ⟨K + 1, fun k hk => ?_⟩
    try dsimp only
    obtain ⟨m, rfl⟩ : ∃ m, k = m + 1 := ⟨k - 1, by omega⟩
    have hm := hK m (by omega)
    try dsimp only
    unfold spec_PassesOf.f spec_l9Passes.f spec_l9All.f
    rw [l1In_f, Option.bind_some, if_pos (decide_eq_true c1), l1In_f, Option.bind_some, if_pos (decide_eq_true c2), Option.bind_some, if_pos rfl, spec_l9Passes.j0, B7_eq, if_pos c, Int.toNat_natCast, Int.toNat_natCast]
    rw [show (0 : Int) = (([] : List (Nat × Nat × Nat × Nat)).length : Int) from rfl, hm, Option.bind_some]
    rfl
  · refine ⟨0, fun k hk => ?_⟩
    try dsimp only
    try dsimp only
    unfold spec_PassesOf.f
    rw [if_neg c, l1In_f, Option.bind_some]
    by_cases c1 : 1 ≤ w ∧ w ≤ 20
    · have c2 : ¬ (1 ≤ h ∧ h ≤ 20) := fun e => c ⟨c1, e⟩
      rw [if_pos (decide_eq_true c1), l1In_f, Option.bind_some, if_neg (by simpa using c2)]
    · rw [if_neg (by simpa using c1)]
theorem implPass_ev (w h : Int) : Ev (fun k => impl_PassesOf.f k w h) (passM w h) := by
  unfold passM
  by_cases c : sizeP w h
  · obtain ⟨c1, c2⟩ := id c
    obtain ⟨W, rfl⟩ : ∃ W : Nat, w = (W : Int) := ⟨w.toNat, by omega⟩
    obtain ⟨H, rfl⟩ : ∃ H : Nat, h = (H : Int) := ⟨h.toNat, by omega⟩
    obtain ⟨K, hK⟩ := implPass_l0_ev W H (by omega) (by omega) Q7 [] [] rfl (by simp)
    try dsimp only at hK
    try dsimp only at hK
    refine ⟨K + 1, fun k hk => ?_⟩
    try dsimp only
    obtain ⟨m, rfl⟩ : ∃ m, k = m + 1 := ⟨k - 1, by omega⟩
    have hm := hK m (by omega)
    try dsimp only
    unfold impl_PassesOf.f
    rw [in_f, Option.bind_some, if_pos (decide_eq_true c1), in_f, Option.bind_some, impl_PassesOf.j0, if_neg (by rw [decide_eq_true c2]; decide), Option.bind_some, B7_eq, if_pos c, Int.toNat_natCast, Int.toNat_natCast]
    exact hm
  · refine ⟨1, fun k hk => ?_⟩
    try dsimp only
    obtain ⟨m, rfl⟩ : ∃ m, k = m + 1 := ⟨k - 1, by omega⟩
    try dsimp only
    unfold impl_PassesOf.f
    rw [if_neg c, in_f, Option.bind_some]
    by_cases c1 : 1 ≤ w ∧ w ≤ 20
    · have c2 : ¬ (1 ≤ h ∧ h ≤ 20) := fun e => c ⟨c1, e⟩
      rw [if_pos (decide_eq_true c1), in_f, Option.bind_some, impl_PassesOf.j0, if_pos (by rw [decide_eq_false c2]; rfl)]
    · rw [if_neg (by simpa using c1), impl_PassesOf.j0, if_pos rfl]
theorem wiPasses_l0_ev (L : List S62) (hl : L.length ≤ 7) : ∀ d i : Nat, i + d = L.length → Ev (fun k => laws_wiPasses.l0 k L L (i : Int)) true := by
  intro d
  induction d with
  | zero =>
    intro i hi
    refine ⟨1, fun k hk => ?_⟩
    try dsimp only
    obtain ⟨m, rfl⟩ : ∃ m, k = m + 1 := ⟨k - 1, by omega⟩
    try dsimp only
    rw [laws_wiPasses.l0, if_neg (by omega)]
  | succ d ih =>
    intro i hi
    obtain ⟨K, hK⟩ := ih (i + 1) (by omega)
    try dsimp only at hK
    try dsimp only at hK
    refine ⟨K + 1, fun k hk => ?_⟩
    try dsimp only
    obtain ⟨m, rfl⟩ : ∃ m, k = m + 1 := ⟨k - 1, by omega⟩
    have hm := hK m (by omega)
    rw [show ((i + 1 : Nat) : Int) = (i : Int) + 1 by omega] at hm
    try dsimp only
    rw [laws_wiPasses.l0, if_pos (by omega), if_pos (by omega), if_pos (by omega), if_neg (by simp), w64 (by omega)]
    exact hm
theorem wiPasses_ev (L : List S62) (hl : L.length ≤ 7) : Ev (fun k => laws_wiPasses.f k L L) true := by
  obtain ⟨K, hK⟩ := wiPasses_l0_ev L hl L.length 0 (by omega)
  try dsimp only at hK
  try dsimp only at hK
  refine ⟨K, fun k hk => ?_⟩
  try dsimp only
  try dsimp only
  unfold laws_wiPasses.f
  rw [if_pos rfl]
  exact hK k hk
theorem passes_l2_ev (L : List S62) (hl : L.length ≤ 7) (S : List Int) (hs : S.length ≤ 400) (hall : ∀ i : Nat, i < S.length → rd S (i : Int) = 1) : ∀ d i : Nat, i + d = S.length → Ev (fun k => laws_FnPasses.l2 k L S (i : Int)) true := by
  intro d
  induction d with
  | zero =>
    intro i hi
    refine ⟨1, fun k hk => ?_⟩
    try dsimp only
    obtain ⟨m, rfl⟩ : ∃ m, k = m + 1 := ⟨k - 1, by omega⟩
    try dsimp only
    rw [laws_FnPasses.l2, if_neg (by omega), decide_eq_true (by omega)]
  | succ d ih =>
    intro i hi
    obtain ⟨K, hK⟩ := ih (i + 1) (by omega)
    try dsimp only at hK
    try dsimp only at hK
    refine ⟨K + 1, fun k hk => ?_⟩
    try dsimp only
    obtain ⟨m, rfl⟩ : ∃ m, k = m + 1 := ⟨k - 1, by omega⟩
    have hm := hK m (by omega)
    rw [show ((i + 1 : Nat) : Int) = (i : Int) + 1 by omega] at hm
    try dsimp only
    rw [laws_FnPasses.l2, if_pos (by omega), if_pos (by omega), if_pos (hall i (by omega)), w64 (by omega)]
    exact hm
theorem many_le {n o d : Nat} (hn : n ≤ 20) (hd : 1 ≤ d ∧ d ≤ 8) : many n o d ≤ 27 := by
  unfold many
  have : (n - o + d - 1) / d ≤ n - o + d - 1 := Nat.div_le_self _ _
  omega
theorem passes_l1_ev (L : List S62) (w h : Nat) (hw : 1 ≤ w ∧ w ≤ 20) (hh : 1 ≤ h ∧ h ≤ 20) (g : Nat → Nat → Int) (hg : ∀ x y, 0 ≤ g x y ∧ g x y ≤ 1000) (i : Nat) (hi : i < 7) (q : Nat × Nat × Nat × Nat) (hq : q ∈ Q7) (hkp : keep w h q = true)
    (hnext : Ev (fun k => laws_FnPasses.l0 k (w : Int) (h : Int) L (genL (fun x y => g x y + if cov q x y = true then 1 else 0) w h) ((i : Int) + 1)) true) :
    ∀ d j : Nat, j + d = many w q.1 q.2.2.1 * many h q.2.1 q.2.2.2 → Ev (fun k => laws_FnPasses.l1 k (w : Int) (h : Int) L (genL (gk g q w j) w h) (i : Int) (j : Int) (toP w h q).f0 (toP w h q).f1 (toP w h q).f2 (toP w h q).f3 (toP w h q).f4 (toP w h q).f5) true := by
  obtain ⟨q1, q2, q3, q4⟩ := Q7_b q hq
  obtain ⟨k1, k2⟩ := of_decide_eq_true hkp
  have hm1 := many_le (o := q.1) hw.2 q3
  have hm2 := many_le (o := q.2.1) hh.2 q4
  have hmm : many w q.1 q.2.2.1 * many h q.2.1 q.2.2.2 ≤ 27 * 27 := Nat.mul_le_mul hm1 hm2
  have emm : (many w q.1 q.2.2.1 : Int) * (many h q.2.1 q.2.2.2 : Int) = ((many w q.1 q.2.2.1 * many h q.2.1 q.2.2.2 : Nat) : Int) := by simp
  intro d
  induction d with
  | zero =>
    intro j hj
    obtain ⟨K, hK⟩ := hnext
    try dsimp only at hK
    try dsimp only at hK
    refine ⟨K + 1, fun k hk => ?_⟩
    try dsimp only
    obtain ⟨m, rfl⟩ : ∃ m, k = m + 1 := ⟨k - 1, by omega⟩
    have hm := hK m (by omega)
    try dsimp only [toP]
    rw [laws_FnPasses.l1, emm, w64 (x := ((many w q.1 q.2.2.1 * many h q.2.1 q.2.2.2 : Nat) : Int)) (by omega), if_neg (by omega), w64 (by omega), show j = many w q.1 q.2.2.1 * many h q.2.1 q.2.2.2 by omega, gk_all g q w h q3.1 q4.1]
    exact hm
  | succ d ih =>
    intro j hj
    obtain ⟨K, hK⟩ := ih (j + 1) (by omega)
    try dsimp only at hK
    try dsimp only at hK
    obtain ⟨x0, hx0⟩ : ∃ x0, x0 = q.1 + j % many w q.1 q.2.2.1 * q.2.2.1 := ⟨_, rfl⟩
    obtain ⟨y0, hy0⟩ : ∃ y0, y0 = q.2.1 + j / many w q.1 q.2.2.1 * q.2.2.2 := ⟨_, rfl⟩
    obtain ⟨⟨hxw, hyh⟩, e0, estep⟩ := gk_step g q w h j q3.1 q4.1 k1 k2 (by omega) hx0 hy0
    have hpw : many w q.1 q.2.2.1 ≠ 0 := by
      intro e; rw [e] at hj; omega
    have em : Int.tmod (j : Int) (many w q.1 q.2.2.1 : Int) = ((j % many w q.1 q.2.2.1 : Nat) : Int) := by rw [tmod_pos (by omega)]; simp
    have ed : Int.tdiv (j : Int) (many w q.1 q.2.2.1 : Int) = ((j / many w q.1 q.2.2.1 : Nat) : Int) := by rw [tdiv_pos (by omega)]; simp
    have hb1 : j % many w q.1 q.2.2.1 ≤ 27 := by have := Nat.mod_lt j (Nat.pos_of_ne_zero hpw); omega
    have hb2 : j / many w q.1 q.2.2.1 ≤ j := Nat.div_le_self _ _
    obtain ⟨s, hs⟩ : ∃ s, s = j % many w q.1 q.2.2.1 := ⟨_, rfl⟩
    obtain ⟨t, ht⟩ : ∃ t, t = j / many w q.1 q.2.2.1 := ⟨_, rfl⟩
    rw [← hs] at em hb1 hx0
    rw [← ht] at ed hb2 hy0
    have ex : (q.1 : Int) + (s : Int) * (q.2.2.1 : Int) = (x0 : Int) := by rw [hx0]; simp
    have ey : (q.2.1 : Int) + (t : Int) * (q.2.2.2 : Int) = (y0 : Int) := by rw [hy0]; simp
    have es : (s : Int) * (q.2.2.1 : Int) = (x0 : Int) - (q.1 : Int) := by omega
    have et : (t : Int) * (q.2.2.2 : Int) = (y0 : Int) - (q.2.1 : Int) := by omega
    have eix : (y0 : Int) * (w : Int) + (x0 : Int) = ((y0 * w + x0 : Nat) : Int) := by simp
    have hix : y0 * w + x0 < h * w := by
      have h1 : (y0 + 1) * w ≤ h * w := Nat.mul_le_mul_right _ hyh
      rw [Nat.succ_mul] at h1; omega
    have hhw : h * w ≤ 20 * 20 := Nat.mul_le_mul hh.2 hw.2
    have eyw : (y0 : Int) * (w : Int) = ((y0 * w : Nat) : Int) := by simp
    have hgl := genL_length (gk g q w j) w h
    have hrd := rd_genL (gk g q w j) hxw hyh
    rw [eix, e0] at hrd
    have hgb := hg x0 y0
    refine ⟨K + 1, fun k hk => ?_⟩
    try dsimp only
    obtain ⟨m, rfl⟩ : ∃ m, k = m + 1 := ⟨k - 1, by omega⟩
    have hm := hK m (by omega)
    rw [show ((j + 1 : Nat) : Int) = (j : Int) + 1 by omega] at hm
    try dsimp only [toP] at hm ⊢
    rw [laws_FnPasses.l1, emm, w64 (x := ((many w q.1 q.2.2.1 * many h q.2.1 q.2.2.2 : Nat) : Int)) (by omega), if_pos (by omega), if_neg (by omega), em, ed, w64 (x := (t : Int)) (by omega), es, et, w64 (x := (x0 : Int) - (q.1 : Int)) (by omega), w64 (x := (y0 : Int) - (q.2.1 : Int)) (by omega)]
    rw [show (q.1 : Int) + ((x0 : Int) - (q.1 : Int)) = (x0 : Int) by omega, show (q.2.1 : Int) + ((y0 : Int) - (q.2.1 : Int)) = (y0 : Int) by omega, w64 (x := (x0 : Int)) (by omega), w64 (x := (y0 : Int)) (by omega), if_neg (by omega), if_neg (by omega), eyw, w64 (x := ((y0 * w : Nat) : Int)) (by omega)]
    rw [show ((y0 * w : Nat) : Int) + (x0 : Int) = ((y0 * w + x0 : Nat) : Int) by simp, w64 (x := ((y0 * w + x0 : Nat) : Int)) (by omega), if_pos (by omega), if_pos (by rw [hgl]; omega), hrd, w64 (x := g x0 y0 + 1) (by omega), Int.toNat_natCast, set_genL (gk g q w j) hxw hyh, w64 (by omega)]
    rw [e0] at estep
    rw [estep]
    exact hm
theorem passes_l0_ev (w h : Nat) (hw : 1 ≤ w ∧ w ≤ 20) (hh : 1 ≤ h ∧ h ≤ 20) (Q : List (Nat × Nat × Nat × Nat)) (hQ : Q = Q7.filter (keep w h)) : ∀ (suf pre : List (Nat × Nat × Nat × Nat)), Q = pre ++ suf → Ev (fun k => laws_FnPasses.l0 k (w : Int) (h : Int) (Q.map (toP w h)) (genL (fun x y => (cnt pre x y : Int)) w h) (pre.length : Int)) true := by
  have hl7 : Q.length ≤ 7 := by rw [hQ]; exact Nat.le_trans (List.length_filter_le _ _) (by decide)
  have hhw : h * w ≤ 20 * 20 := Nat.mul_le_mul hh.2 hw.2
  intro suf
  induction suf with
  | nil =>
    intro pre e
    have hS := genL_length (fun x y => (cnt pre x y : Int)) w h
    obtain ⟨K, hK⟩ := passes_l2_ev (Q.map (toP w h)) (by rw [List.length_map]; exact hl7) (genL (fun x y => (cnt pre x y : Int)) w h) (by omega) (fun i hi => by
      rw [hS] at hi
      have hx : i % w < w := Nat.mod_lt _ hw.1
      have hy : i / w < h := by rw [Nat.div_lt_iff_lt_mul hw.1]; exact hi
      have hdm := Nat.div_add_mod i w
      rw [Nat.mul_comm] at hdm
      have e5 : ((i / w : Nat) : Int) * (w : Int) + ((i % w : Nat) : Int) = (i : Int) := by
        have h5 : ((i / w * w + i % w : Nat) : Int) = (i : Int) := by rw [hdm]
        rw [← h5]; simp
      have r1 := rd_genL (fun x y => (cnt pre x y : Int)) hx hy
      rw [e5] at r1
      rw [r1, ← show Q = pre by simpa using e, hQ, cnt_keep w h Q7 hx hy, cover_all _ (by omega) _ (by omega)]; rfl) (genL (fun x y => (cnt pre x y : Int)) w h).length 0 (by omega)
    try dsimp only at hK
    try dsimp only at hK
    refine ⟨K + 1, fun k hk => ?_⟩
    try dsimp only
    obtain ⟨m, rfl⟩ : ∃ m, k = m + 1 := ⟨k - 1, by omega⟩
    try dsimp only
    rw [laws_FnPasses.l0, if_neg (by rw [e]; simp)]
    exact hK m (by omega)
  | cons q suf ih =>
    intro pre e
    have hll : Q.length = pre.length + suf.length + 1 := by rw [e]; simp; omega
    have hqm : q ∈ Q := by rw [e]; simp
    rw [hQ] at hqm
    obtain ⟨hq7, hkp⟩ := List.mem_filter.1 hqm
    have hn := ih (pre ++ [q]) (by simp [e])
    rw [List.length_append, List.length_singleton, show ((pre.length + 1 : Nat) : Int) = (pre.length : Int) + 1 by omega] at hn
    have eg : genL (fun x y => (cnt (pre ++ [q]) x y : Int)) w h = genL (fun x y => (cnt pre x y : Int) + if cov q x y = true then 1 else 0) w h := genL_congr fun x y _ _ => cnt_snoc pre q x y
    rw [eg] at hn
    obtain ⟨K, hK⟩ := passes_l1_ev (Q.map (toP w h)) w h hw hh (fun x y => (cnt pre x y : Int)) (fun x y => by
      have : cnt pre x y ≤ pre.length := List.length_filter_le _ _
      omega) pre.length (by omega) q hq7 hkp hn _ 0 (Nat.zero_add _)
    try dsimp only at hK
    try dsimp only at hK
    have hrd : rd_T62 (Q.map (toP w h)) (pre.length : Int) = toP w h q := by rw [e]; exact rd_pass w h pre suf q
    have e0 : genL (gk (fun x y => (cnt pre x y : Int)) q w 0) w h = genL (fun x y => (cnt pre x y : Int)) w h := genL_congr fun x y _ _ => by
      unfold gk; rw [if_neg (fun e9 => by have := e9.2; omega), Int.add_zero]
    rw [e0] at hK
    refine ⟨K + 1, fun k hk => ?_⟩
    try dsimp only
    obtain ⟨m, rfl⟩ : ∃ m, k = m + 1 := ⟨k - 1, by omega⟩
    try dsimp only
    rw [laws_FnPasses.l0, if_pos (by rw [List.length_map]; omega), if_pos (by omega), hrd]
    exact hK m (by omega)
theorem FnPasses : laws_FnPasses.Pure := by
  intro l hl _ hwf
  unfold laws_FnPasses.f
  by_cases hz : (l.length : Int) > 1048576
  · exact ⟨0, by rw [if_pos hz]⟩
  obtain ⟨w, hw, K1, h1⟩ := pick_ev (code_open hwf) (p := 0) (n := 22) (by omega) (by omega)
  try dsimp only at h1
  obtain ⟨h, hh, K2, h2⟩ := pick_ev (code_open hwf) (p := 0 + 1) (n := 22) (by omega) (by omega)
  try dsimp only at h2
  try dsimp only at h1 h2
  have hd : ∀ k, K1 + K2 ≤ k → spec_DrawPassesOf.f k l = some (w, h) := by
    intro k hk
    unfold spec_DrawPassesOf.f
    rw [l1Open_f, Option.bind_some]
    try dsimp only
    rw [h1 k (by omega), Option.bind_some]
    try dsimp only
    rw [h2 k (by omega), Option.bind_some]
  obtain ⟨K3, h3⟩ := implPass_ev w h
  try dsimp only at h3
  obtain ⟨K4, h4⟩ := specPass_ev w h
  try dsimp only at h4
  try dsimp only at h3 h4
  have hl7 : (passM w h).length ≤ 7 := by
    unfold passM; split
    · unfold passL; rw [List.length_map]; exact Nat.le_trans (List.length_filter_le _ _) (by decide)
    · simp
  obtain ⟨K5, h5⟩ := wiPasses_ev (passM w h) hl7
  try dsimp only at h5
  try dsimp only at h5
  by_cases c : sizeP w h
  · obtain ⟨c1, c2⟩ := id c
    obtain ⟨W, rfl⟩ : ∃ W : Nat, w = (W : Int) := ⟨w.toNat, by omega⟩
    obtain ⟨H, rfl⟩ : ∃ H : Nat, h = (H : Int) := ⟨h.toNat, by omega⟩
    have e1 : passM (W : Int) (H : Int) = (Q7.filter (keep W H)).map (toP W H) := by unfold passM; rw [if_pos c, Int.toNat_natCast, Int.toNat_natCast]; rfl
    obtain ⟨K6, h6⟩ := passes_l0_ev W H (by omega) (by omega) _ rfl (Q7.filter (keep W H)) [] rfl
    try dsimp only at h6
    try dsimp only at h6
    rw [← e1] at h6
    have hne : ((passM (W : Int) (H : Int)).length : Int) ≠ 0 := by
      have hk : keep W H (0, 0, 8, 8) = true := decide_eq_true ⟨by show 0 < W; omega, by show 0 < H; omega⟩
      have hm : (0, 0, 8, 8) ∈ Q7.filter (keep W H) := List.mem_filter.2 ⟨by decide, hk⟩
      rw [e1, List.length_map]
      have := List.length_pos_of_mem hm
      omega
    have hWH : W * H ≤ 20 * 20 := Nat.mul_le_mul (by omega) (by omega)
    have eWH : (W : Int) * (H : Int) = ((W * H : Nat) : Int) := by simp
    have e0 : List.replicate (W * H) (0 : Int) = genL (fun x y => (cnt [] x y : Int)) W H := by
      refine (List.eq_replicate_iff.2 ⟨by rw [genL_length, Nat.mul_comm], fun v hv => ?_⟩).symm
      obtain ⟨x, y, -, -, rfl⟩ := genL_mem hv
      rfl
    refine ⟨K1 + K2 + K3 + K4 + K5 + K6 + 1, ?_⟩
    rw [if_neg hz, hd _ (by omega), Option.bind_some]
    try dsimp only
    rw [h3 _ (by omega), Option.bind_some, h4 _ (by omega), Option.bind_some, h5 _ (by omega), Option.bind_some, if_pos rfl, laws_FnPasses.j0, if_neg (by simpa using hne), eWH, w64 (x := ((W * H : Nat) : Int)) (by omega), if_pos (by omega), if_pos (by omega), Int.toNat_natCast, e0]
    exact h6 _ (by omega)
  · have e1 : passM w h = [] := if_neg c
    refine ⟨K1 + K2 + K3 + K4 + K5 + 1, ?_⟩
    rw [if_neg hz, hd _ (by omega), Option.bind_some]
    try dsimp only
    rw [h3 _ (by omega), Option.bind_some, h4 _ (by omega), Option.bind_some, h5 _ (by omega), Option.bind_some, if_pos rfl, laws_FnPasses.j0, if_pos (by rw [e1]; rfl), h4 _ (by omega), Option.bind_some, h5 _ (by omega), Option.bind_some]

end Go.Proofs.Ytpjkcdgamlllgaa.Pure
