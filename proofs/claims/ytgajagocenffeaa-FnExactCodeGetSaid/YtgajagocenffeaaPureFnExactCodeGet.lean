/- The program's CodeGet and the reference's answer the same, at every text and lengths of at most 1048576 (longer ones are let by) and every place; the lengths are left as they were. -/
import Derived.Test.YtgajagocenffeaaHFnExactCodeGetx3
import Derived.Test.YtgajagocenffeaaThNum
import Derived.Test.YtgajagocenffeaaThCode
import Derived.Test.YtgajagocenffeaaThMake
import Derived.Test.YtgajagocenffeaaThGetM
namespace Go.Proofs.Ytgajagocenffeaa.Pure
open Go.RowKit Go.Proofs.Ytgajagocenffeaa.PFnExactCodeGet Go.Proofs.YtgajagocenffeaaW.PrintWords Go.Proofs.YtgajagocenffeaaW.PrintLast Go.Proofs.YtgajagocenffeaaW.PrintMore Go.Proofs.Ytgajagocenffeaa.Th
set_option linter.unusedVariables false
set_option linter.unusedSimpArgs false

theorem in_f (a b c : Int) : impl_in.f a b c = some (decide (b ≤ a ∧ a ≤ c)) := by
  unfold impl_in.f
  by_cases h : b ≤ a
  · rw [if_pos h]; simp [h]
  · rw [if_neg h]; simp [h]
theorem l1In_f (a b c : Int) : spec_l1In.f a b c = some (decide (b ≤ a ∧ a ≤ c)) := by
  unfold spec_l1In.f
  by_cases h : b ≤ a
  · rw [if_pos h]; simp [h]
  · rw [if_neg h]; simp [h]
theorem l1Pow_l0_ev (n : Nat) (hn : n ≤ 62) : ∀ d i : Nat, i + d = n → Ev (fun k => spec_l1Pow.l0 k (n : Int) (P2 i) (i : Int)) (P2 n) := by
  intro d
  induction d with
  | zero =>
    intro i hi
    refine ⟨1, fun k hk => ?_⟩
    try dsimp only
    obtain ⟨m, rfl⟩ : ∃ m, k = m + 1 := ⟨k - 1, by omega⟩
    rw [spec_l1Pow.l0, if_neg (by omega), show i = n by omega]
  | succ d ih =>
    intro i hi
    obtain ⟨K, hK⟩ := ih (i + 1) (by omega)
    try dsimp only at hK
    refine ⟨K + 1, fun k hk => ?_⟩
    try dsimp only
    obtain ⟨m, rfl⟩ : ∃ m, k = m + 1 := ⟨k - 1, by omega⟩
    have hm := hK m (by omega)
    have hb := P2_62b (n := i) (by omega)
    have hb' := P2_62b (n := i + 1) (by omega)
    have hs := P2_succ i
    rw [spec_l1Pow.l0, if_pos (by omega), w64 (by omega), w64 (by omega), show P2 i * 2 = P2 (i + 1) by omega, show (i : Int) + 1 = ((i + 1 : Nat) : Int) by omega]
    exact hm
theorem l1Pow_ev (n : Nat) (hn : n ≤ 62) : Ev (fun k => spec_l1Pow.f k (n : Int)) (P2 n) := l1Pow_l0_ev n hn n 0 (by omega)
theorem l1Pow_evI (n : Int) (h0 : 0 ≤ n) (hn : n ≤ 62) : Ev (fun k => spec_l1Pow.f k n) (P2 n.toNat) := by
  have h := l1Pow_ev n.toNat (by omega)
  rw [Int.toNat_of_nonneg h0] at h
  exact h
theorem l3Left_l0_ev (l : List Int) (hl : l.length ≤ 1048576) : ∀ (suf pre : List Int) (left : Int), l = pre ++ suf → 0 ≤ left → left ≤ 32768 → Ev (fun k => spec_l3Left.l0 k l left (pre.length : Int)) (if lensOk suf ∧ kraft suf ≤ left then left - kraft suf else -1) := by
  intro suf
  induction suf with
  | nil =>
    intro pre left hp h0 h1
    refine ⟨1, fun k hk => ?_⟩
    try dsimp only
    obtain ⟨m, rfl⟩ : ∃ m, k = m + 1 := ⟨k - 1, by omega⟩
    subst hp
    rw [spec_l3Left.l0, if_neg (by simp), if_pos ⟨lensOk_nil, by simp [kraft]; omega⟩]
    simp [kraft]
  | cons x suf ih =>
    intro pre left hp h0 h1
    have hll : l.length = pre.length + suf.length + 1 := by rw [hp]; simp; omega
    have hx : rd l (pre.length : Int) = x := by rw [hp]; exact rd_at _ _ _ rfl
    have hk0 := kraft_nn suf
    have e1 : ((pre ++ [x]).length : Int) = (pre.length : Int) + 1 := by simp
    by_cases hr : 0 ≤ x ∧ x ≤ 15
    · by_cases hz : x > 0
      · obtain ⟨K1, hK1⟩ := l1Pow_evI (15 - x) (by omega) (by omega)
        try dsimp only at hK1
        have hp2 := P2_b (n := (15 - x).toNat) (m := 15) (by omega)
        rw [P2_15] at hp2
        have hcons : kraft (x :: suf) = P2 (15 - x).toNat + kraft suf := by simp only [kraft, if_pos hz]
        by_cases hn : left - P2 (15 - x).toNat < 0
        · refine ⟨K1 + 1, fun k hk => ?_⟩
          try dsimp only
          obtain ⟨m, rfl⟩ : ∃ m, k = m + 1 := ⟨k - 1, by omega⟩
          rw [spec_l3Left.l0, if_pos (by omega), if_pos (by omega), hx, l1In_f]
          simp only [Option.bind_some]
          rw [if_pos (decide_eq_true hr), if_pos hz, w64 (x := 15 - x) (by omega), hK1 m (by omega)]
          simp only [Option.bind_some]
          rw [w64 (by omega), if_pos hn, if_neg (by rw [hcons]; omega)]
        · obtain ⟨K, hK⟩ := ih (pre ++ [x]) (left - P2 (15 - x).toNat) (by simp [hp]) (by omega) (by omega)
          try dsimp only at hK
          refine ⟨K + K1 + 1, fun k hk => ?_⟩
          try dsimp only
          obtain ⟨m, rfl⟩ : ∃ m, k = m + 1 := ⟨k - 1, by omega⟩
          have hm := hK m (by omega)
          rw [e1] at hm
          rw [spec_l3Left.l0, if_pos (by omega), if_pos (by omega), hx, l1In_f]
          simp only [Option.bind_some]
          rw [if_pos (decide_eq_true hr), if_pos hz, w64 (x := 15 - x) (by omega), hK1 m (by omega)]
          simp only [Option.bind_some]
          rw [w64 (x := left - _) (by omega), if_neg hn, w64 (by omega), hm, hcons]
          by_cases hc : lensOk suf ∧ kraft suf ≤ left - P2 (15 - x).toNat
          · rw [if_pos hc, if_pos ⟨(lensOk_cons _ _).2 ⟨hr, hc.1⟩, by omega⟩]; congr 1; omega
          · rw [if_neg hc, if_neg (fun h => hc ⟨((lensOk_cons _ _).1 h.1).2, by omega⟩)]
      · obtain ⟨K, hK⟩ := ih (pre ++ [x]) left (by simp [hp]) (by omega) (by omega)
        try dsimp only at hK
        have hcons : kraft (x :: suf) = kraft suf := by simp only [kraft, if_neg (show ¬ 0 < x by omega)]; omega
        refine ⟨K + 1, fun k hk => ?_⟩
        try dsimp only
        obtain ⟨m, rfl⟩ : ∃ m, k = m + 1 := ⟨k - 1, by omega⟩
        have hm := hK m (by omega)
        rw [e1] at hm
        rw [spec_l3Left.l0, if_pos (by omega), if_pos (by omega), hx, l1In_f]
        simp only [Option.bind_some]
        rw [if_pos (decide_eq_true hr), if_neg hz, if_neg (by omega), w64 (by omega), hm, hcons]
        by_cases hc : lensOk suf ∧ kraft suf ≤ left
        · rw [if_pos hc, if_pos ⟨(lensOk_cons _ _).2 ⟨hr, hc.1⟩, by omega⟩]
        · rw [if_neg hc, if_neg (fun h => hc ⟨((lensOk_cons _ _).1 h.1).2, by omega⟩)]
    · refine ⟨1, fun k hk => ?_⟩
      try dsimp only
      obtain ⟨m, rfl⟩ : ∃ m, k = m + 1 := ⟨k - 1, by omega⟩
      rw [spec_l3Left.l0, if_pos (by omega), if_pos (by omega), hx, l1In_f]
      simp only [Option.bind_some]
      rw [if_neg (by simpa using hr), if_neg (fun h => hr ((lensOk_cons _ _).1 h.1).1)]
theorem l3Left_ev (l : List Int) (hl : l.length ≤ 1048576) : Ev (fun k => spec_l3Left.f k l) (if lensOk l ∧ kraft l ≤ 32768 then 32768 - kraft l else -1) := by
  obtain ⟨K, hK⟩ := l3Left_l0_ev l hl l [] 32768 rfl (by omega) (by omega)
  try dsimp only at hK
  obtain ⟨K1, hK1⟩ := l1Pow_evI 15 (by omega) (by omega)
  try dsimp only at hK1
  refine ⟨K + K1, fun k hk => ?_⟩
  try dsimp only
  unfold spec_l3Left.f
  rw [hK1 k (by omega)]
  exact hK k (by omega)
theorem spec_CodeOk_ev (l : List Int) (hl : l.length ≤ 1048576) : Ev (fun k => spec_CodeOk.f k l) (codeOkM l) := by
  unfold spec_CodeOk.f codeOkM
  by_cases h : l.length ≤ 300
  · obtain ⟨K, hK⟩ := l3Left_ev l hl
    try dsimp only at hK
    refine ⟨K, fun k hk => ?_⟩
    try dsimp only
    rw [if_pos (by omega), hK k hk]
    simp only [Option.bind_some]
    by_cases hc : lensOk l ∧ kraft l ≤ 32768
    · rw [if_pos hc, decide_eq_true (by omega), decide_eq_true ⟨hc.1, h, hc.2⟩]
    · rw [if_neg hc, decide_eq_false (by omega), decide_eq_false (fun h => hc ⟨h.1, h.2.2⟩)]
  · refine ⟨0, fun k hk => ?_⟩
    try dsimp only
    rw [if_neg (by omega), decide_eq_false (fun hh => h hh.2.1)]
theorem filled_l0_ev (l : List Int) (hl : l.length ≤ 1048576) : ∀ (suf pre : List Int) (sum : Int), l = pre ++ suf → 0 ≤ sum → sum ≤ 16384 * pre.length → Ev (fun k => impl_filled.l0 k l sum l (l.length : Int) (pre.length : Int)) (if lensOk suf ∧ l.length ≤ 300 ∧ sum + kraft suf ≤ 32768 then sum + kraft suf else -1) := by
  intro suf
  induction suf with
  | nil =>
    intro pre sum hp h0 h1
    refine ⟨1, fun k hk => ?_⟩
    try dsimp only
    obtain ⟨m, rfl⟩ : ∃ m, k = m + 1 := ⟨k - 1, by omega⟩
    have hpl : l.length = pre.length := by rw [hp]; simp
    rw [impl_filled.l0, if_neg (by omega)]
    have e0 : kraft ([] : List Int) = 0 := rfl
    by_cases h3 : l.length ≤ 300
    · by_cases h4 : sum ≤ 32768
      · rw [if_neg (by omega), if_neg (by omega), if_pos ⟨lensOk_nil, h3, by omega⟩, e0, Int.add_zero]
      · rw [if_neg (by omega), if_pos (by omega), if_neg (by omega)]
    · rw [if_pos (by omega), if_neg (by omega)]
  | cons x suf ih =>
    intro pre sum hp h0 h1
    have hll : l.length = pre.length + suf.length + 1 := by rw [hp]; simp; omega
    have hx : rd l (pre.length : Int) = x := by rw [hp]; exact rd_at _ _ _ rfl
    have hk0 := kraft_nn suf
    have e1 : ((pre ++ [x]).length : Int) = (pre.length : Int) + 1 := by simp
    by_cases hr : 0 ≤ x ∧ x ≤ 15
    · by_cases hz : x > 0
      · have hp2 := P2_b (n := (15 - x).toNat) (m := 14) (by omega)
        rw [show P2 14 = 16384 from rfl] at hp2
        have hcons : kraft (x :: suf) = P2 (15 - x).toNat + kraft suf := by simp only [kraft, if_pos hz]
        obtain ⟨K, hK⟩ := ih (pre ++ [x]) (sum + P2 (15 - x).toNat) (by simp [hp]) (by omega) (by rw [e1]; omega)
        try dsimp only at hK
        refine ⟨K + 1, fun k hk => ?_⟩
        try dsimp only
        obtain ⟨m, rfl⟩ : ∃ m, k = m + 1 := ⟨k - 1, by omega⟩
        have hm := hK m (by omega)
        rw [e1] at hm
        rw [impl_filled.l0, if_pos (by omega), if_pos (by omega), if_pos (by omega), hx, in_f]
        simp only [Option.bind_some]
        rw [if_pos (decide_eq_true hr), if_pos hz, w64 (x := 15 - x) (by omega), if_pos (by omega), shl1_P2 (by omega) (by omega), w64 (x := sum + _) (by omega), w64 (by omega), hm, hcons]
        by_cases hc : lensOk suf ∧ l.length ≤ 300 ∧ sum + P2 (15 - x).toNat + kraft suf ≤ 32768
        · rw [if_pos hc, if_pos ⟨(lensOk_cons _ _).2 ⟨hr, hc.1⟩, hc.2.1, by omega⟩]; congr 1; omega
        · rw [if_neg hc, if_neg (fun h => hc ⟨((lensOk_cons _ _).1 h.1).2, h.2.1, by omega⟩)]
      · obtain ⟨K, hK⟩ := ih (pre ++ [x]) sum (by simp [hp]) (by omega) (by rw [e1]; omega)
        try dsimp only at hK
        have hcons : kraft (x :: suf) = kraft suf := by simp only [kraft, if_neg (show ¬ 0 < x by omega)]; omega
        refine ⟨K + 1, fun k hk => ?_⟩
        try dsimp only
        obtain ⟨m, rfl⟩ : ∃ m, k = m + 1 := ⟨k - 1, by omega⟩
        have hm := hK m (by omega)
        rw [e1] at hm
        rw [impl_filled.l0, if_pos (by omega), if_pos (by omega), if_pos (by omega), hx, in_f]
        simp only [Option.bind_some]
        rw [if_pos (decide_eq_true hr), if_neg hz, w64 (by omega), hm, hcons]
        by_cases hc : lensOk suf ∧ l.length ≤ 300 ∧ sum + kraft suf ≤ 32768
        · rw [if_pos hc, if_pos ⟨(lensOk_cons _ _).2 ⟨hr, hc.1⟩, hc.2⟩]
        · rw [if_neg hc, if_neg (fun h => hc ⟨((lensOk_cons _ _).1 h.1).2, h.2⟩)]
    · refine ⟨1, fun k hk => ?_⟩
      try dsimp only
      obtain ⟨m, rfl⟩ : ∃ m, k = m + 1 := ⟨k - 1, by omega⟩
      rw [impl_filled.l0, if_pos (by omega), if_pos (by omega), if_pos (by omega), hx, in_f]
      simp only [Option.bind_some]
      rw [if_neg (by simpa using hr), if_neg (fun h => hr ((lensOk_cons _ _).1 h.1).1)]
theorem filled_ev (l : List Int) (hl : l.length ≤ 1048576) : Ev (fun k => impl_filled.f k l) (if codeOkM l = true then kraft l else -1) := by
  obtain ⟨K, hK⟩ := filled_l0_ev l hl l [] 0 rfl (by omega) (by simp)
  try dsimp only at hK
  refine ⟨K, fun k hk => ?_⟩
  try dsimp only
  unfold impl_filled.f codeOkM
  refine (hK k hk).trans ?_
  simp only [Int.zero_add, decide_eq_true_eq]
theorem impl_CodeOk_ev (l : List Int) (hl : l.length ≤ 1048576) : Ev (fun k => impl_CodeOk.f k l) (codeOkM l) := by
  obtain ⟨K, hK⟩ := filled_ev l hl
  try dsimp only at hK
  have := kraft_nn l
  refine ⟨K, fun k hk => ?_⟩
  try dsimp only
  unfold impl_CodeOk.f
  rw [hK k hk]
  simp only [Option.bind_some]
  cases h : codeOkM l
  · simp
  · simp; omega
theorem impl_CodeMake_l1_ev (l : List Int) (hl : l.length ≤ 1048576) (n : Int) (hn : 1 ≤ n ∧ n ≤ 15) (r : List Int) (hnext : Ev (fun k => impl_CodeMake.l0 k l (cdL l (n + 1) [] l) (cdA n l + cdB n l) (n + 1)) r) :
    ∀ (suf pre : List Int), l = pre ++ suf → Ev (fun k => impl_CodeMake.l1 k l (cdL l (n + 1) [] pre ++ cdL l n pre suf) (cdA n l + cdB n pre) n l (l.length : Int) (pre.length : Int)) r := by
  intro suf
  induction suf with
  | nil =>
    intro pre hp
    obtain ⟨K, hK⟩ := hnext
    try dsimp only at hK
    refine ⟨K + 1, fun k hk => ?_⟩
    try dsimp only
    obtain ⟨m, rfl⟩ : ∃ m, k = m + 1 := ⟨k - 1, by omega⟩
    have hm := hK m (by omega)
    have hpl : pre = l := by rw [hp]; simp
    subst hpl
    rw [impl_CodeMake.l1, if_neg (by omega), w64 (by omega)]
    simpa [cdL] using hm
  | cons x suf ih =>
    intro pre hp
    obtain ⟨K, hK⟩ := ih (pre ++ [x]) (by simp [hp])
    try dsimp only at hK
    refine ⟨K + 1, fun k hk => ?_⟩
    try dsimp only
    obtain ⟨m, rfl⟩ : ∃ m, k = m + 1 := ⟨k - 1, by omega⟩
    have hm := hK m (by omega)
    have hll : l.length = pre.length + suf.length + 1 := by rw [hp]; simp; omega
    have hx : rd l (pre.length : Int) = x := by rw [hp]; exact rd_at _ _ _ rfl
    have hA := cdA_b n l (by omega)
    have hB := cdB_b n pre
    have hlen := cdL_length l (n + 1) pre []
    have hlen2 := cdL_length l n (x :: suf) pre
    rw [List.length_append, List.length_singleton, show ((pre.length + 1 : Nat) : Int) = (pre.length : Int) + 1 by omega, cdL_append, cdB_append] at hm
    simp only [cdL, List.nil_append, List.append_assoc, List.singleton_append, cdB] at hm
    rw [impl_CodeMake.l1, if_pos (by omega), if_pos (by omega), if_pos (by omega), hx]
    by_cases h : x = n
    · rw [if_pos (by omega), if_pos h, Int.add_zero] at hm
      rw [if_pos h, if_pos (by rw [List.length_append, hlen, hlen2]; simp; omega), Int.toNat_natCast]
      simp only [cdL]
      rw [set_at _ _ _ _ (by rw [hlen]), w64 (by omega), w64 (by omega)]
      have e : cdN l pre x = cdA n l + cdB n pre := by unfold cdN; rw [h]
      rw [e] at hm
      rw [Int.add_assoc]
      exact hm
    · rw [if_neg h, Int.add_zero, Int.add_zero] at hm
      rw [if_neg h, w64 (by omega)]
      simp only [cdL]
      by_cases h2 : 0 < x ∧ x < n
      · rw [if_pos (by omega)] at hm; rw [if_pos h2]; exact hm
      · rw [if_neg (by omega)] at hm; rw [if_neg h2]; exact hm
theorem impl_CodeMake_l0_ev (l : List Int) (hl : l.length ≤ 1048576) : ∀ (d : Nat) (n : Int), 1 ≤ n → n + d = 16 → ∀ (x : Int), 2 * x = cdA n l → Ev (fun k => impl_CodeMake.l0 k l (cdL l n [] l) x n) (codesM l) := by
  intro d
  induction d with
  | zero =>
    intro n h1 hn x hx
    refine ⟨1, fun k hk => ?_⟩
    try dsimp only
    obtain ⟨m, rfl⟩ : ∃ m, k = m + 1 := ⟨k - 1, by omega⟩
    rw [impl_CodeMake.l0, if_neg (by omega)]
    unfold codesM
    rw [show n = 16 by omega]
  | succ d ih =>
    intro n h1 hn x hx
    have hA := cdA_b n l (by omega)
    obtain ⟨K, hK⟩ := impl_CodeMake_l1_ev l hl n (by omega) (codesM l) (ih (n + 1) (by omega) (by omega) _ (by rw [cdA_succ n l h1])) l [] rfl
    try dsimp only at hK
    refine ⟨K + 1, fun k hk => ?_⟩
    try dsimp only
    obtain ⟨m, rfl⟩ : ∃ m, k = m + 1 := ⟨k - 1, by omega⟩
    have hm := hK m (by omega)
    rw [impl_CodeMake.l0, if_pos (by omega), w64 (by omega), show x * 2 = cdA n l by omega]
    simpa [cdL, cdB] using hm
theorem impl_CodeMake_ev (l : List Int) (hl : l.length ≤ 1048576) : Ev (fun k => impl_CodeMake.f k l) (codeMakeM l) := by
  obtain ⟨K1, h1⟩ := impl_CodeOk_ev l hl
  try dsimp only at h1
  obtain ⟨K, hK⟩ := impl_CodeMake_l0_ev l hl 15 1 (by omega) (by omega) 0 (by rw [cdA_one]; rfl)
  try dsimp only at hK
  refine ⟨K + K1, fun k hk => ?_⟩
  try dsimp only
  have hm := hK k (by omega)
  rw [cdL_one] at hm
  unfold impl_CodeMake.f codeMakeM
  rw [h1 k (by omega)]
  simp only [Option.bind_some]
  by_cases h : codeOkM l = true
  · rw [if_pos h, if_pos (by omega), if_pos (by omega), Int.toNat_natCast, hm, if_pos h]
  · rw [if_neg h, if_neg h]
theorem spec_l3Make_l1_ev (l : List Int) (hl : l.length ≤ 1048576) (n : Int) (hn : 1 ≤ n ∧ n ≤ 15) (r : List Int) (hnext : Ev (fun k => spec_l3Make.l0 k l (cdL l (n + 1) [] l) (cdA n l + cdB n l) (n + 1)) r) :
    ∀ (suf pre : List Int), l = pre ++ suf → Ev (fun k => spec_l3Make.l1 k l (cdL l (n + 1) [] pre ++ cdL l n pre suf) (cdA n l + cdB n pre) n (pre.length : Int)) r := by
  intro suf
  induction suf with
  | nil =>
    intro pre hp
    obtain ⟨K, hK⟩ := hnext
    try dsimp only at hK
    refine ⟨K + 1, fun k hk => ?_⟩
    try dsimp only
    obtain ⟨m, rfl⟩ : ∃ m, k = m + 1 := ⟨k - 1, by omega⟩
    have hm := hK m (by omega)
    have hpl : pre = l := by rw [hp]; simp
    subst hpl
    rw [spec_l3Make.l1, if_neg (by omega), w64 (by omega)]
    simpa [cdL] using hm
  | cons x suf ih =>
    intro pre hp
    obtain ⟨K, hK⟩ := ih (pre ++ [x]) (by simp [hp])
    try dsimp only at hK
    refine ⟨K + 1, fun k hk => ?_⟩
    try dsimp only
    obtain ⟨m, rfl⟩ : ∃ m, k = m + 1 := ⟨k - 1, by omega⟩
    have hm := hK m (by omega)
    have hll : l.length = pre.length + suf.length + 1 := by rw [hp]; simp; omega
    have hx : rd l (pre.length : Int) = x := by rw [hp]; exact rd_at _ _ _ rfl
    have hA := cdA_b n l (by omega)
    have hB := cdB_b n pre
    have hlen := cdL_length l (n + 1) pre []
    have hlen2 := cdL_length l n (x :: suf) pre
    rw [List.length_append, List.length_singleton, show ((pre.length + 1 : Nat) : Int) = (pre.length : Int) + 1 by omega, cdL_append, cdB_append] at hm
    simp only [cdL, List.nil_append, List.append_assoc, List.singleton_append, cdB] at hm
    rw [spec_l3Make.l1, if_pos (by omega), if_pos (by omega), hx]
    by_cases h : x = n
    · rw [if_pos (by omega), if_pos h, Int.add_zero] at hm
      rw [if_pos h, if_pos (by rw [List.length_append, hlen, hlen2]; simp; omega), Int.toNat_natCast]
      simp only [cdL]
      rw [set_at _ _ _ _ (by rw [hlen]), w64 (by omega), w64 (by omega)]
      have e : cdN l pre x = cdA n l + cdB n pre := by unfold cdN; rw [h]
      rw [e] at hm
      rw [Int.add_assoc]
      exact hm
    · rw [if_neg h, Int.add_zero, Int.add_zero] at hm
      rw [if_neg h, w64 (by omega)]
      simp only [cdL]
      by_cases h2 : 0 < x ∧ x < n
      · rw [if_pos (by omega)] at hm; rw [if_pos h2]; exact hm
      · rw [if_neg (by omega)] at hm; rw [if_neg h2]; exact hm
theorem spec_l3Make_l0_ev (l : List Int) (hl : l.length ≤ 1048576) : ∀ (d : Nat) (n : Int), 1 ≤ n → n + d = 16 → ∀ (x : Int), 2 * x = cdA n l → Ev (fun k => spec_l3Make.l0 k l (cdL l n [] l) x n) (codesM l) := by
  intro d
  induction d with
  | zero =>
    intro n h1 hn x hx
    refine ⟨1, fun k hk => ?_⟩
    try dsimp only
    obtain ⟨m, rfl⟩ : ∃ m, k = m + 1 := ⟨k - 1, by omega⟩
    rw [spec_l3Make.l0, if_neg (by omega)]
    unfold codesM
    rw [show n = 16 by omega]
  | succ d ih =>
    intro n h1 hn x hx
    have hA := cdA_b n l (by omega)
    obtain ⟨K, hK⟩ := spec_l3Make_l1_ev l hl n (by omega) (codesM l) (ih (n + 1) (by omega) (by omega) _ (by rw [cdA_succ n l h1])) l [] rfl
    try dsimp only at hK
    refine ⟨K + 1, fun k hk => ?_⟩
    try dsimp only
    obtain ⟨m, rfl⟩ : ∃ m, k = m + 1 := ⟨k - 1, by omega⟩
    have hm := hK m (by omega)
    rw [spec_l3Make.l0, if_pos (by omega), w64 (by omega), show x * 2 = cdA n l by omega]
    simpa [cdL, cdB] using hm
theorem spec_l3Make_ev (l : List Int) (hl : l.length ≤ 1048576) : Ev (fun k => spec_l3Make.f k l) (codesM l) := by
  obtain ⟨K, hK⟩ := spec_l3Make_l0_ev l hl 15 1 (by omega) (by omega) 0 (by rw [cdA_one]; rfl)
  try dsimp only at hK
  refine ⟨K, fun k hk => ?_⟩
  try dsimp only
  have hm := hK k hk
  rw [cdL_one] at hm
  unfold spec_l3Make.f
  rw [if_pos (by omega), if_pos (by omega), Int.toNat_natCast]
  exact hm
theorem l1Bit_ev (s : ByteArray) (at_ : Int) (high : Bool) (h0 : 0 ≤ at_) (h1 : at_ < 8 * s.size) (hs : s.size ≤ 140737488351232) : Ev (fun k => spec_l1Bit.f k s at_ high) (bitM s at_ high) := by
  have hb := bt_range s (at_ / 8)
  unfold spec_l1Bit.f bitM
  simp only [tdiv_pos h0, tmod_pos h0]
  rw [w64 (x := at_ / 8) (by omega), w64 (x := bt s (at_ / 8)) (by omega)]
  cases high
  · obtain ⟨K, hK⟩ := l1Pow_evI (at_ % 8) (by omega) (by omega)
    try dsimp only at hK
    refine ⟨K, fun k hk => ?_⟩
    try dsimp only
    have hp := P2_62b (n := (at_ % 8).toNat) (by omega)
    have hq : 0 ≤ bt s (at_ / 8) / P2 (at_ % 8).toNat := Int.ediv_nonneg hb.1 (by omega)
    have hq2 : bt s (at_ / 8) / P2 (at_ % 8).toNat ≤ bt s (at_ / 8) := Int.ediv_le_self _ hb.1
    simp only [Bool.false_eq_true, if_false]
    rw [if_pos (by omega), if_pos (by omega), hK k hk]
    simp only [Option.bind_some]
    rw [if_neg (by omega), tdiv_pos hb.1, w64 (by omega), tmod_pos hq]
  · obtain ⟨K, hK⟩ := l1Pow_evI (7 - at_ % 8) (by omega) (by omega)
    try dsimp only at hK
    refine ⟨K, fun k hk => ?_⟩
    try dsimp only
    have hp := P2_62b (n := (7 - at_ % 8).toNat) (by omega)
    have hq : 0 ≤ bt s (at_ / 8) / P2 (7 - at_ % 8).toNat := Int.ediv_nonneg hb.1 (by omega)
    have hq2 : bt s (at_ / 8) / P2 (7 - at_ % 8).toNat ≤ bt s (at_ / 8) := Int.ediv_le_self _ hb.1
    simp only [if_true]
    rw [if_pos (by omega), if_pos (by omega), w64 (x := 7 - at_ % 8) (by omega), hK k hk]
    simp only [Option.bind_some]
    rw [if_neg (by omega), tdiv_pos hb.1, w64 (by omega), tmod_pos hq]
theorem bitAt_f (s : ByteArray) (at_ : Int) (high : Bool) (h0 : 0 ≤ at_) (h1 : at_ < 8 * s.size) (hs : s.size ≤ 140737488351232) : impl_bitAt.f s at_ high = some (bitM s at_ high) := by
  have hb := bt_range s (at_ / 8)
  unfold impl_bitAt.f bitM
  simp only [tdiv_pos h0, tmod_pos h0]
  rw [w64 (x := at_ / 8) (by omega), w64 (x := bt s (at_ / 8)) (by omega), w64 (x := 7 - at_ % 8) (by omega)]
  cases high
  · have hq : 0 ≤ bt s (at_ / 8) / P2 (at_ % 8).toNat := Int.ediv_nonneg hb.1 (by have := P2_pos (at_ % 8).toNat; omega)
    have hq2 : bt s (at_ / 8) / P2 (at_ % 8).toNat ≤ bt s (at_ / 8) := Int.ediv_le_self _ hb.1
    simp only [Bool.false_eq_true, if_false]
    rw [if_pos (by omega), if_pos (by omega), if_pos (by omega), shr_P2 (by omega), and1 hq (by omega)]
  · have hq : 0 ≤ bt s (at_ / 8) / P2 (7 - at_ % 8).toNat := Int.ediv_nonneg hb.1 (by have := P2_pos (7 - at_ % 8).toNat; omega)
    have hq2 : bt s (at_ / 8) / P2 (7 - at_ % 8).toNat ≤ bt s (at_ / 8) := Int.ediv_le_self _ hb.1
    simp only [if_true]
    rw [if_pos (by omega), if_pos (by omega), if_pos (by omega), shr_P2 (by omega), and1 hq (by omega)]
theorem impl_CodeGet_l0_ev (s : ByteArray) (at_ : Int) (L : List Int) (hs : s.size ≤ 9000) (h0 : 0 ≤ at_ ∧ at_ ≤ 8 * (s.size : Int)) (hL : L.length = (codesM L).length) : ∀ d i : Nat, i + d = 15 → (at_ + i ≤ 8 * (s.size : Int)) →
    impl_CodeGet.l0 s L (codesM L) d (acM s at_ i) (at_ + i) = some (getR (fM s at_ L d i)) := by
  intro d
  induction d with
  | zero => intro i _ _; rfl
  | succ d ih =>
    intro i hi hle
    unfold impl_CodeGet.l0 fM
    by_cases hlt : at_ + i < 8 * (s.size : Int)
    · have hb := bitM_b s (at_ + i) false
      have ha := acM_b s at_ i
      have hp := P2_b (n := i) (m := 15) (by omega)
      rw [P2_15] at hp
      have e1 : wrap64 (wrap64 (2 * acM s at_ i) + bitM s (at_ + i) false) = acM s at_ (i + 1) := by
        rw [w64 (x := 2 * acM s at_ i) (by omega), w64 (by omega)]; rfl
      rw [if_pos hlt, bitAt_f s _ _ (by omega) (by omega) (by omega), Option.bind_some, e1, show (15 - (d : Int)) = (i : Int) + 1 by omega, ← hL, if_pos hlt]
      cases hq : symF (codesM L) L (acM s at_ (i + 1)) ((i : Int) + 1) L.length with
      | some j => rfl
      | none =>
        have := ih (i + 1) (by omega) (by omega)
        rw [show ((i + 1 : Nat) : Int) = (i : Int) + 1 by omega, ← Int.add_assoc] at this
        exact this
    · rw [if_neg hlt, if_neg hlt]; rfl
theorem impl_CodeGet_ev (s : ByteArray) (at_ : Int) (L : List Int) (hl : L.length ≤ 1048576) : Ev (fun k => impl_CodeGet.f k s at_ L) (codeGetM s at_ L) := by
  obtain ⟨K1, h1⟩ := impl_CodeOk_ev L hl
  try dsimp only at h1
  obtain ⟨K2, h2⟩ := impl_CodeMake_ev L hl
  try dsimp only at h2
  try dsimp only at h1 h2
  refine ⟨K1 + K2, fun k hk => ?_⟩
  try dsimp only
  try dsimp only
  unfold impl_CodeGet.f codeGetM
  rw [h1 k (by omega), Option.bind_some]
  by_cases c : codeOkM L = true
  · have hh := of_decide_eq_true c
    rw [if_pos c]
    by_cases c2 : (s.size : Int) > 9000
    · rw [if_pos c2, if_neg (fun h => by omega)]
    · rw [if_neg c2]
      by_cases c3 : 0 ≤ at_ ∧ at_ ≤ 8 * (s.size : Int)
      · have e : codeMakeM L = codesM L := by unfold codeMakeM; rw [if_pos c]
        rw [if_pos c3, h2 k (by omega), Option.bind_some, e, if_pos ⟨c, by omega, c3.1, c3.2⟩]
        unfold impl_CodeGet.j0
        rw [if_pos ⟨codesM_length L, hh.2.1, smallI_codes hh.1 hh.2.2, fun v hv => by have := hh.1 v hv; omega⟩]
        have := impl_CodeGet_l0_ev s at_ L (by omega) c3 (codesM_length L).symm 15 0 (by omega) (by omega)
        rw [show at_ + ((0 : Nat) : Int) = at_ by omega] at this
        exact this
      · rw [if_neg c3, if_neg (fun h => c3 ⟨h.2.2.1, h.2.2.2⟩)]
  · rw [if_neg c, if_neg (fun h => c h.1)]
theorem l3Get_l1_none (s : ByteArray) (at_ : Int) (L codes : List Int) (hl : L.length ≤ 300) (hc : codes.length = L.length) (n z : Int) (hz : 0 < z) (hq : symF codes L n z L.length = none) (r : Int × Int) (hnext : Ev (fun k => spec_l3Get.l0 k s at_ codes L n (wrap64 (z + 1))) r) :
    ∀ d i : Nat, i + d = L.length → Ev (fun k => spec_l3Get.l1 k s at_ codes L n z (i : Int)) r := by
  have hno := symF_none hq
  intro d
  induction d with
  | zero =>
    intro i hi
    obtain ⟨K, hK⟩ := hnext
    try dsimp only at hK
    refine ⟨K + 1, fun k hk => ?_⟩
    try dsimp only
    obtain ⟨m, rfl⟩ : ∃ m, k = m + 1 := ⟨k - 1, by omega⟩
    rw [spec_l3Get.l1, if_neg (by omega)]
    exact hK m (by omega)
  | succ d ih =>
    intro i hi
    obtain ⟨K, hK⟩ := ih (i + 1) (by omega)
    try dsimp only at hK
    refine ⟨K + 1, fun k hk => ?_⟩
    try dsimp only
    obtain ⟨m, rfl⟩ : ∃ m, k = m + 1 := ⟨k - 1, by omega⟩
    have hm := hK m (by omega)
    try dsimp only at hm
    rw [show ((i + 1 : Nat) : Int) = (i : Int) + 1 by omega] at hm
    have hn := hno i (by omega)
    have e1 : rd L (i : Int) = L.getD i 0 := by unfold rd; rw [Int.toNat_natCast]
    have e2 : rd codes (i : Int) = codes.getD i 0 := by unfold rd; rw [Int.toNat_natCast]
    rw [spec_l3Get.l1, if_pos (by omega), if_pos (by omega), w64 (x := (i : Int) + 1) (by omega), e1, e2]
    by_cases c : L.getD i 0 = z
    · rw [if_pos c, if_pos (by omega), if_neg (fun h => hn ⟨by omega, h, c⟩)]
      exact hm
    · rw [if_neg c]
      exact hm
theorem l3Get_l1_some (s : ByteArray) (at_ : Int) (L codes : List Int) (hl : L.length ≤ 300) (hc : codes.length = L.length) (n z : Int) (j : Nat) (hj : j < L.length) (hz : L.getD j 0 = z) (hn : codes.getD j 0 = n) (hfirst : ∀ i, i < j → ¬ (L.getD i 0 = z ∧ codes.getD i 0 = n)) :
    ∀ d i : Nat, i + d = j → Ev (fun k => spec_l3Get.l1 k s at_ codes L n z (i : Int)) ((j : Int), at_) := by
  intro d
  induction d with
  | zero =>
    intro i hi
    obtain rfl : i = j := by omega
    refine ⟨1, fun k hk => ?_⟩
    try dsimp only
    obtain ⟨m, rfl⟩ : ∃ m, k = m + 1 := ⟨k - 1, by omega⟩
    have e1 : rd L (i : Int) = L.getD i 0 := by unfold rd; rw [Int.toNat_natCast]
    have e2 : rd codes (i : Int) = codes.getD i 0 := by unfold rd; rw [Int.toNat_natCast]
    rw [spec_l3Get.l1, if_pos (by omega), if_pos (by omega), e1, e2, if_pos hz, if_pos (by omega), if_pos hn]
  | succ d ih =>
    intro i hi
    obtain ⟨K, hK⟩ := ih (i + 1) (by omega)
    try dsimp only at hK
    refine ⟨K + 1, fun k hk => ?_⟩
    try dsimp only
    obtain ⟨m, rfl⟩ : ∃ m, k = m + 1 := ⟨k - 1, by omega⟩
    have hm := hK m (by omega)
    try dsimp only at hm
    rw [show ((i + 1 : Nat) : Int) = (i : Int) + 1 by omega] at hm
    have hno := hfirst i (by omega)
    have e1 : rd L (i : Int) = L.getD i 0 := by unfold rd; rw [Int.toNat_natCast]
    have e2 : rd codes (i : Int) = codes.getD i 0 := by unfold rd; rw [Int.toNat_natCast]
    rw [spec_l3Get.l1, if_pos (by omega), if_pos (by omega), w64 (x := (i : Int) + 1) (by omega), e1, e2]
    by_cases c : L.getD i 0 = z
    · rw [if_pos c, if_pos (by omega), if_neg (fun h => hno ⟨c, h⟩)]
      exact hm
    · rw [if_neg c]
      exact hm
/-- What the reference finds, or a number below nought. -/
theorem l3Get_l0_ev (s : ByteArray) (at_ : Int) (L : List Int) (hok : lensOk L) (hk15 : kraft L ≤ 32768) (hl : L.length ≤ 300) (hs : s.size ≤ 9000) (h0 : 0 ≤ at_ ∧ at_ ≤ 8 * (s.size : Int)) : ∀ d i : Nat, i + d = 15 → (at_ + i ≤ 8 * (s.size : Int)) →
    ∃ r : Int × Int, (if r.1 < 0 then ((-1 : Int), (0 : Int)) else r) = getR (fM s at_ L d i) ∧ Ev (fun k => spec_l3Get.l0 k s (at_ + i) (codesM L) L (acM s at_ i) ((i : Int) + 1)) r := by
  have hcl := codesM_length L
  intro d
  induction d with
  | zero =>
    intro i hi hle
    refine ⟨(-1, at_ + i), rfl, 2, fun k hk => ?_⟩
    try dsimp only
    obtain ⟨m, rfl⟩ : ∃ m, k = m + 1 + 1 := ⟨k - 2, by omega⟩
    try dsimp only
    rw [spec_l3Get.l0, if_neg (by omega), spec_l3Get.j1, if_neg (by decide)]
  | succ d ih =>
    intro i hi hle
    unfold fM
    by_cases hlt : at_ + i < 8 * (s.size : Int)
    · have hb := bitM_b s (at_ + i) false
      have ha := acM_b s at_ i
      have hp := P2_b (n := i) (m := 15) (by omega)
      rw [P2_15] at hp
      have e1 : wrap64 (wrap64 (2 * acM s at_ i) + bitM s (at_ + i) false) = acM s at_ (i + 1) := by
        rw [w64 (x := 2 * acM s at_ i) (by omega), w64 (by omega)]; rfl
      obtain ⟨K1, hK1⟩ := l1Bit_ev s (at_ + i) false (by omega) (by omega) (by omega)
      try dsimp only at hK1
      try dsimp only at hK1
      rw [if_pos hlt]
      have start : ∀ (r : Int × Int), Ev (fun k => spec_l3Get.l1 k s (at_ + i + 1) (codesM L) L (acM s at_ (i + 1)) ((i : Int) + 1) 0) r → Ev (fun k => spec_l3Get.l0 k s (at_ + i) (codesM L) L (acM s at_ i) ((i : Int) + 1)) r := by
        intro r hE
        obtain ⟨K, hK⟩ := hE
        try dsimp only at hK
        refine ⟨K + K1 + 2, fun k hk => ?_⟩
        try dsimp only
        obtain ⟨m, rfl⟩ : ∃ m, k = m + 1 + 1 := ⟨k - 2, by omega⟩
        have hm := hK m (by omega)
        try dsimp only at hm ⊢
        rw [spec_l3Get.l0, if_pos (by omega), w64 (x := 8 * (s.size : Int)) (by omega), decide_eq_true hlt, spec_l3Get.j1, if_pos rfl, hK1 m (by omega), Option.bind_some, e1, w64 (x := at_ + i + 1) (by omega)]
        exact hm
      cases hq : symF (codesM L) L (acM s at_ (i + 1)) ((i : Int) + 1) L.length with
      | some j =>
        obtain ⟨q1, q2, q3, q4⟩ := symF_some hq
        refine ⟨((j : Int), at_ + i + 1), ?_, start _ ?_⟩
        · show (if (j : Int) < 0 then _ else _) = _
          rw [if_neg (by omega)]; rfl
        · exact l3Get_l1_some s _ L (codesM L) hl hcl _ _ j q1 q4 q3 (symF_first hok hk15 hq) j 0 (by omega)
      | none =>
        obtain ⟨r, hr, hE⟩ := ih (i + 1) (by omega) (by omega)
        refine ⟨r, hr, start _ ?_⟩
        refine l3Get_l1_none s _ L (codesM L) hl hcl _ _ (by omega) hq r ?_ L.length 0 (by omega)
        rw [w64 (x := (i : Int) + 1 + 1) (by omega)]
        rw [show ((i + 1 : Nat) : Int) = (i : Int) + 1 by omega, ← Int.add_assoc] at hE
        exact hE
    · rw [if_neg hlt]
      refine ⟨(-1, at_ + i), rfl, 2, fun k hk => ?_⟩
      try dsimp only
      obtain ⟨m, rfl⟩ : ∃ m, k = m + 1 + 1 := ⟨k - 2, by omega⟩
      try dsimp only
      rw [spec_l3Get.l0, if_pos (by omega), w64 (x := 8 * (s.size : Int)) (by omega), decide_eq_false hlt, spec_l3Get.j1, if_neg (by decide)]
theorem spec_CodeGet_ev (s : ByteArray) (at_ : Int) (L : List Int) (hl : L.length ≤ 1048576) : Ev (fun k => spec_CodeGet.f k s at_ L) (codeGetM s at_ L) := by
  obtain ⟨K1, h1⟩ := spec_CodeOk_ev L hl
  try dsimp only at h1
  obtain ⟨K2, h2⟩ := spec_l3Make_ev L hl
  try dsimp only at h2
  try dsimp only at h1 h2
  unfold codeGetM
  by_cases c : codeOkM L = true
  · have hh := of_decide_eq_true c
    by_cases c2 : (s.size : Int) > 9000
    · rw [if_neg (fun h => by omega)]
      refine ⟨K1 + 1, fun k hk => ?_⟩
      try dsimp only
      obtain ⟨m, rfl⟩ : ∃ m, k = m + 1 := ⟨k - 1, by omega⟩
      try dsimp only
      unfold spec_CodeGet.f
      rw [h1 _ (by omega), Option.bind_some, if_pos c, if_pos c2, spec_CodeGet.j0, if_pos rfl]
    · by_cases c3 : 0 ≤ at_ ∧ at_ ≤ 8 * (s.size : Int)
      · rw [if_pos ⟨c, by omega, c3.1, c3.2⟩]
        obtain ⟨r, hr, K3, h3⟩ := l3Get_l0_ev s at_ L hh.1 hh.2.2 hh.2.1 (by omega) c3 15 0 (by omega) (by omega)
        try dsimp only at h3
        try dsimp only at h3
        refine ⟨K1 + K2 + K3 + 1, fun k hk => ?_⟩
        try dsimp only
        obtain ⟨m, rfl⟩ : ∃ m, k = m + 1 := ⟨k - 1, by omega⟩
        try dsimp only
        have h3m := h3 m (by omega)
        rw [show at_ + ((0 : Nat) : Int) = at_ by omega] at h3m
        unfold spec_CodeGet.f
        rw [h1 _ (by omega), Option.bind_some, if_pos c, if_neg c2, w64 (x := 8 * (s.size : Int)) (by omega), l1In_f, Option.bind_some, decide_eq_true c3, spec_CodeGet.j0, if_neg (by decide), h2 m (by omega), Option.bind_some]
        unfold spec_l3Get.f
        have e0 : acM s at_ 0 = 0 := rfl
        rw [e0] at h3m
        rw [show ((0 : Nat) : Int) + 1 = 1 from rfl] at h3m
        rw [h3m, Option.bind_some, ← hr]
        by_cases c4 : r.1 < 0
        · rw [if_pos c4, if_pos c4]
        · rw [if_neg c4, if_neg c4]
      · rw [if_neg (fun h => c3 ⟨h.2.2.1, h.2.2.2⟩)]
        refine ⟨K1 + 1, fun k hk => ?_⟩
        try dsimp only
        obtain ⟨m, rfl⟩ : ∃ m, k = m + 1 := ⟨k - 1, by omega⟩
        try dsimp only
        unfold spec_CodeGet.f
        rw [h1 _ (by omega), Option.bind_some, if_pos c, if_neg c2, w64 (x := 8 * (s.size : Int)) (by omega), l1In_f, Option.bind_some, decide_eq_false c3, spec_CodeGet.j0, if_pos (by decide)]
  · rw [if_neg (fun h => c h.1)]
    refine ⟨K1 + 1, fun k hk => ?_⟩
    try dsimp only
    obtain ⟨m, rfl⟩ : ∃ m, k = m + 1 := ⟨k - 1, by omega⟩
    try dsimp only
    unfold spec_CodeGet.f
    rw [h1 _ (by omega), Option.bind_some, if_neg c, spec_CodeGet.j0, if_pos rfl]
theorem toIntS_l0_ev (l : List Int) (hl : l.length ≤ 35184372088832) : ∀ (suf pre : List Int), l = pre ++ suf → Ev (fun k => laws_toIntS.l0 k l (pre ++ List.replicate suf.length 0) (pre.length : Int)) l := by
  intro suf
  induction suf with
  | nil =>
    intro pre hp
    refine ⟨1, fun k hk => ?_⟩
    try dsimp only
    obtain ⟨m, rfl⟩ : ∃ m, k = m + 1 := ⟨k - 1, by omega⟩
    subst hp
    rw [laws_toIntS.l0, if_neg (by simp)]
    simp
  | cons x suf ih =>
    intro pre hp
    obtain ⟨K, hK⟩ := ih (pre ++ [x]) (by simp [hp])
    try dsimp only at hK
    refine ⟨K + 1, fun k hk => ?_⟩
    try dsimp only
    obtain ⟨m, rfl⟩ : ∃ m, k = m + 1 := ⟨k - 1, by omega⟩
    have hm := hK m (by omega)
    have hll : l.length = pre.length + suf.length + 1 := by rw [hp]; simp; omega
    have hx : rd l (pre.length : Int) = x := by rw [hp]; exact rd_at _ _ _ rfl
    rw [laws_toIntS.l0, if_pos (by omega), if_pos (by omega), if_pos (by simp; omega), hx, w64 (by omega), List.length_cons, List.replicate_succ, set_at _ _ _ _ (by omega)]
    simp only [List.append_assoc, List.singleton_append, List.length_append, List.length_singleton] at hm
    rw [show ((pre.length + 1 : Nat) : Int) = (pre.length : Int) + 1 by omega] at hm
    exact hm
theorem toIntS_ev (l : List Int) (hl : l.length ≤ 35184372088832) : Ev (fun k => laws_toIntS.f k l) l := by
  obtain ⟨K, hK⟩ := toIntS_l0_ev l hl l [] rfl
  try dsimp only at hK
  refine ⟨K, fun k hk => ?_⟩
  try dsimp only
  have hm := hK k hk
  unfold laws_toIntS.f
  rw [if_pos (by omega), if_pos (by omega), Int.toNat_natCast]
  exact hm
theorem eqIntS_l0_ev (a b : List Int) (hl : a.length ≤ 35184372088832) (hab : a.length = b.length) : ∀ (sa sb pa pb : List Int), a = pa ++ sa → b = pb ++ sb → pa.length = pb.length → Ev (fun k => laws_eqIntS.l0 k a b (pa.length : Int)) (decide (sa = sb)) := by
  intro sa
  induction sa with
  | nil =>
    intro sb pa pb ha hb hp
    have hsb : sb = [] := by
      cases sb with
      | nil => rfl
      | cons y sb => rw [ha, hb] at hab; simp at hab; omega
    subst hsb
    refine ⟨1, fun k hk => ?_⟩
    try dsimp only
    obtain ⟨m, rfl⟩ : ∃ m, k = m + 1 := ⟨k - 1, by omega⟩
    rw [laws_eqIntS.l0, if_neg (by rw [ha]; simp)]
    simp
  | cons x sa ih =>
    intro sb pa pb ha hb hp
    cases sb with
    | nil => rw [ha, hb] at hab; simp at hab; omega
    | cons y sb =>
      have hll : a.length = pa.length + sa.length + 1 := by rw [ha]; simp; omega
      have hx : rd a (pa.length : Int) = x := by rw [ha]; exact rd_at _ _ _ rfl
      have hy : rd b (pa.length : Int) = y := by rw [hb]; exact rd_at _ _ _ (by omega)
      by_cases hxy : x = y
      · obtain ⟨K, hK⟩ := ih sb (pa ++ [x]) (pb ++ [y]) (by simp [ha]) (by simp [hb]) (by simp [hp])
        try dsimp only at hK
        refine ⟨K + 1, fun k hk => ?_⟩
        try dsimp only
        obtain ⟨m, rfl⟩ : ∃ m, k = m + 1 := ⟨k - 1, by omega⟩
        have hm := hK m (by omega)
        rw [laws_eqIntS.l0, if_pos (by omega), if_pos (by omega), if_pos (by omega), hx, hy, if_pos hxy, w64 (by omega)]
        rw [List.length_append, List.length_singleton, show ((pa.length + 1 : Nat) : Int) = (pa.length : Int) + 1 by omega] at hm
        rw [hm]
        simp [hxy]
      · refine ⟨1, fun k hk => ?_⟩
        try dsimp only
        obtain ⟨m, rfl⟩ : ∃ m, k = m + 1 := ⟨k - 1, by omega⟩
        rw [laws_eqIntS.l0, if_pos (by omega), if_pos (by omega), if_pos (by omega), hx, hy, if_neg hxy]
        simp [hxy]
theorem eqIntS_ev (a b : List Int) (hl : a.length ≤ 35184372088832) (hl2 : b.length ≤ 35184372088832) : Ev (fun k => laws_eqIntS.f k a b) (decide (a = b)) := by
  unfold laws_eqIntS.f
  by_cases h : a.length = b.length
  · obtain ⟨K, hK⟩ := eqIntS_l0_ev a b hl h a b [] [] rfl rfl rfl
    try dsimp only at hK
    refine ⟨K, fun k hk => ?_⟩
    try dsimp only
    rw [if_pos (by omega)]
    exact hK k hk
  · refine ⟨0, fun k hk => ?_⟩
    try dsimp only
    rw [if_neg (by omega), decide_eq_false (fun e => h (by rw [e]))]

theorem FnExactCodeGet : laws_FnExactCodeGet.Pure := by
  intro s at_ L hs hat hl hl8 hw
  unfold laws_FnExactCodeGet.f
  by_cases h : (s.size : Int) > 1048576
  · exact ⟨0, by rw [if_pos h]⟩
  by_cases h' : (L.length : Int) > 1048576
  · exact ⟨0, by rw [if_neg h, if_pos h']⟩
  obtain ⟨K1, h1⟩ := toIntS_ev L (by omega)
  try dsimp only at h1
  obtain ⟨K2, h2⟩ := spec_CodeGet_ev s at_ L (by omega)
  try dsimp only at h2
  obtain ⟨K3, h3⟩ := impl_CodeGet_ev s at_ L (by omega)
  try dsimp only at h3
  obtain ⟨K4, h4⟩ := eqIntS_ev L L (by omega) (by omega)
  try dsimp only at h4
  try dsimp only at h1 h2 h3 h4
  obtain ⟨K, hK⟩ : ∃ K, K = K1 + K2 + K3 + K4 := ⟨_, rfl⟩
  refine ⟨K + 1, ?_⟩
  rw [if_neg h, if_neg h', h1 _ (by omega), Option.bind_some, h2 _ (by omega), Option.bind_some, Option.bind_some, h3 _ (by omega), Option.bind_some, if_pos rfl]
  have e : ((codeGetM s at_ L).2 != (codeGetM s at_ L).2) = false := by simp
  rw [e, laws_FnExactCodeGet.j0, if_neg (by decide), h1 K (by omega), Option.bind_some, h4 K (by omega), Option.bind_some, decide_eq_true rfl, if_pos rfl]

end Go.Proofs.Ytgajagocenffeaa.Pure
