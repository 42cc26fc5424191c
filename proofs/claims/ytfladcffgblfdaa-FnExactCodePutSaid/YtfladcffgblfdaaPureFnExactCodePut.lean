/- The program's CodePut and the reference's answer the same, at every text and every lengths of at most 1048576 numbers (longer ones are let by), leave both as they were, and the answer is its own memory. -/
import Derived.Test.YtfladcffgblfdaaPFnExactCodePutx5
import Derived.Test.YtfladcffgblfdaaThNum
import Derived.Test.YtfladcffgblfdaaThMake
import Derived.Test.YtfladcffgblfdaaThCode
import Derived.Test.YtfladcffgblfdaaThCodePut
import Derived.Test.YtfladcffgblfdaaThMark
namespace Go.Proofs.Ytfladcffgblfdaa.Pure
open Go.RowKit Go.Proofs.Ytfladcffgblfdaa.PFnExactCodePut Go.Proofs.YtfladcffgblfdaaW.PrintWords Go.Proofs.YtfladcffgblfdaaW.PrintLast Go.Proofs.YtfladcffgblfdaaW.PrintMore Go.Proofs.Ytfladcffgblfdaa.Th
set_option linter.unusedVariables false
set_option linter.unusedSimpArgs false

theorem in_f (a b c : Int) : impl_in.f a b c = some (decide (b ≤ a ∧ a ≤ c)) := by
  unfold impl_in.f
  by_cases h : b ≤ a
  · rw [if_pos h]; simp [h]
  · rw [if_neg h]; simp [h]
theorem l1In_f (a b c : Int) : spec_l1In.f a b c = some (decide (b ≤ a ∧ a ≤ c)) := by
  unfold spec_l1In.f
  by_cases h : b ≤ a
  · rw [if_pos h]; simp [h]
  · rw [if_neg h]; simp [h]
theorem spec_l3Make_l1_ev (l : List Int) (hl : l.length ≤ 1048576) (n : Int) (hn : 1 ≤ n ∧ n ≤ 15) (r : List Int) (hnext : Ev (fun k => spec_l3Make.l0 k l (cdL l (n + 1) [] l) (cdA n l + cdB n l) (n + 1)) r) :
    ∀ (suf pre : List Int), l = pre ++ suf → Ev (fun k => spec_l3Make.l1 k l (cdL l (n + 1) [] pre ++ cdL l n pre suf) (cdA n l + cdB n pre) n (pre.length : Int)) r := by
  intro suf
  induction suf with
  | nil =>
    intro pre hp
    obtain ⟨K, hK⟩ := hnext
    try dsimp only at hK
    refine ⟨K + 1, fun k hk => ?_⟩
    try dsimp only
    obtain ⟨m, rfl⟩ : ∃ m, k = m + 1 := ⟨k - 1, by omega⟩
    have hm := hK m (by omega)
    have hpl : pre = l := by rw [hp]; simp
    subst hpl
    rw [spec_l3Make.l1, if_neg (by omega), w64 (by omega)]
    simpa [cdL] using hm
  | cons x suf ih =>
    intro pre hp
    obtain ⟨K, hK⟩ := ih (pre ++ [x]) (by simp [hp])
    try dsimp only at hK
    refine ⟨K + 1, fun k hk => ?_⟩
    try dsimp only
    obtain ⟨m, rfl⟩ : ∃ m, k = m + 1 := ⟨k - 1, by omega⟩
    have hm := hK m (by omega)
    have hll : l.length = pre.length + suf.length + 1 := by rw [hp]; simp; omega
    have hx : rd l (pre.length : Int) = x := by rw [hp]; exact rd_at _ _ _ rfl
    have hA := cdA_b n l (by omega)
    have hB := cdB_b n pre
    have hlen := cdL_length l (n + 1) pre []
    have hlen2 := cdL_length l n (x :: suf) pre
    rw [List.length_append, List.length_singleton, show ((pre.length + 1 : Nat) : Int) = (pre.length : Int) + 1 by omega, cdL_append, cdB_append] at hm
    simp only [cdL, List.nil_append, List.append_assoc, List.singleton_append, cdB] at hm
    rw [spec_l3Make.l1, if_pos (by omega), if_pos (by omega), hx]
    by_cases h : x = n
    · rw [if_pos (by omega), if_pos h, Int.add_zero] at hm
      rw [if_pos h, if_pos (by rw [List.length_append, hlen, hlen2]; simp; omega), Int.toNat_natCast]
      simp only [cdL]
      rw [set_at _ _ _ _ (by rw [hlen]), w64 (by omega), w64 (by omega)]
      have e : cdN l pre x = cdA n l + cdB n pre := by unfold cdN; rw [h]
      rw [e] at hm
      rw [Int.add_assoc]
      exact hm
    · rw [if_neg h, Int.add_zero, Int.add_zero] at hm
      rw [if_neg h, w64 (by omega)]
      simp only [cdL]
      by_cases h2 : 0 < x ∧ x < n
      · rw [if_pos (by omega)] at hm; rw [if_pos h2]; exact hm
      · rw [if_neg (by omega)] at hm; rw [if_neg h2]; exact hm
theorem spec_l3Make_l0_ev (l : List Int) (hl : l.length ≤ 1048576) : ∀ (d : Nat) (n : Int), 1 ≤ n → n + d = 16 → ∀ (x : Int), 2 * x = cdA n l → Ev (fun k => spec_l3Make.l0 k l (cdL l n [] l) x n) (codesM l) := by
  intro d
  induction d with
  | zero =>
    intro n h1 hn x hx
    refine ⟨1, fun k hk => ?_⟩
    try dsimp only
    obtain ⟨m, rfl⟩ : ∃ m, k = m + 1 := ⟨k - 1, by omega⟩
    rw [spec_l3Make.l0, if_neg (by omega)]
    unfold codesM
    rw [show n = 16 by omega]
  | succ d ih =>
    intro n h1 hn x hx
    have hA := cdA_b n l (by omega)
    obtain ⟨K, hK⟩ := spec_l3Make_l1_ev l hl n (by omega) (codesM l) (ih (n + 1) (by omega) (by omega) _ (by rw [cdA_succ n l h1])) l [] rfl
    try dsimp only at hK
    refine ⟨K + 1, fun k hk => ?_⟩
    try dsimp only
    obtain ⟨m, rfl⟩ : ∃ m, k = m + 1 := ⟨k - 1, by omega⟩
    have hm := hK m (by omega)
    rw [spec_l3Make.l0, if_pos (by omega), w64 (by omega), show x * 2 = cdA n l by omega]
    simpa [cdL, cdB] using hm
theorem spec_l3Make_ev (l : List Int) (hl : l.length ≤ 1048576) : Ev (fun k => spec_l3Make.f k l) (codesM l) := by
  obtain ⟨K, hK⟩ := spec_l3Make_l0_ev l hl 15 1 (by omega) (by omega) 0 (by rw [cdA_one]; rfl)
  try dsimp only at hK
  refine ⟨K, fun k hk => ?_⟩
  try dsimp only
  have hm := hK k hk
  rw [cdL_one] at hm
  unfold spec_l3Make.f
  rw [if_pos (by omega), if_pos (by omega), Int.toNat_natCast]
  exact hm
theorem l1Pow_l0_ev (n : Nat) (hn : n ≤ 62) : ∀ d i : Nat, i + d = n → Ev (fun k => spec_l1Pow.l0 k (n : Int) (P2 i) (i : Int)) (P2 n) := by
  intro d
  induction d with
  | zero =>
    intro i hi
    refine ⟨1, fun k hk => ?_⟩
    try dsimp only
    obtain ⟨m, rfl⟩ : ∃ m, k = m + 1 := ⟨k - 1, by omega⟩
    rw [spec_l1Pow.l0, if_neg (by omega), show i = n by omega]
  | succ d ih =>
    intro i hi
    obtain ⟨K, hK⟩ := ih (i + 1) (by omega)
    try dsimp only at hK
    refine ⟨K + 1, fun k hk => ?_⟩
    try dsimp only
    obtain ⟨m, rfl⟩ : ∃ m, k = m + 1 := ⟨k - 1, by omega⟩
    have hm := hK m (by omega)
    have hb := P2_62b (n := i) (by omega)
    have hb' := P2_62b (n := i + 1) (by omega)
    have hs := P2_succ i
    rw [spec_l1Pow.l0, if_pos (by omega), w64 (by omega), w64 (by omega), show P2 i * 2 = P2 (i + 1) by omega, show (i : Int) + 1 = ((i + 1 : Nat) : Int) by omega]
    exact hm
theorem l1Pow_ev (n : Nat) (hn : n ≤ 62) : Ev (fun k => spec_l1Pow.f k (n : Int)) (P2 n) := l1Pow_l0_ev n hn n 0 (by omega)
theorem l1Pow_evI (n : Int) (h0 : 0 ≤ n) (hn : n ≤ 62) : Ev (fun k => spec_l1Pow.f k n) (P2 n.toNat) := by
  have h := l1Pow_ev n.toNat (by omega)
  rw [Int.toNat_of_nonneg h0] at h
  exact h
theorem l3Left_l0_ev (l : List Int) (hl : l.length ≤ 1048576) : ∀ (suf pre : List Int) (left : Int), l = pre ++ suf → 0 ≤ left → left ≤ 32768 → Ev (fun k => spec_l3Left.l0 k l left (pre.length : Int)) (if lensOk suf ∧ kraft suf ≤ left then left - kraft suf else -1) := by
  intro suf
  induction suf with
  | nil =>
    intro pre left hp h0 h1
    refine ⟨1, fun k hk => ?_⟩
    try dsimp only
    obtain ⟨m, rfl⟩ : ∃ m, k = m + 1 := ⟨k - 1, by omega⟩
    subst hp
    rw [spec_l3Left.l0, if_neg (by simp), if_pos ⟨lensOk_nil, by simp [kraft]; omega⟩]
    simp [kraft]
  | cons x suf ih =>
    intro pre left hp h0 h1
    have hll : l.length = pre.length + suf.length + 1 := by rw [hp]; simp; omega
    have hx : rd l (pre.length : Int) = x := by rw [hp]; exact rd_at _ _ _ rfl
    have hk0 := kraft_nn suf
    have e1 : ((pre ++ [x]).length : Int) = (pre.length : Int) + 1 := by simp
    by_cases hr : 0 ≤ x ∧ x ≤ 15
    · by_cases hz : x > 0
      · obtain ⟨K1, hK1⟩ := l1Pow_evI (15 - x) (by omega) (by omega)
        try dsimp only at hK1
        have hp2 := P2_b (n := (15 - x).toNat) (m := 15) (by omega)
        rw [P2_15] at hp2
        have hcons : kraft (x :: suf) = P2 (15 - x).toNat + kraft suf := by simp only [kraft, if_pos hz]
        by_cases hn : left - P2 (15 - x).toNat < 0
        · refine ⟨K1 + 1, fun k hk => ?_⟩
          try dsimp only
          obtain ⟨m, rfl⟩ : ∃ m, k = m + 1 := ⟨k - 1, by omega⟩
          rw [spec_l3Left.l0, if_pos (by omega), if_pos (by omega), hx, l1In_f]
          simp only [Option.bind_some]
          rw [if_pos (decide_eq_true hr), if_pos hz, w64 (x := 15 - x) (by omega), hK1 m (by omega)]
          simp only [Option.bind_some]
          rw [w64 (by omega), if_pos hn, if_neg (by rw [hcons]; omega)]
        · obtain ⟨K, hK⟩ := ih (pre ++ [x]) (left - P2 (15 - x).toNat) (by simp [hp]) (by omega) (by omega)
          try dsimp only at hK
          refine ⟨K + K1 + 1, fun k hk => ?_⟩
          try dsimp only
          obtain ⟨m, rfl⟩ : ∃ m, k = m + 1 := ⟨k - 1, by omega⟩
          have hm := hK m (by omega)
          rw [e1] at hm
          rw [spec_l3Left.l0, if_pos (by omega), if_pos (by omega), hx, l1In_f]
          simp only [Option.bind_some]
          rw [if_pos (decide_eq_true hr), if_pos hz, w64 (x := 15 - x) (by omega), hK1 m (by omega)]
          simp only [Option.bind_some]
          rw [w64 (x := left - _) (by omega), if_neg hn, w64 (by omega), hm, hcons]
          by_cases hc : lensOk suf ∧ kraft suf ≤ left - P2 (15 - x).toNat
          · rw [if_pos hc, if_pos ⟨(lensOk_cons _ _).2 ⟨hr, hc.1⟩, by omega⟩]; congr 1; omega
          · rw [if_neg hc, if_neg (fun h => hc ⟨((lensOk_cons _ _).1 h.1).2, by omega⟩)]
      · obtain ⟨K, hK⟩ := ih (pre ++ [x]) left (by simp [hp]) (by omega) (by omega)
        try dsimp only at hK
        have hcons : kraft (x :: suf) = kraft suf := by simp only [kraft, if_neg (show ¬ 0 < x by omega)]; omega
        refine ⟨K + 1, fun k hk => ?_⟩
        try dsimp only
        obtain ⟨m, rfl⟩ : ∃ m, k = m + 1 := ⟨k - 1, by omega⟩
        have hm := hK m (by omega)
        rw [e1] at hm
        rw [spec_l3Left.l0, if_pos (by omega), if_pos (by omega), hx, l1In_f]
        simp only [Option.bind_some]
        rw [if_pos (decide_eq_true hr), if_neg hz, if_neg (by omega), w64 (by omega), hm, hcons]
        by_cases hc : lensOk suf ∧ kraft suf ≤ left
        · rw [if_pos hc, if_pos ⟨(lensOk_cons _ _).2 ⟨hr, hc.1⟩, by omega⟩]
        · rw [if_neg hc, if_neg (fun h => hc ⟨((lensOk_cons _ _).1 h.1).2, by omega⟩)]
    · refine ⟨1, fun k hk => ?_⟩
      try dsimp only
      obtain ⟨m, rfl⟩ : ∃ m, k = m + 1 := ⟨k - 1, by omega⟩
      rw [spec_l3Left.l0, if_pos (by omega), if_pos (by omega), hx, l1In_f]
      simp only [Option.bind_some]
      rw [if_neg (by simpa using hr), if_neg (fun h => hr ((lensOk_cons _ _).1 h.1).1)]
theorem l3Left_ev (l : List Int) (hl : l.length ≤ 1048576) : Ev (fun k => spec_l3Left.f k l) (if lensOk l ∧ kraft l ≤ 32768 then 32768 - kraft l else -1) := by
  obtain ⟨K, hK⟩ := l3Left_l0_ev l hl l [] 32768 rfl (by omega) (by omega)
  try dsimp only at hK
  obtain ⟨K1, hK1⟩ := l1Pow_evI 15 (by omega) (by omega)
  try dsimp only at hK1
  refine ⟨K + K1, fun k hk => ?_⟩
  try dsimp only
  unfold spec_l3Left.f
  rw [hK1 k (by omega)]
  exact hK k (by omega)
theorem spec_CodeOk_ev (l : List Int) (hl : l.length ≤ 1048576) : Ev (fun k => spec_CodeOk.f k l) (codeOkM l) := by
  unfold spec_CodeOk.f codeOkM
  by_cases h : l.length ≤ 300
  · obtain ⟨K, hK⟩ := l3Left_ev l hl
    try dsimp only at hK
    refine ⟨K, fun k hk => ?_⟩
    try dsimp only
    rw [if_pos (by omega), hK k hk]
    simp only [Option.bind_some]
    by_cases hc : lensOk l ∧ kraft l ≤ 32768
    · rw [if_pos hc, decide_eq_true (by omega), decide_eq_true ⟨hc.1, h, hc.2⟩]
    · rw [if_neg hc, decide_eq_false (by omega), decide_eq_false (fun h => hc ⟨h.1, h.2.2⟩)]
  · refine ⟨0, fun k hk => ?_⟩
    try dsimp only
    rw [if_neg (by omega), decide_eq_false (fun hh => h hh.2.1)]
theorem filled_l0_ev (l : List Int) (hl : l.length ≤ 1048576) : ∀ (suf pre : List Int) (sum : Int), l = pre ++ suf → 0 ≤ sum → sum ≤ 16384 * pre.length → Ev (fun k => impl_filled.l0 k l sum l (l.length : Int) (pre.length : Int)) (if lensOk suf ∧ l.length ≤ 300 ∧ sum + kraft suf ≤ 32768 then sum + kraft suf else -1) := by
  intro suf
  induction suf with
  | nil =>
    intro pre sum hp h0 h1
    refine ⟨1, fun k hk => ?_⟩
    try dsimp only
    obtain ⟨m, rfl⟩ : ∃ m, k = m + 1 := ⟨k - 1, by omega⟩
    have hpl : l.length = pre.length := by rw [hp]; simp
    rw [impl_filled.l0, if_neg (by omega)]
    have e0 : kraft ([] : List Int) = 0 := rfl
    by_cases h3 : l.length ≤ 300
    · by_cases h4 : sum ≤ 32768
      · rw [if_neg (by omega), if_neg (by omega), if_pos ⟨lensOk_nil, h3, by omega⟩, e0, Int.add_zero]
      · rw [if_neg (by omega), if_pos (by omega), if_neg (by omega)]
    · rw [if_pos (by omega), if_neg (by omega)]
  | cons x suf ih =>
    intro pre sum hp h0 h1
    have hll : l.length = pre.length + suf.length + 1 := by rw [hp]; simp; omega
    have hx : rd l (pre.length : Int) = x := by rw [hp]; exact rd_at _ _ _ rfl
    have hk0 := kraft_nn suf
    have e1 : ((pre ++ [x]).length : Int) = (pre.length : Int) + 1 := by simp
    by_cases hr : 0 ≤ x ∧ x ≤ 15
    · by_cases hz : x > 0
      · have hp2 := P2_b (n := (15 - x).toNat) (m := 14) (by omega)
        rw [show P2 14 = 16384 from rfl] at hp2
        have hcons : kraft (x :: suf) = P2 (15 - x).toNat + kraft suf := by simp only [kraft, if_pos hz]
        obtain ⟨K, hK⟩ := ih (pre ++ [x]) (sum + P2 (15 - x).toNat) (by simp [hp]) (by omega) (by rw [e1]; omega)
        try dsimp only at hK
        refine ⟨K + 1, fun k hk => ?_⟩
        try dsimp only
        obtain ⟨m, rfl⟩ : ∃ m, k = m + 1 := ⟨k - 1, by omega⟩
        have hm := hK m (by omega)
        rw [e1] at hm
        rw [impl_filled.l0, if_pos (by omega), if_pos (by omega), if_pos (by omega), hx, in_f]
        simp only [Option.bind_some]
        rw [if_pos (decide_eq_true hr), if_pos hz, w64 (x := 15 - x) (by omega), if_pos (by omega), shl1_P2 (by omega) (by omega), w64 (x := sum + _) (by omega), w64 (by omega), hm, hcons]
        by_cases hc : lensOk suf ∧ l.length ≤ 300 ∧ sum + P2 (15 - x).toNat + kraft suf ≤ 32768
        · rw [if_pos hc, if_pos ⟨(lensOk_cons _ _).2 ⟨hr, hc.1⟩, hc.2.1, by omega⟩]; congr 1; omega
        · rw [if_neg hc, if_neg (fun h => hc ⟨((lensOk_cons _ _).1 h.1).2, h.2.1, by omega⟩)]
      · obtain ⟨K, hK⟩ := ih (pre ++ [x]) sum (by simp [hp]) (by omega) (by rw [e1]; omega)
        try dsimp only at hK
        have hcons : kraft (x :: suf) = kraft suf := by simp only [kraft, if_neg (show ¬ 0 < x by omega)]; omega
        refine ⟨K + 1, fun k hk => ?_⟩
        try dsimp only
        obtain ⟨m, rfl⟩ : ∃ m, k = m + 1 := ⟨k - 1, by omega⟩
        have hm := hK m (by omega)
        rw [e1] at hm
        rw [impl_filled.l0, if_pos (by omega), if_pos (by omega), if_pos (by omega), hx, in_f]
        simp only [Option.bind_some]
        rw [if_pos (decide_eq_true hr), if_neg hz, w64 (by omega), hm, hcons]
        by_cases hc : lensOk suf ∧ l.length ≤ 300 ∧ sum + kraft suf ≤ 32768
        · rw [if_pos hc, if_pos ⟨(lensOk_cons _ _).2 ⟨hr, hc.1⟩, hc.2⟩]
        · rw [if_neg hc, if_neg (fun h => hc ⟨((lensOk_cons _ _).1 h.1).2, h.2⟩)]
    · refine ⟨1, fun k hk => ?_⟩
      try dsimp only
      obtain ⟨m, rfl⟩ : ∃ m, k = m + 1 := ⟨k - 1, by omega⟩
      rw [impl_filled.l0, if_pos (by omega), if_pos (by omega), if_pos (by omega), hx, in_f]
      simp only [Option.bind_some]
      rw [if_neg (by simpa using hr), if_neg (fun h => hr ((lensOk_cons _ _).1 h.1).1)]
theorem filled_ev (l : List Int) (hl : l.length ≤ 1048576) : Ev (fun k => impl_filled.f k l) (if codeOkM l = true then kraft l else -1) := by
  obtain ⟨K, hK⟩ := filled_l0_ev l hl l [] 0 rfl (by omega) (by simp)
  try dsimp only at hK
  refine ⟨K, fun k hk => ?_⟩
  try dsimp only
  unfold impl_filled.f codeOkM
  refine (hK k hk).trans ?_
  simp only [Int.zero_add, decide_eq_true_eq]
theorem impl_CodeOk_ev (l : List Int) (hl : l.length ≤ 1048576) : Ev (fun k => impl_CodeOk.f k l) (codeOkM l) := by
  obtain ⟨K, hK⟩ := filled_ev l hl
  try dsimp only at hK
  have := kraft_nn l
  refine ⟨K, fun k hk => ?_⟩
  try dsimp only
  unfold impl_CodeOk.f
  rw [hK k hk]
  simp only [Option.bind_some]
  cases h : codeOkM l
  · simp
  · simp; omega
theorem impl_CodeMake_l1_ev (l : List Int) (hl : l.length ≤ 1048576) (n : Int) (hn : 1 ≤ n ∧ n ≤ 15) (r : List Int) (hnext : Ev (fun k => impl_CodeMake.l0 k l (cdL l (n + 1) [] l) (cdA n l + cdB n l) (n + 1)) r) :
    ∀ (suf pre : List Int), l = pre ++ suf → Ev (fun k => impl_CodeMake.l1 k l (cdL l (n + 1) [] pre ++ cdL l n pre suf) (cdA n l + cdB n pre) n l (l.length : Int) (pre.length : Int)) r := by
  intro suf
  induction suf with
  | nil =>
    intro pre hp
    obtain ⟨K, hK⟩ := hnext
    try dsimp only at hK
    refine ⟨K + 1, fun k hk => ?_⟩
    try dsimp only
    obtain ⟨m, rfl⟩ : ∃ m, k = m + 1 := ⟨k - 1, by omega⟩
    have hm := hK m (by omega)
    have hpl : pre = l := by rw [hp]; simp
    subst hpl
    rw [impl_CodeMake.l1, if_neg (by omega), w64 (by omega)]
    simpa [cdL] using hm
  | cons x suf ih =>
    intro pre hp
    obtain ⟨K, hK⟩ := ih (pre ++ [x]) (by simp [hp])
    try dsimp only at hK
    refine ⟨K + 1, fun k hk => ?_⟩
    try dsimp only
    obtain ⟨m, rfl⟩ : ∃ m, k = m + 1 := ⟨k - 1, by omega⟩
    have hm := hK m (by omega)
    have hll : l.length = pre.length + suf.length + 1 := by rw [hp]; simp; omega
    have hx : rd l (pre.length : Int) = x := by rw [hp]; exact rd_at _ _ _ rfl
    have hA := cdA_b n l (by omega)
    have hB := cdB_b n pre
    have hlen := cdL_length l (n + 1) pre []
    have hlen2 := cdL_length l n (x :: suf) pre
    rw [List.length_append, List.length_singleton, show ((pre.length + 1 : Nat) : Int) = (pre.length : Int) + 1 by omega, cdL_append, cdB_append] at hm
    simp only [cdL, List.nil_append, List.append_assoc, List.singleton_append, cdB] at hm
    rw [impl_CodeMake.l1, if_pos (by omega), if_pos (by omega), if_pos (by omega), hx]
    by_cases h : x = n
    · rw [if_pos (by omega), if_pos h, Int.add_zero] at hm
      rw [if_pos h, if_pos (by rw [List.length_append, hlen, hlen2]; simp; omega), Int.toNat_natCast]
      simp only [cdL]
      rw [set_at _ _ _ _ (by rw [hlen]), w64 (by omega), w64 (by omega)]
      have e : cdN l pre x = cdA n l + cdB n pre := by unfold cdN; rw [h]
      rw [e] at hm
      rw [Int.add_assoc]
      exact hm
    · rw [if_neg h, Int.add_zero, Int.add_zero] at hm
      rw [if_neg h, w64 (by omega)]
      simp only [cdL]
      by_cases h2 : 0 < x ∧ x < n
      · rw [if_pos (by omega)] at hm; rw [if_pos h2]; exact hm
      · rw [if_neg (by omega)] at hm; rw [if_neg h2]; exact hm
theorem impl_CodeMake_l0_ev (l : List Int) (hl : l.length ≤ 1048576) : ∀ (d : Nat) (n : Int), 1 ≤ n → n + d = 16 → ∀ (x : Int), 2 * x = cdA n l → Ev (fun k => impl_CodeMake.l0 k l (cdL l n [] l) x n) (codesM l) := by
  intro d
  induction d with
  | zero =>
    intro n h1 hn x hx
    refine ⟨1, fun k hk => ?_⟩
    try dsimp only
    obtain ⟨m, rfl⟩ : ∃ m, k = m + 1 := ⟨k - 1, by omega⟩
    rw [impl_CodeMake.l0, if_neg (by omega)]
    unfold codesM
    rw [show n = 16 by omega]
  | succ d ih =>
    intro n h1 hn x hx
    have hA := cdA_b n l (by omega)
    obtain ⟨K, hK⟩ := impl_CodeMake_l1_ev l hl n (by omega) (codesM l) (ih (n + 1) (by omega) (by omega) _ (by rw [cdA_succ n l h1])) l [] rfl
    try dsimp only at hK
    refine ⟨K + 1, fun k hk => ?_⟩
    try dsimp only
    obtain ⟨m, rfl⟩ : ∃ m, k = m + 1 := ⟨k - 1, by omega⟩
    have hm := hK m (by omega)
    rw [impl_CodeMake.l0, if_pos (by omega), w64 (by omega), show x * 2 = cdA n l by omega]
    simpa [cdL, cdB] using hm
theorem impl_CodeMake_ev (l : List Int) (hl : l.length ≤ 1048576) : Ev (fun k => impl_CodeMake.f k l) (codeMakeM l) := by
  obtain ⟨K1, h1⟩ := impl_CodeOk_ev l hl
  try dsimp only at h1
  obtain ⟨K, hK⟩ := impl_CodeMake_l0_ev l hl 15 1 (by omega) (by omega) 0 (by rw [cdA_one]; rfl)
  try dsimp only at hK
  refine ⟨K + K1, fun k hk => ?_⟩
  try dsimp only
  have hm := hK k (by omega)
  rw [cdL_one] at hm
  unfold impl_CodeMake.f codeMakeM
  rw [h1 k (by omega)]
  simp only [Option.bind_some]
  by_cases h : codeOkM l = true
  · rw [if_pos h, if_pos (by omega), if_pos (by omega), Int.toNat_natCast, hm, if_pos h]
  · rw [if_neg h, if_neg h]
def toB (t : Int × Int) : S89 := ⟨t.1, t.2⟩
theorem rd_atB (pre suf : List S89) (t : S89) {i : Int} (hi : i = (pre.length : Int)) : rd_T89 (pre ++ t :: suf) i = t := by
  subst hi; simp [rd_T89]
theorem set_atB (pre suf : List S89) (x y : S89) {i : Nat} (hi : i = pre.length) : (pre ++ x :: suf).set i y = pre ++ y :: suf := by
  subst hi; simp
theorem eqBitS_l0_ev (a : List S89) (hl : a.length ≤ 35184372088832) : ∀ (sa pa : List S89), a = pa ++ sa → Ev (fun k => laws_eqBitS.l0 k a a (pa.length : Int)) true := by
  intro sa
  induction sa with
  | nil =>
    intro pa ha
    refine ⟨1, fun k hk => ?_⟩
    try dsimp only
    obtain ⟨m, rfl⟩ : ∃ m, k = m + 1 := ⟨k - 1, by omega⟩
    rw [laws_eqBitS.l0, if_neg (by rw [ha]; simp)]
  | cons x sa ih =>
    intro pa ha
    have hll : a.length = pa.length + sa.length + 1 := by rw [ha]; simp; omega
    have hx : rd_T89 a (pa.length : Int) = x := by rw [ha]; exact rd_atB _ _ _ rfl
    obtain ⟨K, hK⟩ := ih (pa ++ [x]) (by simp [ha])
    try dsimp only at hK
    refine ⟨K + 1, fun k hk => ?_⟩
    try dsimp only
    obtain ⟨m, rfl⟩ : ∃ m, k = m + 1 := ⟨k - 1, by omega⟩
    have hm := hK m (by omega)
    have e : laws_eqBit.f x.f0 x.f1 x.f0 x.f1 = some true := by simp [laws_eqBit.f]
    rw [laws_eqBitS.l0, if_pos (by omega), if_pos (by omega), if_pos (by omega), hx, e]
    simp only [Option.bind_some, if_true]
    rw [w64 (by omega)]
    rw [List.length_append, List.length_singleton, show ((pa.length + 1 : Nat) : Int) = (pa.length : Int) + 1 by omega] at hm
    exact hm
theorem eqBitS_ev (a : List S89) (hl : a.length ≤ 35184372088832) : Ev (fun k => laws_eqBitS.f k a a) true := by
  obtain ⟨K, hK⟩ := eqBitS_l0_ev a hl a [] rfl
  try dsimp only at hK
  refine ⟨K, fun k hk => ?_⟩
  try dsimp only
  unfold laws_eqBitS.f
  rw [if_pos rfl]
  exact hK k hk
def marksB (m : Int) : Nat → List S89
  | 0 => []
  | n + 1 => marksB m n ++ [⟨m + 2 * n, m + 2 * n + 1⟩]
theorem marksB_length (m : Int) (n : Nat) : (marksB m n).length = n := by
  induction n with
  | zero => rfl
  | succ n ih => simp [marksB, ih]
theorem rd_marksB (m : Int) : ∀ (n i : Nat), i < n → rd_T89 (marksB m n) (i : Int) = ⟨m + 2 * i, m + 2 * i + 1⟩ := by
  intro n
  induction n with
  | zero => intro i hi; omega
  | succ n ih =>
    intro i hi
    by_cases h : i = n
    · subst h; simp only [marksB]; exact rd_atB _ [] _ (by rw [marksB_length])
    · have h1 := ih i (by omega)
      have h2 : i < (marksB m n).length := by rw [marksB_length]; omega
      simp only [rd_T89, marksB, Int.toNat_natCast, List.getD_eq_getElem?_getD] at h1 ⊢
      rw [List.getElem?_append_left h2]; exact h1
theorem markBitS_l0_ev (m0 : Int) (hm0 : 0 ≤ m0 ∧ m0 ≤ 1099511627776) : ∀ (suf : List S89) (i : Nat), i + suf.length ≤ 1099511627776 → Ev (fun k => laws_markBitS.l0 k (marksB m0 i ++ suf) (m0 + 2 * i) (i : Int)) (m0 + 2 * (i + suf.length : Nat), marksB m0 (i + suf.length)) := by
  intro suf
  induction suf with
  | nil =>
    intro i hi
    refine ⟨1, fun k hk => ?_⟩
    try dsimp only
    obtain ⟨m, rfl⟩ : ∃ m, k = m + 1 := ⟨k - 1, by omega⟩
    rw [laws_markBitS.l0, if_neg (by simp [marksB_length])]
    simp
  | cons x suf ih =>
    intro i hi
    simp only [List.length_cons] at hi
    obtain ⟨K, hK⟩ := ih (i + 1) (by omega)
    try dsimp only at hK
    refine ⟨K + 1, fun k hk => ?_⟩
    try dsimp only
    obtain ⟨m, rfl⟩ : ∃ m, k = m + 1 := ⟨k - 1, by omega⟩
    have hm := hK m (by omega)
    have hl := marksB_length m0 i
    rw [laws_markBitS.l0, if_pos (by simp [marksB_length]; omega), if_pos (by omega), Int.toNat_natCast]
    simp only [Option.bind_some]
    rw [rd_atB _ _ x (by rw [hl]), set_atB _ _ _ _ (by rw [hl]), rd_atB _ _ _ (by rw [hl]), set_atB _ _ _ _ (by rw [hl])]
    rw [w64 (x := m0 + 2 * i + 1) (by omega), w64 (x := m0 + 2 * i + 1 + 1) (by omega), w64 (x := (i : Int) + 1) (by omega)]
    simp only [marksB, List.append_assoc, List.singleton_append] at hm
    rw [show m0 + 2 * ((i + 1 : Nat) : Int) = m0 + 2 * i + 1 + 1 by omega, show ((i + 1 : Nat) : Int) = (i : Int) + 1 by omega, show i + 1 + suf.length = i + (suf.length + 1) by omega] at hm
    exact hm
theorem markBitS_ev (l : List S89) (m0 : Int) (hm0 : 0 ≤ m0 ∧ m0 ≤ 1099511627776) (hl : l.length ≤ 1099511627776) : Ev (fun k => laws_markBitS.f k l m0) (m0 + 2 * (l.length : Int), marksB m0 l.length) := by
  have h := markBitS_l0_ev m0 hm0 l 0 (by omega)
  simp only [marksB, List.nil_append, Nat.zero_add] at h
  rw [show m0 + 2 * ((0 : Nat) : Int) = m0 by omega] at h
  exact h
theorem heldBitS_l0_ev (m0 : Int) (hm0 : 0 ≤ m0 ∧ m0 ≤ 1099511627776) (n : Nat) (hn : n ≤ 1099511627776) : ∀ d i : Nat, i + d = n → Ev (fun k => laws_heldBitS.l0 k (marksB m0 n) (m0 + 2 * i) (i : Int)) (m0 + 2 * n) := by
  intro d
  induction d with
  | zero =>
    intro i hi
    refine ⟨1, fun k hk => ?_⟩
    try dsimp only
    obtain ⟨m, rfl⟩ : ∃ m, k = m + 1 := ⟨k - 1, by omega⟩
    rw [laws_heldBitS.l0, if_neg (by rw [marksB_length]; omega), show i = n by omega]
  | succ d ih =>
    intro i hi
    obtain ⟨K, hK⟩ := ih (i + 1) (by omega)
    try dsimp only at hK
    refine ⟨K + 1, fun k hk => ?_⟩
    try dsimp only
    obtain ⟨m, rfl⟩ : ∃ m, k = m + 1 := ⟨k - 1, by omega⟩
    have hm := hK m (by omega)
    rw [laws_heldBitS.l0, if_pos (by rw [marksB_length]; omega), if_pos (by omega), rd_marksB _ _ _ (by omega)]
    try dsimp only
    rw [if_pos rfl, w64 (x := m0 + 2 * i + 1) (by omega), if_pos rfl, w64 (x := m0 + 2 * i + 1 + 1) (by omega), w64 (by omega)]
    rw [show m0 + 2 * ((i + 1 : Nat) : Int) = m0 + 2 * i + 1 + 1 by omega, show ((i + 1 : Nat) : Int) = (i : Int) + 1 by omega] at hm
    exact hm
theorem heldBitS_ev (m0 : Int) (hm0 : 0 ≤ m0 ∧ m0 ≤ 1099511627776) (n : Nat) (hn : n ≤ 1099511627776) : Ev (fun k => laws_heldBitS.f k (marksB m0 n) m0) (m0 + 2 * n) := by
  have h := heldBitS_l0_ev m0 hm0 n hn n 0 (by omega)
  rw [show m0 + 2 * ((0 : Nat) : Int) = m0 by omega] at h
  exact h
theorem l3Turn_l0_ev (c : Int) (hc : 0 ≤ c ∧ c ≤ 1099511627776) (n : Nat) (hn : n ≤ 20) : ∀ d i : Nat, i + d = n → Ev (fun k => spec_l3Turn.l0 k (c / P2 i) (n : Int) (trn c i) (i : Int)) (trn c n) := by
  intro d
  induction d with
  | zero =>
    intro i hi
    refine ⟨1, fun k hk => ?_⟩
    try dsimp only
    obtain ⟨m, rfl⟩ : ∃ m, k = m + 1 := ⟨k - 1, by omega⟩
    rw [spec_l3Turn.l0, if_neg (by omega), show i = n by omega]
  | succ d ih =>
    intro i hi
    obtain ⟨K, hK⟩ := ih (i + 1) (by omega)
    try dsimp only at hK
    refine ⟨K + 1, fun k hk => ?_⟩
    try dsimp only
    obtain ⟨m, rfl⟩ : ∃ m, k = m + 1 := ⟨k - 1, by omega⟩
    have hm := hK m (by omega)
    have h1 := div_P2_b i hc.1
    have h2 := trn_b c i
    have h3 := P2_62b (n := i) (by omega)
    have h4 := P2_le (n := i) (m := 40) (by omega)
    rw [P2_40] at h4
    rw [spec_l3Turn.l0, if_pos (by omega), tdiv_pos h1.1, tmod_pos h1.1, div_P2_succ, w64 (x := c / P2 (i + 1)) (by rw [← div_P2_succ]; omega), w64 (x := 2 * trn c i) (by omega), w64 (x := 2 * trn c i + _) (by omega), w64 (by omega)]
    simp only [trn] at hm
    rw [show ((i + 1 : Nat) : Int) = (i : Int) + 1 by omega] at hm
    exact hm
theorem l3Turn_ev (c n : Int) (hc : 0 ≤ c ∧ c ≤ 1099511627776) (h0 : 0 ≤ n) (hn : n ≤ 20) : Ev (fun k => spec_l3Turn.f k c n) (trn c n.toNat) := by
  obtain ⟨K, hK⟩ := l3Turn_l0_ev c hc n.toNat (by omega) n.toNat 0 (by omega)
  try dsimp only at hK
  refine ⟨K, fun k hk => ?_⟩
  try dsimp only
  have hm := hK k hk
  rw [P2_zero, Int.ediv_one, Int.toNat_of_nonneg h0] at hm
  exact hm
theorem turned_l0_ev (c : Int) (hc : 0 ≤ c ∧ c ≤ 1099511627776) (n : Nat) (hn : n ≤ 20) : ∀ d i : Nat, i + d = n → Ev (fun k => impl_turned.l0 k c (trn c i) (n : Int) (i : Int)) (trn c n) := by
  intro d
  induction d with
  | zero =>
    intro i hi
    refine ⟨1, fun k hk => ?_⟩
    try dsimp only
    obtain ⟨m, rfl⟩ : ∃ m, k = m + 1 := ⟨k - 1, by omega⟩
    rw [impl_turned.l0, if_neg (by omega), show i = n by omega]
  | succ d ih =>
    intro i hi
    obtain ⟨K, hK⟩ := ih (i + 1) (by omega)
    try dsimp only at hK
    refine ⟨K + 1, fun k hk => ?_⟩
    try dsimp only
    obtain ⟨m, rfl⟩ : ∃ m, k = m + 1 := ⟨k - 1, by omega⟩
    have hm := hK m (by omega)
    have h1 := div_P2_b i hc.1
    have h2 := trn_b c i
    have h4 := P2_le (n := i) (m := 40) (by omega)
    rw [P2_40] at h4
    rw [impl_turned.l0, if_pos (by omega), if_pos (by omega), shr_P2 (by omega), Int.toNat_natCast, and1 h1.1 (by omega), w64 (x := trn c i * 2) (by omega), or_join (i := 1) (by omega) (by show trn c i * 2 % 2 = 0; omega) (by omega) (by omega) (by show _ < (2 : Int); omega) (by omega), w64 (by omega)]
    simp only [trn] at hm
    rw [show ((i + 1 : Nat) : Int) = (i : Int) + 1 by omega, Int.mul_comm 2] at hm
    exact hm
theorem turned_ev (c n : Int) (hc : 0 ≤ c ∧ c ≤ 1099511627776) (h0 : 0 ≤ n) (hn : n ≤ 20) : Ev (fun k => impl_turned.f k c n) (trn c n.toNat) := by
  obtain ⟨K, hK⟩ := turned_l0_ev c hc n.toNat (by omega) n.toNat 0 (by omega)
  try dsimp only at hK
  refine ⟨K, fun k hk => ?_⟩
  try dsimp only
  have hm := hK k hk
  rw [Int.toNat_of_nonneg h0] at hm
  exact hm
theorem l3Sym_ev (L : List Int) (x : Int) (hL : lensOk L) (hl : L.length ≤ 300) (hx : 0 ≤ x ∧ x < L.length) : Ev (fun k => spec_l3Sym.f k (codesM L) L x) (trn (rd (codesM L) x) (rd L x).toNat, rd L x) := by
  have hc := codesM_b L x
  have hr := lensOk_rd hL x
  have hlen := codesM_length L
  obtain ⟨K, hK⟩ := l3Turn_ev (rd (codesM L) x) (rd L x) (by omega) hr.1 (by omega)
  try dsimp only at hK
  refine ⟨K, fun k hk => ?_⟩
  try dsimp only
  unfold spec_l3Sym.f
  rw [if_pos (by omega), if_pos (by omega), if_pos (by omega), hK k hk]
  rfl
theorem spec_CodePut_l0_ev (S L : List Int) (hL : lensOk L) (hl : L.length ≤ 300) (hs : S.length ≤ 9000) : ∀ (suf pre : List Int) (acc : List (Int × Int)), S = pre ++ suf → acc.length = pre.length → Ev (fun k => spec_CodePut.l0 k S L (acc.map toB) (codesM L) (pre.length : Int)) ((cpM L acc suf).map toB) := by
  intro suf
  induction suf with
  | nil =>
    intro pre acc hp ha
    refine ⟨1, fun k hk => ?_⟩
    try dsimp only
    obtain ⟨m, rfl⟩ : ∃ m, k = m + 1 := ⟨k - 1, by omega⟩
    rw [spec_CodePut.l0, if_neg (by rw [hp]; simp)]
    rfl
  | cons x suf ih =>
    intro pre acc hp ha
    have hll : S.length = pre.length + suf.length + 1 := by rw [hp]; simp; omega
    have hx : rd S (pre.length : Int) = x := by rw [hp]; exact rd_at _ _ _ rfl
    simp only [cpM]
    by_cases h : 0 ≤ x ∧ x ≤ (L.length : Int) - 1
    · by_cases hz : rd L x = 0
      · rw [if_neg (fun hh => hh.2 hz)]
        refine ⟨1, fun k hk => ?_⟩
        try dsimp only
        obtain ⟨m, rfl⟩ : ∃ m, k = m + 1 := ⟨k - 1, by omega⟩
        rw [spec_CodePut.l0, if_pos (by omega), if_pos (by omega), hx, w64 (x := (L.length : Int) - 1) (by omega), l1In_f, Option.bind_some, if_pos (decide_eq_true h), if_pos h.1, if_pos (by omega), if_pos hz]
        rfl
      · rw [if_pos ⟨h, hz⟩]
        obtain ⟨K, hK⟩ := ih (pre ++ [x]) (acc ++ [(trn (rd (codesM L) x) (rd L x).toNat, rd L x)]) (by simp [hp]) (by simp [ha])
        try dsimp only at hK
        obtain ⟨K1, hK1⟩ := l3Sym_ev L x hL hl (by omega)
        try dsimp only at hK1
        refine ⟨K + K1 + 1, fun k hk => ?_⟩
        try dsimp only
        obtain ⟨m, rfl⟩ : ∃ m, k = m + 1 := ⟨k - 1, by omega⟩
        have hm := hK m (by omega)
        rw [spec_CodePut.l0, if_pos (by omega), if_pos (by omega), hx, w64 (x := (L.length : Int) - 1) (by omega), l1In_f, Option.bind_some, if_pos (decide_eq_true h), if_pos h.1, if_pos (by omega), if_neg hz, hK1 m (by omega), Option.bind_some, if_pos (by rw [List.length_map]; omega), w64 (by omega)]
        rw [List.length_append, List.length_singleton, List.map_append, show ((pre.length + 1 : Nat) : Int) = (pre.length : Int) + 1 by omega] at hm
        exact hm
    · rw [if_neg (fun hh => h hh.1)]
      refine ⟨1, fun k hk => ?_⟩
      try dsimp only
      obtain ⟨m, rfl⟩ : ∃ m, k = m + 1 := ⟨k - 1, by omega⟩
      rw [spec_CodePut.l0, if_pos (by omega), if_pos (by omega), hx, w64 (x := (L.length : Int) - 1) (by omega), l1In_f, Option.bind_some, if_neg (by simpa using h)]
      rfl
theorem spec_CodePut_ev (S L : List Int) (hl : L.length ≤ 1048576) (hs : S.length ≤ 1048576) : Ev (fun k => spec_CodePut.f k S L) ((codePutM S L).map toB) := by
  obtain ⟨K1, h1⟩ := spec_CodeOk_ev L hl
  try dsimp only at h1
  by_cases hok : codeOkM L = true
  · have hok' := of_decide_eq_true hok
    by_cases hs2 : (S.length : Int) > 9000
    · refine ⟨K1 + 1, fun k hk => ?_⟩
      try dsimp only
      obtain ⟨m, rfl⟩ : ∃ m, k = m + 1 := ⟨k - 1, by omega⟩
      unfold spec_CodePut.f codePutM
      rw [Option.bind_some, h1 (m + 1) (by omega), Option.bind_some, if_pos hok, spec_CodePut.j0, if_pos (decide_eq_true hs2), if_neg (by omega)]
      rfl
    · obtain ⟨K2, h2⟩ := spec_l3Make_ev L hl
      try dsimp only at h2
      obtain ⟨K3, h3⟩ := spec_CodePut_l0_ev S L hok'.1 hok'.2.1 (by omega) S [] [] rfl rfl
      try dsimp only at h3
      refine ⟨K1 + K2 + K3 + 1, fun k hk => ?_⟩
      try dsimp only
      obtain ⟨m, rfl⟩ : ∃ m, k = m + 1 := ⟨k - 1, by omega⟩
      have hm := h3 m (by omega)
      unfold spec_CodePut.f codePutM
      rw [Option.bind_some, h1 (m + 1) (by omega), Option.bind_some, if_pos hok, spec_CodePut.j0, if_neg (by simpa using hs2), h2 m (by omega), Option.bind_some, if_pos ⟨hok, by omega⟩]
      exact hm
  · refine ⟨K1 + 1, fun k hk => ?_⟩
    try dsimp only
    obtain ⟨m, rfl⟩ : ∃ m, k = m + 1 := ⟨k - 1, by omega⟩
    unfold spec_CodePut.f codePutM
    rw [Option.bind_some, h1 (m + 1) (by omega), Option.bind_some, if_neg hok, spec_CodePut.j0, if_pos rfl, if_neg (fun hh => hok hh.1)]
    rfl
theorem impl_CodePut_l0_ev (S L : List Int) (hL : lensOk L) (hl : L.length ≤ 300) (hs : S.length ≤ 9000) : ∀ (suf pre : List Int) (acc : List (Int × Int)), S = pre ++ suf → acc.length = pre.length → Ev (fun k => impl_CodePut.l0 k L (codesM L) (acc.map toB) S (S.length : Int) (pre.length : Int)) ((cpM L acc suf).map toB) := by
  intro suf
  induction suf with
  | nil =>
    intro pre acc hp ha
    refine ⟨1, fun k hk => ?_⟩
    try dsimp only
    obtain ⟨m, rfl⟩ : ∃ m, k = m + 1 := ⟨k - 1, by omega⟩
    rw [impl_CodePut.l0, if_neg (by rw [hp]; simp)]
    rfl
  | cons x suf ih =>
    intro pre acc hp ha
    have hll : S.length = pre.length + suf.length + 1 := by rw [hp]; simp; omega
    have hx : rd S (pre.length : Int) = x := by rw [hp]; exact rd_at _ _ _ rfl
    have hlen := codesM_length L
    simp only [cpM]
    by_cases h : 0 ≤ x ∧ x ≤ (L.length : Int) - 1
    · by_cases hz : rd L x = 0
      · rw [if_neg (fun hh => hh.2 hz)]
        refine ⟨1, fun k hk => ?_⟩
        try dsimp only
        obtain ⟨m, rfl⟩ : ∃ m, k = m + 1 := ⟨k - 1, by omega⟩
        rw [impl_CodePut.l0, if_pos (by omega), if_pos (by omega), if_pos (by omega), hx, w64 (x := (L.length : Int) - 1) (by omega), in_f, Option.bind_some, if_pos (decide_eq_true h), if_pos h.1, if_pos (by omega), if_pos hz]
        rfl
      · rw [if_pos ⟨h, hz⟩]
        obtain ⟨K, hK⟩ := ih (pre ++ [x]) (acc ++ [(trn (rd (codesM L) x) (rd L x).toNat, rd L x)]) (by simp [hp]) (by simp [ha])
        try dsimp only at hK
        have hc := codesM_b L x
        have hr := lensOk_rd hL x
        obtain ⟨K1, hK1⟩ := turned_ev (rd (codesM L) x) (rd L x) (by omega) hr.1 (by omega)
        try dsimp only at hK1
        refine ⟨K + K1 + 1, fun k hk => ?_⟩
        try dsimp only
        obtain ⟨m, rfl⟩ : ∃ m, k = m + 1 := ⟨k - 1, by omega⟩
        have hm := hK m (by omega)
        rw [impl_CodePut.l0, if_pos (by omega), if_pos (by omega), if_pos (by omega), hx, w64 (x := (L.length : Int) - 1) (by omega), in_f, Option.bind_some, if_pos (decide_eq_true h), if_pos h.1, if_pos (by omega), if_neg hz, if_pos (by omega), hK1 m (by omega), Option.bind_some, if_pos (by rw [List.length_map]; omega), w64 (by omega)]
        rw [List.length_append, List.length_singleton, List.map_append, show ((pre.length + 1 : Nat) : Int) = (pre.length : Int) + 1 by omega] at hm
        exact hm
    · rw [if_neg (fun hh => h hh.1)]
      refine ⟨1, fun k hk => ?_⟩
      try dsimp only
      obtain ⟨m, rfl⟩ : ∃ m, k = m + 1 := ⟨k - 1, by omega⟩
      rw [impl_CodePut.l0, if_pos (by omega), if_pos (by omega), if_pos (by omega), hx, w64 (x := (L.length : Int) - 1) (by omega), in_f, Option.bind_some, if_neg (by simpa using h)]
      rfl
theorem impl_CodePut_ev (S L : List Int) (hl : L.length ≤ 1048576) (hs : S.length ≤ 1048576) : Ev (fun k => impl_CodePut.f k S L) ((codePutM S L).map toB) := by
  obtain ⟨K1, h1⟩ := impl_CodeOk_ev L hl
  try dsimp only at h1
  by_cases hok : codeOkM L = true
  · have hok' := of_decide_eq_true hok
    by_cases hs2 : (S.length : Int) > 9000
    · refine ⟨K1 + 1, fun k hk => ?_⟩
      try dsimp only
      obtain ⟨m, rfl⟩ : ∃ m, k = m + 1 := ⟨k - 1, by omega⟩
      unfold impl_CodePut.f codePutM
      rw [h1 (m + 1) (by omega), Option.bind_some, if_pos hok, impl_CodePut.j0, if_pos (decide_eq_true hs2), if_neg (by omega)]
      rfl
    · obtain ⟨K2, h2⟩ := impl_CodeMake_ev L hl
      try dsimp only at h2
      obtain ⟨K3, h3⟩ := impl_CodePut_l0_ev S L hok'.1 hok'.2.1 (by omega) S [] [] rfl rfl
      try dsimp only at h3
      refine ⟨K1 + K2 + K3 + 1, fun k hk => ?_⟩
      try dsimp only
      obtain ⟨m, rfl⟩ : ∃ m, k = m + 1 := ⟨k - 1, by omega⟩
      have hm := h3 m (by omega)
      have e : codeMakeM L = codesM L := by unfold codeMakeM; rw [if_pos hok]
      unfold impl_CodePut.f codePutM
      rw [h1 (m + 1) (by omega), Option.bind_some, if_pos hok, impl_CodePut.j0, if_neg (by simpa using hs2), h2 m (by omega), Option.bind_some, e, if_pos ⟨hok, by omega⟩]
      exact hm
  · refine ⟨K1 + 1, fun k hk => ?_⟩
    try dsimp only
    obtain ⟨m, rfl⟩ : ∃ m, k = m + 1 := ⟨k - 1, by omega⟩
    unfold impl_CodePut.f codePutM
    rw [h1 (m + 1) (by omega), Option.bind_some, if_neg hok, impl_CodePut.j0, if_pos rfl, if_neg (fun hh => hok hh.1)]
    rfl
theorem toIntS_l0_ev (l : List Int) (hl : l.length ≤ 35184372088832) : ∀ (suf pre : List Int), l = pre ++ suf → Ev (fun k => laws_toIntS.l0 k l (pre ++ List.replicate suf.length 0) (pre.length : Int)) l := by
  intro suf
  induction suf with
  | nil =>
    intro pre hp
    refine ⟨1, fun k hk => ?_⟩
    try dsimp only
    obtain ⟨m, rfl⟩ : ∃ m, k = m + 1 := ⟨k - 1, by omega⟩
    subst hp
    rw [laws_toIntS.l0, if_neg (by simp)]
    simp
  | cons x suf ih =>
    intro pre hp
    obtain ⟨K, hK⟩ := ih (pre ++ [x]) (by simp [hp])
    try dsimp only at hK
    refine ⟨K + 1, fun k hk => ?_⟩
    try dsimp only
    obtain ⟨m, rfl⟩ : ∃ m, k = m + 1 := ⟨k - 1, by omega⟩
    have hm := hK m (by omega)
    have hll : l.length = pre.length + suf.length + 1 := by rw [hp]; simp; omega
    have hx : rd l (pre.length : Int) = x := by rw [hp]; exact rd_at _ _ _ rfl
    rw [laws_toIntS.l0, if_pos (by omega), if_pos (by omega), if_pos (by simp; omega), hx, w64 (by omega), List.length_cons, List.replicate_succ, set_at _ _ _ _ (by omega)]
    simp only [List.append_assoc, List.singleton_append, List.length_append, List.length_singleton] at hm
    rw [show ((pre.length + 1 : Nat) : Int) = (pre.length : Int) + 1 by omega] at hm
    exact hm
theorem toIntS_ev (l : List Int) (hl : l.length ≤ 35184372088832) : Ev (fun k => laws_toIntS.f k l) l := by
  obtain ⟨K, hK⟩ := toIntS_l0_ev l hl l [] rfl
  try dsimp only at hK
  refine ⟨K, fun k hk => ?_⟩
  try dsimp only
  have hm := hK k hk
  unfold laws_toIntS.f
  rw [if_pos (by omega), if_pos (by omega), Int.toNat_natCast]
  exact hm
theorem eqIntS_l0_ev (a b : List Int) (hl : a.length ≤ 35184372088832) (hab : a.length = b.length) : ∀ (sa sb pa pb : List Int), a = pa ++ sa → b = pb ++ sb → pa.length = pb.length → Ev (fun k => laws_eqIntS.l0 k a b (pa.length : Int)) (decide (sa = sb)) := by
  intro sa
  induction sa with
  | nil =>
    intro sb pa pb ha hb hp
    have hsb : sb = [] := by
      cases sb with
      | nil => rfl
      | cons y sb => rw [ha, hb] at hab; simp at hab; omega
    subst hsb
    refine ⟨1, fun k hk => ?_⟩
    try dsimp only
    obtain ⟨m, rfl⟩ : ∃ m, k = m + 1 := ⟨k - 1, by omega⟩
    rw [laws_eqIntS.l0, if_neg (by rw [ha]; simp)]
    simp
  | cons x sa ih =>
    intro sb pa pb ha hb hp
    cases sb with
    | nil => rw [ha, hb] at hab; simp at hab; omega
    | cons y sb =>
      have hll : a.length = pa.length + sa.length + 1 := by rw [ha]; simp; omega
      have hx : rd a (pa.length : Int) = x := by rw [ha]; exact rd_at _ _ _ rfl
      have hy : rd b (pa.length : Int) = y := by rw [hb]; exact rd_at _ _ _ (by omega)
      by_cases hxy : x = y
      · obtain ⟨K, hK⟩ := ih sb (pa ++ [x]) (pb ++ [y]) (by simp [ha]) (by simp [hb]) (by simp [hp])
        try dsimp only at hK
        refine ⟨K + 1, fun k hk => ?_⟩
        try dsimp only
        obtain ⟨m, rfl⟩ : ∃ m, k = m + 1 := ⟨k - 1, by omega⟩
        have hm := hK m (by omega)
        rw [laws_eqIntS.l0, if_pos (by omega), if_pos (by omega), if_pos (by omega), hx, hy, if_pos hxy, w64 (by omega)]
        rw [List.length_append, List.length_singleton, show ((pa.length + 1 : Nat) : Int) = (pa.length : Int) + 1 by omega] at hm
        rw [hm]
        simp [hxy]
      · refine ⟨1, fun k hk => ?_⟩
        try dsimp only
        obtain ⟨m, rfl⟩ : ∃ m, k = m + 1 := ⟨k - 1, by omega⟩
        rw [laws_eqIntS.l0, if_pos (by omega), if_pos (by omega), if_pos (by omega), hx, hy, if_neg hxy]
        simp [hxy]
theorem eqIntS_ev (a b : List Int) (hl : a.length ≤ 35184372088832) (hl2 : b.length ≤ 35184372088832) : Ev (fun k => laws_eqIntS.f k a b) (decide (a = b)) := by
  unfold laws_eqIntS.f
  by_cases h : a.length = b.length
  · obtain ⟨K, hK⟩ := eqIntS_l0_ev a b hl h a b [] [] rfl rfl rfl
    try dsimp only at hK
    refine ⟨K, fun k hk => ?_⟩
    try dsimp only
    rw [if_pos (by omega)]
    exact hK k hk
  · refine ⟨0, fun k hk => ?_⟩
    try dsimp only
    rw [if_neg (by omega), decide_eq_false (fun e => h (by rw [e]))]
theorem markIntS_l0_ev (m0 : Int) (hm0 : 0 ≤ m0 ∧ m0 ≤ 1099511627776) : ∀ (suf : List Int) (i : Nat), i + suf.length ≤ 1099511627776 → Ev (fun k => laws_markIntS.l0 k (marks m0 i ++ suf) (m0 + i) (i : Int)) (m0 + (i + suf.length : Nat), marks m0 (i + suf.length)) := by
  intro suf
  induction suf with
  | nil =>
    intro i hi
    refine ⟨1, fun k hk => ?_⟩
    try dsimp only
    obtain ⟨m, rfl⟩ : ∃ m, k = m + 1 := ⟨k - 1, by omega⟩
    rw [laws_markIntS.l0, if_neg (by simp [marks_length])]
    simp
  | cons x suf ih =>
    intro i hi
    simp only [List.length_cons] at hi
    obtain ⟨K, hK⟩ := ih (i + 1) (by omega)
    try dsimp only at hK
    refine ⟨K + 1, fun k hk => ?_⟩
    try dsimp only
    obtain ⟨m, rfl⟩ : ∃ m, k = m + 1 := ⟨k - 1, by omega⟩
    have hm := hK m (by omega)
    rw [laws_markIntS.l0, if_pos (by simp [marks_length]; omega), if_pos (by omega), Int.toNat_natCast, set_at _ _ _ _ (by rw [marks_length]), w64 (by omega), w64 (by omega)]
    simp only [marks, List.append_assoc, List.singleton_append] at hm
    rw [show m0 + ((i + 1 : Nat) : Int) = m0 + i + 1 by omega, show ((i + 1 : Nat) : Int) = (i : Int) + 1 by omega, show i + 1 + suf.length = i + (suf.length + 1) by omega] at hm
    exact hm
theorem markIntS_ev (l : List Int) (m0 : Int) (hm0 : 0 ≤ m0 ∧ m0 ≤ 1099511627776) (hl : l.length ≤ 1099511627776) : Ev (fun k => laws_markIntS.f k l m0) (m0 + (l.length : Int), marks m0 l.length) := by
  have h := markIntS_l0_ev m0 hm0 l 0 (by omega)
  simp only [marks, List.nil_append, Nat.zero_add] at h
  rw [show m0 + ((0 : Nat) : Int) = m0 by omega] at h
  exact h

theorem FnExactCodePut : laws_FnExactCodePut.Pure := by
  intro S L hs hs8 hsw hl hl8 hlw
  unfold laws_FnExactCodePut.f
  by_cases h : (S.length : Int) > 1048576
  · exact ⟨0, by rw [if_pos h]⟩
  by_cases h' : (L.length : Int) > 1048576
  · exact ⟨0, by rw [if_neg h, if_pos h']⟩
  have hlen : ((codePutM S L).map toB).length ≤ 9000 := by rw [List.length_map]; exact codePutM_length S L
  generalize hR : (codePutM S L).map toB = R at hlen
  obtain ⟨K0, h0⟩ := toIntS_ev S (by omega)
  try dsimp only at h0
  obtain ⟨K1, h1⟩ := toIntS_ev L (by omega)
  try dsimp only at h1
  obtain ⟨K2, h2⟩ := spec_CodePut_ev S L (by omega) (by omega)
  try dsimp only at h2
  obtain ⟨K3, h3⟩ := impl_CodePut_ev S L (by omega) (by omega)
  try dsimp only at h3
  rw [hR] at h2 h3
  obtain ⟨K4, h4⟩ := eqBitS_ev R (by omega)
  try dsimp only at h4
  obtain ⟨K5, h5⟩ := eqIntS_ev S S (by omega) (by omega)
  try dsimp only at h5
  obtain ⟨K6, h6⟩ := eqIntS_ev L L (by omega) (by omega)
  try dsimp only at h6
  obtain ⟨K7, h7⟩ := markIntS_ev S 1 (by omega) (by omega)
  try dsimp only at h7
  obtain ⟨K8, h8⟩ := markIntS_ev L (1 + (S.length : Int)) (by omega) (by omega)
  try dsimp only at h8
  obtain ⟨K9, h9⟩ := markBitS_ev R 1 (by omega) (by omega)
  try dsimp only at h9
  obtain ⟨K10, h10⟩ := heldBitS_ev 1 (by omega) R.length (by omega)
  try dsimp only at h10
  obtain ⟨K, hK⟩ : ∃ K, K = K0 + K1 + K2 + K3 + K4 + K5 + K6 + K7 + K8 + K9 + K10 := ⟨_, rfl⟩
  refine ⟨K + 1, ?_⟩
  rw [if_neg h, if_neg h']
  simp only [h0 (K + 1) (by omega), h1 (K + 1) (by omega), h2 (K + 1) (by omega), h3 (K + 1) (by omega), h4 (K + 1) (by omega), h5 (K + 1) (by omega), h6 (K + 1) (by omega), h7 (K + 1) (by omega), h8 (K + 1) (by omega), Option.bind_some, decide_true, if_true]
  rw [if_neg (by omega), laws_FnExactCodePut.j0]
  simp only [Bool.not_true, Bool.false_eq_true, if_false, h0 K (by omega), h1 K (by omega), h3 K (by omega), h4 K (by omega), h9 K (by omega), h10 K (by omega), Option.bind_some, if_true]
  rw [if_neg (by omega), if_neg (by omega)]

end Go.Proofs.Ytfladcffgblfdaa.Pure
