/- The program's CodeMake and the reference's answer the same, at every list of at most 1048576 lengths (a longer one is let by); the list is left as it was, and the answer is its own memory. -/
import Derived.Test.YtpjkcdgamlllgaaPFnExactCodeMakex3
import Derived.Test.YtpjkcdgamlllgaaThNum
import Derived.Test.YtpjkcdgamlllgaaThCode
import Derived.Test.YtpjkcdgamlllgaaThMake
import Derived.Test.YtpjkcdgamlllgaaThMark
namespace Go.Proofs.Ytpjkcdgamlllgaa.Pure
open Go.RowKit Go.Proofs.Ytpjkcdgamlllgaa.PFnExactCodeMake Go.Proofs.YtpjkcdgamlllgaaW.PrintWords Go.Proofs.YtpjkcdgamlllgaaW.PrintLast Go.Proofs.YtpjkcdgamlllgaaW.PrintMore Go.Proofs.Ytpjkcdgamlllgaa.Th
set_option linter.unusedVariables false
set_option linter.unusedSimpArgs false

theorem in_f (a b c : Int) : impl_in.f a b c = some (decide (b ≤ a ∧ a ≤ c)) := by
  unfold impl_in.f
  by_cases h : b ≤ a
  · rw [if_pos h]; simp [h]
  · rw [if_neg h]; simp [h]
theorem l1In_f (a b c : Int) : spec_l1In.f a b c = some (decide (b ≤ a ∧ a ≤ c)) := by
  unfold spec_l1In.f
  by_cases h : b ≤ a
  · rw [if_pos h]; simp [h]
  · rw [if_neg h]; simp [h]
theorem l1Pow_l0_ev (n : Nat) (hn : n ≤ 62) : ∀ d i : Nat, i + d = n → Ev (fun k => spec_l1Pow.l0 k (n : Int) (P2 i) (i : Int)) (P2 n) := by
  intro d
  induction d with
  | zero =>
    intro i hi
    refine ⟨1, fun k hk => ?_⟩
    try dsimp only
    obtain ⟨m, rfl⟩ : ∃ m, k = m + 1 := ⟨k - 1, by omega⟩
    rw [spec_l1Pow.l0, if_neg (by omega), show i = n by omega]
  | succ d ih =>
    intro i hi
    obtain ⟨K, hK⟩ := ih (i + 1) (by omega)
    try dsimp only at hK
    refine ⟨K + 1, fun k hk => ?_⟩
    try dsimp only
    obtain ⟨m, rfl⟩ : ∃ m, k = m + 1 := ⟨k - 1, by omega⟩
    have hm := hK m (by omega)
    have hb := P2_62b (n := i) (by omega)
    have hb' := P2_62b (n := i + 1) (by omega)
    have hs := P2_succ i
    rw [spec_l1Pow.l0, if_pos (by omega), w64 (by omega), w64 (by omega), show P2 i * 2 = P2 (i + 1) by omega, show (i : Int) + 1 = ((i + 1 : Nat) : Int) by omega]
    exact hm
theorem l1Pow_ev (n : Nat) (hn : n ≤ 62) : Ev (fun k => spec_l1Pow.f k (n : Int)) (P2 n) := l1Pow_l0_ev n hn n 0 (by omega)
theorem l1Pow_evI (n : Int) (h0 : 0 ≤ n) (hn : n ≤ 62) : Ev (fun k => spec_l1Pow.f k n) (P2 n.toNat) := by
  have h := l1Pow_ev n.toNat (by omega)
  rw [Int.toNat_of_nonneg h0] at h
  exact h
theorem l3Left_l0_ev (l : List Int) (hl : l.length ≤ 1048576) : ∀ (suf pre : List Int) (left : Int), l = pre ++ suf → 0 ≤ left → left ≤ 32768 → Ev (fun k => spec_l3Left.l0 k l left (pre.length : Int)) (if lensOk suf ∧ kraft suf ≤ left then left - kraft suf else -1) := by
  intro suf
  induction suf with
  | nil =>
    intro pre left hp h0 h1
    refine ⟨1, fun k hk => ?_⟩
    try dsimp only
    obtain ⟨m, rfl⟩ : ∃ m, k = m + 1 := ⟨k - 1, by omega⟩
    subst hp
    rw [spec_l3Left.l0, if_neg (by simp), if_pos ⟨lensOk_nil, by simp [kraft]; omega⟩]
    simp [kraft]
  | cons x suf ih =>
    intro pre left hp h0 h1
    have hll : l.length = pre.length + suf.length + 1 := by rw [hp]; simp; omega
    have hx : rd l (pre.length : Int) = x := by rw [hp]; exact rd_at _ _ _ rfl
    have hk0 := kraft_nn suf
    have e1 : ((pre ++ [x]).length : Int) = (pre.length : Int) + 1 := by simp
    by_cases hr : 0 ≤ x ∧ x ≤ 15
    · by_cases hz : x > 0
      · obtain ⟨K1, hK1⟩ := l1Pow_evI (15 - x) (by omega) (by omega)
        try dsimp only at hK1
        have hp2 := P2_b (n := (15 - x).toNat) (m := 15) (by omega)
        rw [P2_15] at hp2
        have hcons : kraft (x :: suf) = P2 (15 - x).toNat + kraft suf := by simp only [kraft, if_pos hz]
        by_cases hn : left - P2 (15 - x).toNat < 0
        · refine ⟨K1 + 1, fun k hk => ?_⟩
          try dsimp only
          obtain ⟨m, rfl⟩ : ∃ m, k = m + 1 := ⟨k - 1, by omega⟩
          rw [spec_l3Left.l0, if_pos (by omega), if_pos (by omega), hx, l1In_f]
          simp only [Option.bind_some]
          rw [if_pos (decide_eq_true hr), if_pos hz, w64 (x := 15 - x) (by omega), hK1 m (by omega)]
          simp only [Option.bind_some]
          rw [w64 (by omega), if_pos hn, if_neg (by rw [hcons]; omega)]
        · obtain ⟨K, hK⟩ := ih (pre ++ [x]) (left - P2 (15 - x).toNat) (by simp [hp]) (by omega) (by omega)
          try dsimp only at hK
          refine ⟨K + K1 + 1, fun k hk => ?_⟩
          try dsimp only
          obtain ⟨m, rfl⟩ : ∃ m, k = m + 1 := ⟨k - 1, by omega⟩
          have hm := hK m (by omega)
          rw [e1] at hm
          rw [spec_l3Left.l0, if_pos (by omega), if_pos (by omega), hx, l1In_f]
          simp only [Option.bind_some]
          rw [if_pos (decide_eq_true hr), if_pos hz, w64 (x := 15 - x) (by omega), hK1 m (by omega)]
          simp only [Option.bind_some]
          rw [w64 (x := left - _) (by omega), if_neg hn, w64 (by omega), hm, hcons]
          by_cases hc : lensOk suf ∧ kraft suf ≤ left - P2 (15 - x).toNat
          · rw [if_pos hc, if_pos ⟨(lensOk_cons _ _).2 ⟨hr, hc.1⟩, by omega⟩]; congr 1; omega
          · rw [if_neg hc, if_neg (fun h => hc ⟨((lensOk_cons _ _).1 h.1).2, by omega⟩)]
      · obtain ⟨K, hK⟩ := ih (pre ++ [x]) left (by simp [hp]) (by omega) (by omega)
        try dsimp only at hK
        have hcons : kraft (x :: suf) = kraft suf := by simp only [kraft, if_neg (show ¬ 0 < x by omega)]; omega
        refine ⟨K + 1, fun k hk => ?_⟩
        try dsimp only
        obtain ⟨m, rfl⟩ : ∃ m, k = m + 1 := ⟨k - 1, by omega⟩
        have hm := hK m (by omega)
        rw [e1] at hm
        rw [spec_l3Left.l0, if_pos (by omega), if_pos (by omega), hx, l1In_f]
        simp only [Option.bind_some]
        rw [if_pos (decide_eq_true hr), if_neg hz, if_neg (by omega), w64 (by omega), hm, hcons]
        by_cases hc : lensOk suf ∧ kraft suf ≤ left
        · rw [if_pos hc, if_pos ⟨(lensOk_cons _ _).2 ⟨hr, hc.1⟩, by omega⟩]
        · rw [if_neg hc, if_neg (fun h => hc ⟨((lensOk_cons _ _).1 h.1).2, by omega⟩)]
    · refine ⟨1, fun k hk => ?_⟩
      try dsimp only
      obtain ⟨m, rfl⟩ : ∃ m, k = m + 1 := ⟨k - 1, by omega⟩
      rw [spec_l3Left.l0, if_pos (by omega), if_pos (by omega), hx, l1In_f]
      simp only [Option.bind_some]
      rw [if_neg (by simpa using hr), if_neg (fun h => hr ((lensOk_cons _ _).1 h.1).1)]
theorem l3Left_ev (l : List Int) (hl : l.length ≤ 1048576) : Ev (fun k => spec_l3Left.f k l) (if lensOk l ∧ kraft l ≤ 32768 then 32768 - kraft l else -1) := by
  obtain ⟨K, hK⟩ := l3Left_l0_ev l hl l [] 32768 rfl (by omega) (by omega)
  try dsimp only at hK
  obtain ⟨K1, hK1⟩ := l1Pow_evI 15 (by omega) (by omega)
  try dsimp only at hK1
  refine ⟨K + K1, fun k hk => ?_⟩
  try dsimp only
  unfold spec_l3Left.f
  rw [hK1 k (by omega)]
  exact hK k (by omega)
theorem spec_CodeOk_ev (l : List Int) (hl : l.length ≤ 1048576) : Ev (fun k => spec_CodeOk.f k l) (codeOkM l) := by
  unfold spec_CodeOk.f codeOkM
  by_cases h : l.length ≤ 300
  · obtain ⟨K, hK⟩ := l3Left_ev l hl
    try dsimp only at hK
    refine ⟨K, fun k hk => ?_⟩
    try dsimp only
    rw [if_pos (by omega), hK k hk]
    simp only [Option.bind_some]
    by_cases hc : lensOk l ∧ kraft l ≤ 32768
    · rw [if_pos hc, decide_eq_true (by omega), decide_eq_true ⟨hc.1, h, hc.2⟩]
    · rw [if_neg hc, decide_eq_false (by omega), decide_eq_false (fun h => hc ⟨h.1, h.2.2⟩)]
  · refine ⟨0, fun k hk => ?_⟩
    try dsimp only
    rw [if_neg (by omega), decide_eq_false (fun hh => h hh.2.1)]
theorem filled_l0_ev (l : List Int) (hl : l.length ≤ 1048576) : ∀ (suf pre : List Int) (sum : Int), l = pre ++ suf → 0 ≤ sum → sum ≤ 16384 * pre.length → Ev (fun k => impl_filled.l0 k l sum l (l.length : Int) (pre.length : Int)) (if lensOk suf ∧ l.length ≤ 300 ∧ sum + kraft suf ≤ 32768 then sum + kraft suf else -1) := by
  intro suf
  induction suf with
  | nil =>
    intro pre sum hp h0 h1
    refine ⟨1, fun k hk => ?_⟩
    try dsimp only
    obtain ⟨m, rfl⟩ : ∃ m, k = m + 1 := ⟨k - 1, by omega⟩
    have hpl : l.length = pre.length := by rw [hp]; simp
    rw [impl_filled.l0, if_neg (by omega)]
    have e0 : kraft ([] : List Int) = 0 := rfl
    by_cases h3 : l.length ≤ 300
    · by_cases h4 : sum ≤ 32768
      · rw [if_neg (by omega), if_neg (by omega), if_pos ⟨lensOk_nil, h3, by omega⟩, e0, Int.add_zero]
      · rw [if_neg (by omega), if_pos (by omega), if_neg (by omega)]
    · rw [if_pos (by omega), if_neg (by omega)]
  | cons x suf ih =>
    intro pre sum hp h0 h1
    have hll : l.length = pre.length + suf.length + 1 := by rw [hp]; simp; omega
    have hx : rd l (pre.length : Int) = x := by rw [hp]; exact rd_at _ _ _ rfl
    have hk0 := kraft_nn suf
    have e1 : ((pre ++ [x]).length : Int) = (pre.length : Int) + 1 := by simp
    by_cases hr : 0 ≤ x ∧ x ≤ 15
    · by_cases hz : x > 0
      · have hp2 := P2_b (n := (15 - x).toNat) (m := 14) (by omega)
        rw [show P2 14 = 16384 from rfl] at hp2
        have hcons : kraft (x :: suf) = P2 (15 - x).toNat + kraft suf := by simp only [kraft, if_pos hz]
        obtain ⟨K, hK⟩ := ih (pre ++ [x]) (sum + P2 (15 - x).toNat) (by simp [hp]) (by omega) (by rw [e1]; omega)
        try dsimp only at hK
        refine ⟨K + 1, fun k hk => ?_⟩
        try dsimp only
        obtain ⟨m, rfl⟩ : ∃ m, k = m + 1 := ⟨k - 1, by omega⟩
        have hm := hK m (by omega)
        rw [e1] at hm
        rw [impl_filled.l0, if_pos (by omega), if_pos (by omega), if_pos (by omega), hx, in_f]
        simp only [Option.bind_some]
        rw [if_pos (decide_eq_true hr), if_pos hz, w64 (x := 15 - x) (by omega), if_pos (by omega), shl1_P2 (by omega) (by omega), w64 (x := sum + _) (by omega), w64 (by omega), hm, hcons]
        by_cases hc : lensOk suf ∧ l.length ≤ 300 ∧ sum + P2 (15 - x).toNat + kraft suf ≤ 32768
        · rw [if_pos hc, if_pos ⟨(lensOk_cons _ _).2 ⟨hr, hc.1⟩, hc.2.1, by omega⟩]; congr 1; omega
        · rw [if_neg hc, if_neg (fun h => hc ⟨((lensOk_cons _ _).1 h.1).2, h.2.1, by omega⟩)]
      · obtain ⟨K, hK⟩ := ih (pre ++ [x]) sum (by simp [hp]) (by omega) (by rw [e1]; omega)
        try dsimp only at hK
        have hcons : kraft (x :: suf) = kraft suf := by simp only [kraft, if_neg (show ¬ 0 < x by omega)]; omega
        refine ⟨K + 1, fun k hk => ?_⟩
        try dsimp only
        obtain ⟨m, rfl⟩ : ∃ m, k = m + 1 := ⟨k - 1, by omega⟩
        have hm := hK m (by omega)
        rw [e1] at hm
        rw [impl_filled.l0, if_pos (by omega), if_pos (by omega), if_pos (by omega), hx, in_f]
        simp only [Option.bind_some]
        rw [if_pos (decide_eq_true hr), if_neg hz, w64 (by omega), hm, hcons]
        by_cases hc : lensOk suf ∧ l.length ≤ 300 ∧ sum + kraft suf ≤ 32768
        · rw [if_pos hc, if_pos ⟨(lensOk_cons _ _).2 ⟨hr, hc.1⟩, hc.2⟩]
        · rw [if_neg hc, if_neg (fun h => hc ⟨((lensOk_cons _ _).1 h.1).2, h.2⟩)]
    · refine ⟨1, fun k hk => ?_⟩
      try dsimp only
      obtain ⟨m, rfl⟩ : ∃ m, k = m + 1 := ⟨k - 1, by omega⟩
      rw [impl_filled.l0, if_pos (by omega), if_pos (by omega), if_pos (by omega), hx, in_f]
      simp only [Option.bind_some]
      rw [if_neg (by simpa using hr), if_neg (fun h => hr ((lensOk_cons _ _).1 h.1).1)]
theorem filled_ev (l : List Int) (hl : l.length ≤ 1048576) : Ev (fun k => impl_filled.f k l) (if codeOkM l = true then kraft l else -1) := by
  obtain ⟨K, hK⟩ := filled_l0_ev l hl l [] 0 rfl (by omega) (by simp)
  try dsimp only at hK
  refine ⟨K, fun k hk => ?_⟩
  try dsimp only
  unfold impl_filled.f codeOkM
  refine (hK k hk).trans ?_
  simp only [Int.zero_add, decide_eq_true_eq]
theorem impl_CodeOk_ev (l : List Int) (hl : l.length ≤ 1048576) : Ev (fun k => impl_CodeOk.f k l) (codeOkM l) := by
  obtain ⟨K, hK⟩ := filled_ev l hl
  try dsimp only at hK
  have := kraft_nn l
  refine ⟨K, fun k hk => ?_⟩
  try dsimp only
  unfold impl_CodeOk.f
  rw [hK k hk]
  simp only [Option.bind_some]
  cases h : codeOkM l
  · simp
  · simp; omega
theorem impl_CodeMake_l1_ev (l : List Int) (hl : l.length ≤ 1048576) (n : Int) (hn : 1 ≤ n ∧ n ≤ 15) (r : List Int) (hnext : Ev (fun k => impl_CodeMake.l0 k l (cdL l (n + 1) [] l) (cdA n l + cdB n l) (n + 1)) r) :
    ∀ (suf pre : List Int), l = pre ++ suf → Ev (fun k => impl_CodeMake.l1 k l (cdL l (n + 1) [] pre ++ cdL l n pre suf) (cdA n l + cdB n pre) n l (l.length : Int) (pre.length : Int)) r := by
  intro suf
  induction suf with
  | nil =>
    intro pre hp
    obtain ⟨K, hK⟩ := hnext
    try dsimp only at hK
    refine ⟨K + 1, fun k hk => ?_⟩
    try dsimp only
    obtain ⟨m, rfl⟩ : ∃ m, k = m + 1 := ⟨k - 1, by omega⟩
    have hm := hK m (by omega)
    have hpl : pre = l := by rw [hp]; simp
    subst hpl
    rw [impl_CodeMake.l1, if_neg (by omega), w64 (by omega)]
    simpa [cdL] using hm
  | cons x suf ih =>
    intro pre hp
    obtain ⟨K, hK⟩ := ih (pre ++ [x]) (by simp [hp])
    try dsimp only at hK
    refine ⟨K + 1, fun k hk => ?_⟩
    try dsimp only
    obtain ⟨m, rfl⟩ : ∃ m, k = m + 1 := ⟨k - 1, by omega⟩
    have hm := hK m (by omega)
    have hll : l.length = pre.length + suf.length + 1 := by rw [hp]; simp; omega
    have hx : rd l (pre.length : Int) = x := by rw [hp]; exact rd_at _ _ _ rfl
    have hA := cdA_b n l (by omega)
    have hB := cdB_b n pre
    have hlen := cdL_length l (n + 1) pre []
    have hlen2 := cdL_length l n (x :: suf) pre
    rw [List.length_append, List.length_singleton, show ((pre.length + 1 : Nat) : Int) = (pre.length : Int) + 1 by omega, cdL_append, cdB_append] at hm
    simp only [cdL, List.nil_append, List.append_assoc, List.singleton_append, cdB] at hm
    rw [impl_CodeMake.l1, if_pos (by omega), if_pos (by omega), if_pos (by omega), hx]
    by_cases h : x = n
    · rw [if_pos (by omega), if_pos h, Int.add_zero] at hm
      rw [if_pos h, if_pos (by rw [List.length_append, hlen, hlen2]; simp; omega), Int.toNat_natCast]
      simp only [cdL]
      rw [set_at _ _ _ _ (by rw [hlen]), w64 (by omega), w64 (by omega)]
      have e : cdN l pre x = cdA n l + cdB n pre := by unfold cdN; rw [h]
      rw [e] at hm
      rw [Int.add_assoc]
      exact hm
    · rw [if_neg h, Int.add_zero, Int.add_zero] at hm
      rw [if_neg h, w64 (by omega)]
      simp only [cdL]
      by_cases h2 : 0 < x ∧ x < n
      · rw [if_pos (by omega)] at hm; rw [if_pos h2]; exact hm
      · rw [if_neg (by omega)] at hm; rw [if_neg h2]; exact hm
theorem impl_CodeMake_l0_ev (l : List Int) (hl : l.length ≤ 1048576) : ∀ (d : Nat) (n : Int), 1 ≤ n → n + d = 16 → ∀ (x : Int), 2 * x = cdA n l → Ev (fun k => impl_CodeMake.l0 k l (cdL l n [] l) x n) (codesM l) := by
  intro d
  induction d with
  | zero =>
    intro n h1 hn x hx
    refine ⟨1, fun k hk => ?_⟩
    try dsimp only
    obtain ⟨m, rfl⟩ : ∃ m, k = m + 1 := ⟨k - 1, by omega⟩
    rw [impl_CodeMake.l0, if_neg (by omega)]
    unfold codesM
    rw [show n = 16 by omega]
  | succ d ih =>
    intro n h1 hn x hx
    have hA := cdA_b n l (by omega)
    obtain ⟨K, hK⟩ := impl_CodeMake_l1_ev l hl n (by omega) (codesM l) (ih (n + 1) (by omega) (by omega) _ (by rw [cdA_succ n l h1])) l [] rfl
    try dsimp only at hK
    refine ⟨K + 1, fun k hk => ?_⟩
    try dsimp only
    obtain ⟨m, rfl⟩ : ∃ m, k = m + 1 := ⟨k - 1, by omega⟩
    have hm := hK m (by omega)
    rw [impl_CodeMake.l0, if_pos (by omega), w64 (by omega), show x * 2 = cdA n l by omega]
    simpa [cdL, cdB] using hm
theorem impl_CodeMake_ev (l : List Int) (hl : l.length ≤ 1048576) : Ev (fun k => impl_CodeMake.f k l) (codeMakeM l) := by
  obtain ⟨K1, h1⟩ := impl_CodeOk_ev l hl
  try dsimp only at h1
  obtain ⟨K, hK⟩ := impl_CodeMake_l0_ev l hl 15 1 (by omega) (by omega) 0 (by rw [cdA_one]; rfl)
  try dsimp only at hK
  refine ⟨K + K1, fun k hk => ?_⟩
  try dsimp only
  have hm := hK k (by omega)
  rw [cdL_one] at hm
  unfold impl_CodeMake.f codeMakeM
  rw [h1 k (by omega)]
  simp only [Option.bind_some]
  by_cases h : codeOkM l = true
  · rw [if_pos h, if_pos (by omega), if_pos (by omega), Int.toNat_natCast, hm, if_pos h]
  · rw [if_neg h, if_neg h]
theorem spec_l3Make_l1_ev (l : List Int) (hl : l.length ≤ 1048576) (n : Int) (hn : 1 ≤ n ∧ n ≤ 15) (r : List Int) (hnext : Ev (fun k => spec_l3Make.l0 k l (cdL l (n + 1) [] l) (cdA n l + cdB n l) (n + 1)) r) :
    ∀ (suf pre : List Int), l = pre ++ suf → Ev (fun k => spec_l3Make.l1 k l (cdL l (n + 1) [] pre ++ cdL l n pre suf) (cdA n l + cdB n pre) n (pre.length : Int)) r := by
  intro suf
  induction suf with
  | nil =>
    intro pre hp
    obtain ⟨K, hK⟩ := hnext
    try dsimp only at hK
    refine ⟨K + 1, fun k hk => ?_⟩
    try dsimp only
    obtain ⟨m, rfl⟩ : ∃ m, k = m + 1 := ⟨k - 1, by omega⟩
    have hm := hK m (by omega)
    have hpl : pre = l := by rw [hp]; simp
    subst hpl
    rw [spec_l3Make.l1, if_neg (by omega), w64 (by omega)]
    simpa [cdL] using hm
  | cons x suf ih =>
    intro pre hp
    obtain ⟨K, hK⟩ := ih (pre ++ [x]) (by simp [hp])
    try dsimp only at hK
    refine ⟨K + 1, fun k hk => ?_⟩
    try dsimp only
    obtain ⟨m, rfl⟩ : ∃ m, k = m + 1 := ⟨k - 1, by omega⟩
    have hm := hK m (by omega)
    have hll : l.length = pre.length + suf.length + 1 := by rw [hp]; simp; omega
    have hx : rd l (pre.length : Int) = x := by rw [hp]; exact rd_at _ _ _ rfl
    have hA := cdA_b n l (by omega)
    have hB := cdB_b n pre
    have hlen := cdL_length l (n + 1) pre []
    have hlen2 := cdL_length l n (x :: suf) pre
    rw [List.length_append, List.length_singleton, show ((pre.length + 1 : Nat) : Int) = (pre.length : Int) + 1 by omega, cdL_append, cdB_append] at hm
    simp only [cdL, List.nil_append, List.append_assoc, List.singleton_append, cdB] at hm
    rw [spec_l3Make.l1, if_pos (by omega), if_pos (by omega), hx]
    by_cases h : x = n
    · rw [if_pos (by omega), if_pos h, Int.add_zero] at hm
      rw [if_pos h, if_pos (by rw [List.length_append, hlen, hlen2]; simp; omega), Int.toNat_natCast]
      simp only [cdL]
      rw [set_at _ _ _ _ (by rw [hlen]), w64 (by omega), w64 (by omega)]
      have e : cdN l pre x = cdA n l + cdB n pre := by unfold cdN; rw [h]
      rw [e] at hm
      rw [Int.add_assoc]
      exact hm
    · rw [if_neg h, Int.add_zero, Int.add_zero] at hm
      rw [if_neg h, w64 (by omega)]
      simp only [cdL]
      by_cases h2 : 0 < x ∧ x < n
      · rw [if_pos (by omega)] at hm; rw [if_pos h2]; exact hm
      · rw [if_neg (by omega)] at hm; rw [if_neg h2]; exact hm
theorem spec_l3Make_l0_ev (l : List Int) (hl : l.length ≤ 1048576) : ∀ (d : Nat) (n : Int), 1 ≤ n → n + d = 16 → ∀ (x : Int), 2 * x = cdA n l → Ev (fun k => spec_l3Make.l0 k l (cdL l n [] l) x n) (codesM l) := by
  intro d
  induction d with
  | zero =>
    intro n h1 hn x hx
    refine ⟨1, fun k hk => ?_⟩
    try dsimp only
    obtain ⟨m, rfl⟩ : ∃ m, k = m + 1 := ⟨k - 1, by omega⟩
    rw [spec_l3Make.l0, if_neg (by omega)]
    unfold codesM
    rw [show n = 16 by omega]
  | succ d ih =>
    intro n h1 hn x hx
    have hA := cdA_b n l (by omega)
    obtain ⟨K, hK⟩ := spec_l3Make_l1_ev l hl n (by omega) (codesM l) (ih (n + 1) (by omega) (by omega) _ (by rw [cdA_succ n l h1])) l [] rfl
    try dsimp only at hK
    refine ⟨K + 1, fun k hk => ?_⟩
    try dsimp only
    obtain ⟨m, rfl⟩ : ∃ m, k = m + 1 := ⟨k - 1, by omega⟩
    have hm := hK m (by omega)
    rw [spec_l3Make.l0, if_pos (by omega), w64 (by omega), show x * 2 = cdA n l by omega]
    simpa [cdL, cdB] using hm
theorem spec_l3Make_ev (l : List Int) (hl : l.length ≤ 1048576) : Ev (fun k => spec_l3Make.f k l) (codesM l) := by
  obtain ⟨K, hK⟩ := spec_l3Make_l0_ev l hl 15 1 (by omega) (by omega) 0 (by rw [cdA_one]; rfl)
  try dsimp only at hK
  refine ⟨K, fun k hk => ?_⟩
  try dsimp only
  have hm := hK k hk
  rw [cdL_one] at hm
  unfold spec_l3Make.f
  rw [if_pos (by omega), if_pos (by omega), Int.toNat_natCast]
  exact hm
theorem spec_CodeMake_ev (l : List Int) (hl : l.length ≤ 1048576) : Ev (fun k => spec_CodeMake.f k l) (codeMakeM l) := by
  obtain ⟨K1, h1⟩ := spec_CodeOk_ev l hl
  try dsimp only at h1
  obtain ⟨K2, h2⟩ := spec_l3Make_ev l hl
  try dsimp only at h2
  refine ⟨K1 + K2, fun k hk => ?_⟩
  try dsimp only
  unfold spec_CodeMake.f codeMakeM
  rw [h1 k (by omega), h2 k (by omega)]
  simp only [Option.bind_some]
  split <;> rfl
theorem toIntS_l0_ev (l : List Int) (hl : l.length ≤ 35184372088832) : ∀ (suf pre : List Int), l = pre ++ suf → Ev (fun k => laws_toIntS.l0 k l (pre ++ List.replicate suf.length 0) (pre.length : Int)) l := by
  intro suf
  induction suf with
  | nil =>
    intro pre hp
    refine ⟨1, fun k hk => ?_⟩
    try dsimp only
    obtain ⟨m, rfl⟩ : ∃ m, k = m + 1 := ⟨k - 1, by omega⟩
    subst hp
    rw [laws_toIntS.l0, if_neg (by simp)]
    simp
  | cons x suf ih =>
    intro pre hp
    obtain ⟨K, hK⟩ := ih (pre ++ [x]) (by simp [hp])
    try dsimp only at hK
    refine ⟨K + 1, fun k hk => ?_⟩
    try dsimp only
    obtain ⟨m, rfl⟩ : ∃ m, k = m + 1 := ⟨k - 1, by omega⟩
    have hm := hK m (by omega)
    have hll : l.length = pre.length + suf.length + 1 := by rw [hp]; simp; omega
    have hx : rd l (pre.length : Int) = x := by rw [hp]; exact rd_at _ _ _ rfl
    rw [laws_toIntS.l0, if_pos (by omega), if_pos (by omega), if_pos (by simp; omega), hx, w64 (by omega), List.length_cons, List.replicate_succ, set_at _ _ _ _ (by omega)]
    simp only [List.append_assoc, List.singleton_append, List.length_append, List.length_singleton] at hm
    rw [show ((pre.length + 1 : Nat) : Int) = (pre.length : Int) + 1 by omega] at hm
    exact hm
theorem toIntS_ev (l : List Int) (hl : l.length ≤ 35184372088832) : Ev (fun k => laws_toIntS.f k l) l := by
  obtain ⟨K, hK⟩ := toIntS_l0_ev l hl l [] rfl
  try dsimp only at hK
  refine ⟨K, fun k hk => ?_⟩
  try dsimp only
  have hm := hK k hk
  unfold laws_toIntS.f
  rw [if_pos (by omega), if_pos (by omega), Int.toNat_natCast]
  exact hm
theorem eqIntS_l0_ev (a b : List Int) (hl : a.length ≤ 35184372088832) (hab : a.length = b.length) : ∀ (sa sb pa pb : List Int), a = pa ++ sa → b = pb ++ sb → pa.length = pb.length → Ev (fun k => laws_eqIntS.l0 k a b (pa.length : Int)) (decide (sa = sb)) := by
  intro sa
  induction sa with
  | nil =>
    intro sb pa pb ha hb hp
    have hsb : sb = [] := by
      cases sb with
      | nil => rfl
      | cons y sb => rw [ha, hb] at hab; simp at hab; omega
    subst hsb
    refine ⟨1, fun k hk => ?_⟩
    try dsimp only
    obtain ⟨m, rfl⟩ : ∃ m, k = m + 1 := ⟨k - 1, by omega⟩
    rw [laws_eqIntS.l0, if_neg (by rw [ha]; simp)]
    simp
  | cons x sa ih =>
    intro sb pa pb ha hb hp
    cases sb with
    | nil => rw [ha, hb] at hab; simp at hab; omega
    | cons y sb =>
      have hll : a.length = pa.length + sa.length + 1 := by rw [ha]; simp; omega
      have hx : rd a (pa.length : Int) = x := by rw [ha]; exact rd_at _ _ _ rfl
      have hy : rd b (pa.length : Int) = y := by rw [hb]; exact rd_at _ _ _ (by omega)
      by_cases hxy : x = y
      · obtain ⟨K, hK⟩ := ih sb (pa ++ [x]) (pb ++ [y]) (by simp [ha]) (by simp [hb]) (by simp [hp])
        try dsimp only at hK
        refine ⟨K + 1, fun k hk => ?_⟩
        try dsimp only
        obtain ⟨m, rfl⟩ : ∃ m, k = m + 1 := ⟨k - 1, by omega⟩
        have hm := hK m (by omega)
        rw [laws_eqIntS.l0, if_pos (by omega), if_pos (by omega), if_pos (by omega), hx, hy, if_pos hxy, w64 (by omega)]
        rw [List.length_append, List.length_singleton, show ((pa.length + 1 : Nat) : Int) = (pa.length : Int) + 1 by omega] at hm
        rw [hm]
        simp [hxy]
      · refine ⟨1, fun k hk => ?_⟩
        try dsimp only
        obtain ⟨m, rfl⟩ : ∃ m, k = m + 1 := ⟨k - 1, by omega⟩
        rw [laws_eqIntS.l0, if_pos (by omega), if_pos (by omega), if_pos (by omega), hx, hy, if_neg hxy]
        simp [hxy]
theorem eqIntS_ev (a b : List Int) (hl : a.length ≤ 35184372088832) (hl2 : b.length ≤ 35184372088832) : Ev (fun k => laws_eqIntS.f k a b) (decide (a = b)) := by
  unfold laws_eqIntS.f
  by_cases h : a.length = b.length
  · obtain ⟨K, hK⟩ := eqIntS_l0_ev a b hl h a b [] [] rfl rfl rfl
    try dsimp only at hK
    refine ⟨K, fun k hk => ?_⟩
    try dsimp only
    rw [if_pos (by omega)]
    exact hK k hk
  · refine ⟨0, fun k hk => ?_⟩
    try dsimp only
    rw [if_neg (by omega), decide_eq_false (fun e => h (by rw [e]))]
theorem markIntS_l0_ev (m0 : Int) (hm0 : 0 ≤ m0 ∧ m0 ≤ 1099511627776) : ∀ (suf : List Int) (i : Nat), i + suf.length ≤ 1099511627776 → Ev (fun k => laws_markIntS.l0 k (marks m0 i ++ suf) (m0 + i) (i : Int)) (m0 + (i + suf.length : Nat), marks m0 (i + suf.length)) := by
  intro suf
  induction suf with
  | nil =>
    intro i hi
    refine ⟨1, fun k hk => ?_⟩
    try dsimp only
    obtain ⟨m, rfl⟩ : ∃ m, k = m + 1 := ⟨k - 1, by omega⟩
    rw [laws_markIntS.l0, if_neg (by simp [marks_length])]
    simp
  | cons x suf ih =>
    intro i hi
    simp only [List.length_cons] at hi
    obtain ⟨K, hK⟩ := ih (i + 1) (by omega)
    try dsimp only at hK
    refine ⟨K + 1, fun k hk => ?_⟩
    try dsimp only
    obtain ⟨m, rfl⟩ : ∃ m, k = m + 1 := ⟨k - 1, by omega⟩
    have hm := hK m (by omega)
    rw [laws_markIntS.l0, if_pos (by simp [marks_length]; omega), if_pos (by omega), Int.toNat_natCast, set_at _ _ _ _ (by rw [marks_length]), w64 (by omega), w64 (by omega)]
    simp only [marks, List.append_assoc, List.singleton_append] at hm
    rw [show m0 + ((i + 1 : Nat) : Int) = m0 + i + 1 by omega, show ((i + 1 : Nat) : Int) = (i : Int) + 1 by omega, show i + 1 + suf.length = i + (suf.length + 1) by omega] at hm
    exact hm
theorem markIntS_ev (l : List Int) (m0 : Int) (hm0 : 0 ≤ m0 ∧ m0 ≤ 1099511627776) (hl : l.length ≤ 1099511627776) : Ev (fun k => laws_markIntS.f k l m0) (m0 + (l.length : Int), marks m0 l.length) := by
  have h := markIntS_l0_ev m0 hm0 l 0 (by omega)
  simp only [marks, List.nil_append, Nat.zero_add] at h
  rw [show m0 + ((0 : Nat) : Int) = m0 by omega] at h
  exact h
theorem heldIntS_l0_ev (m0 : Int) (hm0 : 0 ≤ m0 ∧ m0 ≤ 1099511627776) (n : Nat) (hn : n ≤ 1099511627776) : ∀ d i : Nat, i + d = n → Ev (fun k => laws_heldIntS.l0 k (marks m0 n) (m0 + i) (i : Int)) (m0 + n) := by
  intro d
  induction d with
  | zero =>
    intro i hi
    refine ⟨1, fun k hk => ?_⟩
    try dsimp only
    obtain ⟨m, rfl⟩ : ∃ m, k = m + 1 := ⟨k - 1, by omega⟩
    rw [laws_heldIntS.l0, if_neg (by rw [marks_length]; omega), show i = n by omega]
  | succ d ih =>
    intro i hi
    obtain ⟨K, hK⟩ := ih (i + 1) (by omega)
    try dsimp only at hK
    refine ⟨K + 1, fun k hk => ?_⟩
    try dsimp only
    obtain ⟨m, rfl⟩ : ∃ m, k = m + 1 := ⟨k - 1, by omega⟩
    have hm := hK m (by omega)
    rw [laws_heldIntS.l0, if_pos (by rw [marks_length]; omega), if_pos (by omega), rd_marks _ _ _ (by omega), if_pos rfl, w64 (by omega), w64 (by omega)]
    rw [show m0 + ((i + 1 : Nat) : Int) = m0 + i + 1 by omega, show ((i + 1 : Nat) : Int) = (i : Int) + 1 by omega] at hm
    exact hm
theorem heldIntS_ev (m0 : Int) (hm0 : 0 ≤ m0 ∧ m0 ≤ 1099511627776) (n : Nat) (hn : n ≤ 1099511627776) : Ev (fun k => laws_heldIntS.f k (marks m0 n) m0) (m0 + n) := by
  have h := heldIntS_l0_ev m0 hm0 n hn n 0 (by omega)
  rw [show m0 + ((0 : Nat) : Int) = m0 by omega] at h
  exact h

theorem FnExactCodeMake : laws_FnExactCodeMake.Pure := by
  intro l hl hl8 hw
  unfold laws_FnExactCodeMake.f
  by_cases h : (l.length : Int) > 1048576
  · exact ⟨0, by rw [if_pos h]⟩
  have hlen : (codeMakeM l).length ≤ 1048576 := by
    unfold codeMakeM; split
    · rw [codesM_length]; omega
    · simp
  obtain ⟨K1, h1⟩ := toIntS_ev l (by omega)
  try dsimp only at h1
  obtain ⟨K2, h2⟩ := spec_CodeMake_ev l (by omega)
  try dsimp only at h2
  obtain ⟨K3, h3⟩ := impl_CodeMake_ev l (by omega)
  try dsimp only at h3
  obtain ⟨K4, h4⟩ := eqIntS_ev (codeMakeM l) (codeMakeM l) (by omega) (by omega)
  try dsimp only at h4
  obtain ⟨K5, h5⟩ := eqIntS_ev l l (by omega) (by omega)
  try dsimp only at h5
  obtain ⟨K6, h6⟩ := markIntS_ev l 1 (by omega) (by omega)
  try dsimp only at h6
  obtain ⟨K7, h7⟩ := markIntS_ev (codeMakeM l) 1 (by omega) (by omega)
  try dsimp only at h7
  obtain ⟨K8, h8⟩ := heldIntS_ev 1 (by omega) (codeMakeM l).length (by omega)
  try dsimp only at h8
  obtain ⟨K, hK⟩ : ∃ K, K = K1 + K2 + K3 + K4 + K5 + K6 + K7 + K8 := ⟨_, rfl⟩
  refine ⟨K + 1, ?_⟩
  rw [if_neg h]
  simp only [h1 (K + 1) (by omega), h2 (K + 1) (by omega), h3 (K + 1) (by omega), h4 (K + 1) (by omega), h5 (K + 1) (by omega), h6 (K + 1) (by omega), Option.bind_some, decide_true, if_true]
  rw [if_neg (by omega), laws_FnExactCodeMake.j0]
  simp only [Bool.not_true, Bool.false_eq_true, if_false, h1 K (by omega), h3 K (by omega), h4 K (by omega), h7 K (by omega), h8 K (by omega), Option.bind_some, decide_true, if_true]
  rw [if_neg (by omega)]
  rw [if_neg (by omega)]

end Go.Proofs.Ytpjkcdgamlllgaa.Pure
