/- The program's RunGet and the reference's answer the same, at every text of at most 1048576 bytes (a longer one is let by), place, size and count; the answer is its own memory. -/
import Derived.Test.YtpjkcdgamlllgaaHFnExactRunGetx4
import Derived.Test.YtpjkcdgamlllgaaThNum
import Derived.Test.YtpjkcdgamlllgaaThRun
import Derived.Test.YtpjkcdgamlllgaaThMark
namespace Go.Proofs.Ytpjkcdgamlllgaa.Pure
open Go.RowKit Go.Proofs.Ytpjkcdgamlllgaa.PFnExactRunGet Go.Proofs.YtpjkcdgamlllgaaW.PrintWords Go.Proofs.YtpjkcdgamlllgaaW.PrintLast Go.Proofs.YtpjkcdgamlllgaaW.PrintMore Go.Proofs.Ytpjkcdgamlllgaa.Th
set_option linter.unusedVariables false
set_option linter.unusedSimpArgs false

theorem l1In_f (a b c : Int) : spec_l1In.f a b c = some (decide (b ≤ a ∧ a ≤ c)) := by
  unfold spec_l1In.f
  by_cases h : b ≤ a
  · rw [if_pos h]; simp [h]
  · rw [if_neg h]; simp [h]
theorem l1Field_l0_ev (s : ByteArray) (at_ size : Int) (big : Bool) (hs : s.size ≤ 9000) (h0 : 0 ≤ at_) (h1 : 1 ≤ size) (h2 : size ≤ 4) (h3 : at_ + size ≤ s.size) :
    ∀ d i : Nat, i + d = size.toNat → Ev (fun k => spec_l1Field.l0 k s at_ size big (numM s at_ size big i) (i : Int)) (numM s at_ size big size.toNat) := by
  intro d
  induction d with
  | zero =>
    intro i hi
    refine ⟨1, fun k hk => ?_⟩
    try dsimp only
    obtain ⟨m, rfl⟩ : ∃ m, k = m + 1 := ⟨k - 1, by omega⟩
    rw [spec_l1Field.l0, if_neg (by omega), show i = size.toNat by omega]
  | succ d ih =>
    intro i hi
    obtain ⟨K, hK⟩ := ih (i + 1) (by omega)
    try dsimp only at hK
    refine ⟨K + 1, fun k hk => ?_⟩
    try dsimp only
    obtain ⟨m, rfl⟩ : ∃ m, k = m + 1 := ⟨k - 1, by omega⟩
    have hm := hK m (by omega)
    have hb := numM_b4 s at_ size big i (by omega)
    rw [spec_l1Field.l0, if_pos (by omega)]
    cases big
    · have ht := bt_range s (at_ + size - 1 - i)
      simp only [numM, Bool.false_eq_true, if_false] at hm
      simp (disch := omega) only [w64, Bool.false_eq_true, ↓if_false, ↓if_pos]
      exact hm
    · have ht := bt_range s (at_ + i)
      simp only [numM, if_true] at hm
      simp (disch := omega) only [w64, ↓if_true, ↓if_pos]
      exact hm
theorem l1Field_ev (s : ByteArray) (at_ size : Int) (big : Bool) (hs : s.size ≤ 9000) (h0 : 0 ≤ at_) (h1 : 1 ≤ size) (h2 : size ≤ 4) (h3 : at_ + size ≤ s.size) :
    Ev (fun k => spec_l1Field.f k s at_ size big) (numM s at_ size big size.toNat) := by
  obtain ⟨K, hK⟩ := l1Field_l0_ev s at_ size big hs h0 h1 h2 h3 size.toNat 0 (by omega)
  try dsimp only at hK
  refine ⟨K + 1, fun k hk => ?_⟩
  try dsimp only
  obtain ⟨m, rfl⟩ : ∃ m, k = m + 1 := ⟨k - 1, by omega⟩
  have hm := hK m (by omega)
  unfold spec_l1Field.f
  rw [if_neg (by omega), w64 (by omega), spec_l1Field.j0, decide_eq_false (by omega)]
  simp only [Bool.false_eq_true, if_false]
  exact hm
theorem spec_RunGet_l1_ev (s : ByteArray) (at_ size count : Int) (same : Bool) (need : Int) (out : List Int) (n : Nat) (hs : s.size ≤ 9000) (hz : 1 ≤ size ∧ size ≤ 4) (h0 : 0 ≤ at_) (hn : n ≤ 128) (hneed : need = if same = true then size else n * size) (hfit : at_ + need ≤ s.size) (ho : out.length ≤ 1000) (r : List Int × Int × Bool)
    (hnext : Ev (fun k => spec_RunGet.l0 k s (at_ + need) size count (out ++ pkM s at_ size same n)) r) :
    ∀ d j : Nat, j + d = n → Ev (fun k => spec_RunGet.l1 k s at_ size count (out ++ pkM s at_ size same j) (n : Int) same need (j : Int)) r := by
  have hmul := mul_le4 (n := n) (size := size) (by omega) hz
  have hneed2 : 0 ≤ need ∧ need ≤ 512 := by cases same <;> simp at hneed <;> omega
  intro d
  induction d with
  | zero =>
    intro j hj
    obtain ⟨K, hK⟩ := hnext
    try dsimp only at hK
    refine ⟨K + 1, fun k hk => ?_⟩
    try dsimp only
    obtain ⟨m, rfl⟩ : ∃ m, k = m + 1 := ⟨k - 1, by omega⟩
    have hm := hK m (by omega)
    rw [spec_RunGet.l1, if_neg (by omega), w64 (by omega), show j = n by omega]
    exact hm
  | succ d ih =>
    intro j hj
    obtain ⟨K, hK⟩ := ih (j + 1) (by omega)
    try dsimp only at hK
    have hl := pkM_length s at_ size same j
    have hst := mul_step (j := j) (n := n) (size := size) (by omega) hz.1
    cases same
    · simp only [Bool.false_eq_true, if_false] at hneed
      obtain ⟨K1, hK1⟩ := l1Field_ev s (at_ + j * size) size false hs (by omega) hz.1 hz.2 (by omega)
      try dsimp only at hK1
      refine ⟨K + K1 + 1, fun k hk => ?_⟩
      try dsimp only
      obtain ⟨m, rfl⟩ : ∃ m, k = m + 1 := ⟨k - 1, by omega⟩
      have hm := hK m (by omega)
      rw [spec_RunGet.l1, if_pos (by omega), if_neg (by decide), w64 (x := (j : Int) * size) (by omega), w64 (x := at_ + _) (by omega), hK1 m (by omega), Option.bind_some, if_pos (by rw [List.length_append, hl]; omega), w64 (by omega)]
      simp only [pkM, Bool.false_eq_true, if_false] at hm
      rw [← List.append_assoc, show ((j + 1 : Nat) : Int) = (j : Int) + 1 by omega] at hm
      exact hm
    · simp only [if_true] at hneed
      obtain ⟨K1, hK1⟩ := l1Field_ev s at_ size false hs (by omega) hz.1 hz.2 (by omega)
      try dsimp only at hK1
      refine ⟨K + K1 + 1, fun k hk => ?_⟩
      try dsimp only
      obtain ⟨m, rfl⟩ : ∃ m, k = m + 1 := ⟨k - 1, by omega⟩
      have hm := hK m (by omega)
      rw [spec_RunGet.l1, if_pos (by omega), if_pos rfl, hK1 m (by omega), Option.bind_some, if_pos (by rw [List.length_append, hl]; omega), w64 (by omega)]
      simp only [pkM, if_true] at hm
      rw [← List.append_assoc, show ((j + 1 : Nat) : Int) = (j : Int) + 1 by omega] at hm
      exact hm
theorem spec_RunGet_l0_ev (s : ByteArray) (size count : Int) (hs : s.size ≤ 9000) (hz : 1 ≤ size ∧ size ≤ 4) (hc : 0 ≤ count ∧ count ≤ 1000) : ∀ (f : Nat) (at_ : Int) (out : List Int), 0 ≤ at_ → at_ ≤ s.size → (out.length : Int) ≤ count → count ≤ out.length + f → Ev (fun k => spec_RunGet.l0 k s at_ size count out) (runM s size count f at_ out) := by
  intro f
  induction f with
  | zero =>
    intro at_ out h0 h1 h2 h3
    refine ⟨1, fun k hk => ?_⟩
    try dsimp only
    obtain ⟨m, rfl⟩ : ∃ m, k = m + 1 := ⟨k - 1, by omega⟩
    rw [spec_RunGet.l0, if_neg (by omega)]; rfl
  | succ f ih =>
    intro at_ out h0 h1 h2 h3
    simp only [runM]
    by_cases c1 : (out.length : Int) < count
    · rw [if_pos c1]
      by_cases c2 : at_ < s.size
      · have hb := bt_range s at_
        have hn : 1 ≤ pkN (bt s at_) ∧ pkN (bt s at_) ≤ 128 := by unfold pkN; omega
        have hmul := mul_le4 (n := pkN (bt s at_)) (size := size) (by omega) hz
        have hneed : 0 ≤ pkNeed (bt s at_) size ∧ pkNeed (bt s at_) size ≤ 512 := by unfold pkNeed; split <;> omega
        have ej : ∀ m : Nat, spec_RunGet.l0 (m + 2) s at_ size count out = (if at_ + 1 + pkNeed (bt s at_) size > s.size then spec_RunGet.j3 m s (at_ + 1) size count out (pkN (bt s at_)) (decide (bt s at_ ≥ 128)) (pkNeed (bt s at_) size) true else spec_RunGet.j3 m s (at_ + 1) size count out (pkN (bt s at_)) (decide (bt s at_ ≥ 128)) (pkNeed (bt s at_) size) (decide ((out.length : Int) + pkN (bt s at_) > count))) := by
          intro m
          have e1 : wrap64 (Int.tmod (wrap64 (bt s at_)) 128 + 1) = pkN (bt s at_) := by
            rw [w64 (x := bt s at_) (by omega), tmod_pos (by omega), w64 (by omega)]; rfl
          rw [spec_RunGet.l0, if_pos c1, if_neg (by omega), if_pos h0, if_pos c2, e1, w64 (x := at_ + 1) (by omega), w64 (x := pkN (bt s at_) * size) (by omega)]
          by_cases c3 : bt s at_ ≥ 128
          · have e2 : pkNeed (bt s at_) size = size := by unfold pkNeed; rw [if_pos c3]
            rw [if_pos c3, spec_RunGet.j2, e2, w64 (x := at_ + 1 + size) (by omega), w64 (x := (out.length : Int) + _) (by omega)]
          · have e2 : pkNeed (bt s at_) size = pkN (bt s at_) * size := by unfold pkNeed; rw [if_neg c3]
            rw [if_neg c3, spec_RunGet.j2, e2, w64 (x := at_ + 1 + _) (by omega), w64 (x := (out.length : Int) + _) (by omega)]
        rw [if_pos c2]
        by_cases c3 : at_ + 1 + pkNeed (bt s at_) size ≤ s.size ∧ (out.length : Int) + pkN (bt s at_) ≤ count
        · rw [if_pos c3]
          have hp : ((pkN (bt s at_)).toNat : Int) = pkN (bt s at_) := Int.toNat_of_nonneg (by omega)
          obtain ⟨K, hK⟩ := spec_RunGet_l1_ev s (at_ + 1) size count (decide (bt s at_ ≥ 128)) (pkNeed (bt s at_) size) out (pkN (bt s at_)).toNat hs hz (by omega) (by omega) (by unfold pkNeed; rw [hp]; simp only [decide_eq_true_eq]) c3.1 (by omega) _ (ih (at_ + 1 + pkNeed (bt s at_) size) (out ++ pkM s (at_ + 1) size (decide (128 ≤ bt s at_)) (pkN (bt s at_)).toNat) (by omega) c3.1 (by rw [List.length_append, pkM_length]; omega) (by rw [List.length_append, pkM_length]; omega)) (pkN (bt s at_)).toNat 0 (by omega)
          try dsimp only at hK
          refine ⟨K + 3, fun k hk => ?_⟩
          try dsimp only
          obtain ⟨m, rfl⟩ : ∃ m, k = m + 3 := ⟨k - 3, by omega⟩
          have hm := hK m (by omega)
          rw [hp] at hm
          rw [ej (m + 1), if_neg (by omega), spec_RunGet.j3, if_neg (by simp; omega)]
          simp only [pkM, List.append_nil] at hm
          exact hm
        · rw [if_neg c3]
          refine ⟨3, fun k hk => ?_⟩
          try dsimp only
          obtain ⟨m, rfl⟩ : ∃ m, k = m + 3 := ⟨k - 3, by omega⟩
          rw [ej (m + 1)]
          by_cases c4 : at_ + 1 + pkNeed (bt s at_) size > s.size
          · rw [if_pos c4, spec_RunGet.j3, if_pos rfl]
          · rw [if_neg c4, spec_RunGet.j3, if_pos (decide_eq_true (by omega))]
      · rw [if_neg c2]
        refine ⟨1, fun k hk => ?_⟩
        try dsimp only
        obtain ⟨m, rfl⟩ : ∃ m, k = m + 1 := ⟨k - 1, by omega⟩
        rw [spec_RunGet.l0, if_pos c1, if_pos (by omega)]
    · rw [if_neg c1]
      refine ⟨1, fun k hk => ?_⟩
      try dsimp only
      obtain ⟨m, rfl⟩ : ∃ m, k = m + 1 := ⟨k - 1, by omega⟩
      rw [spec_RunGet.l0, if_neg c1]
theorem spec_RunGet_ev (s : ByteArray) (at_ size count : Int) : Ev (fun k => spec_RunGet.f k s at_ size count) (runGetM s at_ size count) := by
  unfold spec_RunGet.f runGetM
  simp only [l1In_f, Option.bind_some, decide_eq_true_eq]
  by_cases h : runOk s at_ size count = true
  · have hh := of_decide_eq_true h
    obtain ⟨K, hK⟩ := spec_RunGet_l0_ev s size count hh.2.2.1 hh.1 hh.2.1 count.toNat at_ [] hh.2.2.2.1 hh.2.2.2.2 (by simpa using hh.2.1.1) (by simp; omega)
    try dsimp only at hK
    refine ⟨K + 1, fun k hk => ?_⟩
    try dsimp only
    obtain ⟨m, rfl⟩ : ∃ m, k = m + 1 := ⟨k - 1, by omega⟩
    rw [if_pos hh.1, if_pos hh.2.1, if_neg (by omega), if_pos h, spec_RunGet.j0, if_neg (by simp; omega)]
    exact hK m (by omega)
  · have hn : ¬ ((1 ≤ size ∧ size ≤ 4) ∧ (0 ≤ count ∧ count ≤ 1000) ∧ s.size ≤ 9000 ∧ (0 ≤ at_ ∧ at_ ≤ s.size)) := fun e => h (decide_eq_true e)
    refine ⟨1, fun k hk => ?_⟩
    try dsimp only
    obtain ⟨m, rfl⟩ : ∃ m, k = m + 1 := ⟨k - 1, by omega⟩
    rw [if_neg h]
    by_cases h1 : 1 ≤ size ∧ size ≤ 4
    · by_cases h2 : 0 ≤ count ∧ count ≤ 1000
      · by_cases h3 : (s.size : Int) > 9000
        · rw [if_pos h1, if_pos h2, if_pos h3, spec_RunGet.j0, if_pos rfl]
        · rw [if_pos h1, if_pos h2, if_neg h3, spec_RunGet.j0, if_pos (by simp; omega)]
      · rw [if_pos h1, if_neg h2, spec_RunGet.j0, if_pos rfl]
    · rw [if_neg h1, spec_RunGet.j0, if_pos rfl]
theorem in_f (a b c : Int) : impl_in.f a b c = some (decide (b ≤ a ∧ a ≤ c)) := by
  unfold impl_in.f
  by_cases h : b ≤ a
  · rw [if_pos h]; simp [h]
  · rw [if_neg h]; simp [h]
def numGetM (s : ByteArray) (at_ size : Int) (big : Bool) : Int × Bool :=
  if 1 ≤ size ∧ size ≤ 4 ∧ s.size ≤ 9000 ∧ 0 ≤ at_ ∧ at_ + size ≤ s.size then (numM s at_ size big size.toNat, true) else (0, false)
theorem impl_NumGet_l0_ev (s : ByteArray) (at_ size : Int) (big : Bool) (hs : s.size ≤ 9000) (h0 : 0 ≤ at_) (h1 : 1 ≤ size) (h2 : size ≤ 4) (h3 : at_ + size ≤ s.size) :
    ∀ d i : Nat, i + d = size.toNat → Ev (fun k => impl_NumGet.l0 k s at_ size big (numM s at_ size big i) size (i : Int)) (numM s at_ size big size.toNat, true) := by
  intro d
  induction d with
  | zero =>
    intro i hi
    refine ⟨1, fun k hk => ?_⟩
    try dsimp only
    obtain ⟨m, rfl⟩ : ∃ m, k = m + 1 := ⟨k - 1, by omega⟩
    rw [impl_NumGet.l0, if_neg (by omega), show i = size.toNat by omega]
  | succ d ih =>
    intro i hi
    obtain ⟨K, hK⟩ := ih (i + 1) (by omega)
    try dsimp only at hK
    refine ⟨K + 1, fun k hk => ?_⟩
    try dsimp only
    obtain ⟨m, rfl⟩ : ∃ m, k = m + 1 := ⟨k - 1, by omega⟩
    have hm := hK m (by omega)
    have hb := numM_b4 s at_ size big i (by omega)
    have h8 : P2 8 = 256 := rfl
    rw [impl_NumGet.l0, if_pos (by omega)]
    cases big
    · have ht := bt_range s (at_ + size - 1 - i)
      have hj := or_join (i := 8) (x := numM s at_ size false i * 256) (y := bt s (at_ + size - 1 - i)) (by omega) (by rw [h8]; omega) (by omega) (by omega) (by omega) (by omega)
      simp only [numM, Bool.false_eq_true, if_false] at hm
      simp (disch := omega) only [w64, Bool.false_eq_true, ↓if_false, ↓if_pos]
      rw [hj, Int.mul_comm]
      exact hm
    · have ht := bt_range s (at_ + i)
      have hj := or_join (i := 8) (x := numM s at_ size true i * 256) (y := bt s (at_ + i)) (by omega) (by rw [h8]; omega) (by omega) (by omega) (by omega) (by omega)
      simp only [numM, if_true] at hm
      simp (disch := omega) only [w64, ↓if_true, ↓if_pos]
      rw [hj, Int.mul_comm]
      exact hm
theorem impl_NumGet_ev (s : ByteArray) (at_ size : Int) (big : Bool) (hs : s.size ≤ 1048576) (hw : -9223372036854775808 ≤ size ∧ size ≤ 9223372036854775807) : Ev (fun k => impl_NumGet.f k s at_ size big) (numGetM s at_ size big) := by
  unfold impl_NumGet.f numGetM
  simp only [in_f, Option.bind_some, decide_eq_true_eq]
  by_cases h1 : 1 ≤ size ∧ size ≤ 4
  · by_cases h2 : s.size ≤ 9000
    · by_cases h3 : 0 ≤ at_ ∧ at_ + size ≤ s.size
      · obtain ⟨K, hK⟩ := impl_NumGet_l0_ev s at_ size big h2 h3.1 h1.1 h1.2 h3.2 size.toNat 0 (by omega)
        try dsimp only at hK
        refine ⟨K + 1, fun k hk => ?_⟩
        try dsimp only
        obtain ⟨m, rfl⟩ : ∃ m, k = m + 1 := ⟨k - 1, by omega⟩
        have hm := hK m (by omega)
        rw [if_pos h1, if_neg (by omega), w64 (by omega), decide_eq_true (by omega), if_pos (by omega)]
        simp only [Bool.not_true, impl_NumGet.j0, Bool.false_eq_true, if_false]
        exact hm
      · refine ⟨1, fun k hk => ?_⟩
        try dsimp only
        obtain ⟨m, rfl⟩ : ∃ m, k = m + 1 := ⟨k - 1, by omega⟩
        rw [if_pos h1, if_neg (by omega), w64 (by omega), decide_eq_false (by omega), if_neg (by omega)]
        simp only [Bool.not_false, impl_NumGet.j0, if_true]
    · refine ⟨1, fun k hk => ?_⟩
      try dsimp only
      obtain ⟨m, rfl⟩ : ∃ m, k = m + 1 := ⟨k - 1, by omega⟩
      rw [if_pos h1, if_pos (by omega), if_neg (by omega)]
      simp only [impl_NumGet.j0, if_true]
  · refine ⟨1, fun k hk => ?_⟩
    try dsimp only
    obtain ⟨m, rfl⟩ : ∃ m, k = m + 1 := ⟨k - 1, by omega⟩
    rw [if_neg h1, if_neg (by omega)]
    simp only [impl_NumGet.j0, if_true]
theorem numGetM_in (s : ByteArray) (at_ size : Int) (hs : s.size ≤ 9000) (hz : 1 ≤ size ∧ size ≤ 4) (h0 : 0 ≤ at_) (h : at_ + size ≤ s.size) : numGetM s at_ size false = (numA s at_ size, true) := by
  unfold numGetM; rw [if_pos ⟨hz.1, hz.2, hs, h0, h⟩]; rfl
theorem numGetM_out (s : ByteArray) (at_ size : Int) (h : ¬ at_ + size ≤ s.size) : numGetM s at_ size false = (0, false) := by
  unfold numGetM; rw [if_neg (fun e => h e.2.2.2.2)]
def repM (x : Int) : Nat → List Int
  | 0 => []
  | n + 1 => repM x n ++ [x]
theorem repM_length (x : Int) (n : Nat) : (repM x n).length = n := by
  induction n with
  | zero => rfl
  | succ n ih => simp [repM, ih]
theorem pkM_same (s : ByteArray) (at_ size : Int) (n : Nat) : pkM s at_ size true n = repM (numA s at_ size) n := by
  induction n with
  | zero => rfl
  | succ n ih => simp only [pkM, repM, ih, if_true]
theorem impl_RunGet_l2_ev (s : ByteArray) (at_ size count : Int) (x told idx : Int) (out : List Int) (ho : out.length ≤ 2000) (n : Nat) (hn : n ≤ 128) (r : List Int × Int × Bool)
    (hnext : Ev (fun k => impl_RunGet.l1 k s at_ size count (out ++ repM x n) (n : Int) told (wrap64 (idx + 1))) r) :
    ∀ d j : Nat, j + d = n → Ev (fun k => impl_RunGet.l2 k s at_ size count (out ++ repM x j) (n : Int) x told idx (n : Int) (j : Int)) r := by
  intro d
  induction d with
  | zero =>
    intro j hj
    obtain ⟨K, hK⟩ := hnext
    try dsimp only at hK
    refine ⟨K + 1, fun k hk => ?_⟩
    try dsimp only
    obtain ⟨m, rfl⟩ : ∃ m, k = m + 1 := ⟨k - 1, by omega⟩
    have hm := hK m (by omega)
    rw [impl_RunGet.l2, if_neg (by omega), show j = n by omega]
    exact hm
  | succ d ih =>
    intro j hj
    obtain ⟨K, hK⟩ := ih (j + 1) (by omega)
    try dsimp only at hK
    refine ⟨K + 1, fun k hk => ?_⟩
    try dsimp only
    obtain ⟨m, rfl⟩ : ∃ m, k = m + 1 := ⟨k - 1, by omega⟩
    have hm := hK m (by omega)
    have hl := repM_length x j
    rw [impl_RunGet.l2, if_pos (by omega), if_pos (by rw [List.length_append, hl]; omega), w64 (by omega)]
    simp only [repM] at hm
    rw [← List.append_assoc, show ((j + 1 : Nat) : Int) = (j : Int) + 1 by omega] at hm
    exact hm
/-- A packet of n times one number. -/
theorem impl_RunGet_same_ev (s : ByteArray) (at_ size count : Int) (out : List Int) (n : Nat) (hs : s.size ≤ 9000) (hz : 1 ≤ size ∧ size ≤ 4) (h0 : 0 ≤ at_) (h1 : at_ ≤ s.size) (hn : n ≤ 128) (ho : out.length ≤ 1000) (r : List Int × Int × Bool)
    (hnext : at_ + size ≤ s.size → Ev (fun k => impl_RunGet.l0 k s (at_ + size) size count (out ++ pkM s at_ size true n)) r) (hout : ¬ at_ + size ≤ s.size → r = ([], 0, false)) :
    Ev (fun k => impl_RunGet.l1 k s at_ size count out (n : Int) 1 0) r := by
  obtain ⟨K1, hK1⟩ := impl_NumGet_ev s at_ size false (by omega) (by omega)
  try dsimp only at hK1
  by_cases h : at_ + size ≤ s.size
  · rw [numGetM_in s at_ size hs hz h0 h] at hK1
    obtain ⟨K, hK⟩ := impl_RunGet_l2_ev s (at_ + size) size count (numA s at_ size) 1 0 out (by omega) n hn r (by
      obtain ⟨K, hK⟩ := hnext h
      refine ⟨K + 1, fun k hk => ?_⟩
      obtain ⟨m, rfl⟩ : ∃ m, k = m + 1 := ⟨k - 1, by omega⟩
      have hm := hK m (by omega)
      try dsimp only
      rw [pkM_same] at hm
      rw [w64 (by omega), impl_RunGet.l1, if_neg (by omega)]
      exact hm) n 0 (by omega)
    try dsimp only at hK
    refine ⟨K + K1 + 1, fun k hk => ?_⟩
    try dsimp only
    obtain ⟨m, rfl⟩ : ∃ m, k = m + 1 := ⟨k - 1, by omega⟩
    have hm := hK m (by omega)
    rw [impl_RunGet.l1, if_pos (by omega), hK1 m (by omega), Option.bind_some]
    try dsimp only
    rw [if_pos rfl, w64 (x := at_ + size) (by omega)]
    simp only [repM, List.append_nil] at hm
    exact hm
  · rw [numGetM_out s at_ size h] at hK1
    refine ⟨K1 + 1, fun k hk => ?_⟩
    try dsimp only
    obtain ⟨m, rfl⟩ : ∃ m, k = m + 1 := ⟨k - 1, by omega⟩
    rw [impl_RunGet.l1, if_pos (by omega), hK1 m (by omega), Option.bind_some]
    try dsimp only
    rw [if_neg (by decide), hout h]
/-- A packet of n numbers. -/
theorem impl_RunGet_other_ev (s : ByteArray) (at_ size count : Int) (out : List Int) (n : Nat) (hs : s.size ≤ 9000) (hz : 1 ≤ size ∧ size ≤ 4) (h0 : 0 ≤ at_) (h1 : at_ ≤ s.size) (hn : n ≤ 128) (ho : out.length ≤ 1000) (r : List Int × Int × Bool)
    (hnext : at_ + n * size ≤ s.size → Ev (fun k => impl_RunGet.l0 k s (at_ + n * size) size count (out ++ pkM s at_ size false n)) r) (hout : ¬ at_ + n * size ≤ s.size → r = ([], 0, false)) :
    ∀ d j : Nat, j + d = n → at_ + j * size ≤ s.size → Ev (fun k => impl_RunGet.l1 k s (at_ + j * size) size count (out ++ pkM s at_ size false j) 1 (n : Int) (j : Int)) r := by
  have hmul := mul_le4 (n := n) (size := size) (by omega) hz
  intro d
  induction d with
  | zero =>
    intro j hj hfit
    have e : j = n := by omega
    subst e
    obtain ⟨K, hK⟩ := hnext hfit
    try dsimp only at hK
    refine ⟨K + 1, fun k hk => ?_⟩
    try dsimp only
    obtain ⟨m, rfl⟩ : ∃ m, k = m + 1 := ⟨k - 1, by omega⟩
    have hm := hK m (by omega)
    rw [impl_RunGet.l1, if_neg (by omega)]
    exact hm
  | succ d ih =>
    intro j hj hfit
    have hst := mul_step (j := j) (n := n) (size := size) (by omega) hz.1
    have hl := pkM_length s at_ size false j
    have ej : at_ + (j : Int) * size + size = at_ + ((j + 1 : Nat) : Int) * size := by
      rw [show ((j + 1 : Nat) : Int) = (j : Int) + 1 by omega, Int.add_mul, Int.one_mul, Int.add_assoc]
    obtain ⟨K1, hK1⟩ := impl_NumGet_ev s (at_ + j * size) size false (by omega) (by omega)
    try dsimp only at hK1
    by_cases h : at_ + (j : Int) * size + size ≤ s.size
    · rw [numGetM_in s _ size hs hz (by omega) h] at hK1
      obtain ⟨K, hK⟩ := ih (j + 1) (by omega) (by rw [← ej]; exact h)
      try dsimp only at hK
      refine ⟨K + K1 + 3, fun k hk => ?_⟩
      try dsimp only
      obtain ⟨m, rfl⟩ : ∃ m, k = m + 3 := ⟨k - 3, by omega⟩
      have hm := hK m (by omega)
      rw [impl_RunGet.l1, if_pos (by omega), hK1 (m + 2) (by omega), Option.bind_some]
      try dsimp only
      rw [if_pos rfl, w64 (x := at_ + (j : Int) * size + size) (by omega), impl_RunGet.l2, if_pos (by omega), if_pos (by rw [List.length_append, hl]; omega), w64 (x := (0 : Int) + 1) (by omega), impl_RunGet.l2, if_neg (by omega), w64 (by omega), ej]
      simp only [pkM, Bool.false_eq_true, if_false] at hm
      rw [← List.append_assoc] at hm
      rw [show (j : Int) + 1 = ((j + 1 : Nat) : Int) by omega]
      exact hm
    · rw [numGetM_out s _ size h] at hK1
      refine ⟨K1 + 1, fun k hk => ?_⟩
      try dsimp only
      obtain ⟨m, rfl⟩ : ∃ m, k = m + 1 := ⟨k - 1, by omega⟩
      rw [impl_RunGet.l1, if_pos (by omega), hK1 m (by omega), Option.bind_some]
      try dsimp only
      rw [if_neg (by decide), hout (by omega)]
theorem impl_RunGet_l0_ev (s : ByteArray) (size count : Int) (hs : s.size ≤ 9000) (hz : 1 ≤ size ∧ size ≤ 4) (hc : 0 ≤ count ∧ count ≤ 1000) : ∀ (f : Nat) (at_ : Int) (out : List Int), 0 ≤ at_ → at_ ≤ s.size → (out.length : Int) ≤ count → count ≤ out.length + f → Ev (fun k => impl_RunGet.l0 k s at_ size count out) (runM s size count f at_ out) := by
  intro f
  induction f with
  | zero =>
    intro at_ out h0 h1 h2 h3
    refine ⟨1, fun k hk => ?_⟩
    try dsimp only
    obtain ⟨m, rfl⟩ : ∃ m, k = m + 1 := ⟨k - 1, by omega⟩
    rw [impl_RunGet.l0, if_neg (by omega)]; rfl
  | succ f ih =>
    intro at_ out h0 h1 h2 h3
    simp only [runM]
    by_cases c1 : (out.length : Int) < count
    · rw [if_pos c1]
      by_cases c2 : at_ < s.size
      · rw [if_pos c2]
        have hb := bt_range s at_
        have hn : 1 ≤ pkN (bt s at_) ∧ pkN (bt s at_) ≤ 128 := by unfold pkN; omega
        have hmul := mul_le4 (n := pkN (bt s at_)) (size := size) (by omega) hz
        have hp : ((pkN (bt s at_)).toNat : Int) = pkN (bt s at_) := Int.toNat_of_nonneg (by omega)
        by_cases c3 : bt s at_ ≥ 128
        · have en : bt s at_ - 127 = pkN (bt s at_) := by unfold pkN; omega
          have e2 : pkNeed (bt s at_) size = size := by unfold pkNeed; rw [if_pos c3]
          have ed : decide (128 ≤ bt s at_) = true := decide_eq_true c3
          rw [e2, ed]
          by_cases c4 : (out.length : Int) + pkN (bt s at_) ≤ count
          · obtain ⟨K, hK⟩ := impl_RunGet_same_ev s (at_ + 1) size count out (pkN (bt s at_)).toNat hs hz (by omega) (by omega) (by omega) (by omega) (if at_ + 1 + size ≤ s.size ∧ (out.length : Int) + pkN (bt s at_) ≤ count then runM s size count f (at_ + 1 + size) (out ++ pkM s (at_ + 1) size true (pkN (bt s at_)).toNat) else ([], 0, false)) (fun hf => by
              rw [if_pos ⟨hf, c4⟩]
              exact ih _ _ (by omega) hf (by rw [List.length_append, pkM_length]; omega) (by rw [List.length_append, pkM_length]; omega)) (fun hf => by rw [if_neg (fun e => hf e.1)])
            try dsimp only at hK
            refine ⟨K + 2, fun k hk => ?_⟩
            try dsimp only
            obtain ⟨m, rfl⟩ : ∃ m, k = m + 2 := ⟨k - 2, by omega⟩
            have hm := hK m (by omega)
            rw [hp] at hm
            rw [impl_RunGet.l0, if_pos c1, if_neg (by omega), if_pos h0, if_pos c2, w64 (x := bt s at_) (by omega), if_pos c3, w64 (x := at_ + 1) (by omega), w64 (x := bt s at_ - 127) (by omega), en, impl_RunGet.j2, w64 (x := 1 * pkN (bt s at_)) (by omega), w64 (x := count - _) (by omega), if_neg (by omega)]
            exact hm
          · rw [if_neg (fun e => c4 e.2)]
            refine ⟨2, fun k hk => ?_⟩
            try dsimp only
            obtain ⟨m, rfl⟩ : ∃ m, k = m + 2 := ⟨k - 2, by omega⟩
            rw [impl_RunGet.l0, if_pos c1, if_neg (by omega), if_pos h0, if_pos c2, w64 (x := bt s at_) (by omega), if_pos c3, w64 (x := at_ + 1) (by omega), w64 (x := bt s at_ - 127) (by omega), en, impl_RunGet.j2, w64 (x := 1 * pkN (bt s at_)) (by omega), w64 (x := count - _) (by omega), if_pos (by omega)]
        · have en : bt s at_ + 1 = pkN (bt s at_) := by unfold pkN; omega
          have e2 : pkNeed (bt s at_) size = pkN (bt s at_) * size := by unfold pkNeed; rw [if_neg c3]
          have ed : decide (128 ≤ bt s at_) = false := decide_eq_false c3
          rw [e2, ed]
          by_cases c4 : (out.length : Int) + pkN (bt s at_) ≤ count
          · obtain ⟨K, hK⟩ := impl_RunGet_other_ev s (at_ + 1) size count out (pkN (bt s at_)).toNat hs hz (by omega) (by omega) (by omega) (by omega) (if at_ + 1 + pkN (bt s at_) * size ≤ s.size ∧ (out.length : Int) + pkN (bt s at_) ≤ count then runM s size count f (at_ + 1 + pkN (bt s at_) * size) (out ++ pkM s (at_ + 1) size false (pkN (bt s at_)).toNat) else ([], 0, false)) (fun hf => by
              rw [hp] at hf ⊢
              rw [if_pos ⟨hf, c4⟩]
              exact ih _ _ (by omega) hf (by rw [List.length_append, pkM_length]; omega) (by rw [List.length_append, pkM_length]; omega)) (fun hf => by rw [hp] at hf; rw [if_neg (fun e => hf e.1)]) (pkN (bt s at_)).toNat 0 (by omega) (by simp; omega)
            try dsimp only at hK
            refine ⟨K + 2, fun k hk => ?_⟩
            try dsimp only
            obtain ⟨m, rfl⟩ : ∃ m, k = m + 2 := ⟨k - 2, by omega⟩
            have hm := hK m (by omega)
            rw [hp] at hm
            rw [impl_RunGet.l0, if_pos c1, if_neg (by omega), if_pos h0, if_pos c2, w64 (x := bt s at_) (by omega), if_neg c3, w64 (x := at_ + 1) (by omega), w64 (x := bt s at_ + 1) (by omega), en, impl_RunGet.j2, w64 (x := pkN (bt s at_) * 1) (by omega), w64 (x := count - _) (by omega), if_neg (by omega)]
            simp only [pkM, List.append_nil] at hm
            rw [show at_ + 1 + ((0 : Nat) : Int) * size = at_ + 1 by simp] at hm
            exact hm
          · rw [if_neg (fun e => c4 e.2)]
            refine ⟨2, fun k hk => ?_⟩
            try dsimp only
            obtain ⟨m, rfl⟩ : ∃ m, k = m + 2 := ⟨k - 2, by omega⟩
            rw [impl_RunGet.l0, if_pos c1, if_neg (by omega), if_pos h0, if_pos c2, w64 (x := bt s at_) (by omega), if_neg c3, w64 (x := at_ + 1) (by omega), w64 (x := bt s at_ + 1) (by omega), en, impl_RunGet.j2, w64 (x := pkN (bt s at_) * 1) (by omega), w64 (x := count - _) (by omega), if_pos (by omega)]
      · rw [if_neg c2]
        refine ⟨1, fun k hk => ?_⟩
        try dsimp only
        obtain ⟨m, rfl⟩ : ∃ m, k = m + 1 := ⟨k - 1, by omega⟩
        rw [impl_RunGet.l0, if_pos c1, if_pos (by omega)]
    · rw [if_neg c1]
      refine ⟨1, fun k hk => ?_⟩
      try dsimp only
      obtain ⟨m, rfl⟩ : ∃ m, k = m + 1 := ⟨k - 1, by omega⟩
      rw [impl_RunGet.l0, if_neg c1]
theorem impl_RunGet_ev (s : ByteArray) (at_ size count : Int) : Ev (fun k => impl_RunGet.f k s at_ size count) (runGetM s at_ size count) := by
  unfold impl_RunGet.f runGetM
  simp only [in_f, Option.bind_some, decide_eq_true_eq]
  by_cases h : runOk s at_ size count = true
  · have hh := of_decide_eq_true h
    obtain ⟨K, hK⟩ := impl_RunGet_l0_ev s size count hh.2.2.1 hh.1 hh.2.1 count.toNat at_ [] hh.2.2.2.1 hh.2.2.2.2 (by simpa using hh.2.1.1) (by simp; omega)
    try dsimp only at hK
    refine ⟨K + 1, fun k hk => ?_⟩
    try dsimp only
    obtain ⟨m, rfl⟩ : ∃ m, k = m + 1 := ⟨k - 1, by omega⟩
    rw [if_pos hh.1, if_pos hh.2.1, if_pos hh.2.2.2, if_pos h, impl_RunGet.j0, if_neg (by simp; omega)]
    exact hK m (by omega)
  · have hn : ¬ ((1 ≤ size ∧ size ≤ 4) ∧ (0 ≤ count ∧ count ≤ 1000) ∧ s.size ≤ 9000 ∧ (0 ≤ at_ ∧ at_ ≤ s.size)) := fun e => h (decide_eq_true e)
    refine ⟨1, fun k hk => ?_⟩
    try dsimp only
    obtain ⟨m, rfl⟩ : ∃ m, k = m + 1 := ⟨k - 1, by omega⟩
    rw [if_neg h]
    by_cases h1 : 1 ≤ size ∧ size ≤ 4
    · by_cases h2 : 0 ≤ count ∧ count ≤ 1000
      · by_cases h3 : 0 ≤ at_ ∧ at_ ≤ s.size
        · rw [if_pos h1, if_pos h2, if_pos h3, impl_RunGet.j0, if_pos (decide_eq_true (by omega))]
        · rw [if_pos h1, if_pos h2, if_neg h3, impl_RunGet.j0, if_pos rfl]
      · rw [if_pos h1, if_neg h2, impl_RunGet.j0, if_pos rfl]
    · rw [if_neg h1, impl_RunGet.j0, if_pos rfl]
theorem eqIntS_l0_ev (a b : List Int) (hl : a.length ≤ 35184372088832) (hab : a.length = b.length) : ∀ (sa sb pa pb : List Int), a = pa ++ sa → b = pb ++ sb → pa.length = pb.length → Ev (fun k => laws_eqIntS.l0 k a b (pa.length : Int)) (decide (sa = sb)) := by
  intro sa
  induction sa with
  | nil =>
    intro sb pa pb ha hb hp
    have hsb : sb = [] := by
      cases sb with
      | nil => rfl
      | cons y sb => rw [ha, hb] at hab; simp at hab; omega
    subst hsb
    refine ⟨1, fun k hk => ?_⟩
    try dsimp only
    obtain ⟨m, rfl⟩ : ∃ m, k = m + 1 := ⟨k - 1, by omega⟩
    rw [laws_eqIntS.l0, if_neg (by rw [ha]; simp)]
    simp
  | cons x sa ih =>
    intro sb pa pb ha hb hp
    cases sb with
    | nil => rw [ha, hb] at hab; simp at hab; omega
    | cons y sb =>
      have hll : a.length = pa.length + sa.length + 1 := by rw [ha]; simp; omega
      have hx : rd a (pa.length : Int) = x := by rw [ha]; exact rd_at _ _ _ rfl
      have hy : rd b (pa.length : Int) = y := by rw [hb]; exact rd_at _ _ _ (by omega)
      by_cases hxy : x = y
      · obtain ⟨K, hK⟩ := ih sb (pa ++ [x]) (pb ++ [y]) (by simp [ha]) (by simp [hb]) (by simp [hp])
        try dsimp only at hK
        refine ⟨K + 1, fun k hk => ?_⟩
        try dsimp only
        obtain ⟨m, rfl⟩ : ∃ m, k = m + 1 := ⟨k - 1, by omega⟩
        have hm := hK m (by omega)
        rw [laws_eqIntS.l0, if_pos (by omega), if_pos (by omega), if_pos (by omega), hx, hy, if_pos hxy, w64 (by omega)]
        rw [List.length_append, List.length_singleton, show ((pa.length + 1 : Nat) : Int) = (pa.length : Int) + 1 by omega] at hm
        rw [hm]
        simp [hxy]
      · refine ⟨1, fun k hk => ?_⟩
        try dsimp only
        obtain ⟨m, rfl⟩ : ∃ m, k = m + 1 := ⟨k - 1, by omega⟩
        rw [laws_eqIntS.l0, if_pos (by omega), if_pos (by omega), if_pos (by omega), hx, hy, if_neg hxy]
        simp [hxy]
theorem eqIntS_ev (a b : List Int) (hl : a.length ≤ 35184372088832) (hl2 : b.length ≤ 35184372088832) : Ev (fun k => laws_eqIntS.f k a b) (decide (a = b)) := by
  unfold laws_eqIntS.f
  by_cases h : a.length = b.length
  · obtain ⟨K, hK⟩ := eqIntS_l0_ev a b hl h a b [] [] rfl rfl rfl
    try dsimp only at hK
    refine ⟨K, fun k hk => ?_⟩
    try dsimp only
    rw [if_pos (by omega)]
    exact hK k hk
  · refine ⟨0, fun k hk => ?_⟩
    try dsimp only
    rw [if_neg (by omega), decide_eq_false (fun e => h (by rw [e]))]
theorem markIntS_l0_ev (m0 : Int) (hm0 : 0 ≤ m0 ∧ m0 ≤ 1099511627776) : ∀ (suf : List Int) (i : Nat), i + suf.length ≤ 1099511627776 → Ev (fun k => laws_markIntS.l0 k (marks m0 i ++ suf) (m0 + i) (i : Int)) (m0 + (i + suf.length : Nat), marks m0 (i + suf.length)) := by
  intro suf
  induction suf with
  | nil =>
    intro i hi
    refine ⟨1, fun k hk => ?_⟩
    try dsimp only
    obtain ⟨m, rfl⟩ : ∃ m, k = m + 1 := ⟨k - 1, by omega⟩
    rw [laws_markIntS.l0, if_neg (by simp [marks_length])]
    simp
  | cons x suf ih =>
    intro i hi
    simp only [List.length_cons] at hi
    obtain ⟨K, hK⟩ := ih (i + 1) (by omega)
    try dsimp only at hK
    refine ⟨K + 1, fun k hk => ?_⟩
    try dsimp only
    obtain ⟨m, rfl⟩ : ∃ m, k = m + 1 := ⟨k - 1, by omega⟩
    have hm := hK m (by omega)
    rw [laws_markIntS.l0, if_pos (by simp [marks_length]; omega), if_pos (by omega), Int.toNat_natCast, set_at _ _ _ _ (by rw [marks_length]), w64 (by omega), w64 (by omega)]
    simp only [marks, List.append_assoc, List.singleton_append] at hm
    rw [show m0 + ((i + 1 : Nat) : Int) = m0 + i + 1 by omega, show ((i + 1 : Nat) : Int) = (i : Int) + 1 by omega, show i + 1 + suf.length = i + (suf.length + 1) by omega] at hm
    exact hm
theorem markIntS_ev (l : List Int) (m0 : Int) (hm0 : 0 ≤ m0 ∧ m0 ≤ 1099511627776) (hl : l.length ≤ 1099511627776) : Ev (fun k => laws_markIntS.f k l m0) (m0 + (l.length : Int), marks m0 l.length) := by
  have h := markIntS_l0_ev m0 hm0 l 0 (by omega)
  simp only [marks, List.nil_append, Nat.zero_add] at h
  rw [show m0 + ((0 : Nat) : Int) = m0 by omega] at h
  exact h
theorem heldIntS_l0_ev (m0 : Int) (hm0 : 0 ≤ m0 ∧ m0 ≤ 1099511627776) (n : Nat) (hn : n ≤ 1099511627776) : ∀ d i : Nat, i + d = n → Ev (fun k => laws_heldIntS.l0 k (marks m0 n) (m0 + i) (i : Int)) (m0 + n) := by
  intro d
  induction d with
  | zero =>
    intro i hi
    refine ⟨1, fun k hk => ?_⟩
    try dsimp only
    obtain ⟨m, rfl⟩ : ∃ m, k = m + 1 := ⟨k - 1, by omega⟩
    rw [laws_heldIntS.l0, if_neg (by rw [marks_length]; omega), show i = n by omega]
  | succ d ih =>
    intro i hi
    obtain ⟨K, hK⟩ := ih (i + 1) (by omega)
    try dsimp only at hK
    refine ⟨K + 1, fun k hk => ?_⟩
    try dsimp only
    obtain ⟨m, rfl⟩ : ∃ m, k = m + 1 := ⟨k - 1, by omega⟩
    have hm := hK m (by omega)
    rw [laws_heldIntS.l0, if_pos (by rw [marks_length]; omega), if_pos (by omega), rd_marks _ _ _ (by omega), if_pos rfl, w64 (by omega), w64 (by omega)]
    rw [show m0 + ((i + 1 : Nat) : Int) = m0 + i + 1 by omega, show ((i + 1 : Nat) : Int) = (i : Int) + 1 by omega] at hm
    exact hm
theorem heldIntS_ev (m0 : Int) (hm0 : 0 ≤ m0 ∧ m0 ≤ 1099511627776) (n : Nat) (hn : n ≤ 1099511627776) : Ev (fun k => laws_heldIntS.f k (marks m0 n) m0) (m0 + n) := by
  have h := heldIntS_l0_ev m0 hm0 n hn n 0 (by omega)
  rw [show m0 + ((0 : Nat) : Int) = m0 by omega] at h
  exact h

theorem FnExactRunGet : laws_FnExactRunGet.Pure := by
  intro s at_ size count hs w1 w2 w3
  unfold laws_FnExactRunGet.f
  by_cases h : (s.size : Int) > 1048576
  · exact ⟨0, by rw [if_pos h]⟩
  have hlen := runGetM_length s at_ size count
  obtain ⟨K2, h2⟩ := spec_RunGet_ev s at_ size count
  try dsimp only at h2
  obtain ⟨K3, h3⟩ := impl_RunGet_ev s at_ size count
  try dsimp only at h3
  obtain ⟨K4, h4⟩ := eqIntS_ev (runGetM s at_ size count).1 (runGetM s at_ size count).1 (by omega) (by omega)
  try dsimp only at h4
  obtain ⟨K7, h7⟩ := markIntS_ev (runGetM s at_ size count).1 1 (by omega) (by omega)
  try dsimp only at h7
  obtain ⟨K8, h8⟩ := heldIntS_ev 1 (by omega) (runGetM s at_ size count).1.length (by omega)
  try dsimp only at h8
  obtain ⟨K, hK⟩ : ∃ K, K = K2 + K3 + K4 + K7 + K8 := ⟨_, rfl⟩
  refine ⟨K + 2, ?_⟩
  rw [if_neg h]
  simp only [h2 (K + 2) (by omega), h3 (K + 2) (by omega), h4 (K + 2) (by omega), Option.bind_some, decide_true, if_true]
  rw [laws_FnExactRunGet.j0]
  simp only [bne_self_eq_false, Bool.false_eq_true, if_false, h3 (K + 1) (by omega), h4 (K + 1) (by omega), h7 (K + 1) (by omega), h8 (K + 1) (by omega), Option.bind_some, decide_true, if_true]
  rw [if_neg (by omega), laws_FnExactRunGet.j1]
  simp only [Bool.false_eq_true, if_false, h8 K (by omega), Option.bind_some, if_true]
  rw [if_neg (by omega)]

end Go.Proofs.Ytpjkcdgamlllgaa.Pure
