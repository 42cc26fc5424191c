/- Of every text, place, size and count that the reference draws from a list of at most 1048576 bytes (a longer one is let by): the program's RunGet answers as the reference; if it answers numbers, they are as many as were asked, it ends within the text, and fewer are the first of them and end no later; else it answers none and 0. -/
import Derived.Test.YtfladcffgblfdaaHFnRunGetx8
import Derived.Test.YtfladcffgblfdaaThNum
import Derived.Test.YtfladcffgblfdaaThRunPut
import Derived.Test.YtfladcffgblfdaaThPut
import Derived.Test.YtfladcffgblfdaaThRun
import Derived.Test.YtfladcffgblfdaaThXor
import Derived.Test.YtfladcffgblfdaaThStr
import Derived.Test.YtfladcffgblfdaaThRunBoth
import Derived.Test.YtfladcffgblfdaaThRunCut
namespace Go.Proofs.Ytfladcffgblfdaa.Pure
open Go.RowKit Go.Proofs.Ytfladcffgblfdaa.PFnRunGet Go.Proofs.YtfladcffgblfdaaW.PrintWords Go.Proofs.YtfladcffgblfdaaW.PrintLast Go.Proofs.YtfladcffgblfdaaW.PrintMore Go.Proofs.Ytfladcffgblfdaa.Th
set_option linter.unusedVariables false
set_option linter.unusedSimpArgs false

theorem l7Equal_l0_ev (L : List Int) (at_ most : Int) (h0 : 0 ≤ at_) (h : at_ < L.length) (hl : L.length ≤ 1048576) (hm : 1 ≤ most ∧ most ≤ 1000) :
    ∀ (d : Nat) (n : Int), 1 ≤ n → n ≤ smM L at_ → n + d = most → Ev (fun k => spec_l7Equal.l0 k L at_ most n) (if smM L at_ < most then smM L at_ else most) := by
  have hb := smM_b L at_ h0 h
  intro d
  induction d with
  | zero =>
    intro n h1 h2 h3
    refine ⟨1, fun k hk => ?_⟩
    try dsimp only
    obtain ⟨m, rfl⟩ : ∃ m, k = m + 1 := ⟨k - 1, by omega⟩
    rw [spec_l7Equal.l0, if_neg (by omega), if_neg (by omega), show n = most by omega]
  | succ d ih =>
    intro n h1 h2 h3
    by_cases e : n = smM L at_
    · have hf := hb.2.2.2
      rw [← e] at hf
      refine ⟨1, fun k hk => ?_⟩
      try dsimp only
      obtain ⟨m, rfl⟩ : ∃ m, k = m + 1 := ⟨k - 1, by omega⟩
      rw [spec_l7Equal.l0, if_pos (by omega), w64 (x := at_ + n) (by omega), if_pos (show smM L at_ < most by omega), ← e]
      by_cases c : at_ + n < L.length
      · have c2 : ¬ rd L (at_ + n) = rd L at_ := fun e2 => by rw [show smB L at_ n = true from decide_eq_true ⟨c, e2⟩] at hf; simp at hf
        rw [if_pos c, if_pos (by omega), if_pos h0, if_pos h, if_neg c2]
      · rw [if_neg c]
    · have ht := of_decide_eq_true (hb.2.2.1 n h1 (by omega))
      obtain ⟨K, hK⟩ := ih (n + 1) (by omega) (by omega) (by omega)
      try dsimp only at hK
      refine ⟨K + 1, fun k hk => ?_⟩
      try dsimp only
      obtain ⟨m, rfl⟩ : ∃ m, k = m + 1 := ⟨k - 1, by omega⟩
      rw [spec_l7Equal.l0, if_pos (by omega), w64 (x := at_ + n) (by omega), if_pos ht.1, if_pos (by omega), if_pos h0, if_pos h, if_pos ht.2, w64 (by omega)]
      exact hK m (by omega)
theorem l7Equal_ev (L : List Int) (at_ most : Int) (h0 : 0 ≤ at_) (h : at_ < L.length) (hl : L.length ≤ 1048576) (hm : 1 ≤ most ∧ most ≤ 1000) : Ev (fun k => spec_l7Equal.f k L at_ most) (if smM L at_ < most then smM L at_ else most) :=
  l7Equal_l0_ev L at_ most h0 h hl hm (most - 1).toNat 1 (by omega) (smM_b L at_ h0 h).1 (by omega)
theorem l7Other_l0_ev (L : List Int) (at_ : Int) (h0 : 0 ≤ at_) (h : at_ < L.length) (hl : L.length ≤ 1048576) :
    ∀ (d : Nat) (n : Int), 1 ≤ n → n + d = 128 → Ev (fun k => spec_l7Other.l0 k L at_ 128 n) (otC L at_ 2 d n) := by
  intro d
  induction d with
  | zero =>
    intro n h1 h3
    refine ⟨1, fun k hk => ?_⟩
    try dsimp only
    obtain ⟨m, rfl⟩ : ∃ m, k = m + 1 := ⟨k - 1, by omega⟩
    rw [spec_l7Other.l0, if_neg (by omega)]; rfl
  | succ d ih =>
    intro n h1 h3
    simp only [otC]
    by_cases c : at_ + n < L.length
    · obtain ⟨K1, hK1⟩ := l7Equal_ev L (at_ + n) 2 (by omega) c hl (by omega)
      try dsimp only at hK1
      obtain ⟨K, hK⟩ := ih (n + 1) (by omega) (by omega)
      try dsimp only at hK
      refine ⟨K + K1 + 1, fun k hk => ?_⟩
      try dsimp only
      obtain ⟨m, rfl⟩ : ∃ m, k = m + 1 := ⟨k - 1, by omega⟩
      have hm := hK m (by omega)
      rw [spec_l7Other.l0, if_pos (by omega), w64 (x := at_ + n) (by omega), if_pos c, hK1 m (by omega), Option.bind_some]
      by_cases c2 : smM L (at_ + n) < 2
      · rw [if_pos (by rw [if_pos c2]; exact c2), if_pos (show otB L at_ 2 n = true from decide_eq_true ⟨by omega, c, c2⟩), w64 (by omega)]; exact hm
      · rw [if_neg (by rw [if_neg c2]; omega), if_neg (show ¬ otB L at_ 2 n = true from fun e => c2 (of_decide_eq_true e).2.2)]
    · refine ⟨1, fun k hk => ?_⟩
      try dsimp only
      obtain ⟨m, rfl⟩ : ∃ m, k = m + 1 := ⟨k - 1, by omega⟩
      rw [spec_l7Other.l0, if_pos (by omega), w64 (x := at_ + n) (by omega), if_neg c, if_neg (show ¬ otB L at_ 2 n = true from fun e => c (of_decide_eq_true e).2.1)]
theorem in_f (a b c : Int) : impl_in.f a b c = some (decide (b ≤ a ∧ a ≤ c)) := by
  unfold impl_in.f
  by_cases h : b ≤ a
  · rw [if_pos h]; simp [h]
  · rw [if_neg h]; simp [h]
theorem l1In_f (a b c : Int) : spec_l1In.f a b c = some (decide (b ≤ a ∧ a ≤ c)) := by
  unfold spec_l1In.f
  by_cases h : b ≤ a
  · rw [if_pos h]; simp [h]
  · rw [if_neg h]; simp [h]
theorem l1Pow_l0_ev (n : Nat) (hn : n ≤ 62) : ∀ d i : Nat, i + d = n → Ev (fun k => spec_l1Pow.l0 k (n : Int) (P2 i) (i : Int)) (P2 n) := by
  intro d
  induction d with
  | zero =>
    intro i hi
    refine ⟨1, fun k hk => ?_⟩
    try dsimp only
    obtain ⟨m, rfl⟩ : ∃ m, k = m + 1 := ⟨k - 1, by omega⟩
    rw [spec_l1Pow.l0, if_neg (by omega), show i = n by omega]
  | succ d ih =>
    intro i hi
    obtain ⟨K, hK⟩ := ih (i + 1) (by omega)
    try dsimp only at hK
    refine ⟨K + 1, fun k hk => ?_⟩
    try dsimp only
    obtain ⟨m, rfl⟩ : ∃ m, k = m + 1 := ⟨k - 1, by omega⟩
    have hm := hK m (by omega)
    have hb := P2_62b (n := i) (by omega)
    have hb' := P2_62b (n := i + 1) (by omega)
    have hs := P2_succ i
    rw [spec_l1Pow.l0, if_pos (by omega), w64 (by omega), w64 (by omega), show P2 i * 2 = P2 (i + 1) by omega, show (i : Int) + 1 = ((i + 1 : Nat) : Int) by omega]
    exact hm
theorem l1Pow_ev (n : Nat) (hn : n ≤ 62) : Ev (fun k => spec_l1Pow.f k (n : Int)) (P2 n) := l1Pow_l0_ev n hn n 0 (by omega)
theorem l1Pow_evI (n : Int) (h0 : 0 ≤ n) (hn : n ≤ 62) : Ev (fun k => spec_l1Pow.f k n) (P2 n.toNat) := by
  have h := l1Pow_ev n.toNat (by omega)
  rw [Int.toNat_of_nonneg h0] at h
  exact h
theorem l1Num_l0_ev (n0 : Int) (size : Nat) (big : Bool) (h2 : size ≤ 4) (hn : 0 ≤ n0) (hn2 : n0 ≤ 9223372036854775807) :
    ∀ d i : Nat, i + d = size → Ev (fun k => spec_l1Num.l0 k (n0 / P2 (8 * i)) (size : Int) big (strOfNums (if big = true then (bytesLo n0 i).reverse else bytesLo n0 i)) (i : Int)) (numPutM n0 size big) := by
  intro d
  induction d with
  | zero =>
    intro i hi
    refine ⟨1, fun k hk => ?_⟩
    try dsimp only
    obtain ⟨m, rfl⟩ : ∃ m, k = m + 1 := ⟨k - 1, by omega⟩
    rw [spec_l1Num.l0, if_neg (by omega), show i = size by omega]
    rfl
  | succ d ih =>
    intro i hi
    obtain ⟨K, hK⟩ := ih (i + 1) (by omega)
    try dsimp only at hK
    refine ⟨K + 1, fun k hk => ?_⟩
    try dsimp only
    obtain ⟨m, rfl⟩ : ∃ m, k = m + 1 := ⟨k - 1, by omega⟩
    have hm := hK m (by omega)
    have hp := P2_pos (8 * i)
    have hq : 0 ≤ n0 / P2 (8 * i) := Int.ediv_nonneg hn (by omega)
    have hq2 : n0 / P2 (8 * i) ≤ n0 := Int.ediv_le_self _ hn
    have hdiv : n0 / P2 (8 * i) / 256 = n0 / P2 (8 * (i + 1)) := by
      rw [Int.ediv_ediv_of_nonneg (by omega), show 8 * (i + 1) = 8 * i + 8 by omega, P2_add]; rfl
    have hmod : Int.tmod (n0 / P2 (8 * i)) 256 % 256 = n0 / P2 (8 * i) % 256 := by rw [tmod_pos hq]; omega
    have hsz := strOfNums_size (if big = true then (bytesLo n0 i).reverse else bytesLo n0 i)
    have hl : (if big = true then (bytesLo n0 i).reverse else bytesLo n0 i).length = i := by cases big <;> simp [bytesLo_length]
    rw [hl] at hsz
    rw [spec_l1Num.l0, if_pos (by omega)]
    simp only [Option.bind_some, hmod, tdiv_pos hq]
    rw [w64 (x := n0 / P2 (8 * i) / 256) (by omega), w64 (x := (i : Int) + 1) (by omega), hdiv, show (i : Int) + 1 = ((i + 1 : Nat) : Int) by omega]
    have h1 := strOfNums_size [n0 / P2 (8 * i) % 256]
    simp only [List.length_singleton] at h1
    cases big
    · simp only [Bool.false_eq_true, if_false] at hsz hm ⊢
      rw [if_pos (by omega), ← son_append]
      simpa only [bytesLo] using hm
    · simp only [if_true] at hsz hm ⊢
      rw [if_pos (by omega), ← son_append]
      simpa only [bytesLo, List.reverse_append, List.reverse_cons, List.reverse_nil, List.nil_append, List.singleton_append, List.cons_append] using hm
theorem l1Num_ev (n0 size : Int) (big : Bool) (h0 : 0 ≤ size) (h2 : size ≤ 4) (hn : 0 ≤ n0) (hn2 : n0 ≤ 9223372036854775807) : Ev (fun k => spec_l1Num.f k n0 size big) (numPutM n0 size.toNat big) := by
  have h := l1Num_l0_ev n0 size.toNat big (by omega) hn hn2 size.toNat 0 (by omega)
  rw [Int.toNat_of_nonneg h0] at h
  have e : n0 / P2 (8 * 0) = n0 := by simp [P2]
  rw [e] at h
  have e2 : strOfNums (if big = true then (bytesLo n0 0).reverse else bytesLo n0 0) = (⟨#[]⟩ : ByteArray) := by cases big <;> simp [bytesLo, son_nil]
  rw [e2] at h
  exact h
def numPutA (n size : Int) (big : Bool) : ByteArray := if 1 ≤ size ∧ size ≤ 4 ∧ 0 ≤ n ∧ n ≤ P2 (8 * size).toNat - 1 then numPutM n size.toNat big else ⟨#[]⟩
theorem numPutA_in (x size : Int) (hz : 1 ≤ size ∧ size ≤ 4) (hx : 0 ≤ x ∧ x ≤ P2 (8 * size).toNat - 1) : numPutA x size false = strOfNums (bytesLo x size.toNat) := by
  unfold numPutA numPutM; rw [if_pos ⟨hz.1, hz.2, hx.1, hx.2⟩]; rfl
theorem rd_in {L : List Int} {P : Int → Prop} (h : ∀ x ∈ L, P x) {i : Int} (h0 : 0 ≤ i) (hi : i < L.length) : P (rd L i) := by
  have hl : i.toNat < L.length := by omega
  unfold rd
  rw [List.getD_eq_getElem?_getD, List.getElem?_eq_getElem hl]
  exact h _ (List.getElem_mem _)
theorem spec_l7Run_l1_ev (L : List Int) (size : Int) (hz : 1 ≤ size ∧ size ≤ 4) (hl : L.length ≤ 1000) (hx : ∀ x ∈ L, 0 ≤ x ∧ x ≤ P2 (8 * size).toNat - 1) (at_ : Int) (h0 : 0 ≤ at_) (n : Nat) (hn : n ≤ 128) (hfit : at_ + n ≤ L.length) (out : List Int) (ho : out.length ≤ 1000000) (r : ByteArray)
    (hnext : Ev (fun k => spec_l7Run.l0 k L size (strOfNums (out ++ nmM L at_ size.toNat n)) (at_ + n)) r) :
    ∀ d j : Nat, j + d = n → Ev (fun k => spec_l7Run.l1 k L size (strOfNums (out ++ nmM L at_ size.toNat j)) at_ (n : Int) (j : Int)) r := by
  intro d
  induction d with
  | zero =>
    intro j hj
    obtain ⟨K, hK⟩ := hnext
    try dsimp only at hK
    refine ⟨K + 1, fun k hk => ?_⟩
    try dsimp only
    obtain ⟨m, rfl⟩ : ∃ m, k = m + 1 := ⟨k - 1, by omega⟩
    have hm := hK m (by omega)
    rw [spec_l7Run.l1, if_neg (by omega), w64 (by omega), show j = n by omega]
    exact hm
  | succ d ih =>
    intro j hj
    obtain ⟨K, hK⟩ := ih (j + 1) (by omega)
    try dsimp only at hK
    have hxj := rd_in hx (i := at_ + j) (by omega) (by omega)
    have hp := P2_62b (n := (8 * size).toNat) (by omega)
    obtain ⟨K1, hK1⟩ := l1Num_ev (rd L (at_ + j)) size false (by omega) hz.2 hxj.1 (by omega)
    try dsimp only at hK1
    refine ⟨K + K1 + 1, fun k hk => ?_⟩
    try dsimp only
    obtain ⟨m, rfl⟩ : ∃ m, k = m + 1 := ⟨k - 1, by omega⟩
    have hm := hK m (by omega)
    have hnl := nmM_length L at_ size.toNat j
    have hnb : j * size.toNat ≤ 128 * 4 := Nat.mul_le_mul (by omega) (by omega)
    have e1 : numPutM (rd L (at_ + j)) size.toNat false = strOfNums (bytesLo (rd L (at_ + j)) size.toNat) := by unfold numPutM; rfl
    rw [spec_l7Run.l1, if_pos (by omega), w64 (x := at_ + j) (by omega), if_pos (by omega), if_pos (by omega), hK1 m (by omega), Option.bind_some, e1, if_pos (by rw [strOfNums_size, strOfNums_size, List.length_append, bytesLo_length]; omega), ← son_append, w64 (by omega)]
    simp only [nmM] at hm
    rw [← List.append_assoc, show ((j + 1 : Nat) : Int) = (j : Int) + 1 by omega] at hm
    exact hm
theorem spec_l7Run_l0_ev (L : List Int) (size : Int) (hz : 1 ≤ size ∧ size ≤ 4) (hl : L.length ≤ 1000) (hx : ∀ x ∈ L, 0 ≤ x ∧ x ≤ P2 (8 * size).toNat - 1) : ∀ (f : Nat) (at_ : Int) (out : List Int), 0 ≤ at_ → at_ ≤ L.length → (L.length : Int) ≤ at_ + f → out.length ≤ 513 * at_.toNat → Ev (fun k => spec_l7Run.l0 k L size (strOfNums out) at_) (strOfNums (out ++ rpM L size.toNat f at_)) := by
  intro f
  induction f with
  | zero =>
    intro at_ out h0 h1 h2 h3
    refine ⟨1, fun k hk => ?_⟩
    try dsimp only
    obtain ⟨m, rfl⟩ : ∃ m, k = m + 1 := ⟨k - 1, by omega⟩
    rw [spec_l7Run.l0, if_neg (by omega)]
    simp [rpM]
  | succ f ih =>
    intro at_ out h0 h1 h2 h3
    simp only [rpM]
    by_cases h : at_ < L.length
    · have hc := cutM_b L at_ 2 h0 h (by omega)
      have hpl := pieceM_length L at_ size.toNat (by omega) h0 h
      have hnext := ih (at_ + (cutM L at_ 2).1) (out ++ pieceM L at_ size.toNat) (by omega) (by omega) (by omega) (by rw [List.length_append]; omega)
      rw [if_pos h, ← List.append_assoc]
      obtain ⟨K1, hK1⟩ := l7Equal_ev L at_ 128 h0 h (by omega) (by omega)
      try dsimp only at hK1
      by_cases c : smM L at_ ≥ 2
      · have hcm : cutM L at_ 2 = (if smM L at_ < 128 then smM L at_ else 128, true) := by unfold cutM; rw [if_pos c]
        have e : (if smM L at_ < 128 then smM L at_ else 128) = (cutM L at_ 2).1 := by rw [hcm]
        rw [e] at hK1
        have hpi : pieceM L at_ size.toNat = [127 + (cutM L at_ 2).1] ++ bytesLo (rd L at_) size.toNat := by
          unfold pieceM; rw [if_pos (by rw [hcm])]; simp [nmM]
        obtain ⟨K, hK⟩ := hnext
        try dsimp only at hK
        have hxj := rd_in hx (i := at_) h0 h
        have hp := P2_62b (n := (8 * size).toNat) (by omega)
        obtain ⟨K2, hK2⟩ := l1Num_ev (rd L at_) size false (by omega) hz.2 hxj.1 (by omega)
        try dsimp only at hK2
        refine ⟨K + K1 + K2 + 1, fun k hk => ?_⟩
        try dsimp only
        obtain ⟨m, rfl⟩ : ∃ m, k = m + 1 := ⟨k - 1, by omega⟩
        have hm := hK m (by omega)
        have e1 : numPutM (rd L at_) size.toNat false = strOfNums (bytesLo (rd L at_) size.toNat) := by unfold numPutM; rfl
        rw [spec_l7Run.l0, if_pos h, hK1 m (by omega), Option.bind_some, if_pos (by have := hc.2.2.2 (by rw [hcm]); omega), Option.bind_some, w64 (x := 127 + _) (by omega), show (127 + (cutM L at_ 2).1) % 256 = 127 + (cutM L at_ 2).1 by omega, if_pos (by rw [strOfNums_size, strOfNums_size]; simp; omega), if_pos h0, hK2 m (by omega), Option.bind_some, e1, ← son_append, if_pos (by rw [strOfNums_size, strOfNums_size, List.length_append, bytesLo_length]; simp; omega), ← son_append, w64 (by omega), List.append_assoc, ← hpi]
        exact hm
      · have hcm : cutM L at_ 2 = (otM L at_ 2, false) := by unfold cutM; rw [if_neg c]
        have e2 : ¬ ((if smM L at_ < 128 then smM L at_ else 128) ≥ 2) := by split <;> omega
        have e3 : (otM L at_ 2) = (cutM L at_ 2).1 := by rw [hcm]
        obtain ⟨K2, hK2⟩ := l7Other_l0_ev L at_ h0 h (by omega) 127 1 (by omega) (by omega)
        try dsimp only at hK2
        have hpi : pieceM L at_ size.toNat = [(cutM L at_ 2).1 - 1] ++ nmM L at_ size.toNat (cutM L at_ 2).1.toNat := by
          unfold pieceM; rw [if_neg (by rw [hcm]; simp)]; rfl
        have hp : ((cutM L at_ 2).1.toNat : Int) = (cutM L at_ 2).1 := Int.toNat_of_nonneg (by omega)
        obtain ⟨K, hK⟩ := spec_l7Run_l1_ev L size hz hl hx at_ h0 (cutM L at_ 2).1.toNat (by omega) (by omega) (out ++ [(cutM L at_ 2).1 - 1]) (by simp; omega) (strOfNums (out ++ pieceM L at_ size.toNat ++ rpM L size.toNat f (at_ + (cutM L at_ 2).1))) (by
          rw [hp, List.append_assoc, ← hpi]; exact hnext) (cutM L at_ 2).1.toNat 0 (by omega)
        try dsimp only at hK
        refine ⟨K + K1 + K2 + 1, fun k hk => ?_⟩
        try dsimp only
        obtain ⟨m, rfl⟩ : ∃ m, k = m + 1 := ⟨k - 1, by omega⟩
        have hm := hK m (by omega)
        rw [hp] at hm
        have hot : spec_l7Other.f m L at_ 128 = some (cutM L at_ 2).1 := by unfold spec_l7Other.f; rw [hK2 m (by omega), ← e3]; rfl
        rw [spec_l7Run.l0, if_pos h, hK1 m (by omega), Option.bind_some, if_neg e2, hot, Option.bind_some, Option.bind_some, w64 (x := (cutM L at_ 2).1 - 1) (by omega), show ((cutM L at_ 2).1 - 1) % 256 = (cutM L at_ 2).1 - 1 by omega, if_pos (by rw [strOfNums_size, strOfNums_size]; simp; omega), ← son_append]
        simp only [nmM, List.append_nil] at hm
        exact hm
    · rw [if_neg h]
      refine ⟨1, fun k hk => ?_⟩
      try dsimp only
      obtain ⟨m, rfl⟩ : ∃ m, k = m + 1 := ⟨k - 1, by omega⟩
      rw [spec_l7Run.l0, if_neg h]
      simp
theorem spec_RunPut_l0_ev (L : List Int) (size : Int) (hz : 1 ≤ size ∧ size ≤ 4) (hl : L.length ≤ 1000) (r : ByteArray) : ∀ (suf pre : List Int), L = pre ++ suf → ((∀ x ∈ suf, 0 ≤ x ∧ x ≤ P2 (8 * size).toNat - 1) → Ev (fun k => spec_l7Run.f k L size) r) → ((¬ ∀ x ∈ suf, 0 ≤ x ∧ x ≤ P2 (8 * size).toNat - 1) → r = ⟨#[]⟩) → Ev (fun k => spec_RunPut.l0 k L size (pre.length : Int)) r := by
  have hp := P2_62b (n := (8 * size).toNat) (by omega)
  intro suf
  induction suf with
  | nil =>
    intro pre hpre hy hn
    obtain ⟨K, hK⟩ := hy (by simp)
    try dsimp only at hK
    refine ⟨K + 1, fun k hk => ?_⟩
    try dsimp only
    obtain ⟨m, rfl⟩ : ∃ m, k = m + 1 := ⟨k - 1, by omega⟩
    rw [spec_RunPut.l0, if_neg (by rw [hpre]; simp), hK m (by omega)]; rfl
  | cons x suf ih =>
    intro pre hpre hy hn
    have hll : L.length = pre.length + suf.length + 1 := by rw [hpre]; simp; omega
    have hx : rd L (pre.length : Int) = x := by rw [hpre]; exact rd_at _ _ _ rfl
    obtain ⟨K1, hK1⟩ := l1Pow_evI (8 * size) (by omega) (by omega)
    try dsimp only at hK1
    by_cases hr : 0 ≤ x ∧ x ≤ P2 (8 * size).toNat - 1
    · obtain ⟨K, hK⟩ := ih (pre ++ [x]) (by simp [hpre]) (fun h => hy (by intro y hyy; rcases List.mem_cons.1 hyy with rfl | hyy; exact hr; exact h y hyy)) (fun h => hn (fun e => h (fun y hyy => e y (List.mem_cons_of_mem _ hyy))))
      try dsimp only at hK
      refine ⟨K + K1 + 1, fun k hk => ?_⟩
      try dsimp only
      obtain ⟨m, rfl⟩ : ∃ m, k = m + 1 := ⟨k - 1, by omega⟩
      have hm := hK m (by omega)
      rw [spec_RunPut.l0, if_pos (by omega), if_pos (by omega), w64 (x := 8 * size) (by omega), hK1 m (by omega), Option.bind_some, w64 (x := P2 _ - 1) (by omega), hx, l1In_f, Option.bind_some, if_pos (decide_eq_true hr), w64 (by omega)]
      rw [List.length_append, List.length_singleton, show ((pre.length + 1 : Nat) : Int) = (pre.length : Int) + 1 by omega] at hm
      exact hm
    · refine ⟨K1 + 1, fun k hk => ?_⟩
      try dsimp only
      obtain ⟨m, rfl⟩ : ∃ m, k = m + 1 := ⟨k - 1, by omega⟩
      rw [spec_RunPut.l0, if_pos (by omega), if_pos (by omega), w64 (x := 8 * size) (by omega), hK1 m (by omega), Option.bind_some, w64 (x := P2 _ - 1) (by omega), hx, l1In_f, Option.bind_some, if_neg (by simpa using hr), hn (fun e => hr (e x (by simp)))]
theorem spec_RunPut_ev (L : List Int) (size : Int) : Ev (fun k => spec_RunPut.f k L size) (runPutM L size) := by
  unfold spec_RunPut.f runPutM
  simp only [l1In_f, Option.bind_some, decide_eq_true_eq]
  by_cases h1 : 1 ≤ size ∧ size ≤ 4
  · by_cases h2 : L.length ≤ 1000
    · obtain ⟨K, hK⟩ := spec_RunPut_l0_ev L size h1 h2 (if runPutOk L size = true then strOfNums (rpM L size.toNat L.length 0) else ⟨#[]⟩) L [] rfl (fun hx => by
        rw [if_pos (show runPutOk L size = true from decide_eq_true ⟨h1, h2, hx⟩)]
        have h := spec_l7Run_l0_ev L size h1 h2 hx L.length 0 [] (by omega) (by omega) (by omega) (by simp)
        exact h) (fun hx => by rw [if_neg (show ¬ runPutOk L size = true from fun e => hx (of_decide_eq_true e).2.2)])
      try dsimp only at hK
      refine ⟨K + 1, fun k hk => ?_⟩
      try dsimp only
      obtain ⟨m, rfl⟩ : ∃ m, k = m + 1 := ⟨k - 1, by omega⟩
      rw [if_pos h1, spec_RunPut.j0, if_neg (by simp; omega)]
      exact hK m (by omega)
    · refine ⟨1, fun k hk => ?_⟩
      try dsimp only
      obtain ⟨m, rfl⟩ : ∃ m, k = m + 1 := ⟨k - 1, by omega⟩
      rw [if_pos h1, spec_RunPut.j0, if_pos (decide_eq_true (by omega)), if_neg (show ¬ runPutOk L size = true from fun e => h2 (of_decide_eq_true e).2.1)]
  · refine ⟨1, fun k hk => ?_⟩
    try dsimp only
    obtain ⟨m, rfl⟩ : ∃ m, k = m + 1 := ⟨k - 1, by omega⟩
    rw [if_neg h1, spec_RunPut.j0, if_pos rfl, if_neg (show ¬ runPutOk L size = true from fun e => h1 (of_decide_eq_true e).1)]
theorem nmM_flat (L : List Int) (size : Nat) (at_ : Nat) : ∀ n : Nat, at_ + n ≤ L.length → ((L.take (at_ + n)).drop at_).flatMap (fun x => bytesLo x size) = nmM L at_ size n := by
  intro n
  induction n with
  | zero => intro h; rw [Nat.add_zero, List.drop_eq_nil_of_le (by rw [List.length_take]; omega)]; rfl
  | succ n ih =>
    intro h
    have hl : at_ + n < L.length := by omega
    have e : (L.take (at_ + (n + 1))).drop at_ = (L.take (at_ + n)).drop at_ ++ [L[at_ + n]] := by
      rw [← Nat.add_assoc, List.take_succ_eq_append_getElem hl, List.drop_append_of_le_length (by rw [List.length_take]; omega)]
    rw [e, List.flatMap_append, ih (by omega)]
    simp only [nmM, List.flatMap_cons, List.flatMap_nil, List.append_nil]
    congr 2
    have e2 : ((at_ : Int) + (n : Int)).toNat = at_ + n := by omega
    simp [rd, e2, List.getD_eq_getElem?_getD, List.getElem?_eq_getElem hl]
theorem l1Field_l0_ev (s : ByteArray) (at_ size : Int) (big : Bool) (hs : s.size ≤ 9000) (h0 : 0 ≤ at_) (h1 : 1 ≤ size) (h2 : size ≤ 4) (h3 : at_ + size ≤ s.size) :
    ∀ d i : Nat, i + d = size.toNat → Ev (fun k => spec_l1Field.l0 k s at_ size big (numM s at_ size big i) (i : Int)) (numM s at_ size big size.toNat) := by
  intro d
  induction d with
  | zero =>
    intro i hi
    refine ⟨1, fun k hk => ?_⟩
    try dsimp only
    obtain ⟨m, rfl⟩ : ∃ m, k = m + 1 := ⟨k - 1, by omega⟩
    rw [spec_l1Field.l0, if_neg (by omega), show i = size.toNat by omega]
  | succ d ih =>
    intro i hi
    obtain ⟨K, hK⟩ := ih (i + 1) (by omega)
    try dsimp only at hK
    refine ⟨K + 1, fun k hk => ?_⟩
    try dsimp only
    obtain ⟨m, rfl⟩ : ∃ m, k = m + 1 := ⟨k - 1, by omega⟩
    have hm := hK m (by omega)
    have hb := numM_b4 s at_ size big i (by omega)
    rw [spec_l1Field.l0, if_pos (by omega)]
    cases big
    · have ht := bt_range s (at_ + size - 1 - i)
      simp only [numM, Bool.false_eq_true, if_false] at hm
      simp (disch := omega) only [w64, Bool.false_eq_true, ↓if_false, ↓if_pos]
      exact hm
    · have ht := bt_range s (at_ + i)
      simp only [numM, if_true] at hm
      simp (disch := omega) only [w64, ↓if_true, ↓if_pos]
      exact hm
theorem l1Field_ev (s : ByteArray) (at_ size : Int) (big : Bool) (hs : s.size ≤ 9000) (h0 : 0 ≤ at_) (h1 : 1 ≤ size) (h2 : size ≤ 4) (h3 : at_ + size ≤ s.size) :
    Ev (fun k => spec_l1Field.f k s at_ size big) (numM s at_ size big size.toNat) := by
  obtain ⟨K, hK⟩ := l1Field_l0_ev s at_ size big hs h0 h1 h2 h3 size.toNat 0 (by omega)
  try dsimp only at hK
  refine ⟨K + 1, fun k hk => ?_⟩
  try dsimp only
  obtain ⟨m, rfl⟩ : ∃ m, k = m + 1 := ⟨k - 1, by omega⟩
  have hm := hK m (by omega)
  unfold spec_l1Field.f
  rw [if_neg (by omega), w64 (by omega), spec_l1Field.j0, decide_eq_false (by omega)]
  simp only [Bool.false_eq_true, if_false]
  exact hm
def numGetM (s : ByteArray) (at_ size : Int) (big : Bool) : Int × Bool :=
  if 1 ≤ size ∧ size ≤ 4 ∧ s.size ≤ 9000 ∧ 0 ≤ at_ ∧ at_ + size ≤ s.size then (numM s at_ size big size.toNat, true) else (0, false)
theorem impl_NumGet_l0_ev (s : ByteArray) (at_ size : Int) (big : Bool) (hs : s.size ≤ 9000) (h0 : 0 ≤ at_) (h1 : 1 ≤ size) (h2 : size ≤ 4) (h3 : at_ + size ≤ s.size) :
    ∀ d i : Nat, i + d = size.toNat → Ev (fun k => impl_NumGet.l0 k s at_ size big (numM s at_ size big i) size (i : Int)) (numM s at_ size big size.toNat, true) := by
  intro d
  induction d with
  | zero =>
    intro i hi
    refine ⟨1, fun k hk => ?_⟩
    try dsimp only
    obtain ⟨m, rfl⟩ : ∃ m, k = m + 1 := ⟨k - 1, by omega⟩
    rw [impl_NumGet.l0, if_neg (by omega), show i = size.toNat by omega]
  | succ d ih =>
    intro i hi
    obtain ⟨K, hK⟩ := ih (i + 1) (by omega)
    try dsimp only at hK
    refine ⟨K + 1, fun k hk => ?_⟩
    try dsimp only
    obtain ⟨m, rfl⟩ : ∃ m, k = m + 1 := ⟨k - 1, by omega⟩
    have hm := hK m (by omega)
    have hb := numM_b4 s at_ size big i (by omega)
    have h8 : P2 8 = 256 := rfl
    rw [impl_NumGet.l0, if_pos (by omega)]
    cases big
    · have ht := bt_range s (at_ + size - 1 - i)
      have hj := or_join (i := 8) (x := numM s at_ size false i * 256) (y := bt s (at_ + size - 1 - i)) (by omega) (by rw [h8]; omega) (by omega) (by omega) (by omega) (by omega)
      simp only [numM, Bool.false_eq_true, if_false] at hm
      simp (disch := omega) only [w64, Bool.false_eq_true, ↓if_false, ↓if_pos]
      rw [hj, Int.mul_comm]
      exact hm
    · have ht := bt_range s (at_ + i)
      have hj := or_join (i := 8) (x := numM s at_ size true i * 256) (y := bt s (at_ + i)) (by omega) (by rw [h8]; omega) (by omega) (by omega) (by omega) (by omega)
      simp only [numM, if_true] at hm
      simp (disch := omega) only [w64, ↓if_true, ↓if_pos]
      rw [hj, Int.mul_comm]
      exact hm
theorem impl_NumGet_ev (s : ByteArray) (at_ size : Int) (big : Bool) (hs : s.size ≤ 1048576) (hw : -9223372036854775808 ≤ size ∧ size ≤ 9223372036854775807) : Ev (fun k => impl_NumGet.f k s at_ size big) (numGetM s at_ size big) := by
  unfold impl_NumGet.f numGetM
  simp only [in_f, Option.bind_some, decide_eq_true_eq]
  by_cases h1 : 1 ≤ size ∧ size ≤ 4
  · by_cases h2 : s.size ≤ 9000
    · by_cases h3 : 0 ≤ at_ ∧ at_ + size ≤ s.size
      · obtain ⟨K, hK⟩ := impl_NumGet_l0_ev s at_ size big h2 h3.1 h1.1 h1.2 h3.2 size.toNat 0 (by omega)
        try dsimp only at hK
        refine ⟨K + 1, fun k hk => ?_⟩
        try dsimp only
        obtain ⟨m, rfl⟩ : ∃ m, k = m + 1 := ⟨k - 1, by omega⟩
        have hm := hK m (by omega)
        rw [if_pos h1, if_neg (by omega), w64 (by omega), decide_eq_true (by omega), if_pos (by omega)]
        simp only [Bool.not_true, impl_NumGet.j0, Bool.false_eq_true, if_false]
        exact hm
      · refine ⟨1, fun k hk => ?_⟩
        try dsimp only
        obtain ⟨m, rfl⟩ : ∃ m, k = m + 1 := ⟨k - 1, by omega⟩
        rw [if_pos h1, if_neg (by omega), w64 (by omega), decide_eq_false (by omega), if_neg (by omega)]
        simp only [Bool.not_false, impl_NumGet.j0, if_true]
    · refine ⟨1, fun k hk => ?_⟩
      try dsimp only
      obtain ⟨m, rfl⟩ : ∃ m, k = m + 1 := ⟨k - 1, by omega⟩
      rw [if_pos h1, if_pos (by omega), if_neg (by omega)]
      simp only [impl_NumGet.j0, if_true]
  · refine ⟨1, fun k hk => ?_⟩
    try dsimp only
    obtain ⟨m, rfl⟩ : ∃ m, k = m + 1 := ⟨k - 1, by omega⟩
    rw [if_neg h1, if_neg (by omega)]
    simp only [impl_NumGet.j0, if_true]
theorem numGetM_in (s : ByteArray) (at_ size : Int) (hs : s.size ≤ 9000) (hz : 1 ≤ size ∧ size ≤ 4) (h0 : 0 ≤ at_) (h : at_ + size ≤ s.size) : numGetM s at_ size false = (numA s at_ size, true) := by
  unfold numGetM; rw [if_pos ⟨hz.1, hz.2, hs, h0, h⟩]; rfl
theorem numGetM_out (s : ByteArray) (at_ size : Int) (h : ¬ at_ + size ≤ s.size) : numGetM s at_ size false = (0, false) := by
  unfold numGetM; rw [if_neg (fun e => h e.2.2.2.2)]
def repM (x : Int) : Nat → List Int
  | 0 => []
  | n + 1 => repM x n ++ [x]
theorem repM_length (x : Int) (n : Nat) : (repM x n).length = n := by
  induction n with
  | zero => rfl
  | succ n ih => simp [repM, ih]
theorem pkM_same (s : ByteArray) (at_ size : Int) (n : Nat) : pkM s at_ size true n = repM (numA s at_ size) n := by
  induction n with
  | zero => rfl
  | succ n ih => simp only [pkM, repM, ih, if_true]
theorem impl_RunGet_l2_ev (s : ByteArray) (at_ size count : Int) (x told idx : Int) (out : List Int) (ho : out.length ≤ 2000) (n : Nat) (hn : n ≤ 128) (r : List Int × Int × Bool)
    (hnext : Ev (fun k => impl_RunGet.l1 k s at_ size count (out ++ repM x n) (n : Int) told (wrap64 (idx + 1))) r) :
    ∀ d j : Nat, j + d = n → Ev (fun k => impl_RunGet.l2 k s at_ size count (out ++ repM x j) (n : Int) x told idx (n : Int) (j : Int)) r := by
  intro d
  induction d with
  | zero =>
    intro j hj
    obtain ⟨K, hK⟩ := hnext
    try dsimp only at hK
    refine ⟨K + 1, fun k hk => ?_⟩
    try dsimp only
    obtain ⟨m, rfl⟩ : ∃ m, k = m + 1 := ⟨k - 1, by omega⟩
    have hm := hK m (by omega)
    rw [impl_RunGet.l2, if_neg (by omega), show j = n by omega]
    exact hm
  | succ d ih =>
    intro j hj
    obtain ⟨K, hK⟩ := ih (j + 1) (by omega)
    try dsimp only at hK
    refine ⟨K + 1, fun k hk => ?_⟩
    try dsimp only
    obtain ⟨m, rfl⟩ : ∃ m, k = m + 1 := ⟨k - 1, by omega⟩
    have hm := hK m (by omega)
    have hl := repM_length x j
    rw [impl_RunGet.l2, if_pos (by omega), if_pos (by rw [List.length_append, hl]; omega), w64 (by omega)]
    simp only [repM] at hm
    rw [← List.append_assoc, show ((j + 1 : Nat) : Int) = (j : Int) + 1 by omega] at hm
    exact hm
/-- A packet of n times one number. -/
theorem impl_RunGet_same_ev (s : ByteArray) (at_ size count : Int) (out : List Int) (n : Nat) (hs : s.size ≤ 9000) (hz : 1 ≤ size ∧ size ≤ 4) (h0 : 0 ≤ at_) (h1 : at_ ≤ s.size) (hn : n ≤ 128) (ho : out.length ≤ 1000) (r : List Int × Int × Bool)
    (hnext : at_ + size ≤ s.size → Ev (fun k => impl_RunGet.l0 k s (at_ + size) size count (out ++ pkM s at_ size true n)) r) (hout : ¬ at_ + size ≤ s.size → r = ([], 0, false)) :
    Ev (fun k => impl_RunGet.l1 k s at_ size count out (n : Int) 1 0) r := by
  obtain ⟨K1, hK1⟩ := impl_NumGet_ev s at_ size false (by omega) (by omega)
  try dsimp only at hK1
  by_cases h : at_ + size ≤ s.size
  · rw [numGetM_in s at_ size hs hz h0 h] at hK1
    obtain ⟨K, hK⟩ := impl_RunGet_l2_ev s (at_ + size) size count (numA s at_ size) 1 0 out (by omega) n hn r (by
      obtain ⟨K, hK⟩ := hnext h
      refine ⟨K + 1, fun k hk => ?_⟩
      obtain ⟨m, rfl⟩ : ∃ m, k = m + 1 := ⟨k - 1, by omega⟩
      have hm := hK m (by omega)
      try dsimp only
      rw [pkM_same] at hm
      rw [w64 (by omega), impl_RunGet.l1, if_neg (by omega)]
      exact hm) n 0 (by omega)
    try dsimp only at hK
    refine ⟨K + K1 + 1, fun k hk => ?_⟩
    try dsimp only
    obtain ⟨m, rfl⟩ : ∃ m, k = m + 1 := ⟨k - 1, by omega⟩
    have hm := hK m (by omega)
    rw [impl_RunGet.l1, if_pos (by omega), hK1 m (by omega), Option.bind_some]
    try dsimp only
    rw [if_pos rfl, w64 (x := at_ + size) (by omega)]
    simp only [repM, List.append_nil] at hm
    exact hm
  · rw [numGetM_out s at_ size h] at hK1
    refine ⟨K1 + 1, fun k hk => ?_⟩
    try dsimp only
    obtain ⟨m, rfl⟩ : ∃ m, k = m + 1 := ⟨k - 1, by omega⟩
    rw [impl_RunGet.l1, if_pos (by omega), hK1 m (by omega), Option.bind_some]
    try dsimp only
    rw [if_neg (by decide), hout h]
/-- A packet of n numbers. -/
theorem impl_RunGet_other_ev (s : ByteArray) (at_ size count : Int) (out : List Int) (n : Nat) (hs : s.size ≤ 9000) (hz : 1 ≤ size ∧ size ≤ 4) (h0 : 0 ≤ at_) (h1 : at_ ≤ s.size) (hn : n ≤ 128) (ho : out.length ≤ 1000) (r : List Int × Int × Bool)
    (hnext : at_ + n * size ≤ s.size → Ev (fun k => impl_RunGet.l0 k s (at_ + n * size) size count (out ++ pkM s at_ size false n)) r) (hout : ¬ at_ + n * size ≤ s.size → r = ([], 0, false)) :
    ∀ d j : Nat, j + d = n → at_ + j * size ≤ s.size → Ev (fun k => impl_RunGet.l1 k s (at_ + j * size) size count (out ++ pkM s at_ size false j) 1 (n : Int) (j : Int)) r := by
  have hmul := mul_le4 (n := n) (size := size) (by omega) hz
  intro d
  induction d with
  | zero =>
    intro j hj hfit
    have e : j = n := by omega
    subst e
    obtain ⟨K, hK⟩ := hnext hfit
    try dsimp only at hK
    refine ⟨K + 1, fun k hk => ?_⟩
    try dsimp only
    obtain ⟨m, rfl⟩ : ∃ m, k = m + 1 := ⟨k - 1, by omega⟩
    have hm := hK m (by omega)
    rw [impl_RunGet.l1, if_neg (by omega)]
    exact hm
  | succ d ih =>
    intro j hj hfit
    have hst := mul_step (j := j) (n := n) (size := size) (by omega) hz.1
    have hl := pkM_length s at_ size false j
    have ej : at_ + (j : Int) * size + size = at_ + ((j + 1 : Nat) : Int) * size := by
      rw [show ((j + 1 : Nat) : Int) = (j : Int) + 1 by omega, Int.add_mul, Int.one_mul, Int.add_assoc]
    obtain ⟨K1, hK1⟩ := impl_NumGet_ev s (at_ + j * size) size false (by omega) (by omega)
    try dsimp only at hK1
    by_cases h : at_ + (j : Int) * size + size ≤ s.size
    · rw [numGetM_in s _ size hs hz (by omega) h] at hK1
      obtain ⟨K, hK⟩ := ih (j + 1) (by omega) (by rw [← ej]; exact h)
      try dsimp only at hK
      refine ⟨K + K1 + 3, fun k hk => ?_⟩
      try dsimp only
      obtain ⟨m, rfl⟩ : ∃ m, k = m + 3 := ⟨k - 3, by omega⟩
      have hm := hK m (by omega)
      rw [impl_RunGet.l1, if_pos (by omega), hK1 (m + 2) (by omega), Option.bind_some]
      try dsimp only
      rw [if_pos rfl, w64 (x := at_ + (j : Int) * size + size) (by omega), impl_RunGet.l2, if_pos (by omega), if_pos (by rw [List.length_append, hl]; omega), w64 (x := (0 : Int) + 1) (by omega), impl_RunGet.l2, if_neg (by omega), w64 (by omega), ej]
      simp only [pkM, Bool.false_eq_true, if_false] at hm
      rw [← List.append_assoc] at hm
      rw [show (j : Int) + 1 = ((j + 1 : Nat) : Int) by omega]
      exact hm
    · rw [numGetM_out s _ size h] at hK1
      refine ⟨K1 + 1, fun k hk => ?_⟩
      try dsimp only
      obtain ⟨m, rfl⟩ : ∃ m, k = m + 1 := ⟨k - 1, by omega⟩
      rw [impl_RunGet.l1, if_pos (by omega), hK1 m (by omega), Option.bind_some]
      try dsimp only
      rw [if_neg (by decide), hout (by omega)]
theorem impl_RunGet_l0_ev (s : ByteArray) (size count : Int) (hs : s.size ≤ 9000) (hz : 1 ≤ size ∧ size ≤ 4) (hc : 0 ≤ count ∧ count ≤ 1000) : ∀ (f : Nat) (at_ : Int) (out : List Int), 0 ≤ at_ → at_ ≤ s.size → (out.length : Int) ≤ count → count ≤ out.length + f → Ev (fun k => impl_RunGet.l0 k s at_ size count out) (runM s size count f at_ out) := by
  intro f
  induction f with
  | zero =>
    intro at_ out h0 h1 h2 h3
    refine ⟨1, fun k hk => ?_⟩
    try dsimp only
    obtain ⟨m, rfl⟩ : ∃ m, k = m + 1 := ⟨k - 1, by omega⟩
    rw [impl_RunGet.l0, if_neg (by omega)]; rfl
  | succ f ih =>
    intro at_ out h0 h1 h2 h3
    simp only [runM]
    by_cases c1 : (out.length : Int) < count
    · rw [if_pos c1]
      by_cases c2 : at_ < s.size
      · rw [if_pos c2]
        have hb := bt_range s at_
        have hn : 1 ≤ pkN (bt s at_) ∧ pkN (bt s at_) ≤ 128 := by unfold pkN; omega
        have hmul := mul_le4 (n := pkN (bt s at_)) (size := size) (by omega) hz
        have hp : ((pkN (bt s at_)).toNat : Int) = pkN (bt s at_) := Int.toNat_of_nonneg (by omega)
        by_cases c3 : bt s at_ ≥ 128
        · have en : bt s at_ - 127 = pkN (bt s at_) := by unfold pkN; omega
          have e2 : pkNeed (bt s at_) size = size := by unfold pkNeed; rw [if_pos c3]
          have ed : decide (128 ≤ bt s at_) = true := decide_eq_true c3
          rw [e2, ed]
          by_cases c4 : (out.length : Int) + pkN (bt s at_) ≤ count
          · obtain ⟨K, hK⟩ := impl_RunGet_same_ev s (at_ + 1) size count out (pkN (bt s at_)).toNat hs hz (by omega) (by omega) (by omega) (by omega) (if at_ + 1 + size ≤ s.size ∧ (out.length : Int) + pkN (bt s at_) ≤ count then runM s size count f (at_ + 1 + size) (out ++ pkM s (at_ + 1) size true (pkN (bt s at_)).toNat) else ([], 0, false)) (fun hf => by
              rw [if_pos ⟨hf, c4⟩]
              exact ih _ _ (by omega) hf (by rw [List.length_append, pkM_length]; omega) (by rw [List.length_append, pkM_length]; omega)) (fun hf => by rw [if_neg (fun e => hf e.1)])
            try dsimp only at hK
            refine ⟨K + 2, fun k hk => ?_⟩
            try dsimp only
            obtain ⟨m, rfl⟩ : ∃ m, k = m + 2 := ⟨k - 2, by omega⟩
            have hm := hK m (by omega)
            rw [hp] at hm
            rw [impl_RunGet.l0, if_pos c1, if_neg (by omega), if_pos h0, if_pos c2, w64 (x := bt s at_) (by omega), if_pos c3, w64 (x := at_ + 1) (by omega), w64 (x := bt s at_ - 127) (by omega), en, impl_RunGet.j2, w64 (x := 1 * pkN (bt s at_)) (by omega), w64 (x := count - _) (by omega), if_neg (by omega)]
            exact hm
          · rw [if_neg (fun e => c4 e.2)]
            refine ⟨2, fun k hk => ?_⟩
            try dsimp only
            obtain ⟨m, rfl⟩ : ∃ m, k = m + 2 := ⟨k - 2, by omega⟩
            rw [impl_RunGet.l0, if_pos c1, if_neg (by omega), if_pos h0, if_pos c2, w64 (x := bt s at_) (by omega), if_pos c3, w64 (x := at_ + 1) (by omega), w64 (x := bt s at_ - 127) (by omega), en, impl_RunGet.j2, w64 (x := 1 * pkN (bt s at_)) (by omega), w64 (x := count - _) (by omega), if_pos (by omega)]
        · have en : bt s at_ + 1 = pkN (bt s at_) := by unfold pkN; omega
          have e2 : pkNeed (bt s at_) size = pkN (bt s at_) * size := by unfold pkNeed; rw [if_neg c3]
          have ed : decide (128 ≤ bt s at_) = false := decide_eq_false c3
          rw [e2, ed]
          by_cases c4 : (out.length : Int) + pkN (bt s at_) ≤ count
          · obtain ⟨K, hK⟩ := impl_RunGet_other_ev s (at_ + 1) size count out (pkN (bt s at_)).toNat hs hz (by omega) (by omega) (by omega) (by omega) (if at_ + 1 + pkN (bt s at_) * size ≤ s.size ∧ (out.length : Int) + pkN (bt s at_) ≤ count then runM s size count f (at_ + 1 + pkN (bt s at_) * size) (out ++ pkM s (at_ + 1) size false (pkN (bt s at_)).toNat) else ([], 0, false)) (fun hf => by
              rw [hp] at hf ⊢
              rw [if_pos ⟨hf, c4⟩]
              exact ih _ _ (by omega) hf (by rw [List.length_append, pkM_length]; omega) (by rw [List.length_append, pkM_length]; omega)) (fun hf => by rw [hp] at hf; rw [if_neg (fun e => hf e.1)]) (pkN (bt s at_)).toNat 0 (by omega) (by simp; omega)
            try dsimp only at hK
            refine ⟨K + 2, fun k hk => ?_⟩
            try dsimp only
            obtain ⟨m, rfl⟩ : ∃ m, k = m + 2 := ⟨k - 2, by omega⟩
            have hm := hK m (by omega)
            rw [hp] at hm
            rw [impl_RunGet.l0, if_pos c1, if_neg (by omega), if_pos h0, if_pos c2, w64 (x := bt s at_) (by omega), if_neg c3, w64 (x := at_ + 1) (by omega), w64 (x := bt s at_ + 1) (by omega), en, impl_RunGet.j2, w64 (x := pkN (bt s at_) * 1) (by omega), w64 (x := count - _) (by omega), if_neg (by omega)]
            simp only [pkM, List.append_nil] at hm
            rw [show at_ + 1 + ((0 : Nat) : Int) * size = at_ + 1 by simp] at hm
            exact hm
          · rw [if_neg (fun e => c4 e.2)]
            refine ⟨2, fun k hk => ?_⟩
            try dsimp only
            obtain ⟨m, rfl⟩ : ∃ m, k = m + 2 := ⟨k - 2, by omega⟩
            rw [impl_RunGet.l0, if_pos c1, if_neg (by omega), if_pos h0, if_pos c2, w64 (x := bt s at_) (by omega), if_neg c3, w64 (x := at_ + 1) (by omega), w64 (x := bt s at_ + 1) (by omega), en, impl_RunGet.j2, w64 (x := pkN (bt s at_) * 1) (by omega), w64 (x := count - _) (by omega), if_pos (by omega)]
      · rw [if_neg c2]
        refine ⟨1, fun k hk => ?_⟩
        try dsimp only
        obtain ⟨m, rfl⟩ : ∃ m, k = m + 1 := ⟨k - 1, by omega⟩
        rw [impl_RunGet.l0, if_pos c1, if_pos (by omega)]
    · rw [if_neg c1]
      refine ⟨1, fun k hk => ?_⟩
      try dsimp only
      obtain ⟨m, rfl⟩ : ∃ m, k = m + 1 := ⟨k - 1, by omega⟩
      rw [impl_RunGet.l0, if_neg c1]
theorem impl_RunGet_ev (s : ByteArray) (at_ size count : Int) : Ev (fun k => impl_RunGet.f k s at_ size count) (runGetM s at_ size count) := by
  unfold impl_RunGet.f runGetM
  simp only [in_f, Option.bind_some, decide_eq_true_eq]
  by_cases h : runOk s at_ size count = true
  · have hh := of_decide_eq_true h
    obtain ⟨K, hK⟩ := impl_RunGet_l0_ev s size count hh.2.2.1 hh.1 hh.2.1 count.toNat at_ [] hh.2.2.2.1 hh.2.2.2.2 (by simpa using hh.2.1.1) (by simp; omega)
    try dsimp only at hK
    refine ⟨K + 1, fun k hk => ?_⟩
    try dsimp only
    obtain ⟨m, rfl⟩ : ∃ m, k = m + 1 := ⟨k - 1, by omega⟩
    rw [if_pos hh.1, if_pos hh.2.1, if_pos hh.2.2.2, if_pos h, impl_RunGet.j0, if_neg (by simp; omega)]
    exact hK m (by omega)
  · have hn : ¬ ((1 ≤ size ∧ size ≤ 4) ∧ (0 ≤ count ∧ count ≤ 1000) ∧ s.size ≤ 9000 ∧ (0 ≤ at_ ∧ at_ ≤ s.size)) := fun e => h (decide_eq_true e)
    refine ⟨1, fun k hk => ?_⟩
    try dsimp only
    obtain ⟨m, rfl⟩ : ∃ m, k = m + 1 := ⟨k - 1, by omega⟩
    rw [if_neg h]
    by_cases h1 : 1 ≤ size ∧ size ≤ 4
    · by_cases h2 : 0 ≤ count ∧ count ≤ 1000
      · by_cases h3 : 0 ≤ at_ ∧ at_ ≤ s.size
        · rw [if_pos h1, if_pos h2, if_pos h3, impl_RunGet.j0, if_pos (decide_eq_true (by omega))]
        · rw [if_pos h1, if_pos h2, if_neg h3, impl_RunGet.j0, if_pos rfl]
      · rw [if_pos h1, if_neg h2, impl_RunGet.j0, if_pos rfl]
    · rw [if_neg h1, impl_RunGet.j0, if_pos rfl]
theorem spec_RunGet_l1_ev (s : ByteArray) (at_ size count : Int) (same : Bool) (need : Int) (out : List Int) (n : Nat) (hs : s.size ≤ 9000) (hz : 1 ≤ size ∧ size ≤ 4) (h0 : 0 ≤ at_) (hn : n ≤ 128) (hneed : need = if same = true then size else n * size) (hfit : at_ + need ≤ s.size) (ho : out.length ≤ 1000) (r : List Int × Int × Bool)
    (hnext : Ev (fun k => spec_RunGet.l0 k s (at_ + need) size count (out ++ pkM s at_ size same n)) r) :
    ∀ d j : Nat, j + d = n → Ev (fun k => spec_RunGet.l1 k s at_ size count (out ++ pkM s at_ size same j) (n : Int) same need (j : Int)) r := by
  have hmul := mul_le4 (n := n) (size := size) (by omega) hz
  have hneed2 : 0 ≤ need ∧ need ≤ 512 := by cases same <;> simp at hneed <;> omega
  intro d
  induction d with
  | zero =>
    intro j hj
    obtain ⟨K, hK⟩ := hnext
    try dsimp only at hK
    refine ⟨K + 1, fun k hk => ?_⟩
    try dsimp only
    obtain ⟨m, rfl⟩ : ∃ m, k = m + 1 := ⟨k - 1, by omega⟩
    have hm := hK m (by omega)
    rw [spec_RunGet.l1, if_neg (by omega), w64 (by omega), show j = n by omega]
    exact hm
  | succ d ih =>
    intro j hj
    obtain ⟨K, hK⟩ := ih (j + 1) (by omega)
    try dsimp only at hK
    have hl := pkM_length s at_ size same j
    have hst := mul_step (j := j) (n := n) (size := size) (by omega) hz.1
    cases same
    · simp only [Bool.false_eq_true, if_false] at hneed
      obtain ⟨K1, hK1⟩ := l1Field_ev s (at_ + j * size) size false hs (by omega) hz.1 hz.2 (by omega)
      try dsimp only at hK1
      refine ⟨K + K1 + 1, fun k hk => ?_⟩
      try dsimp only
      obtain ⟨m, rfl⟩ : ∃ m, k = m + 1 := ⟨k - 1, by omega⟩
      have hm := hK m (by omega)
      rw [spec_RunGet.l1, if_pos (by omega), if_neg (by decide), w64 (x := (j : Int) * size) (by omega), w64 (x := at_ + _) (by omega), hK1 m (by omega), Option.bind_some, if_pos (by rw [List.length_append, hl]; omega), w64 (by omega)]
      simp only [pkM, Bool.false_eq_true, if_false] at hm
      rw [← List.append_assoc, show ((j + 1 : Nat) : Int) = (j : Int) + 1 by omega] at hm
      exact hm
    · simp only [if_true] at hneed
      obtain ⟨K1, hK1⟩ := l1Field_ev s at_ size false hs (by omega) hz.1 hz.2 (by omega)
      try dsimp only at hK1
      refine ⟨K + K1 + 1, fun k hk => ?_⟩
      try dsimp only
      obtain ⟨m, rfl⟩ : ∃ m, k = m + 1 := ⟨k - 1, by omega⟩
      have hm := hK m (by omega)
      rw [spec_RunGet.l1, if_pos (by omega), if_pos rfl, hK1 m (by omega), Option.bind_some, if_pos (by rw [List.length_append, hl]; omega), w64 (by omega)]
      simp only [pkM, if_true] at hm
      rw [← List.append_assoc, show ((j + 1 : Nat) : Int) = (j : Int) + 1 by omega] at hm
      exact hm
theorem spec_RunGet_l0_ev (s : ByteArray) (size count : Int) (hs : s.size ≤ 9000) (hz : 1 ≤ size ∧ size ≤ 4) (hc : 0 ≤ count ∧ count ≤ 1000) : ∀ (f : Nat) (at_ : Int) (out : List Int), 0 ≤ at_ → at_ ≤ s.size → (out.length : Int) ≤ count → count ≤ out.length + f → Ev (fun k => spec_RunGet.l0 k s at_ size count out) (runM s size count f at_ out) := by
  intro f
  induction f with
  | zero =>
    intro at_ out h0 h1 h2 h3
    refine ⟨1, fun k hk => ?_⟩
    try dsimp only
    obtain ⟨m, rfl⟩ : ∃ m, k = m + 1 := ⟨k - 1, by omega⟩
    rw [spec_RunGet.l0, if_neg (by omega)]; rfl
  | succ f ih =>
    intro at_ out h0 h1 h2 h3
    simp only [runM]
    by_cases c1 : (out.length : Int) < count
    · rw [if_pos c1]
      by_cases c2 : at_ < s.size
      · have hb := bt_range s at_
        have hn : 1 ≤ pkN (bt s at_) ∧ pkN (bt s at_) ≤ 128 := by unfold pkN; omega
        have hmul := mul_le4 (n := pkN (bt s at_)) (size := size) (by omega) hz
        have hneed : 0 ≤ pkNeed (bt s at_) size ∧ pkNeed (bt s at_) size ≤ 512 := by unfold pkNeed; split <;> omega
        have ej : ∀ m : Nat, spec_RunGet.l0 (m + 2) s at_ size count out = (if at_ + 1 + pkNeed (bt s at_) size > s.size then spec_RunGet.j3 m s (at_ + 1) size count out (pkN (bt s at_)) (decide (bt s at_ ≥ 128)) (pkNeed (bt s at_) size) true else spec_RunGet.j3 m s (at_ + 1) size count out (pkN (bt s at_)) (decide (bt s at_ ≥ 128)) (pkNeed (bt s at_) size) (decide ((out.length : Int) + pkN (bt s at_) > count))) := by
          intro m
          have e1 : wrap64 (Int.tmod (wrap64 (bt s at_)) 128 + 1) = pkN (bt s at_) := by
            rw [w64 (x := bt s at_) (by omega), tmod_pos (by omega), w64 (by omega)]; rfl
          rw [spec_RunGet.l0, if_pos c1, if_neg (by omega), if_pos h0, if_pos c2, e1, w64 (x := at_ + 1) (by omega), w64 (x := pkN (bt s at_) * size) (by omega)]
          by_cases c3 : bt s at_ ≥ 128
          · have e2 : pkNeed (bt s at_) size = size := by unfold pkNeed; rw [if_pos c3]
            rw [if_pos c3, spec_RunGet.j2, e2, w64 (x := at_ + 1 + size) (by omega), w64 (x := (out.length : Int) + _) (by omega)]
          · have e2 : pkNeed (bt s at_) size = pkN (bt s at_) * size := by unfold pkNeed; rw [if_neg c3]
            rw [if_neg c3, spec_RunGet.j2, e2, w64 (x := at_ + 1 + _) (by omega), w64 (x := (out.length : Int) + _) (by omega)]
        rw [if_pos c2]
        by_cases c3 : at_ + 1 + pkNeed (bt s at_) size ≤ s.size ∧ (out.length : Int) + pkN (bt s at_) ≤ count
        · rw [if_pos c3]
          have hp : ((pkN (bt s at_)).toNat : Int) = pkN (bt s at_) := Int.toNat_of_nonneg (by omega)
          obtain ⟨K, hK⟩ := spec_RunGet_l1_ev s (at_ + 1) size count (decide (bt s at_ ≥ 128)) (pkNeed (bt s at_) size) out (pkN (bt s at_)).toNat hs hz (by omega) (by omega) (by unfold pkNeed; rw [hp]; simp only [decide_eq_true_eq]) c3.1 (by omega) _ (ih (at_ + 1 + pkNeed (bt s at_) size) (out ++ pkM s (at_ + 1) size (decide (128 ≤ bt s at_)) (pkN (bt s at_)).toNat) (by omega) c3.1 (by rw [List.length_append, pkM_length]; omega) (by rw [List.length_append, pkM_length]; omega)) (pkN (bt s at_)).toNat 0 (by omega)
          try dsimp only at hK
          refine ⟨K + 3, fun k hk => ?_⟩
          try dsimp only
          obtain ⟨m, rfl⟩ : ∃ m, k = m + 3 := ⟨k - 3, by omega⟩
          have hm := hK m (by omega)
          rw [hp] at hm
          rw [ej (m + 1), if_neg (by omega), spec_RunGet.j3, if_neg (by simp; omega)]
          simp only [pkM, List.append_nil] at hm
          exact hm
        · rw [if_neg c3]
          refine ⟨3, fun k hk => ?_⟩
          try dsimp only
          obtain ⟨m, rfl⟩ : ∃ m, k = m + 3 := ⟨k - 3, by omega⟩
          rw [ej (m + 1)]
          by_cases c4 : at_ + 1 + pkNeed (bt s at_) size > s.size
          · rw [if_pos c4, spec_RunGet.j3, if_pos rfl]
          · rw [if_neg c4, spec_RunGet.j3, if_pos (decide_eq_true (by omega))]
      · rw [if_neg c2]
        refine ⟨1, fun k hk => ?_⟩
        try dsimp only
        obtain ⟨m, rfl⟩ : ∃ m, k = m + 1 := ⟨k - 1, by omega⟩
        rw [spec_RunGet.l0, if_pos c1, if_pos (by omega)]
    · rw [if_neg c1]
      refine ⟨1, fun k hk => ?_⟩
      try dsimp only
      obtain ⟨m, rfl⟩ : ∃ m, k = m + 1 := ⟨k - 1, by omega⟩
      rw [spec_RunGet.l0, if_neg c1]
theorem spec_RunGet_ev (s : ByteArray) (at_ size count : Int) : Ev (fun k => spec_RunGet.f k s at_ size count) (runGetM s at_ size count) := by
  unfold spec_RunGet.f runGetM
  simp only [l1In_f, Option.bind_some, decide_eq_true_eq]
  by_cases h : runOk s at_ size count = true
  · have hh := of_decide_eq_true h
    obtain ⟨K, hK⟩ := spec_RunGet_l0_ev s size count hh.2.2.1 hh.1 hh.2.1 count.toNat at_ [] hh.2.2.2.1 hh.2.2.2.2 (by simpa using hh.2.1.1) (by simp; omega)
    try dsimp only at hK
    refine ⟨K + 1, fun k hk => ?_⟩
    try dsimp only
    obtain ⟨m, rfl⟩ : ∃ m, k = m + 1 := ⟨k - 1, by omega⟩
    rw [if_pos hh.1, if_pos hh.2.1, if_neg (by omega), if_pos h, spec_RunGet.j0, if_neg (by simp; omega)]
    exact hK m (by omega)
  · have hn : ¬ ((1 ≤ size ∧ size ≤ 4) ∧ (0 ≤ count ∧ count ≤ 1000) ∧ s.size ≤ 9000 ∧ (0 ≤ at_ ∧ at_ ≤ s.size)) := fun e => h (decide_eq_true e)
    refine ⟨1, fun k hk => ?_⟩
    try dsimp only
    obtain ⟨m, rfl⟩ : ∃ m, k = m + 1 := ⟨k - 1, by omega⟩
    rw [if_neg h]
    by_cases h1 : 1 ≤ size ∧ size ≤ 4
    · by_cases h2 : 0 ≤ count ∧ count ≤ 1000
      · by_cases h3 : (s.size : Int) > 9000
        · rw [if_pos h1, if_pos h2, if_pos h3, spec_RunGet.j0, if_pos rfl]
        · rw [if_pos h1, if_pos h2, if_neg h3, spec_RunGet.j0, if_pos (by simp; omega)]
      · rw [if_pos h1, if_neg h2, spec_RunGet.j0, if_pos rfl]
    · rw [if_neg h1, spec_RunGet.j0, if_pos rfl]
theorem wiInts_l0_ev (a : List Int) (hl : a.length ≤ 35184372088832) : ∀ (sa pa : List Int), a = pa ++ sa → Ev (fun k => laws_wiInts.l0 k a a (pa.length : Int)) true := by
  intro sa
  induction sa with
  | nil =>
    intro pa ha
    refine ⟨1, fun k hk => ?_⟩
    try dsimp only
    obtain ⟨m, rfl⟩ : ∃ m, k = m + 1 := ⟨k - 1, by omega⟩
    rw [laws_wiInts.l0, if_neg (by rw [ha]; simp)]
  | cons x sa ih =>
    intro pa ha
    have hll : a.length = pa.length + sa.length + 1 := by rw [ha]; simp; omega
    obtain ⟨K, hK⟩ := ih (pa ++ [x]) (by simp [ha])
    try dsimp only at hK
    refine ⟨K + 1, fun k hk => ?_⟩
    try dsimp only
    obtain ⟨m, rfl⟩ : ∃ m, k = m + 1 := ⟨k - 1, by omega⟩
    have hm := hK m (by omega)
    rw [laws_wiInts.l0, if_pos (by omega), if_pos (by omega), if_pos (by omega), if_pos rfl, w64 (by omega)]
    rw [List.length_append, List.length_singleton, show ((pa.length + 1 : Nat) : Int) = (pa.length : Int) + 1 by omega] at hm
    exact hm
theorem wiInts_ev (a : List Int) (hl : a.length ≤ 35184372088832) : Ev (fun k => laws_wiInts.f k a a) true := by
  obtain ⟨K, hK⟩ := wiInts_l0_ev a hl a [] rfl
  try dsimp only at hK
  refine ⟨K, fun k hk => ?_⟩
  try dsimp only
  unfold laws_wiInts.f
  rw [if_pos rfl]
  exact hK k hk
/-- A drawing's bytes. -/
def Code (b : List Int) : Prop := b.length ≤ 2000 ∧ ∀ x ∈ b, 0 ≤ x ∧ x ≤ 255
theorem l1Open_f (l : List Int) : spec_l1Open.f l = some (l.take 2000, 0) := by
  unfold spec_l1Open.f
  by_cases h : (l.length : Int) > 2000
  · rw [if_pos h, if_pos (by omega)]
  · rw [if_neg h, List.take_of_length_le (by omega)]
theorem code_open {l : List Int} (h : ∀ x ∈ l, (Lit.int .u8 x).wf = true) : Code (l.take 2000) := by
  refine ⟨by rw [List.length_take]; omega, fun x hx => ?_⟩
  have := h x (List.mem_of_mem_take hx)
  simp [Lit.wf, IntKind.min, IntKind.max, IntKind.bits, IntKind.signed] at this
  omega
theorem code_rd {b : List Int} (h : Code b) (i : Int) : 0 ≤ rd b i ∧ rd b i ≤ 255 := by
  rcases rd_mem_or b i with h1 | h1
  · exact h.2 _ h1
  · omega
/-- What is picked is there, and the place is one further. -/
theorem pick_ev {b : List Int} (hb : Code b) {p n : Int} (hp : 0 ≤ p ∧ p ≤ 1099511627776) (hn : n ≤ 1099511627776) : ∃ v : Int, (0 ≤ v ∧ (v < n ∨ n < 1 ∧ v = 0)) ∧ Ev (fun k => spec_l1Rd_pick.f k b p n) (v, p + 1) := by
  unfold spec_l1Rd_pick.f
  rw [w64 (x := p + 1) (by omega)]
  by_cases h1 : n < 1
  · refine ⟨0, ⟨by omega, .inr ⟨h1, rfl⟩⟩, 1, fun k hk => ?_⟩
    try dsimp only
    obtain ⟨m, rfl⟩ : ∃ m, k = m + 1 := ⟨k - 1, by omega⟩
    try dsimp only
    rw [if_pos h1, spec_l1Rd_pick.j0, if_pos rfl]
  by_cases h2 : b.length = 0
  · refine ⟨0, ⟨by omega, .inl (by omega)⟩, 1, fun k hk => ?_⟩
    try dsimp only
    obtain ⟨m, rfl⟩ : ∃ m, k = m + 1 := ⟨k - 1, by omega⟩
    try dsimp only
    rw [if_neg h1, spec_l1Rd_pick.j0, if_pos (by simp [h2])]
  have e0 : wrap64 (p + 1 - 1) = p := by rw [w64 (by omega)]; omega
  by_cases h3 : p < b.length
  · have hr := code_rd hb p
    refine ⟨rd b p % n, ⟨Int.emod_nonneg _ (by omega), .inl (Int.emod_lt_of_pos _ (by omega))⟩, 1, fun k hk => ?_⟩
    try dsimp only
    obtain ⟨m, rfl⟩ : ∃ m, k = m + 1 := ⟨k - 1, by omega⟩
    try dsimp only
    rw [if_neg h1, spec_l1Rd_pick.j0, if_neg (by simpa using h2), e0, if_pos h3, if_pos hp.1, if_neg (by omega), w64 (by omega), tmod_pos hr.1]
  · have hl := hb.1
    have m1 : 0 ≤ p % (b.length : Int) ∧ p % (b.length : Int) < b.length := ⟨Int.emod_nonneg _ (by omega), Int.emod_lt_of_pos _ (by omega)⟩
    have m2 : 0 ≤ (p * 7 + 3) % (b.length : Int) ∧ (p * 7 + 3) % (b.length : Int) < b.length := ⟨Int.emod_nonneg _ (by omega), Int.emod_lt_of_pos _ (by omega)⟩
    have r1 := code_rd hb (p % (b.length : Int))
    have r2 := code_rd hb ((p * 7 + 3) % (b.length : Int))
    have q1 : 0 ≤ p / (b.length : Int) := Int.ediv_nonneg hp.1 (by omega)
    have q2 : p / (b.length : Int) ≤ p := Int.ediv_le_self _ hp.1
    obtain ⟨X, hX⟩ : ∃ X, X = rd b (p % (b.length : Int)) * 131 + rd b ((p * 7 + 3) % (b.length : Int)) * 1117 + p * 29 + p / (b.length : Int) * 53 := ⟨_, rfl⟩
    have bX : 0 ≤ X ∧ X ≤ 4611686018427387904 := by omega
    have hx := xor_b (x := X) (y := X / 64) (by omega) (by omega)
    refine ⟨Go.bits .xor .i64 X (X / 64) % n, ⟨Int.emod_nonneg _ (by omega), .inl (Int.emod_lt_of_pos _ (by omega))⟩, 1, fun k hk => ?_⟩
    try dsimp only
    obtain ⟨m, rfl⟩ : ∃ m, k = m + 1 := ⟨k - 1, by omega⟩
    try dsimp only
    rw [if_neg h1, spec_l1Rd_pick.j0, if_neg (by simpa using h2), e0, if_neg h3, if_neg (by omega)]
    rw [w64 (x := p * 7) (by omega), w64 (x := p * 7 + 3) (by omega), tmod_pos (a := p) hp.1, tmod_pos (a := p * 7 + 3) (by omega), tdiv_pos (a := p) hp.1]
    rw [if_pos m1.1, if_pos m1.2, if_pos m2.1, if_pos m2.2, if_neg (by omega)]
    rw [w64 (x := rd b (p % (b.length : Int))) (by omega), w64 (x := rd b ((p * 7 + 3) % (b.length : Int))) (by omega), w64 (x := p / (b.length : Int)) (by omega)]
    rw [w64 (x := rd b (p % (b.length : Int)) * 131) (by omega), w64 (x := rd b ((p * 7 + 3) % (b.length : Int)) * 1117) (by omega), w64 (x := p * 29) (by omega), w64 (x := p / (b.length : Int) * 53) (by omega)]
    rw [w64 (x := rd b (p % (b.length : Int)) * 131 + rd b ((p * 7 + 3) % (b.length : Int)) * 1117) (by omega), w64 (x := rd b (p % (b.length : Int)) * 131 + rd b ((p * 7 + 3) % (b.length : Int)) * 1117 + p * 29) (by omega), w64 (x := rd b (p % (b.length : Int)) * 131 + rd b ((p * 7 + 3) % (b.length : Int)) * 1117 + p * 29 + p / (b.length : Int) * 53) (by omega), ← hX]
    rw [tdiv_pos (by omega), w64 (x := X / 64) (by omega), tmod_pos hx.1]
theorem l4Same_l0_ev (x : Int) (n : Nat) (hn : n ≤ 100000) : ∀ d i : Nat, i + d = n → Ev (fun k => spec_l4Same.l0 k x (n : Int) (List.replicate i x) (i : Int)) (List.replicate n x) := by
  intro d
  induction d with
  | zero =>
    intro i hi
    refine ⟨1, fun k hk => ?_⟩
    try dsimp only
    obtain ⟨m, rfl⟩ : ∃ m, k = m + 1 := ⟨k - 1, by omega⟩
    rw [spec_l4Same.l0, if_neg (by omega), show i = n by omega]
  | succ d ih =>
    intro i hi
    obtain ⟨K, hK⟩ := ih (i + 1) (by omega)
    try dsimp only at hK
    refine ⟨K + 1, fun k hk => ?_⟩
    try dsimp only
    obtain ⟨m, rfl⟩ : ∃ m, k = m + 1 := ⟨k - 1, by omega⟩
    have hm := hK m (by omega)
    rw [spec_l4Same.l0, if_pos (by omega), if_pos (by rw [List.length_replicate]; omega), w64 (by omega)]
    rw [List.replicate_succ', show ((i + 1 : Nat) : Int) = (i : Int) + 1 by omega] at hm
    exact hm
theorem l4Same_ev (x n : Int) (h0 : 0 ≤ n) (hn : n ≤ 100000) : Ev (fun k => spec_l4Same.f k x n) (List.replicate n.toNat x) := by
  have h := l4Same_l0_ev x n.toNat (by omega) n.toNat 0 (by omega)
  rw [Int.toNat_of_nonneg h0] at h
  exact h
theorem l14Nums_l1_ev (b : List Int) (max x : Int) (n : Int) (p : Int) (r : List Int × Int) (hn : 0 ≤ n) (hn2 : n ≤ 1000) (L : List Int) (hL : L.length ≤ 1000) (c : Nat) (hc : c ≤ 1000)
    (hnext : Ev (fun k => spec_l14Nums.l0 k max (L ++ List.replicate c x) (n - 1) b p) r) :
    ∀ d i : Nat, i + d = c → Ev (fun k => spec_l14Nums.l1 k max (L ++ List.replicate i x) n x (d : Int) b p) r := by
  intro d
  induction d with
  | zero =>
    intro i hi
    obtain ⟨K, hK⟩ := hnext
    try dsimp only at hK
    refine ⟨K + 1, fun k hk => ?_⟩
    try dsimp only
    obtain ⟨m, rfl⟩ : ∃ m, k = m + 1 := ⟨k - 1, by omega⟩
    have hm := hK m (by omega)
    rw [spec_l14Nums.l1, if_neg (by omega), show i = c by omega, w64 (by omega)]
    exact hm
  | succ d ih =>
    intro i hi
    obtain ⟨K, hK⟩ := ih (i + 1) (by omega)
    try dsimp only at hK
    refine ⟨K + 1, fun k hk => ?_⟩
    try dsimp only
    obtain ⟨m, rfl⟩ : ∃ m, k = m + 1 := ⟨k - 1, by omega⟩
    have hm := hK m (by omega)
    rw [spec_l14Nums.l1, if_pos (by omega), if_pos (by rw [List.length_append, List.length_replicate]; omega), w64 (by omega), show ((d + 1 : Nat) : Int) - 1 = (d : Int) by omega]
    rw [List.replicate_succ', ← List.append_assoc] at hm
    exact hm
theorem l14Nums_l0_ev {b : List Int} (hb : Code b) (max : Int) (hmax : 4 ≤ max ∧ max ≤ 1000000) : ∀ (n : Nat) (L : List Int) (p : Int), n ≤ 8 → 0 ≤ p → p ≤ 1000000 - 3 * n → L.length + 10 * n ≤ 80 → (∀ x ∈ L, 0 ≤ x ∧ x < max) → ∃ (L' : List Int) (p' : Int), ((L'.length ≤ 300 ∧ p ≤ p' ∧ p' ≤ p + 3 * n + 2) ∧ ∀ x ∈ L', 0 ≤ x ∧ x < max) ∧ Ev (fun k => spec_l14Nums.l0 k max L (n : Int) b p) (L', p') := by
  intro n
  induction n with
  | zero =>
    intro L p hn h0 h1 hl hL
    obtain ⟨v, hv, K1, hK1⟩ := pick_ev hb (p := p) (n := 16) (by omega) (by omega)
    try dsimp only at hK1
    try dsimp only at hK1
    by_cases hz : v = 0
    · obtain ⟨u, hu, K2, hK2⟩ := pick_ev hb (p := p + 1) (n := 9) (by omega) (by omega)
      try dsimp only at hK2
      try dsimp only at hK2
      obtain ⟨K3, hK3⟩ := l4Same_ev (Int.tmod 3 max) (130 + u) (by omega) (by omega)
      try dsimp only at hK3
      try dsimp only at hK3
      have e3 : Int.tmod 3 max = 3 := by rw [tmod_pos (by omega)]; exact Int.emod_eq_of_lt (by omega) (by omega)
      refine ⟨L ++ List.replicate (130 + u).toNat (Int.tmod 3 max), p + 1 + 1, ⟨⟨by rw [List.length_append, List.length_replicate]; omega, by omega, by omega⟩, fun x hx => ?_⟩, K1 + K2 + K3 + 1, fun k hk => ?_⟩
      try dsimp only
      · rcases List.mem_append.1 hx with hx | hx
        · exact hL x hx
        · rw [(List.mem_replicate.1 hx).2, e3]; omega
      · obtain ⟨m, rfl⟩ : ∃ m, k = m + 1 := ⟨k - 1, by omega⟩
        try dsimp only
        rw [spec_l14Nums.l0, if_neg (by omega), hK1 m (by omega), Option.bind_some]
        try dsimp only
        rw [if_pos hz, if_neg (by omega), hK2 m (by omega), Option.bind_some]
        try dsimp only
        rw [w64 (by omega), hK3 m (by omega), Option.bind_some, if_pos (by rw [List.length_replicate]; omega)]
    · refine ⟨L, p + 1, ⟨by omega, hL⟩, K1 + 1, fun k hk => ?_⟩
      try dsimp only
      obtain ⟨m, rfl⟩ : ∃ m, k = m + 1 := ⟨k - 1, by omega⟩
      try dsimp only
      rw [spec_l14Nums.l0, if_neg (by omega), hK1 m (by omega), Option.bind_some]
      try dsimp only
      rw [if_neg hz]
  | succ n ih =>
    intro L p hn h0 h1 hl hL
    obtain ⟨x, hx, K1, hK1⟩ := pick_ev hb (p := p) (n := max) (by omega) (by omega)
    try dsimp only at hK1
    try dsimp only at hK1
    obtain ⟨u, hu, K2, hK2⟩ := pick_ev hb (p := p + 1) (n := 4) (by omega) (by omega)
    try dsimp only at hK2
    try dsimp only at hK2
    obtain ⟨v, hv, K3, hK3⟩ := pick_ev hb (p := p + 1 + 1) (n := 4) (by omega) (by omega)
    try dsimp only at hK3
    try dsimp only at hK3
    have huv : 0 ≤ u * v ∧ u * v ≤ 9 := by
      rcases (show u = 0 ∨ u = 1 ∨ u = 2 ∨ u = 3 by omega) with rfl | rfl | rfl | rfl <;> omega
    have hlen : (L ++ List.replicate (1 + u * v).toNat x).length ≤ L.length + 10 := by rw [List.length_append, List.length_replicate]; omega
    obtain ⟨L', p', h', K4, hK4⟩ := ih (L ++ List.replicate (1 + u * v).toNat x) (p + 1 + 1 + 1) (by omega) (by omega) (by omega) (by omega) (fun y hy => by
      rcases List.mem_append.1 hy with hy | hy
      · exact hL y hy
      · rw [(List.mem_replicate.1 hy).2]; omega)
    obtain ⟨K5, hK5⟩ := l14Nums_l1_ev b max x ((n + 1 : Nat) : Int) (p + 1 + 1 + 1) (L', p') (by omega) (by omega) L (by omega) (1 + u * v).toNat (by omega) (by rw [show ((n + 1 : Nat) : Int) - 1 = (n : Int) by omega]; exact ⟨K4, hK4⟩) (1 + u * v).toNat 0 (by omega)
    try dsimp only at hK5
    refine ⟨L', p', ⟨by omega, h'.2⟩, K1 + K2 + K3 + K5 + 1, fun k hk => ?_⟩
    try dsimp only
    obtain ⟨m, rfl⟩ : ∃ m, k = m + 1 := ⟨k - 1, by omega⟩
    have hm := hK5 m (by omega)
    try dsimp only
    rw [spec_l14Nums.l0, if_pos (by omega), hK1 m (by omega), Option.bind_some]
    try dsimp only
    rw [hK2 m (by omega), Option.bind_some]
    try dsimp only
    rw [hK3 m (by omega), Option.bind_some]
    try dsimp only
    rw [w64 (x := u * v) (by omega), w64 (by omega)]
    rw [List.replicate_zero, List.append_nil, Int.toNat_of_nonneg (by omega)] at hm
    exact hm
theorem l14Nums_ev {b : List Int} (hb : Code b) (max : Int) (hmax : 4 ≤ max ∧ max ≤ 1000000) {p : Int} (hp : 0 ≤ p ∧ p ≤ 900000) : ∃ (L : List Int) (p' : Int), ((L.length ≤ 300 ∧ p ≤ p' ∧ p' ≤ p + 30) ∧ ∀ x ∈ L, 0 ≤ x ∧ x < max) ∧ Ev (fun k => spec_l14Nums.f k b p max) (L, p') := by
  obtain ⟨n, hn, K1, hK1⟩ := pick_ev hb (p := p) (n := 9) (by omega) (by omega)
  try dsimp only at hK1
  try dsimp only at hK1
  obtain ⟨L, p', h, K2, hK2⟩ := l14Nums_l0_ev hb max hmax n.toNat [] (p + 1) (by omega) (by omega) (by omega) (by simp; omega) (by simp)
  rw [Int.toNat_of_nonneg hn.1] at hK2
  refine ⟨L, p', ⟨by omega, h.2⟩, K1 + K2, fun k hk => ?_⟩
  try dsimp only
  try dsimp only
  unfold spec_l14Nums.f
  rw [hK1 k (by omega), Option.bind_some]
  exact hK2 k (by omega)
theorem drawRunPut_ev {b : List Int} (hb : ∀ x ∈ b, (Lit.int .u8 x).wf = true) : ∃ (L : List Int) (size : Int), L.length ≤ 301 ∧ Ev (fun k => spec_DrawRunPut.f k b) (L, size) := by
  have hc := code_open hb
  obtain ⟨z, hz, K1, hK1⟩ := pick_ev hc (p := 0) (n := 4) (by omega) (by omega)
  try dsimp only at hK1
  try dsimp only at hK1
  obtain ⟨L, p, hL, K2, hK2⟩ := l14Nums_ev hc 200 (by omega) (p := 0 + 1) (by omega)
  try dsimp only at hK2
  try dsimp only at hK2
  obtain ⟨v, hv, K3, hK3⟩ := pick_ev hc (p := p) (n := 16) (by omega) (by omega)
  try dsimp only at hK3
  try dsimp only at hK3
  obtain ⟨u, hu, K4, hK4⟩ := pick_ev hc (p := p + 1) (n := 2) (by omega) (by omega)
  try dsimp only at hK4
  try dsimp only at hK4
  obtain ⟨K5, hK5⟩ := l1Pow_evI (8 * (1 + z)) (by omega) (by omega)
  try dsimp only at hK5
  try dsimp only at hK5
  by_cases h0 : v = 0
  · refine ⟨L, rd [0, 5] u, by omega, K1 + K2 + K3 + K4 + K5, fun k hk => ?_⟩
    try dsimp only
    try dsimp only
    unfold spec_DrawRunPut.f
    rw [l1Open_f, Option.bind_some]
    try dsimp only
    rw [hK1 k (by omega), Option.bind_some]
    try dsimp only
    rw [hK2 k (by omega), Option.bind_some]
    try dsimp only
    rw [hK3 k (by omega), Option.bind_some]
    try dsimp only
    rw [if_pos h0, Option.bind_some, hK4 k (by omega), Option.bind_some]
    try dsimp only
    rw [if_pos (by omega), if_pos (by simp; omega)]
  · by_cases h1 : v = 1
    · refine ⟨L ++ [rd [-1, P2 (8 * (1 + z)).toNat] u], 1 + z, by rw [List.length_append, List.length_singleton]; omega, K1 + K2 + K3 + K4 + K5, fun k hk => ?_⟩
      try dsimp only
      try dsimp only
      unfold spec_DrawRunPut.f
      rw [l1Open_f, Option.bind_some]
      try dsimp only
      rw [hK1 k (by omega), Option.bind_some]
      try dsimp only
      rw [hK2 k (by omega), Option.bind_some]
      try dsimp only
      rw [hK3 k (by omega), Option.bind_some]
      try dsimp only
      rw [if_neg h0, if_pos h1, w64 (x := 1 + z) (by omega), w64 (by omega), hK5 k (by omega), Option.bind_some, Option.bind_some, hK4 k (by omega), Option.bind_some]
      try dsimp only
      rw [if_pos (by omega), if_pos (by simp; omega), if_pos (by omega)]
    · refine ⟨L, 1 + z, by omega, K1 + K2 + K3 + K4 + K5, fun k hk => ?_⟩
      try dsimp only
      try dsimp only
      unfold spec_DrawRunPut.f
      rw [l1Open_f, Option.bind_some]
      try dsimp only
      rw [hK1 k (by omega), Option.bind_some]
      try dsimp only
      rw [hK2 k (by omega), Option.bind_some]
      try dsimp only
      rw [hK3 k (by omega), Option.bind_some]
      try dsimp only
      rw [if_neg h0, if_neg h1, w64 (by omega)]
theorem l14Bend_ev {b : List Int} (hb : Code b) {p : Int} (hp : 0 ≤ p ∧ p ≤ 1000000000) (s : ByteArray) (hs : s.size ≤ 100000) : ∃ (s' : ByteArray) (p' : Int), (s'.size = s.size ∧ p ≤ p' ∧ p' ≤ p + 2) ∧ Ev (fun k => spec_l14Bend.f k b p s) (s', p') := by
  by_cases h : s.toList = ([] : List UInt8)
  · refine ⟨s, p, by omega, 0, fun k hk => ?_⟩
    try dsimp only
    try dsimp only
    unfold spec_l14Bend.f
    rw [if_pos h]
  · have hbl := bytesOf_length s
    have hne : s.size ≠ 0 := by
      intro e0
      apply h
      rw [byte_toList]
      exact List.eq_nil_of_length_eq_zero (by rw [data_length]; exact e0)
    obtain ⟨v, hv, K1, hK1⟩ := pick_ev hb (p := p) (n := ((bytesOf s).length : Int)) (by omega) (by omega)
    try dsimp only at hK1
    try dsimp only at hK1
    obtain ⟨u, hu, K2, hK2⟩ := pick_ev hb (p := p + 1) (n := 255) (by omega) (by omega)
    try dsimp only at hK2
    try dsimp only at hK2
    refine ⟨strOfNums ((bytesOf s).set v.toNat (Go.bits .xor .u8 (rd (bytesOf s) v) ((wrap64 (1 + u)) % 256))), p + 1 + 1, ⟨?_, by omega, by omega⟩, K1 + K2, fun k hk => ?_⟩
    try dsimp only
    rotate_left
    · dsimp only
      unfold spec_l14Bend.f
      rw [if_neg h, if_pos (by omega), Option.bind_some, hK1 k (by omega), Option.bind_some]
      try dsimp only
      rw [if_pos (by omega), if_pos (by omega), hK2 k (by omega), Option.bind_some]
    · rw [strOfNums_size, List.length_set, hbl]

theorem runPutM_size (L : List Int) (size : Int) (hl : L.length ≤ 301) : (runPutM L size).size ≤ 2000 := by
  unfold runPutM
  split
  · rename_i hok
    have hh := of_decide_eq_true hok
    have hlen := (rpM_length L size.toNat (by omega) L.length 0 L.length (by omega) (by omega) (by omega)).1
    have hm4 : size.toNat * L.length ≤ 4 * 301 := Nat.mul_le_mul (by omega) hl
    rw [strOfNums_size]; omega
  · show 0 ≤ 2000; omega
theorem drawRunGet_ev {b : List Int} (hb : ∀ x ∈ b, (Lit.int .u8 x).wf = true) : ∃ (s : ByteArray) (at_ size count : Int), s.size ≤ 2001 ∧ Ev (fun k => spec_DrawRunGet.f k b) (s, at_, size, count) := by
  have hc := code_open hb
  obtain ⟨L, size, hL, K1, hK1⟩ := drawRunPut_ev hb
  try dsimp only at hK1
  try dsimp only at hK1
  obtain ⟨K2, hK2⟩ := spec_RunPut_ev L size
  try dsimp only at hK2
  have hsz := runPutM_size L size hL
  generalize runPutM L size = s at hK2 hsz
  obtain ⟨v, hv, K3, hK3⟩ := pick_ev hc (p := 0) (n := 6) (by omega) (by omega)
  try dsimp only at hK3
  try dsimp only at hK3
  rcases (show v = 0 ∨ v = 1 ∨ v = 2 ∨ v = 3 ∨ 4 ≤ v by omega) with rfl | rfl | rfl | rfl | h4
  · obtain ⟨s', p', hs', K4, hK4⟩ := l14Bend_ev hc (p := 0 + 1) (by omega) s (by omega)
    try dsimp only at hK4
    obtain ⟨u, hu, K5, hK5⟩ := pick_ev hc (p := p') (n := 7) (by omega) (by omega)
    try dsimp only at hK5
    try dsimp only at hK5
    refine ⟨s', rd [0, 0, 0, 0, 0, -1, wrap64 ((s'.size : Int) + 1)] u, size, (L.length : Int), by omega, K1 + K2 + K3 + K4 + K5, fun k hk => ?_⟩
    try dsimp only
    try dsimp only
    unfold spec_DrawRunGet.f
    rw [l1Open_f, Option.bind_some]
    try dsimp only
    rw [hK1 k (by omega), Option.bind_some]
    try dsimp only
    rw [hK2 k (by omega), Option.bind_some, hK3 k (by omega), Option.bind_some]
    try dsimp only
    rw [if_pos rfl, hK4 k (by omega), Option.bind_some]
    try dsimp only
    rw [Option.bind_some, hK5 k (by omega), Option.bind_some]
    try dsimp only
    rw [if_pos (by omega), if_pos (by simp; omega)]
  · obtain ⟨g, hg, K4, hK4⟩ := pick_ev hc (p := 0 + 1) (n := 3) (by omega) (by omega)
    try dsimp only at hK4
    try dsimp only at hK4
    obtain ⟨u, hu, K5, hK5⟩ := pick_ev hc (p := 0 + 1 + 1) (n := 7) (by omega) (by omega)
    try dsimp only at hK5
    try dsimp only at hK5
    refine ⟨s, rd [0, 0, 0, 0, 0, -1, wrap64 ((s.size : Int) + 1)] u, size, wrap64 ((wrap64 ((L.length : Int) + g)) - 1), by omega, K1 + K2 + K3 + K4 + K5, fun k hk => ?_⟩
    try dsimp only
    try dsimp only
    unfold spec_DrawRunGet.f
    rw [l1Open_f, Option.bind_some]
    try dsimp only
    rw [hK1 k (by omega), Option.bind_some]
    try dsimp only
    rw [hK2 k (by omega), Option.bind_some, hK3 k (by omega), Option.bind_some]
    try dsimp only
    rw [if_neg (by decide), if_pos rfl, hK4 k (by omega), Option.bind_some]
    try dsimp only
    rw [Option.bind_some, hK5 k (by omega), Option.bind_some]
    try dsimp only
    rw [if_pos (by omega), if_pos (by simp; omega)]
  · refine ⟨(⟨#[120]⟩ : ByteArray) ++ s, 1, size, (L.length : Int), by rw [ByteArray.size_append, show (⟨#[120]⟩ : ByteArray).size = 1 from rfl]; omega, K1 + K2 + K3, fun k hk => ?_⟩
    try dsimp only
    try dsimp only
    unfold spec_DrawRunGet.f
    rw [l1Open_f, Option.bind_some]
    try dsimp only
    rw [hK1 k (by omega), Option.bind_some]
    try dsimp only
    rw [hK2 k (by omega), Option.bind_some, hK3 k (by omega), Option.bind_some]
    try dsimp only
    rw [if_neg (by decide), if_neg (by decide), if_pos rfl, if_pos (by omega)]
  · obtain ⟨g, hg, K4, hK4⟩ := pick_ev hc (p := 0 + 1) (n := (s.size : Int) + 1) (by omega) (by omega)
    try dsimp only at hK4
    try dsimp only at hK4
    obtain ⟨u, hu, K5, hK5⟩ := pick_ev hc (p := 0 + 1 + 1) (n := 7) (by omega) (by omega)
    try dsimp only at hK5
    try dsimp only at hK5
    refine ⟨s.extract 0 g.toNat, rd [0, 0, 0, 0, 0, -1, wrap64 (((s.extract 0 g.toNat).size : Int) + 1)] u, size, (L.length : Int), by rw [ByteArray.size_extract]; omega, K1 + K2 + K3 + K4 + K5, fun k hk => ?_⟩
    try dsimp only
    try dsimp only
    unfold spec_DrawRunGet.f
    rw [l1Open_f, Option.bind_some]
    try dsimp only
    rw [hK1 k (by omega), Option.bind_some]
    try dsimp only
    rw [hK2 k (by omega), Option.bind_some, hK3 k (by omega), Option.bind_some]
    try dsimp only
    rw [if_neg (by decide), if_neg (by decide), if_neg (by decide), if_pos rfl, w64 (x := (s.size : Int) + 1) (by omega), hK4 k (by omega), Option.bind_some]
    try dsimp only
    rw [if_pos (by omega), if_pos (by omega), Option.bind_some, hK5 k (by omega), Option.bind_some]
    try dsimp only
    rw [if_pos (by omega), if_pos (by simp; omega)]
  · obtain ⟨u, hu, K5, hK5⟩ := pick_ev hc (p := 0 + 1) (n := 7) (by omega) (by omega)
    try dsimp only at hK5
    try dsimp only at hK5
    refine ⟨s, rd [0, 0, 0, 0, 0, -1, wrap64 ((s.size : Int) + 1)] u, size, (L.length : Int), by omega, K1 + K2 + K3 + K5, fun k hk => ?_⟩
    try dsimp only
    try dsimp only
    unfold spec_DrawRunGet.f
    rw [l1Open_f, Option.bind_some]
    try dsimp only
    rw [hK1 k (by omega), Option.bind_some]
    try dsimp only
    rw [hK2 k (by omega), Option.bind_some, hK3 k (by omega), Option.bind_some]
    try dsimp only
    rw [if_neg (by omega), if_neg (by omega), if_neg (by omega), if_neg (by omega), Option.bind_some, hK5 k (by omega), Option.bind_some]
    try dsimp only
    rw [if_pos (by omega), if_pos (by simp; omega)]
theorem law_l0_ev (s : ByteArray) (at_ size : Int) (c : Nat) (o : List Int) (e : Int) (h : runGetM s at_ size (c : Int) = (o, e, true)) : ∀ d i : Nat, i + d = c + 1 → Ev (fun k => laws_FnRunGet.l0 k s at_ size (c : Int) o e (i : Int)) true := by
  have hok := runGetM_ok s at_ size c o e h
  intro d
  induction d with
  | zero =>
    intro i hi
    refine ⟨1, fun k hk => ?_⟩
    try dsimp only
    obtain ⟨m, rfl⟩ : ∃ m, k = m + 1 := ⟨k - 1, by omega⟩
    rw [laws_FnRunGet.l0, if_neg (by omega), if_pos hok.1, decide_eq_true hok.2.1]
  | succ d ih =>
    intro i hi
    obtain ⟨K, hK⟩ := ih (i + 1) (by omega)
    try dsimp only at hK
    obtain ⟨K1, hK1⟩ := impl_RunGet_ev s at_ size (i : Int)
    try dsimp only at hK1
    obtain ⟨K2, hK2⟩ := wiInts_ev (o.take i) (by rw [List.length_take]; omega)
    try dsimp only at hK2
    refine ⟨K + K1 + K2 + 1, fun k hk => ?_⟩
    try dsimp only
    obtain ⟨m, rfl⟩ : ∃ m, k = m + 1 := ⟨k - 1, by omega⟩
    have hm := hK m (by omega)
    rw [show ((i + 1 : Nat) : Int) = (i : Int) + 1 by omega] at hm
    rw [laws_FnRunGet.l0, if_pos (by omega), hK1 m (by omega), Option.bind_some]
    by_cases hb : (runGetM s at_ size (i : Int)).2.2 = true
    · have hcut := runGetM_cut s at_ size c i (by omega) (by omega) o _ e _ h (show runGetM s at_ size (i : Int) = ((runGetM s at_ size (i : Int)).1, (runGetM s at_ size (i : Int)).2.1, true) by rw [← hb])
      rw [Int.toNat_natCast] at hcut
      rw [if_pos hb, if_pos (by omega), if_pos (by omega), Int.toNat_natCast, hcut.1, hK2 m (by omega), Option.bind_some, if_pos rfl, if_neg (by omega), w64 (by omega)]
      exact hm
    · rw [if_neg hb, w64 (by omega)]
      exact hm
theorem FnRunGet : laws_FnRunGet.Pure := by
  intro l hl hl1 hw
  unfold laws_FnRunGet.f
  by_cases h : (l.length : Int) > 1048576
  · exact ⟨0, by rw [if_pos h]⟩
  obtain ⟨s, at_, size, count, hs, K1, hK1⟩ := drawRunGet_ev hw
  try dsimp only at hK1
  try dsimp only at hK1
  obtain ⟨K2, hK2⟩ := impl_RunGet_ev s at_ size count
  try dsimp only at hK2
  obtain ⟨K3, hK3⟩ := spec_RunGet_ev s at_ size count
  try dsimp only at hK3
  have hlen := runGetM_length s at_ size count
  obtain ⟨K4, hK4⟩ := wiInts_ev (runGetM s at_ size count).1 (by omega)
  try dsimp only at hK4
  by_cases hb : (runGetM s at_ size count).2.2 = true
  · have e1 : runGetM s at_ size count = ((runGetM s at_ size count).1, (runGetM s at_ size count).2.1, true) := by rw [← hb]
    have hok := runGetM_ok s at_ size count _ _ e1
    obtain ⟨c, hc⟩ : ∃ c : Nat, count = (c : Int) := ⟨count.toNat, by omega⟩
    subst hc
    obtain ⟨K5, hK5⟩ := law_l0_ev s at_ size c _ _ e1 (c + 1) 0 (by omega)
    try dsimp only at hK5
    refine ⟨K1 + K2 + K3 + K4 + K5 + 1, ?_⟩
    rw [if_neg h, hK1 _ (by omega), Option.bind_some]
    try dsimp only
    rw [hK2 _ (by omega), Option.bind_some, hK3 _ (by omega), Option.bind_some, hK4 _ (by omega), Option.bind_some, if_pos rfl, if_pos rfl, bne_self_eq_false, laws_FnRunGet.j0, if_neg (by decide), if_pos hb]
    exact hK5 _ (by omega)
  · have e1 := runGetM_bad s at_ size count (by simpa using hb)
    refine ⟨K1 + K2 + K3 + K4 + 1, ?_⟩
    rw [if_neg h, hK1 _ (by omega), Option.bind_some]
    try dsimp only
    rw [hK2 _ (by omega), Option.bind_some, hK3 _ (by omega), Option.bind_some, hK4 _ (by omega), Option.bind_some, if_pos rfl, if_pos rfl, bne_self_eq_false, laws_FnRunGet.j0, if_neg (by decide), e1]
    rw [if_neg (by decide)]
    simp

end Go.Proofs.Ytfladcffgblfdaa.Pure
