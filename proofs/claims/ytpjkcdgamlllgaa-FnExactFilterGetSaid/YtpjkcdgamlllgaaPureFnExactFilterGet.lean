/- The program's FilterGet and the reference's answer the same, at every kind, row, row above and step (rows of more than 1048576 bytes are let by). -/
import Derived.Test.YtpjkcdgamlllgaaHFnExactFilterGetx2
import Derived.Test.YtpjkcdgamlllgaaThNum
import Derived.Test.YtpjkcdgamlllgaaThFilt
namespace Go.Proofs.Ytpjkcdgamlllgaa.Pure
open Go.RowKit Go.Proofs.Ytpjkcdgamlllgaa.PFnExactFilterGet Go.Proofs.YtpjkcdgamlllgaaW.PrintWords Go.Proofs.YtpjkcdgamlllgaaW.PrintLast Go.Proofs.YtpjkcdgamlllgaaW.PrintMore Go.Proofs.Ytpjkcdgamlllgaa.Th
set_option linter.unusedVariables false
set_option linter.unusedSimpArgs false

theorem in_f (a b c : Int) : impl_in.f a b c = some (decide (b ≤ a ∧ a ≤ c)) := by
  unfold impl_in.f
  by_cases h : b ≤ a
  · rw [if_pos h]; simp [h]
  · rw [if_neg h]; simp [h]

theorem l1In_f (a b c : Int) : spec_l1In.f a b c = some (decide (b ≤ a ∧ a ≤ c)) := by
  unfold spec_l1In.f
  by_cases h : b ≤ a
  · rw [if_pos h]; simp [h]
  · rw [if_neg h]; simp [h]

theorem l9Filters_f (kind : Int) (row above : ByteArray) (step : Int) : spec_l9Filters.f kind row above step = some (filtOk kind row above step) := by
  unfold spec_l9Filters.f filtOk
  simp only [l1In_f, Option.bind_some, decide_eq_true_eq]
  by_cases h1 : 0 ≤ kind ∧ kind ≤ 4
  · by_cases h2 : 1 ≤ step ∧ step ≤ 4
    · by_cases h3 : row.size ≤ 1000
      · by_cases h4 : above.toList = []
        · rw [if_pos h1, if_pos h2, if_pos (by omega), if_pos h4, decide_eq_true ⟨h1, h2, h3, .inl h4⟩]
        · rw [if_pos h1, if_pos h2, if_pos (by omega), if_neg h4]
          congr 1; rw [Bool.eq_iff_iff]; simp [h1, h2, h3, h4]; omega
      · rw [if_pos h1, if_pos h2, if_neg (by omega), decide_eq_false (fun h => h3 h.2.2.1)]
    · rw [if_pos h1, if_neg h2, decide_eq_false (fun h => h2 h.2.1)]
  · rw [if_neg h1, decide_eq_false (fun h => h1 h.1)]
theorem filterOk_f (kind : Int) (row above : ByteArray) (step : Int) : impl_filterOk.f kind row above step = some (filtOk kind row above step) := by
  unfold impl_filterOk.f filtOk
  simp only [in_f, Option.bind_some, decide_eq_true_eq]
  by_cases h1 : 0 ≤ kind ∧ kind ≤ 4
  · by_cases h2 : 1 ≤ step ∧ step ≤ 4
    · by_cases h3 : row.size ≤ 1000
      · by_cases h4 : above.toList = []
        · rw [if_pos h1, if_pos h2, if_pos (by omega), if_pos h4, decide_eq_true ⟨h1, h2, h3, .inl h4⟩]
        · rw [if_pos h1, if_pos h2, if_pos (by omega), if_neg h4]
          congr 1; rw [Bool.eq_iff_iff]; simp [h1, h2, h3, h4]; omega
      · rw [if_pos h1, if_pos h2, if_neg (by omega), decide_eq_false (fun h => h3 h.2.2.1)]
    · rw [if_pos h1, if_neg h2, decide_eq_false (fun h => h2 h.2.1)]
  · rw [if_neg h1, decide_eq_false (fun h => h1 h.1)]
theorem l9Byte_f (s : ByteArray) (i : Int) (hs : s.size ≤ 140737488351232) : spec_l9Byte.f s i = some (byteM s i) := by
  have hb := bt_range s i
  unfold spec_l9Byte.f byteM
  simp only [l1In_f, Option.bind_some, decide_eq_true_eq]
  rw [w64 (by omega)]
  by_cases h : 0 ≤ i ∧ i < s.size
  · rw [if_pos (by omega), if_pos (by omega), if_pos (by omega), if_pos h, w64 (by omega)]
  · rw [if_neg (by omega), if_neg h]
theorem byteAt_string_f (s : ByteArray) (i : Int) (hs : s.size ≤ 140737488351232) : impl_byteAt_string.f s i = some (byteM s i) := by
  have hb := bt_range s i
  unfold impl_byteAt_string.f byteM
  simp only [in_f, Option.bind_some, decide_eq_true_eq]
  rw [w64 (by omega)]
  by_cases h : 0 ≤ i ∧ i < s.size
  · rw [if_pos (by omega), if_pos (by omega), if_pos (by omega), if_pos h, w64 (by omega)]
  · rw [if_neg (by omega), if_neg h]
theorem l9Abs_f {x : Int} (h : -100000 ≤ x ∧ x ≤ 100000) : spec_l9Abs.f x = some (ab x) := by
  unfold spec_l9Abs.f ab
  split
  · rw [w64 (by omega)]
  · rfl
theorem far_f {x : Int} (h : -100000 ≤ x ∧ x ≤ 100000) : impl_far.f x = some (ab x) := by
  unfold impl_far.f ab
  rw [w64 (by omega)]
  unfold mx
  congr 1
  split <;> split <;> omega
theorem l9Near_f {a b c : Int} (ha : 0 ≤ a ∧ a ≤ 255) (hb : 0 ≤ b ∧ b ≤ 255) (hc : 0 ≤ c ∧ c ≤ 255) (k : Nat) : spec_l9Near.f (k + 1) a b c = some (nearM a b c) := by
  unfold spec_l9Near.f nearM
  simp (disch := omega) only [w64, l9Abs_f, Option.bind_some, spec_l9Near.j0]
  by_cases h : ab (a + b - c - a) ≤ ab (a + b - c - b)
  · by_cases h2 : ab (a + b - c - a) ≤ ab (a + b - c - c)
    · rw [if_pos h, if_pos (decide_eq_true h2), if_pos ⟨h, h2⟩]
    · rw [if_pos h, if_neg (by simpa using h2), if_neg (show ¬ (ab (a + b - c - a) ≤ ab (a + b - c - b) ∧ ab (a + b - c - a) ≤ ab (a + b - c - c)) from fun e => h2 e.2)]; split <;> rfl
  · rw [if_neg h, if_neg (by simp), if_neg (show ¬ (ab (a + b - c - a) ≤ ab (a + b - c - b) ∧ ab (a + b - c - a) ≤ ab (a + b - c - c)) from fun e => h e.1)]; split <;> rfl
theorem l9Beside_f {kind a b c : Int} (ha : 0 ≤ a ∧ a ≤ 255) (hb : 0 ≤ b ∧ b ≤ 255) (hc : 0 ≤ c ∧ c ≤ 255) (k : Nat) : spec_l9Beside.f (k + 1) kind a b c = some (guessM kind a b c) := by
  unfold spec_l9Beside.f guessM
  rw [l9Near_f ha hb hc, w64 (x := a + b) (by omega), tdiv_pos (by omega), w64 (by omega)]
  repeat' split
  all_goals first | rfl | contradiction
theorem guess_f {kind a b c : Int} (ha : 0 ≤ a ∧ a ≤ 255) (hb : 0 ≤ b ∧ b ≤ 255) (hc : 0 ≤ c ∧ c ≤ 255) (k : Nat) : impl_guess.f (k + 3) kind a b c = some (guessM kind a b c) := by
  have h0 : rd [b, c] 0 = b := rfl
  have h1 : rd [b, c] 1 = c := rfl
  have hl : (([b, c] : List Int).length : Int) = 2 := rfl
  have hg : impl_guess.l0 (k + 3) a b c a [b, c] 2 0 = some (nearM a b c) := by
    have e1 : wrap64 ((0 : Int) + 1) = 1 := w64 (by omega)
    have e2 : wrap64 ((1 : Int) + 1) = 2 := w64 (by omega)
    rw [impl_guess.l0, if_pos (by omega), if_pos (by omega), if_pos (by rw [hl]; omega), h0]
    simp (disch := omega) only [w64, far_f, Option.bind_some]
    unfold nearM
    by_cases t1 : ab (a + b - c - b) < ab (a + b - c - a)
    · rw [if_pos t1, impl_guess.l0, if_pos (by omega), if_pos (by omega), if_pos (by rw [hl]; omega)]
      simp (disch := omega) only [w64, far_f, Option.bind_some, h1]
      rw [show (0 : Int) + 1 = 1 from rfl, h1]
      by_cases t2 : ab (a + b - c - c) < ab (a + b - c - b)
      · simp (disch := omega) only [w64, far_f, Option.bind_some]
        rw [if_pos t2, impl_guess.l0, if_neg (by omega), if_neg (by omega), if_neg (by omega)]
      · simp (disch := omega) only [w64, far_f, Option.bind_some]
        rw [if_neg t2, impl_guess.l0, if_neg (by omega), if_neg (by omega), if_pos (by omega)]
    · rw [if_neg t1, impl_guess.l0, if_pos (by omega), if_pos (by omega), if_pos (by rw [hl]; omega)]
      rw [show (0 : Int) + 1 = 1 from rfl, h1]
      simp (disch := omega) only [w64, far_f, Option.bind_some]
      by_cases t2 : ab (a + b - c - c) < ab (a + b - c - a)
      · rw [if_pos t2, impl_guess.l0, if_neg (by omega), if_neg (by omega)]
        rw [if_neg (by omega)]
      · rw [if_neg t2, impl_guess.l0, if_neg (by omega), if_pos (by omega)]
  unfold impl_guess.f guessM
  simp only [Option.bind_some, hl]
  rw [hg, w64 (x := a + b) (by omega), tdiv_pos (by omega), w64 (by omega)]
  repeat' split
  all_goals first | rfl | contradiction

theorem byteAt_byte_f (xs : List Int) (h : ∀ x ∈ xs, 0 ≤ x ∧ x ≤ 255) (i : Int) (hs : xs.length ≤ 140737488351232) : impl_byteAt_byte.f xs i = some (byteL xs i) := by
  have hb := byteL_b h i
  unfold impl_byteAt_byte.f
  simp only [in_f, Option.bind_some, decide_eq_true_eq]
  rw [w64 (x := (xs.length : Int) - 1) (by omega)]
  unfold byteL at hb ⊢
  by_cases h : 0 ≤ i ∧ i < xs.length
  · rw [if_pos h] at hb
    rw [if_pos (by omega), if_pos (by omega), if_pos (by omega), if_pos h, w64 (by omega)]
  · rw [if_neg (by omega), if_neg h]
theorem l9Get_l0_ev (kind : Int) (row above : ByteArray) (step : Int) (hr : row.size ≤ 1000) (ha : above.size ≤ 1048576) (hst : 1 ≤ step ∧ step ≤ 4) : ∀ d n : Nat, n + d = row.size → Ev (fun k => spec_l9Get.l0 k kind row above step (getL kind row above step n) (n : Int)) (strOfNums (getL kind row above step row.size)) := by
  intro d
  induction d with
  | zero =>
    intro n hn
    refine ⟨1, fun k hk => ?_⟩
    try dsimp only
    obtain ⟨m, rfl⟩ : ∃ m, k = m + 1 := ⟨k - 1, by omega⟩
    rw [spec_l9Get.l0, if_neg (by omega), show n = row.size by omega]
  | succ d ih =>
    intro n hn
    obtain ⟨K, hK⟩ := ih (n + 1) (by omega)
    try dsimp only at hK
    refine ⟨K + 2, fun k hk => ?_⟩
    try dsimp only
    obtain ⟨m, rfl⟩ : ∃ m, k = m + 2 := ⟨k - 2, by omega⟩
    have hm := hK (m + 1) (by omega)
    have hb := bt_range row n
    have hl := getL_length kind row above step n
    have hgb := getL_b kind row above step n
    have hg := guessM_b (kind := kind) (byteL_b hgb (n - step)) (byteM_b above n) (byteM_b above (n - step))
    rw [spec_l9Get.l0, if_pos (by omega), if_pos (by omega), w64 (x := (n : Int) - step) (by omega)]
    simp only [l9Byte_f (strOfNums (getL kind row above step n)) _ (by rw [strOfNums_size, hl]; omega), byteM_son hgb, l9Byte_f above _ (show above.size ≤ 140737488351232 by omega), Option.bind_some, l9Beside_f (byteL_b hgb (n - step)) (byteM_b above n) (byteM_b above (n - step))]
    rw [if_pos (by omega), w64 (x := bt row n) (by omega), w64 (x := bt row n + _) (by omega), tmod_pos (by omega), w64 (by omega)]
    simp only [getL] at hm
    rw [show ((n + 1 : Nat) : Int) = (n : Int) + 1 by omega] at hm
    have e : ∀ x : Int, x % 256 % 256 = x % 256 := by intro x; omega
    rw [e]
    exact hm
theorem impl_FilterGet_l0_ev (kind : Int) (row above : ByteArray) (step : Int) (hr : row.size ≤ 1000) (ha : above.size ≤ 1048576) (hst : 1 ≤ step ∧ step ≤ 4) : ∀ d n : Nat, n + d = row.size → Ev (fun k => impl_FilterGet.l0 k kind row above step (getL kind row above step n ++ List.replicate d 0) (row.size : Int) (n : Int)) (strOfNums (getL kind row above step row.size)) := by
  intro d
  induction d with
  | zero =>
    intro n hn
    refine ⟨1, fun k hk => ?_⟩
    try dsimp only
    obtain ⟨m, rfl⟩ : ∃ m, k = m + 1 := ⟨k - 1, by omega⟩
    rw [impl_FilterGet.l0, if_neg (by omega), show n = row.size by omega]
    simp
  | succ d ih =>
    intro n hn
    obtain ⟨K, hK⟩ := ih (n + 1) (by omega)
    try dsimp only at hK
    refine ⟨K + 4, fun k hk => ?_⟩
    try dsimp only
    obtain ⟨m, rfl⟩ : ∃ m, k = m + 4 := ⟨k - 4, by omega⟩
    have hm := hK (m + 3) (by omega)
    have hb := bt_range row n
    have hl := getL_length kind row above step n
    have hgb := getL_b kind row above step n
    have hgb2 : ∀ x ∈ getL kind row above step n ++ List.replicate (d + 1) 0, 0 ≤ x ∧ x ≤ 255 := by
      intro x hx
      rcases List.mem_append.1 hx with hx | hx
      · exact hgb x hx
      · rw [(List.mem_replicate.1 hx).2]; omega
    have hbl : byteL (getL kind row above step n ++ List.replicate (d + 1) 0) ((n : Int) - step) = byteL (getL kind row above step n) ((n : Int) - step) := by
      unfold byteL
      by_cases h : 0 ≤ (n : Int) - step
      · rw [if_pos (by simp [hl]; omega), if_pos (by omega), rd_left _ _ _ h (by omega)]
      · rw [if_neg (by omega), if_neg (by omega)]
    rw [impl_FilterGet.l0, if_pos (by omega), if_pos (by omega), if_pos (by omega), w64 (x := (n : Int) - step) (by omega)]
    simp only [byteAt_byte_f _ hgb2 _ (by simp [hl]; omega), hbl, byteAt_string_f above _ (show above.size ≤ 140737488351232 by omega), Option.bind_some, guess_f (byteL_b hgb (n - step)) (byteM_b above n) (byteM_b above (n - step))]
    rw [if_pos (by simp [hl]; omega), Int.toNat_natCast, List.replicate_succ, set_at _ _ _ _ (by rw [hl]), w64 (by omega)]
    simp only [getL, List.append_assoc, List.singleton_append] at hm
    rw [show ((n + 1 : Nat) : Int) = (n : Int) + 1 by omega] at hm
    have e : ∀ x y : Int, (x + y % 256) % 256 = (x + y) % 256 := by intro x y; omega
    rw [e]
    exact hm
def filterGetM (kind : Int) (row above : ByteArray) (step : Int) : ByteArray := if filtOk kind row above step = true then strOfNums (getL kind row above step row.size) else ⟨#[]⟩
theorem spec_FilterGet_ev (kind : Int) (row above : ByteArray) (step : Int) (ha : above.size ≤ 1048576) : Ev (fun k => spec_FilterGet.f k kind row above step) (filterGetM kind row above step) := by
  unfold spec_FilterGet.f filterGetM
  simp only [l9Filters_f, Option.bind_some]
  by_cases h : filtOk kind row above step = true
  · have hh := of_decide_eq_true h
    obtain ⟨K, hK⟩ := l9Get_l0_ev kind row above step hh.2.2.1 ha hh.2.1 row.size 0 (by omega)
    try dsimp only at hK
    refine ⟨K, fun k hk => ?_⟩
    try dsimp only
    rw [if_pos h, if_pos h]
    have := hK k hk
    unfold spec_l9Get.f
    simp only [getL] at this
    rw [show ((0 : Nat) : Int) = 0 from rfl] at this
    rw [this]; rfl
  · refine ⟨0, fun k hk => ?_⟩
    try dsimp only
    rw [if_neg h, if_neg h]
theorem impl_FilterGet_ev (kind : Int) (row above : ByteArray) (step : Int) (ha : above.size ≤ 1048576) : Ev (fun k => impl_FilterGet.f k kind row above step) (filterGetM kind row above step) := by
  unfold impl_FilterGet.f filterGetM
  simp only [filterOk_f, Option.bind_some]
  by_cases h : filtOk kind row above step = true
  · have hh := of_decide_eq_true h
    obtain ⟨K, hK⟩ := impl_FilterGet_l0_ev kind row above step hh.2.2.1 ha hh.2.1 row.size 0 (by omega)
    try dsimp only at hK
    refine ⟨K, fun k hk => ?_⟩
    try dsimp only
    have := hK k hk
    simp only [getL, List.nil_append] at this
    rw [show ((0 : Nat) : Int) = 0 from rfl] at this
    rw [if_pos h, if_pos h, if_pos (by omega), if_pos (by have := hh.2.2.1; omega), List.length_replicate, Int.toNat_natCast]
    exact this
  · refine ⟨0, fun k hk => ?_⟩
    try dsimp only
    rw [if_neg h, if_neg h]

theorem FnExactFilterGet : laws_FnExactFilterGet.Pure := by
  intro kind row above step w1 hs hs2 w2
  unfold laws_FnExactFilterGet.f
  by_cases h : (row.size : Int) > 1048576
  · exact ⟨0, by rw [if_pos h]⟩
  by_cases h' : (above.size : Int) > 1048576
  · exact ⟨0, by rw [if_neg h, if_pos h']⟩
  obtain ⟨K1, h1⟩ := spec_FilterGet_ev kind row above step (by omega)
  try dsimp only at h1
  obtain ⟨K2, h2⟩ := impl_FilterGet_ev kind row above step (by omega)
  try dsimp only at h2
  refine ⟨K1 + K2, ?_⟩
  rw [if_neg h, if_neg h', h1 _ (by omega), h2 _ (by omega)]
  simp

end Go.Proofs.Ytpjkcdgamlllgaa.Pure
