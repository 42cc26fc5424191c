/- Plain lemmas: a text packed in runs. No condition. -/
import Derived.Test.YtfladcffgblfdaaThSame
import Derived.Test.YtfladcffgblfdaaThNumGP
namespace Go.Proofs.Ytfladcffgblfdaa.Th
open Go.RowKit Go.Proofs.YtfladcffgblfdaaW.PrintWords Go.Proofs.YtfladcffgblfdaaW.PrintMore

theorem extract_son (s : ByteArray) (a b : Nat) : s.extract a b = strOfNums (((bytesOf s).drop a).take (b - a)) := by
  rw [← bytesOf_extract, son_bytesOf]
/-- A piece, packed. -/
def ppP (L : List Int) (at_ : Int) : List Int :=
  if (cutM L at_ 3).2 = true then [257 - (cutM L at_ 3).1, rd L at_] else ((cutM L at_ 3).1 - 1) :: (L.drop at_.toNat).take (cutM L at_ 3).1.toNat
def ppM (L : List Int) : Nat → Int → List Int
  | 0, _ => []
  | f + 1, at_ => if at_ < L.length then ppP L at_ ++ ppM L f (at_ + (cutM L at_ 3).1) else []
def packM (s : ByteArray) : ByteArray := if s.size > 5000 then ⟨#[]⟩ else strOfNums (ppM (bytesOf s) s.size 0)
theorem ppP_length (L : List Int) (at_ : Int) (h0 : 0 ≤ at_) (h : at_ < L.length) : (ppP L at_).length ≤ 130 := by
  have hc := cutM_b L at_ 3 h0 h (by omega)
  unfold ppP
  split
  · simp
  · rw [List.length_cons, List.length_take]; omega
theorem cut_next3 (L : List Int) (at_ : Int) (h : at_ < L.length) (c : ¬ (cutM L at_ 3).2 = true) (hn : (cutM L at_ 3).1 < 128) (hl : at_ + (cutM L at_ 3).1 < L.length) : (cutM L (at_ + (cutM L at_ 3).1) 3).2 = true := by
  have h2 := otM_b L at_ 3 h
  have e : cutM L at_ 3 = (otM L at_ 3, false) := by
    unfold cutM at c ⊢
    split
    · rename_i hs; rw [if_pos hs] at c; exact absurd rfl c
    · rfl
  rw [e] at hn hl ⊢
  have h3 := of_decide_eq_false h2.2.2.2
  dsimp only at hn hl ⊢
  unfold cutM
  rw [if_pos (by omega)]
/-- How long it is. -/
theorem ppM_length (L : List Int) : ∀ (f : Nat) (at_ : Int) (rest : Nat), 0 ≤ at_ → at_ + rest = L.length → rest ≤ f → (ppM L f at_).length ≤ rest + (rest + 127) / 128 ∧ (0 < rest → (cutM L at_ 3).2 = true → (ppM L f at_).length + 1 ≤ rest + (rest - 3 + 127) / 128) := by
  intro f
  induction f with
  | zero => intro at_ rest h0 h1 h2; exact ⟨by simp [ppM], fun h => by omega⟩
  | succ f ih =>
    intro at_ rest h0 h1 h2
    simp only [ppM]
    by_cases h : at_ < L.length
    · have hc := cutM_b L at_ 3 h0 h (by omega)
      rw [if_pos h]
      obtain ⟨n, hn⟩ : ∃ n : Nat, (cutM L at_ 3).1 = (n : Int) := ⟨(cutM L at_ 3).1.toNat, by omega⟩
      rw [hn] at hc ⊢
      have hi := ih (at_ + n) (rest - n) (by omega) (by omega) (by omega)
      by_cases c : (cutM L at_ 3).2 = true
      · have hs := (hc.2.2.2 c).1
        have hp : (ppP L at_).length = 2 := by unfold ppP; rw [if_pos c]; rfl
        have hq : (ppP L at_ ++ ppM L f (at_ + n)).length + 1 ≤ rest + (rest - 3 + 127) / 128 := by
          rw [List.length_append, hp]; omega
        exact ⟨by omega, fun _ _ => hq⟩
      · have hp : (ppP L at_).length = n + 1 := by unfold ppP; rw [if_neg c, List.length_cons, List.length_take, List.length_drop, hn]; omega
        refine ⟨?_, fun _ e => absurd e c⟩
        rw [List.length_append, hp]
        by_cases hl : n < 128 ∧ n < rest
        · have hx := cut_next3 L at_ h c (by omega) (by omega)
          rw [hn] at hx
          have := hi.2 (by omega) hx
          omega
        · omega
    · rw [if_neg h]
      exact ⟨by simp, fun _ _ => by simp; omega⟩
theorem ppM_bytes (L : List Int) (hL : ∀ x ∈ L, 0 ≤ x ∧ x ≤ 255) : ∀ (f : Nat) (at_ : Int), 0 ≤ at_ → ∀ x ∈ ppM L f at_, 0 ≤ x ∧ x ≤ 255 := by
  intro f
  induction f with
  | zero => intro at_ h0 x hx; simp [ppM] at hx
  | succ f ih =>
    intro at_ h0 x hx
    simp only [ppM] at hx
    split at hx
    · rename_i h
      have hc := cutM_b L at_ 3 h0 h (by omega)
      rcases List.mem_append.1 hx with hx | hx
      · unfold ppP at hx
        split at hx
        · rename_i c
          have h3 := hc.2.2.2 c
          rcases List.mem_cons.1 hx with rfl | hx
          · omega
          · rw [List.mem_singleton] at hx
            subst hx
            rcases rd_mem_or L at_ with h4 | h4
            · exact hL _ h4
            · rw [h4]; omega
        · rcases List.mem_cons.1 hx with rfl | hx
          · omega
          · exact hL _ (List.mem_of_mem_drop (List.mem_of_mem_take hx))
      · exact ih _ (by omega) x hx
    · simp at hx
/-- A row, so many times. -/
def repC (C : List Int) : Nat → List Int
  | 0 => []
  | n + 1 => repC C n ++ C
theorem repC_length (C : List Int) (n : Nat) : (repC C n).length = n * C.length := by
  induction n with
  | zero => simp [repC]
  | succ n ih => simp only [repC, List.length_append, ih, Nat.succ_mul]
theorem repC_same (L : List Int) (a n : Nat) (ha : a + n ≤ L.length) (h : ∀ j : Int, 0 ≤ j → j < n → rd L ((a : Int) + j) = rd L a) : ∀ j : Nat, j ≤ n → repC [rd L a] j = (L.drop a).take j := by
  intro j
  induction j with
  | zero => intro _; simp [repC]
  | succ j ih =>
    intro hj
    simp only [repC]
    rw [ih (by omega), take_rd L a j (by omega), h j (by omega) (by omega)]
theorem take_more2 (L : List Int) (a n : Nat) : L.take a ++ (L.drop a).take n = L.take (a + n) := by
  rw [List.take_add]
theorem bytes_mid (s : ByteArray) (pre mid post : List Int) (h : bytesOf s = pre ++ mid ++ post) {a b : Nat} (ha : a = pre.length) (hb : b = pre.length + mid.length) : bytesOf (s.extract a b) = mid := by
  rw [bytesOf_extract, h, ha, hb, List.append_assoc, List.drop_left, Nat.add_sub_cancel_left, List.take_left]
end Go.Proofs.Ytfladcffgblfdaa.Th
