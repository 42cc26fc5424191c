/- Plain lemmas: what tokens make, and that the tokens of a text make it. No condition. -/
import Derived.Test.YtpjkcdgamlllgaaThTok
namespace Go.Proofs.Ytpjkcdgamlllgaa.Th
open Go.RowKit Go.Proofs.YtpjkcdgamlllgaaW.PrintWords Go.Proofs.YtpjkcdgamlllgaaW.PrintMore

/-- n bytes more, each the one that stands d back. -/
def copyM (out : List Int) (d : Int) : Nat → List Int
  | 0 => out
  | n + 1 => copyM out d n ++ [rd (copyM out d n) ((copyM out d n).length - d)]
theorem copyM_length (out : List Int) (d : Int) (n : Nat) : (copyM out d n).length = out.length + n := by
  induction n with
  | zero => rfl
  | succ n ih => simp only [copyM, List.length_append, ih, List.length_singleton]; omega
/-- May a token stand behind so many bytes? -/
def tokOk (len : Int) (t : Int × Int × Int) : Bool :=
  if t.2.1 = 0 then decide (0 ≤ t.1 ∧ t.1 ≤ 255 ∧ t.2.2 = 0 ∧ len + 1 ≤ 5000)
  else decide (t.1 = 0 ∧ 3 ≤ t.2.1 ∧ t.2.1 ≤ 258 ∧ 1 ≤ t.2.2 ∧ t.2.2 ≤ len ∧ len + t.2.1 ≤ 5000)
def tokDo (out : List Int) (t : Int × Int × Int) : List Int := if t.2.1 = 0 then out ++ [t.1] else copyM out t.2.2 t.2.1.toNat
def outM : List (Int × Int × Int) → List Int → Option (List Int)
  | [], out => some out
  | t :: l, out => if tokOk out.length t = true then outM l (tokDo out t) else none
def outR : Option (List Int) → ByteArray × Bool
  | some o => (strOfNums o, true)
  | none => (⟨#[]⟩, false)
theorem copyM_b {out : List Int} (h : ∀ x ∈ out, 0 ≤ x ∧ x ≤ 255) (d : Int) (n : Nat) : ∀ x ∈ copyM out d n, 0 ≤ x ∧ x ≤ 255 := by
  induction n with
  | zero => exact h
  | succ n ih =>
    intro x hx
    simp only [copyM, List.mem_append, List.mem_singleton] at hx
    rcases hx with hx | rfl
    · exact ih x hx
    · rcases rd_mem_or (copyM out d n) ((copyM out d n).length - d) with h1 | h1
      · exact ih _ h1
      · omega
theorem tokDo_b {out : List Int} (h : ∀ x ∈ out, 0 ≤ x ∧ x ≤ 255) {t : Int × Int × Int} (ht : tokOk out.length t = true) : ∀ x ∈ tokDo out t, 0 ≤ x ∧ x ≤ 255 := by
  unfold tokDo tokOk at *
  split
  · rename_i h0
    rw [if_pos h0] at ht
    have := of_decide_eq_true ht
    intro x hx
    rcases List.mem_append.1 hx with hx | hx
    · exact h x hx
    · rw [List.mem_singleton] at hx; subst hx; omega
  · exact copyM_b h _ _
theorem tokDo_length (out : List Int) {t : Int × Int × Int} (ht : tokOk out.length t = true) : out.length < (tokDo out t).length ∧ (tokDo out t).length ≤ 5000 := by
  unfold tokDo tokOk at *
  split
  · rename_i h0
    rw [if_pos h0] at ht
    have := of_decide_eq_true ht
    simp; omega
  · rename_i h0
    rw [if_neg h0] at ht
    have := of_decide_eq_true ht
    rw [copyM_length]; omega
theorem outM_b : ∀ (l : List (Int × Int × Int)) (out o : List Int), (∀ x ∈ out, 0 ≤ x ∧ x ≤ 255) → out.length ≤ 5000 → outM l out = some o → (∀ x ∈ o, 0 ≤ x ∧ x ≤ 255) ∧ o.length ≤ 5000 := by
  intro l
  induction l with
  | nil => intro out o h hl e; simp [outM] at e; subst e; exact ⟨h, hl⟩
  | cons t l ih =>
    intro out o h hl e
    simp only [outM] at e
    split at e
    · rename_i ht
      exact ih _ _ (tokDo_b h ht) (tokDo_length out ht).2 e
    · simp at e
/-- What stands already stays in front. -/
theorem copyM_front (out : List Int) (d : Int) (n : Nat) : ∃ z, copyM out d n = out ++ z := by
  induction n with
  | zero => exact ⟨[], by simp [copyM]⟩
  | succ n ih => obtain ⟨z, hz⟩ := ih; exact ⟨z ++ [rd (copyM out d n) ((copyM out d n).length - d)], by simp only [copyM]; rw [← List.append_assoc, ← hz]⟩
theorem outM_front : ∀ (l : List (Int × Int × Int)) (out o : List Int), outM l out = some o → ∃ z, o = out ++ z := by
  intro l
  induction l with
  | nil => intro out o e; simp [outM] at e; exact ⟨[], by simp [e]⟩
  | cons t l ih =>
    intro out o e
    simp only [outM] at e
    split at e
    · obtain ⟨z, hz⟩ := ih _ _ e
      unfold tokDo at hz
      split at hz
      · exact ⟨[t.1] ++ z, by rw [hz, List.append_assoc]⟩
      · obtain ⟨y, hy⟩ := copyM_front out t.2.2 t.2.1.toNat
        exact ⟨y ++ z, by rw [hz, hy, List.append_assoc]⟩
    · simp at e
theorem outM_take : ∀ (l : List (Int × Int × Int)) (k : Nat) (out o : List Int), outM l out = some o → ∃ o' z, outM (l.take k) out = some o' ∧ o = o' ++ z := by
  intro l
  induction l with
  | nil => intro k out o e; simp [outM] at e; exact ⟨out, [], by simp [outM], by simp [e]⟩
  | cons t l ih =>
    intro k out o e
    cases k with
    | zero => obtain ⟨z, hz⟩ := outM_front _ _ _ e; exact ⟨out, z, by simp [outM], hz⟩
    | succ k =>
      simp only [outM, List.take_succ_cons] at e ⊢
      split at e
      · rename_i ht
        rw [if_pos ht]
        exact ih k _ _ e
      · simp at e
/-- The first n bytes of a text. -/
def takeB (s : ByteArray) (n : Nat) : List Int := (bytesOf s).take n
theorem takeB_length (s : ByteArray) {n : Nat} (h : n ≤ s.size) : (takeB s n).length = n := by
  unfold takeB; rw [List.length_take, bytesOf_length]; omega
theorem takeB_succ (s : ByteArray) {n : Nat} (h : n < s.size) : takeB s (n + 1) = takeB s n ++ [bt s n] := by
  have hl : n < (bytesOf s).length := by rw [bytesOf_length]; exact h
  unfold takeB
  rw [List.take_succ_eq_append_getElem hl, ← rd_bytesOf]
  congr 2
  simp [rd, List.getD_eq_getElem?_getD, List.getElem?_eq_getElem hl]
theorem takeB_rd (s : ByteArray) {n : Nat} {i : Int} (h0 : 0 ≤ i) (h : i < n) : rd (takeB s n) i = bt s i := by
  rw [← rd_bytesOf]
  unfold takeB rd
  rw [List.getD_eq_getElem?_getD, List.getD_eq_getElem?_getD, List.getElem?_take, if_pos (by omega)]
theorem takeB_all (s : ByteArray) : takeB s s.size = bytesOf s := by
  unfold takeB; rw [← bytesOf_length s]; exact List.take_length
theorem copyM_takeB (s : ByteArray) (at_ : Nat) (d : Int) (hd : 1 ≤ d ∧ d ≤ at_) (n : Nat) (hn : at_ + n ≤ s.size) (h : ∀ j : Int, 0 ≤ j → j < n → bt s ((at_ : Int) - d + j) = bt s ((at_ : Int) + j)) : copyM (takeB s at_) d n = takeB s (at_ + n) := by
  induction n with
  | zero => rfl
  | succ n ih =>
    have ih' := ih (by omega) (fun j h0 h1 => h j h0 (by omega))
    simp only [copyM]
    rw [ih', takeB_length s (by omega), show at_ + (n + 1) = at_ + n + 1 by omega, takeB_succ s (by omega), takeB_rd s (by omega) (by omega), show ((at_ + n : Nat) : Int) - d = (at_ : Int) - d + n by omega, h n (by omega) (by omega), show (at_ : Int) + n = ((at_ + n : Nat) : Int) by omega]
/-- The tokens of a text make it. -/
theorem outM_tokM (s : ByteArray) (hs : s.size ≤ 5000) : ∀ (f at_ : Nat), at_ ≤ s.size → s.size ≤ at_ + f → outM (tokM s f at_) (takeB s at_) = some (bytesOf s) := by
  intro f
  induction f with
  | zero => intro at_ h1 h2; simp only [tokM, outM]; rw [show at_ = s.size by omega, takeB_all]
  | succ f ih =>
    intro at_ h1 h2
    simp only [tokM]
    by_cases h : at_ < s.size
    · have hb := bestM_b s at_ (by omega) at_
      have ht := bt_range s at_
      have hl := takeB_length s h1
      rw [if_pos (by omega), Int.toNat_natCast]
      by_cases h3 : (bestM s at_ at_).1 < 3
      · rw [if_pos h3]
        simp only [outM]
        rw [if_pos (by unfold tokOk; rw [if_pos rfl]; exact decide_eq_true ⟨ht.1, ht.2, rfl, by rw [hl]; omega⟩)]
        unfold tokDo
        rw [if_pos rfl, ← takeB_succ s h, show (at_ : Int) + 1 = ((at_ + 1 : Nat) : Int) by omega]
        exact ih (at_ + 1) (by omega) (by omega)
      · have hb6 := hb.2.2.2.2.2 (by omega)
        rw [if_neg h3]
        simp only [outM]
        rw [if_pos (by unfold tokOk; rw [if_neg (by dsimp only; omega)]; exact decide_eq_true ⟨rfl, by dsimp only; omega, hb.2.1, hb6.1, by rw [hl]; exact hb.2.2.2.2.1, by rw [hl]; dsimp only; omega⟩)]
        unfold tokDo
        rw [if_neg (by dsimp only; omega)]
        dsimp only
        rw [copyM_takeB s at_ _ ⟨hb6.1, hb.2.2.2.2.1⟩ _ (by omega) (fun j h0 h1 => hb6.2 j h0 (by omega)), show (at_ : Int) + (bestM s at_ at_).1 = ((at_ + (bestM s at_ at_).1.toNat : Nat) : Int) by omega]
        exact ih _ (by omega) (by omega)
    · rw [if_neg (by omega)]
      simp only [outM]; rw [show at_ = s.size by omega, takeB_all]
theorem outM_tokensM (s : ByteArray) (hs : s.size ≤ 5000) : outM (tokensM s) [] = some (bytesOf s) := by
  unfold tokensM
  rw [if_neg (by omega)]
  exact outM_tokM s hs s.size 0 (by omega) (by omega)
/-- Where a token stands, and what it says: for the law. -/
def tokGood : List (Int × Int × Int) → Int → Int → Prop
  | [], at_, n => at_ = n
  | t :: l, at_, n => (t.2.1 = 0 ∧ tokGood l (at_ + 1) n) ∨ (t.2.1 ≠ 0 ∧ 3 ≤ t.2.1 ∧ t.2.1 ≤ 258 ∧ 1 ≤ t.2.2 ∧ t.2.2 ≤ at_ ∧ tokGood l (at_ + t.2.1) n)
theorem tokM_good (s : ByteArray) : ∀ (f at_ : Nat), at_ ≤ s.size → s.size ≤ at_ + f → tokGood (tokM s f at_) at_ s.size := by
  intro f
  induction f with
  | zero => intro at_ h1 h2; simp only [tokM, tokGood]; omega
  | succ f ih =>
    intro at_ h1 h2
    simp only [tokM]
    by_cases h : at_ < s.size
    · have hb := bestM_b s at_ (by omega) at_
      rw [if_pos (by omega), Int.toNat_natCast]
      by_cases h3 : (bestM s at_ at_).1 < 3
      · rw [if_pos h3]
        exact .inl ⟨rfl, by rw [show (at_ : Int) + 1 = ((at_ + 1 : Nat) : Int) by omega]; exact ih _ (by omega) (by omega)⟩
      · have hb6 := hb.2.2.2.2.2 (by omega)
        rw [if_neg h3]
        exact .inr ⟨by dsimp only; omega, by dsimp only; omega, hb.2.1, hb6.1, hb.2.2.2.2.1, by dsimp only; rw [show (at_ : Int) + (bestM s at_ at_).1 = ((at_ + (bestM s at_ at_).1.toNat : Nat) : Int) by omega]; exact ih _ (by omega) (by omega)⟩
    · rw [if_neg (by omega)]
      simp only [tokGood]; omega
end Go.Proofs.Ytpjkcdgamlllgaa.Th
