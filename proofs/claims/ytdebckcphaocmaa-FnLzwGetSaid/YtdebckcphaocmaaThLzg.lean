/- Plain: what is read of packed numbers: its bytes are small enough, it is no longer than it may be, and what is longer than it may be is told so. No condition. -/
import Derived.Test.YtdebckcphaocmaaThLzw
namespace Go.Proofs.Ytdebckcphaocmaa.Th
open Go.RowKit Go.Proofs.YtdebckcphaocmaaW.PrintWords Go.Proofs.YtdebckcphaocmaaW.PrintMore

/-- Bytes below p. -/
def BB (p : Int) (s : ByteArray) : Prop := ∀ x ∈ bytesOf s, 0 ≤ x ∧ x < p
theorem BB_nil (p : Int) : BB p ⟨#[]⟩ := fun x hx => by rw [bytesOf_nil] at hx; exact absurd hx List.not_mem_nil
theorem BB_append {p : Int} {s t : ByteArray} (hs : BB p s) (ht : BB p t) : BB p (s ++ t) := by
  intro x hx
  rw [bytesOf_append] at hx
  rcases List.mem_append.1 hx with h | h
  · exact hs x h
  · exact ht x h
theorem BB_extract {p : Int} {s : ByteArray} (hs : BB p s) (a b : Nat) : BB p (s.extract a b) := by
  intro x hx
  have e : bytesOf (s.extract a b) = ((bytesOf s).drop a).take (b - a) := by
    unfold bytesOf
    rw [ByteArray.data_extract, Array.toList_extract, List.extract_eq_take_drop, List.map_take, List.map_drop]
  rw [e] at hx
  exact hs x (List.mem_of_mem_drop (List.mem_of_mem_take hx))
structure LzB (bits : Int) (st : LzSt) : Prop where
  list : ∀ n : Int, BB (P2 bits.toNat) (rdOf ByteArray.empty st.list n)
  last : BB (P2 bits.toNat) st.last
  out : BB (P2 bits.toNat) st.out
theorem lzStart_BB {bits : Int} (hb : 2 ≤ bits ∧ bits ≤ 8) (n : Int) : BB (P2 bits.toNat) (rdOf ByteArray.empty (lzStart bits) n) :=
  lzStart_all (p := BB (P2 bits.toNat)) bits (BB_nil _) (fun n h0 h1 => by
    intro x hx
    have hp := P2_bits hb
    rw [bytesOf_son (by intro y hy; rw [List.mem_singleton] at hy; omega), List.mem_singleton] at hx
    omega) n
theorem LzB.init {bits : Int} (hb : 2 ≤ bits ∧ bits ≤ 8) : LzB bits (lzInit bits) := ⟨lzStart_BB hb, BB_nil _, BB_nil _⟩
theorem LzB.clear {bits : Int} {st : LzSt} (hb : 2 ≤ bits ∧ bits ≤ 8) (h : LzB bits st) : LzB bits (lzClear bits st) := ⟨lzStart_BB hb, BB_nil _, h.out⟩
theorem LzB.adv {bits : Int} {st : LzSt} (h : LzB bits st) (tx : ByteArray) (wide : Bool) : LzB bits (lzAdv tx bits wide st) := ⟨h.list, h.last, h.out⟩
theorem LzB.text {bits : Int} {st : LzSt} (h : LzB bits st) (n : Int) : BB (P2 bits.toNat) (lzText st n) := by
  unfold lzText
  split
  · exact h.list n
  · exact BB_append h.last (BB_extract h.last 0 1)
theorem LzB.put {bits : Int} {st : LzSt} (h : LzB bits st) (n : Int) : LzB bits (lzPut st n) := by
  have ht := h.text n
  refine ⟨?_, ht, BB_append h.out ht⟩
  show ∀ m : Int, BB (P2 bits.toNat) (rdOf ByteArray.empty (lzMore st (lzText st n)) m)
  unfold lzMore
  split
  · have key : ∀ m : Int, 0 ≤ m → BB (P2 bits.toNat) (rdOf ByteArray.empty (st.list ++ [st.last ++ (lzText st n).extract 0 1]) m) := by
      intro m hm0
      by_cases hm : m < st.list.length
      · rw [rdOf_left _ _ _ hm0 hm]; exact h.list m
      · by_cases he : m = st.list.length
        · rw [rdOf_last _ _ _ he]; exact BB_append h.last (BB_extract ht 0 1)
        · rw [rdOf_out _ _ (by rw [List.length_append, List.length_singleton]; omega)]; exact BB_nil _
    intro m
    by_cases hm : 0 ≤ m
    · exact key m hm
    · rw [rdOf_neg _ _ (by omega)]; exact key 0 (by omega)
  · exact h.list
theorem LzB.step {bits : Int} {st : LzSt} (hb : 2 ≤ bits ∧ bits ≤ 8) (h : LzB bits st) (limit n : Int) : LzB bits (lzStep bits limit st n).1 := by
  unfold lzStep
  split
  · exact h.clear hb
  · split
    · exact h
    · split
      · exact h
      · split
        · exact h
        · exact h.put n
theorem lzStep_size (bits limit : Int) (st : LzSt) (n : Int) (h : (st.out.size : Int) ≤ limit) : ((lzStep bits limit st n).1.out.size : Int) ≤ limit := by
  unfold lzStep
  split
  · exact h
  · split
    · exact h
    · split
      · exact h
      · split
        · exact h
        · rename_i h4
          show ((st.out ++ lzText st n).size : Int) ≤ limit
          rw [ByteArray.size_append]; omega
theorem lzRun_B {tx : ByteArray} {bits : Int} (hb : 2 ≤ bits ∧ bits ≤ 8) {wide : Bool} {limit : Int} : ∀ (r : Nat) (st : LzSt), LzB bits st → (st.out.size : Int) ≤ limit → LzB bits (lzRun tx bits wide limit r st).1 ∧ ((lzRun tx bits wide limit r st).1.out.size : Int) ≤ limit := by
  intro r
  induction r with
  | zero => intro st h h2; exact ⟨h, h2⟩
  | succ r ih =>
    intro st h h2
    by_cases hc : st.pos + lzWid st.list.length bits wide > 8 * (tx.size : Int)
    · rw [lzRun_short hc]; exact ⟨h, h2⟩
    · have h3 := (h.adv tx wide).step hb limit (lzNum tx bits wide st)
      have h4 := lzStep_size bits limit (lzAdv tx bits wide st) (lzNum tx bits wide st) h2
      cases hs : (lzStep bits limit (lzAdv tx bits wide st) (lzNum tx bits wide st)).2 with
      | none => rw [lzRun_go hc hs]; exact ih _ h3 h4
      | some c => rw [lzRun_end hc hs]; exact ⟨h3, h4⟩
theorem lzStep_less (bits : Int) {L limit : Int} (hL : L ≤ limit) (st : LzSt) (n : Int) : lzStep bits L st n = lzStep bits limit st n ∨ (lzStep bits L st n).2 = some 3 := by
  unfold lzStep
  by_cases c1 : n = P2 bits.toNat
  · rw [if_pos c1, if_pos c1]; exact Or.inl rfl
  · rw [if_neg c1, if_neg c1]
    by_cases c2 : n = P2 bits.toNat + 1
    · rw [if_pos c2, if_pos c2]; exact Or.inl rfl
    · rw [if_neg c2, if_neg c2]
      by_cases c3 : lzBad st n
      · rw [if_pos c3, if_pos c3]; exact Or.inl rfl
      · rw [if_neg c3, if_neg c3]
        by_cases c4 : (st.out.size : Int) + (lzText st n).size > L
        · rw [if_pos c4]; exact Or.inr rfl
        · rw [if_neg c4, if_neg (show ¬ (st.out.size : Int) + (lzText st n).size > limit by omega)]; exact Or.inl rfl
/-- With less room it is the same, or too long. -/
theorem lzRun_less {tx : ByteArray} {bits : Int} {wide : Bool} {L limit : Int} (hL : L ≤ limit) : ∀ (r : Nat) (st : LzSt), lzRun tx bits wide L r st = lzRun tx bits wide limit r st ∨ (lzRun tx bits wide L r st).2 = 3 := by
  intro r
  induction r with
  | zero => intro st; exact Or.inl rfl
  | succ r ih =>
    intro st
    by_cases hc : st.pos + lzWid st.list.length bits wide > 8 * (tx.size : Int)
    · rw [lzRun_short hc, lzRun_short hc]; exact Or.inl rfl
    · rcases lzStep_less bits hL (lzAdv tx bits wide st) (lzNum tx bits wide st) with he | he
      · cases hs : (lzStep bits limit (lzAdv tx bits wide st) (lzNum tx bits wide st)).2 with
        | none => rw [lzRun_go hc hs, lzRun_go hc (he ▸ hs), he]; exact ih _
        | some c => rw [lzRun_end hc hs, lzRun_end hc (he ▸ hs), he]; exact Or.inl rfl
      · rw [lzRun_end hc he]; exact Or.inr rfl
theorem lzGetM_bad {tx : ByteArray} {bits : Int} {wide : Bool} {limit : Int} (h : (lzGetM tx bits wide limit).2 ≠ 0) : (lzGetM tx bits wide limit).1 = ⟨#[]⟩ := by
  by_cases c : lzOk bits wide = true ∧ tx.size ≤ 9000 ∧ 0 ≤ limit ∧ limit ≤ 5000
  · rw [lzGetM_in c] at h ⊢
    by_cases c2 : (lzAll tx bits wide limit).2 = 0
    · rw [if_pos c2] at h; exact absurd rfl h
    · rw [if_neg c2]
  · rw [lzGetM_out c]
theorem lzGetM_good {tx : ByteArray} {bits : Int} {wide : Bool} {limit : Int} (h : (lzGetM tx bits wide limit).2 = 0) : (2 ≤ bits ∧ bits ≤ 8) ∧ limit ≤ 5000 ∧ ((lzGetM tx bits wide limit).1.size : Int) ≤ limit ∧ BB (P2 bits.toNat) (lzGetM tx bits wide limit).1 ∧ ((lzGetM tx bits wide limit).1.size ≠ 0 → (lzGetM tx bits wide (((lzGetM tx bits wide limit).1.size : Int) - 1)).2 = 3) := by
  by_cases c : lzOk bits wide = true ∧ tx.size ≤ 9000 ∧ 0 ≤ limit ∧ limit ≤ 5000
  · have hb := lzOk_b c.1
    rw [lzGetM_in c] at h ⊢
    by_cases c2 : (lzAll tx bits wide limit).2 = 0
    · rw [if_pos c2]
      have hB := lzRun_B hb (tx := tx) (wide := wide) (limit := limit) (8 * tx.size + 1) (lzInit bits) (LzB.init hb) (by show (0 : Int) ≤ limit; exact c.2.2.1)
      refine ⟨hb, c.2.2.2, hB.2, hB.1.out, ?_⟩
      show (lzAll tx bits wide limit).1.out.size ≠ 0 → (lzGetM tx bits wide (((lzAll tx bits wide limit).1.out.size : Int) - 1)).2 = 3
      intro hz
      have hB2 : ((lzAll tx bits wide limit).1.out.size : Int) ≤ limit := hB.2
      generalize hL : ((lzAll tx bits wide limit).1.out.size : Int) - 1 = L
      have c' : lzOk bits wide = true ∧ tx.size ≤ 9000 ∧ 0 ≤ L ∧ L ≤ 5000 := ⟨c.1, c.2.1, by omega, by omega⟩
      rw [lzGetM_in c']
      rcases lzRun_less (tx := tx) (bits := bits) (wide := wide) (show L ≤ limit by omega) (8 * tx.size + 1) (lzInit bits) with he | he
      · have he' : lzAll tx bits wide L = lzAll tx bits wide limit := he
        have hB3 := (lzRun_B hb (tx := tx) (wide := wide) (limit := L) (8 * tx.size + 1) (lzInit bits) (LzB.init hb) (by show (0 : Int) ≤ L; exact c'.2.2.1)).2
        have hB4 : ((lzAll tx bits wide L).1.out.size : Int) ≤ L := hB3
        rw [he'] at hB4
        omega
      · have he' : (lzAll tx bits wide L).2 = 3 := he
        rw [he', if_neg (by decide)]
    · rw [if_neg c2] at h; exact absurd h c2
  · rw [lzGetM_out c] at h; exact absurd h (by decide)
end Go.Proofs.Ytdebckcphaocmaa.Th
