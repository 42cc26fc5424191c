/- Plain: texts that are packed by numbers of texts, and how they are read. No condition. -/
import Derived.Test.YtdebckcphaocmaaThNum
import Derived.Test.YtdebckcphaocmaaThStr
namespace Go.Proofs.Ytdebckcphaocmaa.Th
open Go.RowKit Go.Proofs.YtdebckcphaocmaaW.PrintWords Go.Proofs.YtdebckcphaocmaaW.PrintMore

/-- How wide a number is: from n on, d steps at most. -/
def lzUp (K : Int) : Nat → Int → Int
  | 0, n => n
  | d + 1, n => if n < 12 ∧ P2 n.toNat ≤ K then lzUp K d (n + 1) else n
theorem lzUp_b (K : Int) : ∀ (d : Nat) (n : Int), n ≤ 12 → n ≤ lzUp K d n ∧ lzUp K d n ≤ 12 := by
  intro d
  induction d with
  | zero => intro n h; exact ⟨Int.le_refl _, h⟩
  | succ d ih =>
    intro n h
    unfold lzUp
    by_cases c : n < 12 ∧ P2 n.toNat ≤ K
    · rw [if_pos c]; have := ih (n + 1) (by omega); omega
    · rw [if_neg c]; omega
def lzWid (known bits : Int) (wide : Bool) : Int := lzUp (known + (if wide = true then 1 else 0)) 12 (bits + 1)
theorem lzWid_b {bits : Int} (h : 2 ≤ bits ∧ bits ≤ 8) (known : Int) (wide : Bool) : 3 ≤ lzWid known bits wide ∧ lzWid known bits wide ≤ 12 := by
  have := lzUp_b (known + (if wide = true then 1 else 0)) 12 (bits + 1) (by omega)
  unfold lzWid
  omega
/-- What is known at first. -/
def lzBytes (n : Nat) : List ByteArray := (List.range n).map fun (i : Nat) => strOfNums [(i : Int)]
def lzStart (bits : Int) : List ByteArray := lzBytes (2 ^ bits.toNat) ++ [⟨#[]⟩, ⟨#[]⟩]
theorem lzBytes_succ (n : Nat) : lzBytes (n + 1) = lzBytes n ++ [strOfNums [(n : Int)]] := by unfold lzBytes; rw [List.range_succ, List.map_append]; rfl
theorem lzBytes_length (n : Nat) : (lzBytes n).length = n := by simp [lzBytes]
theorem lzStart_length (bits : Int) : ((lzStart bits).length : Int) = P2 bits.toNat + 2 := by
  unfold lzStart P2; rw [List.length_append, lzBytes_length]; simp
theorem lzStart_at (bits n : Int) (h0 : 0 ≤ n) (h1 : n < P2 bits.toNat) : rdOf ByteArray.empty (lzStart bits) n = strOfNums [n] := by
  unfold P2 at h1
  unfold rdOf lzStart
  have hl := lzBytes_length (2 ^ bits.toNat)
  rw [List.getD_eq_getElem?_getD, List.getElem?_append_left (by omega)]
  unfold lzBytes
  rw [List.getElem?_map, List.getElem?_range (by omega)]
  simp [Int.toNat_of_nonneg h0]
theorem rdOf_out (l : List ByteArray) (n : Int) (h : (l.length : Int) ≤ n) : rdOf ByteArray.empty l n = ⟨#[]⟩ := by
  unfold rdOf
  rw [List.getD_eq_getElem?_getD, List.getElem?_eq_none (by omega)]
  rfl
theorem rdOf_left (l m : List ByteArray) (n : Int) (h0 : 0 ≤ n) (h : n < l.length) : rdOf ByteArray.empty (l ++ m) n = rdOf ByteArray.empty l n := by
  unfold rdOf
  rw [List.getD_eq_getElem?_getD, List.getElem?_append_left (by omega), ← List.getD_eq_getElem?_getD]
theorem rdOf_last (l : List ByteArray) (x : ByteArray) (n : Int) (h : n = l.length) : rdOf ByteArray.empty (l ++ [x]) n = x := by
  unfold rdOf
  rw [List.getD_eq_getElem?_getD, h, Int.toNat_natCast, List.getElem?_append_right (Nat.le_refl _)]
  simp
theorem rdOf_neg (l : List ByteArray) (n : Int) (h : n < 0) : rdOf ByteArray.empty l n = rdOf ByteArray.empty l 0 := by
  unfold rdOf
  rw [show n.toNat = 0 by omega]; rfl
theorem lzStart_all {p : ByteArray → Prop} (bits : Int) (h0 : p ⟨#[]⟩) (h : ∀ n : Int, 0 ≤ n → n < P2 bits.toNat → p (strOfNums [n])) : ∀ n : Int, p (rdOf ByteArray.empty (lzStart bits) n) := by
  have hp := P2_pos bits.toNat
  have key : ∀ n : Int, 0 ≤ n → p (rdOf ByteArray.empty (lzStart bits) n) := by
    intro n hn
    by_cases h1 : n < P2 bits.toNat
    · rw [lzStart_at bits n hn h1]; exact h n hn h1
    · by_cases h2 : n < P2 bits.toNat + 2
      · have e : rdOf ByteArray.empty (lzStart bits) n = ⟨#[]⟩ := by
          unfold P2 at h1 h2
          unfold rdOf lzStart
          have hl := lzBytes_length (2 ^ bits.toNat)
          rw [List.getD_eq_getElem?_getD, List.getElem?_append_right (by omega), hl]
          rcases (show n.toNat - 2 ^ bits.toNat = 0 ∨ n.toNat - 2 ^ bits.toNat = 1 by omega) with e | e <;> rw [e] <;> rfl
        rw [e]; exact h0
      · rw [rdOf_out _ _ (by rw [lzStart_length]; omega)]; exact h0
  intro n
  by_cases hn : 0 ≤ n
  · exact key n hn
  · rw [rdOf_neg _ _ (by omega)]; exact key 0 (by omega)

/-- Where one is: the place, what is known, the last text, what came out, the numbers. -/
structure LzSt where
  pos : Int
  list : List ByteArray
  last : ByteArray
  out : ByteArray
  codes : List Int
def lzText (st : LzSt) (n : Int) : ByteArray := if n < st.list.length then rdOf ByteArray.empty st.list n else st.last ++ st.last.extract 0 1
def lzBad (st : LzSt) (n : Int) : Prop := n > st.list.length ∨ n = st.list.length ∧ st.last.size = 0
instance (st : LzSt) (n : Int) : Decidable (lzBad st n) := inferInstanceAs (Decidable (n > st.list.length ∨ n = st.list.length ∧ st.last.size = 0))
def lzMore (st : LzSt) (s : ByteArray) : List ByteArray := if st.last.size ≠ 0 ∧ st.list.length < 4096 then st.list ++ [st.last ++ s.extract 0 1] else st.list
def lzPut (st : LzSt) (n : Int) : LzSt := ⟨st.pos, lzMore st (lzText st n), lzText st n, st.out ++ lzText st n, st.codes⟩
def lzClear (bits : Int) (st : LzSt) : LzSt := ⟨st.pos, lzStart bits, ⟨#[]⟩, st.out, st.codes⟩
/-- What a number does, and a code when all is over. -/
def lzStep (bits limit : Int) (st : LzSt) (n : Int) : LzSt × Option Int :=
  if n = P2 bits.toNat then (lzClear bits st, none)
  else if n = P2 bits.toNat + 1 then (st, some 0)
  else if lzBad st n then (st, some 1)
  else if (st.out.size : Int) + (lzText st n).size > limit then (st, some 3)
  else (lzPut st n, none)
def lzNum (tx : ByteArray) (bits : Int) (wide : Bool) (st : LzSt) : Int := bitsM tx st.pos wide (lzWid st.list.length bits wide).toNat
def lzAdv (tx : ByteArray) (bits : Int) (wide : Bool) (st : LzSt) : LzSt := ⟨st.pos + lzWid st.list.length bits wide, st.list, st.last, st.out, st.codes ++ [lzNum tx bits wide st]⟩
/-- All numbers, to the end. -/
def lzRun (tx : ByteArray) (bits : Int) (wide : Bool) (limit : Int) : Nat → LzSt → LzSt × Int
  | 0, st => (st, 2)
  | r + 1, st =>
    if st.pos + lzWid st.list.length bits wide > 8 * (tx.size : Int) then (st, 2)
    else match (lzStep bits limit (lzAdv tx bits wide st) (lzNum tx bits wide st)).2 with
      | none => lzRun tx bits wide limit r (lzStep bits limit (lzAdv tx bits wide st) (lzNum tx bits wide st)).1
      | some c => ((lzStep bits limit (lzAdv tx bits wide st) (lzNum tx bits wide st)).1, c)
def lzInit (bits : Int) : LzSt := ⟨0, lzStart bits, ⟨#[]⟩, ⟨#[]⟩, []⟩
def lzAll (tx : ByteArray) (bits : Int) (wide : Bool) (limit : Int) : LzSt × Int := lzRun tx bits wide limit (8 * tx.size + 1) (lzInit bits)

def lzOk (bits : Int) (wide : Bool) : Bool := decide (2 ≤ bits ∧ bits ≤ 8) && (!wide || bits == 8)
def lzCodes (tx : ByteArray) (bits : Int) (wide : Bool) : List Int := if (lzAll tx bits wide 5000).2 = 0 then (lzAll tx bits wide 5000).1.codes else []
def lzCodesM (tx : ByteArray) (bits : Int) (wide : Bool) : List Int := if lzOk bits wide = true ∧ tx.size ≤ 9000 then lzCodes tx bits wide else []
theorem lzOk_b {bits : Int} {wide : Bool} (h : lzOk bits wide = true) : 2 ≤ bits ∧ bits ≤ 8 := by
  unfold lzOk at h
  rw [Bool.and_eq_true, decide_eq_true_eq] at h
  exact h.1

/-- What holds of where one is. -/
structure LzI (tx : ByteArray) (bits : Int) (st : LzSt) : Prop where
  rng : 2 ≤ bits ∧ bits ≤ 8
  len : P2 bits.toNat + 2 ≤ (st.list.length : Int) ∧ st.list.length ≤ 4096
  ne : ∀ n : Int, 0 ≤ n → n < st.list.length → n ≠ P2 bits.toNat → n ≠ P2 bits.toNat + 1 → 1 ≤ (rdOf ByteArray.empty st.list n).size
  sz : ∀ n : Int, (rdOf ByteArray.empty st.list n).size ≤ 70000
  last : st.last.size ≤ 65536
  out : st.out.size ≤ 65536
  pos : 0 ≤ st.pos ∧ st.pos ≤ 8 * (tx.size : Int)
  codes : (st.codes.length : Int) ≤ st.pos
theorem P2_bits {bits : Int} (h : 2 ≤ bits ∧ bits ≤ 8) : 4 ≤ P2 bits.toNat ∧ P2 bits.toNat ≤ 256 := by
  have h1 := P2_le (n := 2) (m := bits.toNat) (by omega)
  have h2 := P2_le (n := bits.toNat) (m := 8) (by omega)
  rw [P2_8] at h2
  exact ⟨h1, h2⟩
theorem lzStart_ne (bits n : Int) (h0 : 0 ≤ n) (h : n < ((lzStart bits).length : Int)) (h1 : n ≠ P2 bits.toNat) (h2 : n ≠ P2 bits.toNat + 1) : 1 ≤ (rdOf ByteArray.empty (lzStart bits) n).size := by
  rw [lzStart_length] at h
  rw [lzStart_at bits n h0 (by omega), strOfNums_size]
  exact Nat.le_refl 1
theorem lzStart_sz (bits n : Int) : (rdOf ByteArray.empty (lzStart bits) n).size ≤ 70000 :=
  lzStart_all (p := fun s => s.size ≤ 70000) bits (Nat.zero_le _) (fun n _ _ => by rw [strOfNums_size]; exact Nat.le_trans (Nat.le_refl 1) (by omega)) n
theorem LzI.init (tx : ByteArray) {bits : Int} (h : 2 ≤ bits ∧ bits ≤ 8) : LzI tx bits (lzInit bits) :=
  have hb := P2_bits h
  have hl := lzStart_length bits
  ⟨h, ⟨by show P2 bits.toNat + 2 ≤ ((lzStart bits).length : Int); omega, by show (lzStart bits).length ≤ 4096; omega⟩, lzStart_ne bits, lzStart_sz bits, Nat.zero_le _, Nat.zero_le _, ⟨Int.le_refl _, by show (0 : Int) ≤ _; omega⟩, Int.le_refl _⟩
theorem LzI.clear {tx : ByteArray} {bits : Int} {st : LzSt} (h : LzI tx bits st) : LzI tx bits (lzClear bits st) :=
  have hb := P2_bits h.rng
  have hl := lzStart_length bits
  ⟨h.rng, ⟨by show P2 bits.toNat + 2 ≤ ((lzStart bits).length : Int); omega, by show (lzStart bits).length ≤ 4096; omega⟩, lzStart_ne bits, lzStart_sz bits, Nat.zero_le _, h.out, h.pos, h.codes⟩
theorem LzI.adv {tx : ByteArray} {bits : Int} {st : LzSt} (h : LzI tx bits st) {wide : Bool} (hc : ¬ st.pos + lzWid st.list.length bits wide > 8 * (tx.size : Int)) : LzI tx bits (lzAdv tx bits wide st) :=
  have hw := lzWid_b h.rng st.list.length wide
  have hp := h.pos
  have hk := h.codes
  ⟨h.rng, h.len, h.ne, h.sz, h.last, h.out, ⟨by show 0 ≤ st.pos + lzWid st.list.length bits wide; omega, by show st.pos + lzWid st.list.length bits wide ≤ 8 * (tx.size : Int); omega⟩, by show ((st.codes ++ [_]).length : Int) ≤ st.pos + lzWid st.list.length bits wide; rw [List.length_append, List.length_singleton]; omega⟩
theorem extract01 {s : ByteArray} (h : 1 ≤ s.size) : (s.extract 0 1).size = 1 := by rw [ByteArray.size_extract]; omega
/-- The text of a number that is not bad: it is not empty. -/
theorem LzI.text {tx : ByteArray} {bits : Int} {st : LzSt} (h : LzI tx bits st) {n : Int} (h0 : 0 ≤ n) (h1 : n ≠ P2 bits.toNat) (h2 : n ≠ P2 bits.toNat + 1) (hb : ¬ lzBad st n) : 1 ≤ (lzText st n).size ∧ (lzText st n).size ≤ 70000 := by
  unfold lzText
  unfold lzBad at hb
  by_cases c : n < st.list.length
  · rw [if_pos c]; exact ⟨h.ne n h0 c h1 h2, h.sz n⟩
  · rw [if_neg c, ByteArray.size_append]
    have := h.last
    have hl : 1 ≤ st.last.size := by omega
    rw [extract01 hl]
    omega
theorem LzI.put {tx : ByteArray} {bits : Int} {st : LzSt} (h : LzI tx bits st) {n limit : Int} (h0 : 0 ≤ n) (h1 : n ≠ P2 bits.toNat) (h2 : n ≠ P2 bits.toNat + 1) (hb : ¬ lzBad st n) (hl : limit ≤ 65536) (hc : ¬ (st.out.size : Int) + (lzText st n).size > limit) : LzI tx bits (lzPut st n) := by
  have ht := h.text h0 h1 h2 hb
  have hk := h.len
  have hlast := h.last
  refine ⟨h.rng, ?_, ?_, ?_, ?_, ?_, h.pos, h.codes⟩
  · show P2 bits.toNat + 2 ≤ ((lzMore st (lzText st n)).length : Int) ∧ (lzMore st (lzText st n)).length ≤ 4096
    unfold lzMore
    by_cases c : st.last.size ≠ 0 ∧ st.list.length < 4096
    · rw [if_pos c, List.length_append, List.length_singleton]; omega
    · rw [if_neg c]; exact hk
  · show ∀ m : Int, 0 ≤ m → m < ((lzMore st (lzText st n)).length : Int) → m ≠ P2 bits.toNat → m ≠ P2 bits.toNat + 1 → 1 ≤ (rdOf ByteArray.empty (lzMore st (lzText st n)) m).size
    unfold lzMore
    by_cases c : st.last.size ≠ 0 ∧ st.list.length < 4096
    · rw [if_pos c]
      intro m hm0 hm1 hm2 hm3
      rw [List.length_append, List.length_singleton] at hm1
      by_cases hm : m < st.list.length
      · rw [rdOf_left _ _ _ hm0 hm]; exact h.ne m hm0 hm hm2 hm3
      · rw [rdOf_last _ _ _ (by omega), ByteArray.size_append, extract01 ht.1]; omega
    · rw [if_neg c]; exact h.ne
  · show ∀ m : Int, (rdOf ByteArray.empty (lzMore st (lzText st n)) m).size ≤ 70000
    unfold lzMore
    by_cases c : st.last.size ≠ 0 ∧ st.list.length < 4096
    · rw [if_pos c]
      have key : ∀ m : Int, 0 ≤ m → (rdOf ByteArray.empty (st.list ++ [st.last ++ (lzText st n).extract 0 1]) m).size ≤ 70000 := by
        intro m hm0
        by_cases hm : m < st.list.length
        · rw [rdOf_left _ _ _ hm0 hm]; exact h.sz m
        · by_cases he : m = st.list.length
          · rw [rdOf_last _ _ _ he, ByteArray.size_append, extract01 ht.1]; omega
          · rw [rdOf_out _ _ (by rw [List.length_append, List.length_singleton]; omega)]; exact Nat.zero_le _
      intro m
      by_cases hm : 0 ≤ m
      · exact key m hm
      · rw [rdOf_neg _ _ (by omega)]; exact key 0 (by omega)
    · rw [if_neg c]; exact h.sz
  · show (lzText st n).size ≤ 65536
    omega
  · show (st.out ++ lzText st n).size ≤ 65536
    rw [ByteArray.size_append]; omega
theorem LzI.step {tx : ByteArray} {bits : Int} {st : LzSt} (h : LzI tx bits st) {n limit : Int} (h0 : 0 ≤ n) (hl : limit ≤ 65536) : LzI tx bits (lzStep bits limit st n).1 := by
  unfold lzStep
  by_cases c1 : n = P2 bits.toNat
  · rw [if_pos c1]; exact h.clear
  · rw [if_neg c1]
    by_cases c2 : n = P2 bits.toNat + 1
    · rw [if_pos c2]; exact h
    · rw [if_neg c2]
      by_cases c3 : lzBad st n
      · rw [if_pos c3]; exact h
      · rw [if_neg c3]
        by_cases c4 : (st.out.size : Int) + (lzText st n).size > limit
        · rw [if_pos c4]; exact h
        · rw [if_neg c4]; exact h.put h0 c1 c2 c3 hl c4
theorem lzNum_b (tx : ByteArray) (bits : Int) (wide : Bool) (st : LzSt) : 0 ≤ lzNum tx bits wide st := (bitsM_b _ _ _ _).1
theorem lzStep_pos (bits limit : Int) (st : LzSt) (n : Int) : (lzStep bits limit st n).1.pos = st.pos := by
  unfold lzStep lzClear lzPut
  split
  · rfl
  · split
    · rfl
    · split
      · rfl
      · split <;> rfl
/-- One round more. -/
theorem lzRun_go {tx : ByteArray} {bits : Int} {wide : Bool} {limit : Int} {r : Nat} {st : LzSt} (h1 : ¬ st.pos + lzWid st.list.length bits wide > 8 * (tx.size : Int)) (h2 : (lzStep bits limit (lzAdv tx bits wide st) (lzNum tx bits wide st)).2 = none) : lzRun tx bits wide limit (r + 1) st = lzRun tx bits wide limit r (lzStep bits limit (lzAdv tx bits wide st) (lzNum tx bits wide st)).1 := by
  rw [lzRun, if_neg h1, h2]
theorem lzRun_end {tx : ByteArray} {bits : Int} {wide : Bool} {limit : Int} {r : Nat} {st : LzSt} {c : Int} (h1 : ¬ st.pos + lzWid st.list.length bits wide > 8 * (tx.size : Int)) (h2 : (lzStep bits limit (lzAdv tx bits wide st) (lzNum tx bits wide st)).2 = some c) : lzRun tx bits wide limit (r + 1) st = ((lzStep bits limit (lzAdv tx bits wide st) (lzNum tx bits wide st)).1, c) := by
  rw [lzRun, if_neg h1, h2]
theorem lzRun_short {tx : ByteArray} {bits : Int} {wide : Bool} {limit : Int} {r : Nat} {st : LzSt} (h1 : st.pos + lzWid st.list.length bits wide > 8 * (tx.size : Int)) : lzRun tx bits wide limit (r + 1) st = (st, 2) := by
  rw [lzRun, if_pos h1]
theorem lzRun_I {tx : ByteArray} {bits : Int} {wide : Bool} {limit : Int} (hl : limit ≤ 65536) : ∀ (r : Nat) (st : LzSt), LzI tx bits st → LzI tx bits (lzRun tx bits wide limit r st).1 := by
  intro r
  induction r with
  | zero => intro st h; exact h
  | succ r ih =>
    intro st h
    by_cases hc : st.pos + lzWid st.list.length bits wide > 8 * (tx.size : Int)
    · rw [lzRun_short hc]; exact h
    · have h2 := (h.adv hc).step (n := lzNum tx bits wide st) (lzNum_b _ _ _ _) hl
      cases hs : (lzStep bits limit (lzAdv tx bits wide st) (lzNum tx bits wide st)).2 with
      | none => rw [lzRun_go hc hs]; exact ih _ h2
      | some c => rw [lzRun_end hc hs]; exact h2
theorem lzAll_I (tx : ByteArray) {bits : Int} (h : 2 ≤ bits ∧ bits ≤ 8) (wide : Bool) {limit : Int} (hl : limit ≤ 65536) : LzI tx bits (lzAll tx bits wide limit).1 := lzRun_I hl _ _ (LzI.init tx h)
theorem lzAll_len {tx : ByteArray} (hs : tx.size ≤ 9000) {bits : Int} (h : 2 ≤ bits ∧ bits ≤ 8) (wide : Bool) {limit : Int} (hl : limit ≤ 65536) : ((0 : Nat) + (lzAll tx bits wide limit).1.codes.length) * 8 ≤ 140737488355328 := by
  have hi := lzAll_I tx h wide hl
  have := hi.codes
  have := hi.pos
  omega
/-- The code of a text that is read, or of one that can't be. -/
def lzCode (tx : ByteArray) (bits : Int) (wide : Bool) (limit : Int) : Int := if lzOk bits wide = true ∧ tx.size ≤ 9000 ∧ 0 ≤ limit ∧ limit ≤ 5000 then (lzAll tx bits wide limit).2 else 1
/-- What is read: the bytes and a code. -/
def lzGetM (tx : ByteArray) (bits : Int) (wide : Bool) (limit : Int) : ByteArray × Int := if lzCode tx bits wide limit = 0 then ((lzAll tx bits wide limit).1.out, 0) else (⟨#[]⟩, lzCode tx bits wide limit)
theorem lzCodesM_code (tx : ByteArray) (bits : Int) (wide : Bool) : lzCodesM tx bits wide = if lzCode tx bits wide 5000 = 0 then (lzAll tx bits wide 5000).1.codes else [] := by
  unfold lzCodesM lzCodes lzCode
  by_cases c : lzOk bits wide = true ∧ tx.size ≤ 9000
  · rw [if_pos c, if_pos (show lzOk bits wide = true ∧ tx.size ≤ 9000 ∧ (0 : Int) ≤ 5000 ∧ (5000 : Int) ≤ 5000 from ⟨c.1, c.2, by decide, by decide⟩)]
  · rw [if_neg c, if_neg (show ¬ (lzOk bits wide = true ∧ tx.size ≤ 9000 ∧ (0 : Int) ≤ 5000 ∧ (5000 : Int) ≤ 5000) from fun h => c ⟨h.1, h.2.1⟩), if_neg (by decide)]
theorem lzGetM_in {tx : ByteArray} {bits : Int} {wide : Bool} {limit : Int} (h : lzOk bits wide = true ∧ tx.size ≤ 9000 ∧ 0 ≤ limit ∧ limit ≤ 5000) : lzGetM tx bits wide limit = if (lzAll tx bits wide limit).2 = 0 then ((lzAll tx bits wide limit).1.out, 0) else (⟨#[]⟩, (lzAll tx bits wide limit).2) := by
  have e : lzCode tx bits wide limit = (lzAll tx bits wide limit).2 := by unfold lzCode; rw [if_pos h]
  unfold lzGetM
  rw [e]
theorem lzGetM_out {tx : ByteArray} {bits : Int} {wide : Bool} {limit : Int} (h : ¬ (lzOk bits wide = true ∧ tx.size ≤ 9000 ∧ 0 ≤ limit ∧ limit ≤ 5000)) : lzGetM tx bits wide limit = (⟨#[]⟩, 1) := by
  have e : lzCode tx bits wide limit = 1 := by unfold lzCode; rw [if_neg h]
  unfold lzGetM
  rw [e, if_neg (by decide)]
end Go.Proofs.Ytdebckcphaocmaa.Th
