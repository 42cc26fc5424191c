/- Plain lemmas: packets that are made are read again, and how long they are. No condition. -/
import Derived.Test.YtfladcffgblfdaaThRun
import Derived.Test.YtfladcffgblfdaaThRunPut
import Derived.Test.YtfladcffgblfdaaThNumGP
namespace Go.Proofs.Ytfladcffgblfdaa.Th
open Go.RowKit Go.Proofs.YtfladcffgblfdaaW.PrintWords Go.Proofs.YtfladcffgblfdaaW.PrintMore

theorem bt_mid (s : ByteArray) (pre mid post : List Int) (h : bytesOf s = pre ++ mid ++ post) (j : Nat) (hj : j < mid.length) : bt s ((pre.length : Int) + j) = rd mid j := by
  rw [← rd_bytesOf, h]
  unfold rd
  rw [show ((pre.length : Int) + (j : Int)).toNat = pre.length + j by omega, Int.toNat_natCast, List.getD_eq_getElem?_getD, List.getD_eq_getElem?_getD, List.append_assoc, List.getElem?_append_right (by omega), Nat.add_sub_cancel_left, List.getElem?_append_left hj]
/-- A number's bytes are the number. -/
theorem numA_of (s : ByteArray) (pre post : List Int) (x : Int) (size : Nat) (hx : 0 ≤ x ∧ x < P2 (8 * size)) (h : bytesOf s = pre ++ bytesLo x size ++ post) : numA s (pre.length : Int) (size : Int) = x := by
  have hl := bytesLo_length x size
  unfold numA
  rw [Int.toNat_natCast, numM_of s (pre.length : Int) size false x hx.1 hx.2 (by
    intro i hi
    have e := bt_mid s pre _ post h (size - 1 - i) (by omega)
    unfold ixM
    rw [if_neg (by decide), show (pre.length : Int) + size - 1 - i = (pre.length : Int) + ((size - 1 - i : Nat) : Int) by omega, e]
    unfold rd
    rw [Int.toNat_natCast, List.getD_eq_getElem?_getD, bytesLo_get _ _ _ (by omega)]
    rfl) size (by omega)]
  simp [P2]
theorem nmM_split (L : List Int) (at_ : Int) (size : Nat) : ∀ (n j : Nat), j < n → ∃ z, nmM L at_ size n = nmM L at_ size j ++ bytesLo (rd L (at_ + j)) size ++ z := by
  intro n
  induction n with
  | zero => intro j h; omega
  | succ n ih =>
    intro j h
    by_cases e : j = n
    · subst e; exact ⟨[], by simp [nmM]⟩
    · obtain ⟨z, hz⟩ := ih j (by omega)
      exact ⟨z ++ bytesLo (rd L (at_ + n)) size, by simp only [nmM]; rw [hz, List.append_assoc _ z]⟩
theorem pkM_of (s : ByteArray) (L : List Int) (q size : Int) (same : Bool) (a n : Nat) (ha : a + n ≤ L.length) (h : ∀ j : Nat, j < n → numA s (if same = true then q else q + j * size) size = rd L ((a : Int) + j)) : ∀ j : Nat, j ≤ n → pkM s q size same j = (L.drop a).take j := by
  intro j
  induction j with
  | zero => intro _; simp [pkM]
  | succ j ih =>
    intro hj
    simp only [pkM]
    rw [ih (by omega), h j (by omega), take_rd L a j (by omega)]
theorem take_more (L : List Int) (a n : Nat) : L.take a ++ (L.drop a).take n = L.take (a + n) := by
  rw [List.take_add]
/-- What is packed is read again. -/
theorem run_of_put (s : ByteArray) (L : List Int) (size : Nat) (hx : ∀ x ∈ L, 0 ≤ x ∧ x < P2 (8 * size)) : ∀ (f a : Nat), a ≤ L.length → L.length ≤ a + f → ∀ (pre post : List Int), bytesOf s = pre ++ rpM L size f (a : Int) ++ post → ∀ f' : Nat, L.length ≤ a + f' → runM s (size : Int) (L.length : Int) f' (pre.length : Int) (L.take a) = (L, (pre.length : Int) + ((rpM L size f (a : Int)).length : Int), true) := by
  intro f
  induction f with
  | zero =>
    intro a h1 h2 pre post hb f' hf
    have e : L.take a = L := List.take_of_length_le (by omega)
    rw [e]
    cases f' with
    | zero => simp [runM, rpM]
    | succ f' => simp only [runM]; rw [if_neg (by omega)]; simp [rpM]
  | succ f ih =>
    intro a h1 h2 pre post hb f' hf
    by_cases h : (a : Int) < L.length
    · have hc := cutM_b L a 2 (by omega) h (by omega)
      have hxr : ∀ i : Int, 0 ≤ rd L i ∧ rd L i < P2 (8 * size) := by
        intro i
        rcases rd_mem_or L i with h1 | h1
        · exact hx _ h1
        · rw [h1]; have := P2_pos (8 * size); omega
      obtain ⟨g, rfl⟩ : ∃ g, f' = g + 1 := ⟨f' - 1, by omega⟩
      have htl : (L.take a).length = a := by rw [List.length_take]; omega
      have hsz := bytesOf_length s
      obtain ⟨n, hn⟩ : ∃ n : Nat, (cutM L a 2).1 = (n : Int) := ⟨(cutM L a 2).1.toNat, by omega⟩
      simp only [rpM, if_pos h] at hb ⊢
      rw [hn] at hb hc ⊢
      rw [show (a : Int) + (n : Int) = ((a + n : Nat) : Int) by omega] at hb ⊢
      have key : ∀ (b : Int) (same : Bool) (body : List Int), pieceM L a size = b :: body → decide (128 ≤ b) = same → pkN b = n → (body.length : Int) = pkNeed b size → pkM s ((pre.length : Int) + 1) size same n = (L.drop a).take n → runM s (size : Int) (L.length : Int) (g + 1) (pre.length : Int) (L.take a) = (L, (pre.length : Int) + ((pieceM L a size ++ rpM L size f ((a + n : Nat) : Int)).length : Int), true) := by
        intro b same body e1 e2 e3 e4 e5
        rw [e1] at hb
        have hbt : bt s (pre.length : Int) = b := bt_split (pre := pre) (suf := body ++ rpM L size f ((a + n : Nat) : Int) ++ post) (by rw [hb]; simp) rfl
        have hlen : s.size = pre.length + 1 + body.length + (rpM L size f ((a + n : Nat) : Int)).length + post.length := by rw [← hsz, hb]; simp; omega
        have hi := ih (a + n) (by omega) (by omega) (pre ++ b :: body) post (by rw [hb]; simp) g (by omega)
        simp only [runM]
        rw [hbt, htl, if_pos h, if_pos (by omega), ← e4, e3, if_pos (by omega), e2, Int.toNat_natCast, e5, take_more]
        rw [show (pre.length : Int) + 1 + (body.length : Int) = ((pre ++ b :: body).length : Int) by simp; omega, hi, e1]
        simp; omega
      by_cases c : (cutM L a 2).2 = true
      · have hs := hc.2.2.2 c
        have hp : pieceM L a size = (127 + (n : Int)) :: bytesLo (rd L a) size := by
          unfold pieceM; rw [if_pos c, hn]; simp [nmM]
        refine key _ true _ hp (decide_eq_true (by omega)) (by unfold pkN; omega) (by unfold pkNeed; rw [if_pos (by omega), bytesLo_length]) ?_
        refine pkM_of s L _ _ true a n (by omega) (fun j hj => ?_) n (by omega)
        rw [if_pos rfl, hs.2 j (by omega) (by omega)]
        have := numA_of s (pre ++ [127 + (n : Int)]) (rpM L size f ((a + n : Nat) : Int) ++ post) (rd L a) size (hxr _) (by rw [hb, hp]; simp)
        rw [List.length_append, List.length_singleton] at this
        rw [show (pre.length : Int) + 1 = ((pre.length + 1 : Nat) : Int) by omega]
        exact this
      · have hp : pieceM L a size = ((n : Int) - 1) :: nmM L a size n := by
          unfold pieceM; rw [if_neg c, hn, Int.toNat_natCast]
        refine key _ false _ hp (decide_eq_false (by omega)) (by unfold pkN; omega) (by unfold pkNeed; rw [if_neg (by omega), nmM_length, show pkN ((n : Int) - 1) = n by unfold pkN; omega]; push_cast; rfl) ?_
        refine pkM_of s L _ _ false a n (by omega) (fun j hj => ?_) n (by omega)
        rw [if_neg (by decide)]
        obtain ⟨z, hz'⟩ := nmM_split L a size n j hj
        have := numA_of s (pre ++ [(n : Int) - 1] ++ nmM L a size j) (z ++ rpM L size f ((a + n : Nat) : Int) ++ post) (rd L ((a : Int) + j)) size (hxr _) (by rw [hb, hp, hz']; simp)
        rw [List.length_append, List.length_append, List.length_singleton, nmM_length] at this
        rw [show (pre.length : Int) + 1 + (j : Int) * (size : Int) = ((pre.length + 1 + j * size : Nat) : Int) by push_cast; rfl]
        exact this
    · have e : L.take a = L := List.take_of_length_le (by omega)
      rw [e]
      cases f' with
      | zero => simp only [runM, rpM, if_neg h]; simp
      | succ f' => simp only [runM, rpM, if_neg h]; rw [if_neg (by omega)]; simp
theorem cut_next (L : List Int) (at_ : Int) (h : at_ < L.length) (c : ¬ (cutM L at_ 2).2 = true) (hn : (cutM L at_ 2).1 < 128) (hl : at_ + (cutM L at_ 2).1 < L.length) : (cutM L (at_ + (cutM L at_ 2).1) 2).2 = true := by
  have h2 := otM_b L at_ 2 h
  have e : cutM L at_ 2 = (otM L at_ 2, false) := by
    unfold cutM at c ⊢
    split
    · rename_i hs; rw [if_pos hs] at c; exact absurd rfl c
    · rfl
  rw [e] at hn hl ⊢
  have h3 := of_decide_eq_false h2.2.2.2
  dsimp only at hn hl ⊢
  unfold cutM
  rw [if_pos (by omega)]
/-- How long it is. -/
theorem rpM_length (L : List Int) (size : Nat) (hz : 1 ≤ size) : ∀ (f : Nat) (at_ : Int) (rest : Nat), 0 ≤ at_ → at_ + rest = L.length → rest ≤ f → (rpM L size f at_).length ≤ size * rest + (rest + 127) / 128 + rest / 2 ∧ (0 < rest → (cutM L at_ 2).2 = true → (rpM L size f at_).length ≤ size * rest + (rest - 2 + 127) / 128 + (rest - 2) / 2) := by
  intro f
  induction f with
  | zero => intro at_ rest h0 h1 h2; exact ⟨by simp [rpM], fun h => by omega⟩
  | succ f ih =>
    intro at_ rest h0 h1 h2
    simp only [rpM]
    by_cases h : at_ < L.length
    · have hc := cutM_b L at_ 2 h0 h (by omega)
      rw [if_pos h]
      obtain ⟨n, hn⟩ : ∃ n : Nat, (cutM L at_ 2).1 = (n : Int) := ⟨(cutM L at_ 2).1.toNat, by omega⟩
      rw [hn] at hc ⊢
      have hi := ih (at_ + n) (rest - n) (by omega) (by omega) (by omega)
      have hm : size * rest = size * n + size * (rest - n) := by rw [← Nat.mul_add]; congr 1; omega
      by_cases c : (cutM L at_ 2).2 = true
      · have hs := (hc.2.2.2 c).1
        have hp : (pieceM L at_ size).length = size + 1 := by unfold pieceM; rw [if_pos c, List.length_cons, nmM_length, Nat.one_mul]
        have h2 : size * 2 ≤ size * n := Nat.mul_le_mul_left _ (by omega)
        have hq : (pieceM L at_ size ++ rpM L size f (at_ + n)).length ≤ size * rest + (rest - 2 + 127) / 128 + (rest - 2) / 2 := by
          rw [List.length_append, hp]; omega
        exact ⟨by omega, fun _ _ => hq⟩
      · have hp : (pieceM L at_ size).length = size * n + 1 := by unfold pieceM; rw [if_neg c, List.length_cons, nmM_length, hn, Int.toNat_natCast, Nat.mul_comm]
        refine ⟨?_, fun _ e => absurd e c⟩
        rw [List.length_append, hp]
        by_cases hl : n < 128 ∧ n < rest
        · have hx := cut_next L at_ h c (by omega) (by omega)
          rw [hn] at hx
          have := hi.2 (by omega) hx
          omega
        · omega
    · rw [if_neg h]
      exact ⟨by simp, fun _ _ => by simp⟩
end Go.Proofs.Ytfladcffgblfdaa.Th
