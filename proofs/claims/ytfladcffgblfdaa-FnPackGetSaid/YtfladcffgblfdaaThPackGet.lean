/- Plain lemmas: packed runs, read; two behind one another. No condition. -/
import Derived.Test.YtfladcffgblfdaaThPack
namespace Go.Proofs.Ytfladcffgblfdaa.Th
open Go.RowKit Go.Proofs.YtfladcffgblfdaaW.PrintWords Go.Proofs.YtfladcffgblfdaaW.PrintMore

def pgNeed (b : Int) : Nat := if 128 ≤ b then 1 else b.toNat + 1
def pgTimes (b : Int) : Nat := if 128 ≤ b then (257 - b).toNat else 1
/-- The bytes that a piece stands for. -/
def pgChunk (s : ByteArray) (at_ : Nat) : List Int := repC (((bytesOf s).drop (at_ + 1)).take (pgNeed (bt s at_))) (pgTimes (bt s at_))
def pgM (s : ByteArray) (limit : Int) : Nat → Nat → List Int → List Int × Int
  | 0, _, out => (out, 0)
  | f + 1, at_, out =>
    if at_ < s.size then
      if bt s at_ = 128 then pgM s limit f (at_ + 1) out
      else if s.size < at_ + 1 + pgNeed (bt s at_) then ([], 2)
      else if ((out ++ pgChunk s at_).length : Int) > limit then ([], 3)
      else pgM s limit f (at_ + 1 + pgNeed (bt s at_)) (out ++ pgChunk s at_)
    else (out, 0)
theorem pgM_grows (s : ByteArray) (limit : Int) : ∀ (f at_ : Nat) (out o : List Int), pgM s limit f at_ out = (o, 0) → ∃ z, o = out ++ z := by
  intro f
  induction f with
  | zero => intro at_ out o h; simp only [pgM, Prod.mk.injEq] at h; exact ⟨[], by simp [h.1]⟩
  | succ f ih =>
    intro at_ out o h
    simp only [pgM] at h
    split at h
    · split at h
      · exact ih _ _ _ h
      · split at h
        · simp at h
        · split at h
          · simp at h
          · obtain ⟨z, hz⟩ := ih _ _ _ h
            exact ⟨pgChunk s at_ ++ z, by rw [hz, List.append_assoc]⟩
    · simp only [Prod.mk.injEq] at h; exact ⟨[], by simp [h.1]⟩
theorem bt_left (s t : ByteArray) {i : Nat} (h : i < s.size) : bt (s ++ t) (i : Int) = bt s i := by
  have hl := bytesOf_length s
  rw [← rd_bytesOf, ← rd_bytesOf, bytesOf_append]
  unfold rd
  rw [Int.toNat_natCast, List.getD_eq_getElem?_getD, List.getD_eq_getElem?_getD, List.getElem?_append_left (by omega)]
theorem bt_right (s t : ByteArray) (i : Nat) : bt (s ++ t) ((s.size + i : Nat) : Int) = bt t i := by
  have hl := bytesOf_length s
  rw [← rd_bytesOf, ← rd_bytesOf, bytesOf_append]
  unfold rd
  rw [Int.toNat_natCast, Int.toNat_natCast, List.getD_eq_getElem?_getD, List.getD_eq_getElem?_getD, List.getElem?_append_right (by omega), show s.size + i - (bytesOf s).length = i by omega]
theorem pgChunk_left (s t : ByteArray) {at_ : Nat} (h : at_ + 1 + pgNeed (bt s at_) ≤ s.size) : pgChunk (s ++ t) at_ = pgChunk s at_ := by
  have hl := bytesOf_length s
  unfold pgChunk
  rw [bt_left s t (by omega), bytesOf_append, List.drop_append_of_le_length (by omega), List.take_append_of_le_length (by rw [List.length_drop]; omega)]
theorem pgChunk_right (s t : ByteArray) (at_ : Nat) : pgChunk (s ++ t) (s.size + at_) = pgChunk t at_ := by
  have hl := bytesOf_length s
  unfold pgChunk
  rw [bt_right s t, bytesOf_append, show s.size + at_ + 1 = (bytesOf s).length + (at_ + 1) by omega, List.drop_length_add_append]
theorem pgM_front (s t : ByteArray) (limit : Int) (hl : limit ≤ 5000) : ∀ (f at_ : Nat) (out o : List Int), at_ ≤ s.size → s.size ≤ at_ + f → pgM s limit f at_ out = (o, 0) → ∀ F : Nat, (s ++ t).size ≤ at_ + F → ∃ F' : Nat, (s ++ t).size ≤ s.size + F' ∧ pgM (s ++ t) 5000 F at_ out = pgM (s ++ t) 5000 F' s.size o := by
  have hsz : (s ++ t).size = s.size + t.size := ByteArray.size_append
  intro f
  induction f with
  | zero =>
    intro at_ out o h1 h2 h F hF
    simp only [pgM, Prod.mk.injEq] at h
    have e : at_ = s.size := by omega
    subst e
    exact ⟨F, hF, by rw [h.1]⟩
  | succ f ih =>
    intro at_ out o h1 h2 h F hF
    simp only [pgM] at h
    by_cases c1 : at_ < s.size
    · rw [if_pos c1] at h
      obtain ⟨G, rfl⟩ : ∃ G, F = G + 1 := ⟨F - 1, by omega⟩
      simp only [pgM]
      rw [if_pos (by omega), bt_left s t c1]
      by_cases c2 : bt s at_ = 128
      · rw [if_pos c2] at h ⊢
        exact ih _ _ _ (by omega) (by omega) h G (by omega)
      · rw [if_neg c2] at h ⊢
        by_cases c3 : s.size < at_ + 1 + pgNeed (bt s at_)
        · rw [if_pos c3] at h; simp at h
        · rw [if_neg c3] at h
          rw [if_neg (by omega), pgChunk_left s t (by omega)]
          by_cases c4 : ((out ++ pgChunk s at_).length : Int) > limit
          · rw [if_pos c4] at h; simp at h
          · rw [if_neg c4] at h
            rw [if_neg (by omega)]
            exact ih _ _ _ (by omega) (by omega) h G (by omega)
    · rw [if_neg c1] at h
      simp only [Prod.mk.injEq] at h
      have e : at_ = s.size := by omega
      subst e
      exact ⟨F, hF, by rw [h.1]⟩
theorem pgM_back (s t : ByteArray) (pre : List Int) : ∀ (f at_ : Nat) (out o : List Int), at_ ≤ t.size → t.size ≤ at_ + f → pgM t 5000 f at_ out = (o, 0) → pre.length + o.length ≤ 5000 → ∀ F : Nat, t.size ≤ at_ + F → pgM (s ++ t) 5000 F (s.size + at_) (pre ++ out) = (pre ++ o, 0) := by
  have hsz : (s ++ t).size = s.size + t.size := ByteArray.size_append
  intro f
  induction f with
  | zero =>
    intro at_ out o h1 h2 h hp F hF
    simp only [pgM, Prod.mk.injEq] at h
    cases F with
    | zero => simp only [pgM]; rw [h.1]
    | succ F => simp only [pgM]; rw [if_neg (by omega), h.1]
  | succ f ih =>
    intro at_ out o h1 h2 h hp F hF
    simp only [pgM] at h
    by_cases c1 : at_ < t.size
    · rw [if_pos c1] at h
      obtain ⟨G, rfl⟩ : ∃ G, F = G + 1 := ⟨F - 1, by omega⟩
      simp only [pgM]
      rw [if_pos (by omega), bt_right s t]
      by_cases c2 : bt t at_ = 128
      · rw [if_pos c2] at h ⊢
        exact ih _ _ _ (by omega) (by omega) h hp G (by omega)
      · rw [if_neg c2] at h ⊢
        by_cases c3 : t.size < at_ + 1 + pgNeed (bt t at_)
        · rw [if_pos c3] at h; simp at h
        · rw [if_neg c3] at h
          rw [if_neg (by omega), pgChunk_right s t]
          by_cases c4 : ((out ++ pgChunk t at_).length : Int) > 5000
          · rw [if_pos c4] at h; simp at h
          · rw [if_neg c4] at h
            obtain ⟨z, hz⟩ := pgM_grows _ _ _ _ _ _ h
            have hzl : o.length = (out ++ pgChunk t at_).length + z.length := by rw [hz, List.length_append]
            rw [List.append_assoc, if_neg (by rw [List.length_append]; omega)]
            have := ih _ _ _ (by omega) (by omega) h hp G (by omega)
            rw [show s.size + at_ + 1 + pgNeed (bt t at_) = s.size + (at_ + 1 + pgNeed (bt t at_)) by omega]
            exact this
    · rw [if_neg c1] at h
      simp only [Prod.mk.injEq] at h
      cases F with
      | zero => simp only [pgM]; rw [h.1]
      | succ F => simp only [pgM]; rw [if_neg (by omega), h.1]
end Go.Proofs.Ytfladcffgblfdaa.Th
