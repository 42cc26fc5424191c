/- Plain lemmas: the symbol that comes next of a text that was put by a code. No condition. -/
import Derived.Test.YtgajagocenffeaaThGet
import Derived.Test.YtgajagocenffeaaThPrefix
import Derived.Test.YtgajagocenffeaaThNum
namespace Go.Proofs.Ytgajagocenffeaa.Th
open Go.RowKit Go.Proofs.YtgajagocenffeaaW.PrintWords Go.Proofs.YtgajagocenffeaaW.PrintMore

/-- The first i bits from a place on, the first of them the highest. -/
def acM (s : ByteArray) (at_ : Int) : Nat → Int
  | 0 => 0
  | i + 1 => 2 * acM s at_ i + bitM s (at_ + i) false
theorem acM_b (s : ByteArray) (at_ : Int) (i : Nat) : 0 ≤ acM s at_ i ∧ acM s at_ i < P2 i := by
  induction i with
  | zero => exact ⟨Int.le_refl _, by show (0 : Int) < P2 0; decide⟩
  | succ i ih =>
    have := bitM_b s (at_ + i) false
    simp only [acM, P2_succ]; omega
/-- The symbol, and the place behind it: d sizes are left to try, i were tried. -/
def fM (s : ByteArray) (at_ : Int) (L : List Int) : Nat → Nat → Option (Nat × Int)
  | 0, _ => none
  | d + 1, i => if at_ + i < 8 * (s.size : Int) then
      match symF (codesM L) L (acM s at_ (i + 1)) ((i : Int) + 1) L.length with
      | some j => some (j, at_ + i + 1)
      | none => fM s at_ L d (i + 1)
    else none
def getR : Option (Nat × Int) → Int × Int
  | some (j, nx) => ((j : Int), nx)
  | none => (-1, 0)
def codeGetM (s : ByteArray) (at_ : Int) (L : List Int) : Int × Int :=
  if codeOkM L = true ∧ (s.size : Int) ≤ 9000 ∧ 0 ≤ at_ ∧ at_ ≤ 8 * (s.size : Int) then getR (fM s at_ L 15 0) else (-1, 0)
/-- What is found comes first. -/
theorem symF_first {L : List Int} (hok : lensOk L) (hk : kraft L ≤ 32768) {n z : Int} {j : Nat} (h : symF (codesM L) L n z L.length = some j) : ∀ i, i < j → ¬ (L.getD i 0 = z ∧ (codesM L).getD i 0 = n) := by
  obtain ⟨h1, h2, h3, h4⟩ := symF_some h
  intro i hi hc
  have := codesM_prefix hok hk i j (by omega) h1 (by omega) (by omega) (by omega)
  rw [show L.getD j 0 - L.getD i 0 = 0 by omega] at this
  apply this
  have e : P2 (0 : Int).toNat = 1 := rfl
  rw [e, Int.ediv_one]; omega
/-- What is found: a symbol, whose number stands there. -/
theorem fM_some {s : ByteArray} {at_ : Int} {L : List Int} : ∀ {d i : Nat} {j : Nat} {nx : Int}, fM s at_ L d i = some (j, nx) → ∃ n : Nat, i < n ∧ n ≤ i + d ∧ j < L.length ∧ L.getD j 0 = n ∧ (codesM L).getD j 0 = acM s at_ n ∧ nx = at_ + n ∧ at_ + n ≤ 8 * (s.size : Int) := by
  intro d
  induction d with
  | zero => intro i j nx h; cases h
  | succ d ih =>
    intro i j nx h
    unfold fM at h
    split at h
    · rename_i hlt
      split at h
      · rename_i q hq
        obtain ⟨h1, h2, h3, h4⟩ := symF_some hq
        injection h with h
        injection h with ha hb
        subst ha
        exact ⟨i + 1, by omega, by omega, h1, by omega, h3, by omega, by omega⟩
      · obtain ⟨n, h1, h2, h3⟩ := ih h
        exact ⟨n, by omega, by omega, h3⟩
    · cases h
theorem smallI_codes {L : List Int} (hok : lensOk L) (hk : kraft L ≤ 32768) : ∀ v ∈ codesM L, -9223372036854775808 ≤ v ∧ v ≤ 9223372036854775807 := by
  intro v hv
  obtain ⟨i, hi, rfl⟩ := List.mem_iff_getElem.1 hv
  rw [codesM_length] at hi
  have hg : (codesM L)[i]'(by rw [codesM_length]; exact hi) = (codesM L).getD i 0 := by rw [List.getD_eq_getElem?_getD, List.getElem?_eq_getElem (by rw [codesM_length]; exact hi)]; rfl
  rw [hg]
  by_cases hp : 0 < L.getD i 0
  · have h1 := codesM_bp hok hk i hi hp
    have hm : L.getD i 0 ∈ L := by rw [List.getD_eq_getElem?_getD, List.getElem?_eq_getElem hi]; exact List.getElem_mem _
    have h2 := P2_b (n := (L.getD i 0).toNat) (m := 15) (by have := hok _ hm; omega)
    rw [P2_15] at h2
    omega
  · rw [codesM_at L hok i hi, if_neg hp]; omega
end Go.Proofs.Ytgajagocenffeaa.Th
