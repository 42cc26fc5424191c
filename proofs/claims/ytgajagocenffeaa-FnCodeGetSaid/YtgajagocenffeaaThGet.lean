/- Lemmas on a map by number and size: what it holds at a place, and how such a place reads as a key. No condition. -/
import Derived.Test.YtgajagocenffeaaThTree
import Derived.Test.YtgajagocenffeaaV
import Derived.Test.YtgajagocenffeaaProg
import Derived.Maps.OwnSet
import Derived.DeepKeys4
import Derived.WideKeyArgs2
namespace Go.Proofs.Ytgajagocenffeaa.Th
open Go.RowKit Go.Proofs.YtgajagocenffeaaW.PrintWords Go.Proofs.YtgajagocenffeaaW.PrintMore

/-- The last symbol of such a number and size among the first. -/
def symF (codes lens : List Int) (n s : Int) : Nat → Option Nat
  | 0 => none
  | i + 1 => if 0 < lens.getD i 0 ∧ codes.getD i 0 = n ∧ lens.getD i 0 = s then some i else symF codes lens n s i
def placeV (n s : Int) : Value := .agg #[.int .i64 n, .int .i64 s]
noncomputable def placeK (n s : Int) : Lit := (keyOf Try.prog 63 (placeV n s)).getD .nil
theorem placeLaid : laidOutB Try.prog = true := by kernel_rfl
theorem placeWide : (match Try.prog.underlying 63 with | some (.array _ _) | some (.struct _) => true | _ => false) = true := by rw [Try.underlying63]
theorem placeLaw : Maps.Keyed Try.prog 63 := Maps.Keyed.of_law (deep_law_laid placeLaid (m := 2) (by omega) (of_decide_eq_true (by kernel_rfl)) (by kernel_rfl) placeWide)
theorem placeCells : Try.prog.cellsOf 63 = 2 := by kernel_rfl
theorem intCells : Try.prog.cellsOf 3 = 1 := by kernel_rfl
theorem placeType : Try.prog.keyType 63 = true := by kernel_rfl
theorem typesSize : ∃ m, Try.prog.types.size = m + 1 := ⟨Try.prog.types.size - 1, by have : 0 < Try.prog.types.size := of_decide_eq_true (by kernel_rfl); omega⟩
theorem i64_wf {n : Int} (h : -9223372036854775808 ≤ n ∧ n ≤ 9223372036854775807) : (Lit.int .i64 n).wf = true := by
  simp [Lit.wf, IntKind.min, IntKind.max, IntKind.bits, IntKind.signed]; omega
theorem place_key {n s : Int} (hn : -9223372036854775808 ≤ n ∧ n ≤ 9223372036854775807) (hs : -9223372036854775808 ≤ s ∧ s ≤ 9223372036854775807) : keyOf Try.prog 63 (placeV n s) = some (placeK n s) := by
  have h : ∃ l, keyOf Try.prog 63 (placeV n s) = some l := by
    obtain ⟨m, hm⟩ := typesSize
    unfold keyOf placeV
    simp only [Try.underlying63]
    rw [if_pos (by simp [placeType, Value.formed, Try.underlying63, placeCells]), hm]
    unfold Program.keyLits
    simp only [Try.underlying63, Value.cells]
    simp [Program.keyLits, placeCells, intCells, Try.underlying3, i64_wf hn, i64_wf hs]
  obtain ⟨l, hl⟩ := h
  unfold placeK
  rw [hl]; rfl
theorem place_is {n s : Int} (hn : -9223372036854775808 ≤ n ∧ n ≤ 9223372036854775807) (hs : -9223372036854775808 ≤ s ∧ s ≤ 9223372036854775807) : WideAt.IsKeyLit (placeK n s) := placeLaw.key (place_key hn hs)
theorem place_ne {n s n' s' : Int} (hn : -9223372036854775808 ≤ n ∧ n ≤ 9223372036854775807) (hs : -9223372036854775808 ≤ s ∧ s ≤ 9223372036854775807) (hn' : -9223372036854775808 ≤ n' ∧ n' ≤ 9223372036854775807) (hs' : -9223372036854775808 ≤ s' ∧ s' ≤ 9223372036854775807)
    (h : ¬ (n' = n ∧ s' = s)) : placeK n s ≠ placeK n' s' := by
  intro e
  have h1 := place_key hn hs
  rw [e] at h1
  have h2 := placeLaw.inj h1 (place_key hn' hs')
  unfold placeV at h2
  simp at h2
  exact h ⟨h2.1.symm, h2.2.symm⟩
/-- What the map reads as when the first symbols are in. -/
noncomputable def symD (codes lens : List Int) : Nat → DataW Unit
  | 0 => .map []
  | i + 1 => if 0 < lens.getD i 0 then (symD codes lens i).put (placeK (codes.getD i 0) (lens.getD i 0)) (.lit (.int .i64 i)) else symD codes lens i
theorem symD_isMap (codes lens : List Int) : ∀ i, Maps.IsMap (symD codes lens i) := by
  intro i
  induction i with
  | zero => exact Maps.isMap_empty
  | succ i ih => unfold symD; split; · exact ih.put _ _
                 · exact ih
def smallI (l : List Int) : Prop := ∀ v ∈ l, -9223372036854775808 ≤ v ∧ v ≤ 9223372036854775807
theorem smallI_at {l : List Int} (h : smallI l) (i : Nat) : -9223372036854775808 ≤ l.getD i 0 ∧ l.getD i 0 ≤ 9223372036854775807 := by
  rw [List.getD_eq_getElem?_getD]
  cases e : l[i]? with
  | none => simp
  | some v => exact h v (List.mem_of_getElem? e)
/-- What it holds. -/
theorem symD_at {codes lens : List Int} (hc : smallI codes) (hl : smallI lens) {n s : Int} (hn : -9223372036854775808 ≤ n ∧ n ≤ 9223372036854775807) (hs : -9223372036854775808 ≤ s ∧ s ≤ 9223372036854775807) :
    ∀ i, Maps.has (symD codes lens i) (placeK n s) = (symF codes lens n s i).isSome ∧ (symD codes lens i).atKey (placeK n s) (.lit (.int .i64 0)) = .lit (.int .i64 ((symF codes lens n s i).getD 0 : Nat)) := by
  intro i
  induction i with
  | zero => exact ⟨rfl, rfl⟩
  | succ i ih =>
    have hci := smallI_at hc i
    have hli := smallI_at hl i
    have hm := symD_isMap codes lens i
    unfold symD symF
    by_cases c : 0 < lens.getD i 0
    · rw [if_pos c]
      by_cases c2 : codes.getD i 0 = n ∧ lens.getD i 0 = s
      · rw [if_pos ⟨c, c2⟩, c2.1, c2.2]
        exact ⟨Maps.has_put_same hm (place_is hn hs) _, Maps.atKey_put_same hm (place_is hn hs) _ _⟩
      · have hne := place_ne hn hs hci hli c2
        rw [if_neg (fun h => c2 h.2), Maps.has_put_other hne, Maps.atKey_put_other hne]
        exact ih
    · rw [if_neg c, if_neg (fun h => c h.1)]
      exact ih
theorem symF_some {codes lens : List Int} {n s : Int} {i j : Nat} (h : symF codes lens n s i = some j) : j < i ∧ 0 < lens.getD j 0 ∧ codes.getD j 0 = n ∧ lens.getD j 0 = s := by
  induction i with
  | zero => cases h
  | succ i ih =>
    unfold symF at h
    split at h
    · cases h; rename_i hc; exact ⟨by omega, hc⟩
    · have := ih h; exact ⟨by omega, this.2⟩
theorem symF_none {codes lens : List Int} {n s : Int} {i : Nat} (h : symF codes lens n s i = none) : ∀ j, j < i → ¬ (0 < lens.getD j 0 ∧ codes.getD j 0 = n ∧ lens.getD j 0 = s) := by
  induction i with
  | zero => intro j hj; omega
  | succ i ih =>
    intro j hj
    unfold symF at h
    split at h
    · cases h
    · rename_i hc
      by_cases e : j = i
      · subst e; exact hc
      · exact ih h j (by omega)
end Go.Proofs.Ytgajagocenffeaa.Th
