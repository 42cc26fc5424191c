/- Arguments that are structs, slices of structs, slices of slices: what can be read as data is of its kind, well formed. No condition. -/
import Derived.Test.YtkjfefiphdloiaaV
import Derived.Deep.Slices
import Derived.Deep.Fields
import Derived.ChangeSame
import Derived.ChangeArms
import Derived.OpenShut
import Derived.WideShapes
namespace Go.Proofs.Ytkjfefiphdloiaa.Th
open Go.RowKit Go.Deep Go.WideShapes Go.Proofs.YtkjfefiphdloiaaW.PrintWords

/-- Whatever reads as data at type t is a value of kind d, and well formed. -/
def Opens {α : Type} (P : Program) (t : TypeId) (d : Kd α) (W : α → Prop) : Prop :=
  ∀ {H : Type} {enc : TypeId × Value → H} {w : World} {base : Nat} {spare : Nat → Bool} {held : Bool} {fuel : Nat} {cs : List Value} {x : DataW H × List MemPlace},
    DataW.trod enc P w base spare held fuel t cs = some x → ∃ y, d.K w y cs ∧ W y
theorem opens_int {P : Program} {t : TypeId} {k : IntKind} (ht : P.underlying t = some (.int k)) : Opens P t (Kd.int k) (fun x => (Lit.int k x).wf = true) := by
  intro H enc w base spare held fuel cs x h
  obtain ⟨n, rfl, _, hw⟩ := DataW.trod_int ht h
  exact ⟨n, rfl, hw⟩
theorem opens_list {α : Type} {q : Nat → α → Prop} : ∀ n : Nat, (∀ i, i < n → ∃ y, q i y) → ∃ ys : List α, ys.length = n ∧ ∀ i y, ys[i]? = some y → q i y := by
  intro n
  induction n with
  | zero => intro _; exact ⟨[], rfl, fun i y h => by simp at h⟩
  | succ n ih =>
    intro h
    obtain ⟨ys, hl, hq⟩ := ih (fun i hi => h i (by omega))
    obtain ⟨y, hy⟩ := h n (by omega)
    refine ⟨ys ++ [y], by simp [hl], fun i z hz => ?_⟩
    by_cases hi : i < ys.length
    · rw [List.getElem?_append_left hi] at hz; exact hq i z hz
    · rw [List.getElem?_append_right (by omega)] at hz
      have h0 : i - ys.length = 0 := by
        have := (List.getElem?_eq_some_iff.1 hz).1
        simp at this; omega
      rw [h0] at hz
      have e : i = n := by omega
      subst e
      simp at hz; subst hz; exact hy
theorem opens_slice {α : Type} {P : Program} {t e : TypeId} {d : Kd α} {W : α → Prop} (ht : P.underlying t = some (.slice e)) (hc : P.cellsOf e = d.sz) (he : Opens P e d W) :
    Opens P t (Kd.slice e d) (fun xs => xs.length ≤ maxLen ∧ ∀ x ∈ xs, W x) := by
  intro H enc w base spare held fuel cs x h
  rcases open_slice ht h with ⟨rfl, _⟩ | ⟨a, len, cap, m, n, D, Pl, rfl, hb, hl, hm, hmm, _, hi⟩
  · exact ⟨[], ⟨none, 0, rfl, Nat.le_refl _, rfl, by simp, fun h => absurd h (by simp)⟩, by simp, by simp⟩
  · have hle : len ≤ m := by rw [hmm]; split <;> omega
    obtain ⟨ys, hys, hq⟩ := opens_list (q := fun i y => (∃ c : List Value, c.length = d.sz ∧ d.K w y c ∧ ∀ j u, c[j]? = some u → w.cell? (a.add (i * d.sz + j)) = some u) ∧ W y) len (fun i hi2 => by
      obtain ⟨cs', h1, h2⟩ := hi i (by omega)
      obtain ⟨y, hK, hW⟩ := he h2
      obtain ⟨_, hlen, hcell⟩ := World.cells?_some h1
      refine ⟨y, ⟨cs', by omega, hK, fun j u hj => ?_⟩, hW⟩
      have hjl : j < P.cellsOf e := by have := (List.getElem?_eq_some_iff.1 hj).1; omega
      rw [← hc, ← Go.Deep.add_add, hcell j hjl, hj])
    subst hys
    have hmx : maxLen = 9223372036854775807 := rfl
    refine ⟨ys, ⟨some a, cap, rfl, hl, rfl, by omega, fun _ => ⟨a, rfl, fun j p hp => (hq j p hp).1⟩⟩, by omega, fun x hx => ?_⟩
    obtain ⟨i, hi2, rfl⟩ := List.mem_iff_getElem.1 hx
    exact (hq i _ (List.getElem?_eq_getElem hi2)).2
/-- A struct of one-cell fields, laid open: a list of cells, each read at its field's type. -/
theorem opens_fields {P : Program} {t : TypeId} {fs : Array Field} (ht : P.underlying t = some (.struct fs)) (hone : oneCellFields P fs = true) (hC : P.cellsOf t = fs.size)
    {H : Type} {enc : TypeId × Value → H} {w : World} {base : Nat} {spare : Nat → Bool} {held : Bool} {fuel : Nat} {cs : List Value} {x : DataW H × List MemPlace} (h : DataW.trod enc P w base spare held fuel t cs = some x) :
    cs.length = fs.size ∧ ∀ (i : Nat) (f : Field), fs[i]? = some f → ∃ n y, DataW.trod enc P w base spare held n f.type [cs.getD i undef] = some y := by
  obtain ⟨xs, n, _, _, hlen, hxl, hf⟩ := DataW.trod_struct ht h
  refine ⟨hlen.trans hC, fun i f hi => ?_⟩
  obtain ⟨ho, hc1⟩ := hone_of hone i f hi
  have hlt : i < fs.size := (Array.getElem?_eq_some_iff.1 hi).1
  have g := hf i f hi
  rw [ho, hc1, take1_drop cs i undef (by omega), List.getElem?_eq_getElem (by omega)] at g
  exact ⟨_, _, g⟩
theorem opens_of {α : Type} {P : Program} {t : TypeId} {d : Kd α} {W : α → Prop} (hO : Opens P t d W) {H : Type} {enc : TypeId × Value → H} {w : World} {base : Nat} {spare : Nat → Bool} {held : Bool} {v : Value} {x : DataW H} {p : List MemPlace} (h : DataW.Trod enc P w base spare held t v x p) :
    ∃ y, d.K w y v.cells.toList ∧ W y := by
  obtain ⟨fuel, hf⟩ := h
  exact hO hf
/-- A slice that came in. -/
theorem opens_arg {α : Type} {P : Program} {t e : TypeId} {d : Kd α} {W : List α → Prop} (hO : Opens P t (Kd.slice e d) W) {H : Type} {enc : TypeId × Value → H} {w : World} {base : Nat} {spare : Nat → Bool} {held : Bool} {a : Option Addr} {len cap : Nat} {x : DataW H} {p : List MemPlace} (h : DataW.Trod enc P w base spare held t (.slice a len cap) x p) :
    ∃ xs, len = xs.length ∧ xs.length ≤ cap ∧ Kd.C d w a xs.length xs ∧ W xs := by
  obtain ⟨y, ⟨A, c, he, hl, hC⟩, hW⟩ := opens_of hO h
  simp [Value.cells] at he
  obtain ⟨rfl, rfl, rfl⟩ := he
  exact ⟨y, rfl, hl, hC, hW⟩
/-- A struct that came in. -/
theorem opens_agg {α : Type} {P : Program} {t : TypeId} {d : Kd α} {W : α → Prop} (hO : Opens P t d W) {H : Type} {enc : TypeId × Value → H} {w : World} {base : Nat} {spare : Nat → Bool} {held : Bool} {cs : Array Value} {x : DataW H} {p : List MemPlace} (h : DataW.Trod enc P w base spare held t (.agg cs) x p) :
    ∃ y, d.K w y cs.toList ∧ W y := by
  have := opens_of hO h
  simpa [Value.cells] using this
theorem agg_of {cs : Array Value} {l : List Value} (h : cs.toList = l) : (Value.agg cs) = .agg l.toArray := by subst h; rfl
end Go.Proofs.Ytkjfefiphdloiaa.Th
