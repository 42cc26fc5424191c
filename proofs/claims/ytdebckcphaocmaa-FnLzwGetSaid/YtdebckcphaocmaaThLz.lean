/- Lemmas on memory: a record of a text that is read number by number, with three rows of its own. No condition. -/
import Derived.Test.YtdebckcphaocmaaThBase
import Derived.Test.YtdebckcphaocmaaV
namespace Go.Proofs.Ytdebckcphaocmaa.Th
open Go.RowKit Go.Proofs.YtdebckcphaocmaaW.PrintWords Go.Proofs.YtdebckcphaocmaaW.PrintMore

/-- A row stays while a row of another kind of elements is written. -/
theorem R_other {α β : Type} {d : Kd α} {d' : Kd β} {e e' base base' : Nat} {ok ok' : Nat → Prop} {W w1 : World} {v u : Value} {xs : List α} {ys : List β} (h : d.R e W base ok v xs) (hE : d.E = []) (h2 : d'.R e' W base' ok' u ys) (hne : e ≠ e') (hg : W.grownBy w1 u.ownBlock) : d.R e w1 base ok v xs :=
  Kd.R_grown2 h hE hg (fun k hk => by
    obtain ⟨cells, hc⟩ := Kd.R_typed h2 k hk
    exact Kd.R_ne h hc hne)
theorem isE (s : ByteArray) : s.toList.isEmpty = decide (s.size = 0) := by
  rw [ByteArray.toList_eq, ← data_length]
  cases s.data.toList <;> simp
theorem lz_cells {W : World} {g T : Nat} {v0 v1 v2 v3 v4 v5 v6 v7 v8 v9 : Value} (h : W.heap[g]? = some (.cells #[v0, v1, v2, v3, v4, v5, v6, v7, v8, v9] T (0, 0))) : W.cell? ⟨g, 0, none⟩ = some v0 ∧ W.cell? ⟨g, 1, none⟩ = some v1 ∧ W.cell? ⟨g, 2, none⟩ = some v2 ∧ W.cell? ⟨g, 3, none⟩ = some v3 ∧ W.cell? ⟨g, 4, none⟩ = some v4 ∧ W.cell? ⟨g, 5, none⟩ = some v5 ∧ W.cell? ⟨g, 6, none⟩ = some v6 ∧ W.cell? ⟨g, 7, none⟩ = some v7 ∧ W.cell? ⟨g, 8, none⟩ = some v8 ∧ W.cell? ⟨g, 9, none⟩ = some v9 :=
  ⟨(blk_cell h 0).trans rfl, (blk_cell h 1).trans rfl, (blk_cell h 2).trans rfl, (blk_cell h 3).trans rfl, (blk_cell h 4).trans rfl, (blk_cell h 5).trans rfl, (blk_cell h 6).trans rfl, (blk_cell h 7).trans rfl, (blk_cell h 8).trans rfl, (blk_cell h 9).trans rfl⟩
/-- The reference's reader, in block g: its text, bits, whether it is wide, limit, place, what is known, the last text, what came out, the numbers, a code. -/
structure LS (W : World) (base g : Nat) (tx : ByteArray) (bits : Int) (wide : Bool) (limit at_ : Int) (vl : Value) (list : List ByteArray) (last : ByteArray) (vo : Value) (out : List Int) (vc : Value) (codes : List Int) (code : Int) : Prop where
  blk : W.heap[g]? = some (.cells #[.string tx, .int .i64 bits, .bool wide, .int .i64 limit, .int .i64 at_, vl, .string last, vo, vc, .int .i64 code] 56 (0, 0))
  ge : base ≤ g
  rl : Kd.R Kd.string 9 W base (fun _ => True) vl list
  ro : Kd.R (Kd.int .u8) 5 W base (fun _ => True) vo out
  rc : Kd.R (Kd.int .i64) 3 W base (fun _ => True) vc codes
section
variable {W w1 : World} {base g : Nat} {tx : ByteArray} {bits : Int} {wide : Bool} {limit at_ : Int} {vl : Value} {list : List ByteArray} {last : ByteArray} {vo : Value} {out : List Int} {vc : Value} {codes : List Int} {code : Int}
theorem LS.lt (h : LS W base g tx bits wide limit at_ vl list last vo out vc codes code) : g < W.heap.size := blk_lt h.blk
theorem LS.cells (h : LS W base g tx bits wide limit at_ vl list last vo out vc codes code) : W.cell? ⟨g, 0, none⟩ = some (.string tx) ∧ W.cell? ⟨g, 1, none⟩ = some (.int .i64 bits) ∧ W.cell? ⟨g, 2, none⟩ = some (.bool wide) ∧ W.cell? ⟨g, 3, none⟩ = some (.int .i64 limit) ∧ W.cell? ⟨g, 4, none⟩ = some (.int .i64 at_) ∧ W.cell? ⟨g, 5, none⟩ = some vl ∧ W.cell? ⟨g, 6, none⟩ = some (.string last) ∧ W.cell? ⟨g, 7, none⟩ = some vo ∧ W.cell? ⟨g, 8, none⟩ = some vc ∧ W.cell? ⟨g, 9, none⟩ = some (.int .i64 code) :=
  ⟨(blk_cell h.blk 0).trans rfl, (blk_cell h.blk 1).trans rfl, (blk_cell h.blk 2).trans rfl, (blk_cell h.blk 3).trans rfl, (blk_cell h.blk 4).trans rfl, (blk_cell h.blk 5).trans rfl, (blk_cell h.blk 6).trans rfl, (blk_cell h.blk 7).trans rfl, (blk_cell h.blk 8).trans rfl, (blk_cell h.blk 9).trans rfl⟩
theorem LS.below (h : LS W base g tx bits wide limit at_ vl list last vo out vc codes code) (hb : Below W.heap.size W w1) : LS w1 base g tx bits wide limit at_ vl list last vo out vc codes code :=
  ⟨blk_below h.blk hb, h.ge, Kd.R_below h.rl hb, Kd.R_below h.ro hb, Kd.R_below h.rc hb⟩
theorem LS.drewN (h : LS W base g tx bits wide limit at_ vl list last vo out vc codes code) (m : Nat) : LS (W.drewN m) base g tx bits wide limit at_ vl list last vo out vc codes code :=
  ⟨h.blk, h.ge, Kd.R_drewN h.rl m, Kd.R_drewN h.ro m, Kd.R_drewN h.rc m⟩
theorem LS.drew (h : LS W base g tx bits wide limit at_ vl list last vo out vc codes code) : LS W.drew base g tx bits wide limit at_ vl list last vo out vc codes code := ⟨h.blk, h.ge, Kd.R_drew h.rl, Kd.R_drew h.ro, Kd.R_drew h.rc⟩
theorem LS.at4 (h : LS W base g tx bits wide limit at_ vl list last vo out vc codes code) (x : Int) : LS (W.setCell ⟨g, 4, none⟩ (.int .i64 x)) base g tx bits wide limit x vl list last vo out vc codes code :=
  ⟨blk_put h.blk 4 _ rfl, h.ge, Kd.R_set h.rl h.blk (by decide) _ _, Kd.R_set h.ro h.blk (by decide) _ _, Kd.R_set h.rc h.blk (by decide) _ _⟩
theorem LS.at9 (h : LS W base g tx bits wide limit at_ vl list last vo out vc codes code) (x : Int) : LS (W.setCell ⟨g, 9, none⟩ (.int .i64 x)) base g tx bits wide limit at_ vl list last vo out vc codes x :=
  ⟨blk_put h.blk 9 _ rfl, h.ge, Kd.R_set h.rl h.blk (by decide) _ _, Kd.R_set h.ro h.blk (by decide) _ _, Kd.R_set h.rc h.blk (by decide) _ _⟩
theorem LS.at6 (h : LS W base g tx bits wide limit at_ vl list last vo out vc codes code) (x : ByteArray) : LS (W.setCell ⟨g, 6, none⟩ (.string x)) base g tx bits wide limit at_ vl list x vo out vc codes code :=
  ⟨blk_put h.blk 6 _ rfl, h.ge, Kd.R_set h.rl h.blk (by decide) _ _, Kd.R_set h.ro h.blk (by decide) _ _, Kd.R_set h.rc h.blk (by decide) _ _⟩
/-- What is known, told anew by a row that was made. -/
theorem LS.at5 (h : LS W base g tx bits wide limit at_ vl list last vo out vc codes code) {v1 : Value} {l1 : List ByteArray} (hr : Kd.R Kd.string 9 W base (fun _ => True) v1 l1) : LS (W.setCell ⟨g, 5, none⟩ v1) base g tx bits wide limit at_ v1 l1 last vo out vc codes code :=
  ⟨blk_put h.blk 5 _ rfl, h.ge, Kd.R_set hr h.blk (by decide) _ _, Kd.R_set h.ro h.blk (by decide) _ _, Kd.R_set h.rc h.blk (by decide) _ _⟩
theorem LS.mid5 (h : LS W base g tx bits wide limit at_ vl list last vo out vc codes code) (hg : W.grownBy w1 vl.ownBlock) : w1.heap[g]? = some (.cells #[.string tx, .int .i64 bits, .bool wide, .int .i64 limit, .int .i64 at_, vl, .string last, vo, vc, .int .i64 code] 56 (0, 0)) := blk_grown h.blk hg (Kd.R_ne h.rl h.blk (by decide))
theorem LS.mid7 (h : LS W base g tx bits wide limit at_ vl list last vo out vc codes code) (hg : W.grownBy w1 vo.ownBlock) : w1.heap[g]? = some (.cells #[.string tx, .int .i64 bits, .bool wide, .int .i64 limit, .int .i64 at_, vl, .string last, vo, vc, .int .i64 code] 56 (0, 0)) := blk_grown h.blk hg (Kd.R_ne h.ro h.blk (by decide))
theorem LS.mid8 (h : LS W base g tx bits wide limit at_ vl list last vo out vc codes code) (hg : W.grownBy w1 vc.ownBlock) : w1.heap[g]? = some (.cells #[.string tx, .int .i64 bits, .bool wide, .int .i64 limit, .int .i64 at_, vl, .string last, vo, vc, .int .i64 code] 56 (0, 0)) := blk_grown h.blk hg (Kd.R_ne h.rc h.blk (by decide))
/-- A text more is known. -/
theorem LS.app5 (h : LS W base g tx bits wide limit at_ vl list last vo out vc codes code) {v1 : Value} {l1 : List ByteArray} (hg : W.grownBy w1 vl.ownBlock) (hr : Kd.R Kd.string 9 w1 base (fun _ => True) v1 l1) : LS (w1.setCell ⟨g, 5, none⟩ v1) base g tx bits wide limit at_ v1 l1 last vo out vc codes code :=
  have hb1 := blk_grown h.blk hg (Kd.R_ne h.rl h.blk (by decide))
  ⟨blk_put hb1 5 _ rfl, h.ge, Kd.R_set hr hb1 (by decide) _ _, Kd.R_set (R_other h.ro rfl h.rl (by decide) hg) hb1 (by decide) _ _, Kd.R_set (R_other h.rc rfl h.rl (by decide) hg) hb1 (by decide) _ _⟩
/-- More came out. -/
theorem LS.app7 (h : LS W base g tx bits wide limit at_ vl list last vo out vc codes code) {v1 : Value} {l1 : List Int} (hg : W.grownBy w1 vo.ownBlock) (hr : Kd.R (Kd.int .u8) 5 w1 base (fun _ => True) v1 l1) : LS (w1.setCell ⟨g, 7, none⟩ v1) base g tx bits wide limit at_ vl list last v1 l1 vc codes code :=
  have hb1 := blk_grown h.blk hg (Kd.R_ne h.ro h.blk (by decide))
  ⟨blk_put hb1 7 _ rfl, h.ge, Kd.R_set (R_other h.rl rfl h.ro (by decide) hg) hb1 (by decide) _ _, Kd.R_set hr hb1 (by decide) _ _, Kd.R_set (R_other h.rc rfl h.ro (by decide) hg) hb1 (by decide) _ _⟩
/-- A number more. -/
theorem LS.app8 (h : LS W base g tx bits wide limit at_ vl list last vo out vc codes code) {v1 : Value} {l1 : List Int} (hg : W.grownBy w1 vc.ownBlock) (hr : Kd.R (Kd.int .i64) 3 w1 base (fun _ => True) v1 l1) : LS (w1.setCell ⟨g, 8, none⟩ v1) base g tx bits wide limit at_ vl list last vo out v1 l1 code :=
  have hb1 := blk_grown h.blk hg (Kd.R_ne h.rc h.blk (by decide))
  ⟨blk_put hb1 8 _ rfl, h.ge, Kd.R_set (R_other h.rl rfl h.rc (by decide) hg) hb1 (by decide) _ _, Kd.R_set (R_other h.ro rfl h.rc (by decide) hg) hb1 (by decide) _ _, Kd.R_set hr hb1 (by decide) _ _⟩
end
end Go.Proofs.Ytdebckcphaocmaa.Th
