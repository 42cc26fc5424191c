/- Lemmas on memory: the program's reader of numbers. No condition. -/
import Derived.Test.YtdebckcphaocmaaThLz
namespace Go.Proofs.Ytdebckcphaocmaa.Th
open Go.RowKit Go.Proofs.YtdebckcphaocmaaW.PrintWords Go.Proofs.YtdebckcphaocmaaW.PrintMore

theorem uz_cells {W : World} {g T : Nat} {v0 v1 v2 v3 v4 v5 v6 v7 : Value} (h : W.heap[g]? = some (.cells #[v0, v1, v2, v3, v4, v5, v6, v7] T (0, 0))) : W.cell? ⟨g, 0, none⟩ = some v0 ∧ W.cell? ⟨g, 1, none⟩ = some v1 ∧ W.cell? ⟨g, 2, none⟩ = some v2 ∧ W.cell? ⟨g, 3, none⟩ = some v3 ∧ W.cell? ⟨g, 4, none⟩ = some v4 ∧ W.cell? ⟨g, 5, none⟩ = some v5 ∧ W.cell? ⟨g, 6, none⟩ = some v6 ∧ W.cell? ⟨g, 7, none⟩ = some v7 :=
  ⟨(blk_cell h 0).trans rfl, (blk_cell h 1).trans rfl, (blk_cell h 2).trans rfl, (blk_cell h 3).trans rfl, (blk_cell h 4).trans rfl, (blk_cell h 5).trans rfl, (blk_cell h 6).trans rfl, (blk_cell h 7).trans rfl⟩
/-- The program's reader, in block g: bits, wide, how many are known, whether there is a last text; what is known, the last text, what came out, the numbers. -/
structure US (W : World) (base g : Nat) (bits : Int) (wide : Bool) (many : Int) (tlast : Bool) (vl : Value) (list : List ByteArray) (last out : ByteArray) (vc : Value) (codes : List Int) : Prop where
  blk : W.heap[g]? = some (.cells #[.int .i64 bits, .bool wide, .int .i64 many, .bool tlast, vl, .string last, .string out, vc] 50 (0, 0))
  ge : base ≤ g
  rl : Kd.R Kd.string 9 W base (fun _ => True) vl list
  rc : Kd.R (Kd.int .i64) 3 W base (fun _ => True) vc codes
section
variable {W w1 : World} {base g : Nat} {bits : Int} {wide : Bool} {many : Int} {tlast : Bool} {vl : Value} {list : List ByteArray} {last out : ByteArray} {vc : Value} {codes : List Int}
theorem US.lt (h : US W base g bits wide many tlast vl list last out vc codes) : g < W.heap.size := blk_lt h.blk
theorem US.below (h : US W base g bits wide many tlast vl list last out vc codes) (hb : Below W.heap.size W w1) : US w1 base g bits wide many tlast vl list last out vc codes :=
  ⟨blk_below h.blk hb, h.ge, Kd.R_below h.rl hb, Kd.R_below h.rc hb⟩
theorem US.drewN (h : US W base g bits wide many tlast vl list last out vc codes) (m : Nat) : US (W.drewN m) base g bits wide many tlast vl list last out vc codes := ⟨h.blk, h.ge, Kd.R_drewN h.rl m, Kd.R_drewN h.rc m⟩
theorem US.drew (h : US W base g bits wide many tlast vl list last out vc codes) : US W.drew base g bits wide many tlast vl list last out vc codes := ⟨h.blk, h.ge, Kd.R_drew h.rl, Kd.R_drew h.rc⟩
theorem US.at2 (h : US W base g bits wide many tlast vl list last out vc codes) (x : Int) : US (W.setCell ⟨g, 2, none⟩ (.int .i64 x)) base g bits wide x tlast vl list last out vc codes :=
  ⟨blk_put h.blk 2 _ rfl, h.ge, Kd.R_set h.rl h.blk (by decide) _ _, Kd.R_set h.rc h.blk (by decide) _ _⟩
theorem US.at3 (h : US W base g bits wide many tlast vl list last out vc codes) (x : Bool) : US (W.setCell ⟨g, 3, none⟩ (.bool x)) base g bits wide many x vl list last out vc codes :=
  ⟨blk_put h.blk 3 _ rfl, h.ge, Kd.R_set h.rl h.blk (by decide) _ _, Kd.R_set h.rc h.blk (by decide) _ _⟩
theorem US.at5 (h : US W base g bits wide many tlast vl list last out vc codes) (x : ByteArray) : US (W.setCell ⟨g, 5, none⟩ (.string x)) base g bits wide many tlast vl list x out vc codes :=
  ⟨blk_put h.blk 5 _ rfl, h.ge, Kd.R_set h.rl h.blk (by decide) _ _, Kd.R_set h.rc h.blk (by decide) _ _⟩
theorem US.at6 (h : US W base g bits wide many tlast vl list last out vc codes) (x : ByteArray) : US (W.setCell ⟨g, 6, none⟩ (.string x)) base g bits wide many tlast vl list last x vc codes :=
  ⟨blk_put h.blk 6 _ rfl, h.ge, Kd.R_set h.rl h.blk (by decide) _ _, Kd.R_set h.rc h.blk (by decide) _ _⟩
theorem US.at4 (h : US W base g bits wide many tlast vl list last out vc codes) {v1 : Value} {l1 : List ByteArray} (hr : Kd.R Kd.string 9 W base (fun _ => True) v1 l1) : US (W.setCell ⟨g, 4, none⟩ v1) base g bits wide many tlast v1 l1 last out vc codes :=
  ⟨blk_put h.blk 4 _ rfl, h.ge, Kd.R_set hr h.blk (by decide) _ _, Kd.R_set h.rc h.blk (by decide) _ _⟩
theorem US.mid4 (h : US W base g bits wide many tlast vl list last out vc codes) (hg : W.grownBy w1 vl.ownBlock) : w1.heap[g]? = some (.cells #[.int .i64 bits, .bool wide, .int .i64 many, .bool tlast, vl, .string last, .string out, vc] 50 (0, 0)) := blk_grown h.blk hg (Kd.R_ne h.rl h.blk (by decide))
theorem US.mid7 (h : US W base g bits wide many tlast vl list last out vc codes) (hg : W.grownBy w1 vc.ownBlock) : w1.heap[g]? = some (.cells #[.int .i64 bits, .bool wide, .int .i64 many, .bool tlast, vl, .string last, .string out, vc] 50 (0, 0)) := blk_grown h.blk hg (Kd.R_ne h.rc h.blk (by decide))
theorem US.app4 (h : US W base g bits wide many tlast vl list last out vc codes) {v1 : Value} {l1 : List ByteArray} (hg : W.grownBy w1 vl.ownBlock) (hr : Kd.R Kd.string 9 w1 base (fun _ => True) v1 l1) : US (w1.setCell ⟨g, 4, none⟩ v1) base g bits wide many tlast v1 l1 last out vc codes :=
  have hb1 := h.mid4 hg
  ⟨blk_put hb1 4 _ rfl, h.ge, Kd.R_set hr hb1 (by decide) _ _, Kd.R_set (R_other h.rc rfl h.rl (by decide) hg) hb1 (by decide) _ _⟩
theorem US.app7 (h : US W base g bits wide many tlast vl list last out vc codes) {v1 : Value} {l1 : List Int} (hg : W.grownBy w1 vc.ownBlock) (hr : Kd.R (Kd.int .i64) 3 w1 base (fun _ => True) v1 l1) : US (w1.setCell ⟨g, 7, none⟩ v1) base g bits wide many tlast vl list last out v1 l1 :=
  have hb1 := h.mid7 hg
  ⟨blk_put hb1 7 _ rfl, h.ge, Kd.R_set (R_other h.rl rfl h.rc (by decide) hg) hb1 (by decide) _ _, Kd.R_set hr hb1 (by decide) _ _⟩
end
end Go.Proofs.Ytdebckcphaocmaa.Th
