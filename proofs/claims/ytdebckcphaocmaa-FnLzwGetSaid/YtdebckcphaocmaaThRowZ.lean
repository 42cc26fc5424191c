/- Plain lemmas: a text as a row of its own bytes, that is written; its block is marked at its end. No condition. -/
import Derived.Test.YtdebckcphaocmaaThConv
namespace Go.Proofs.Ytdebckcphaocmaa.Th
open Go.RowKit Go.Proofs.YtdebckcphaocmaaW.PrintWords Go.Proofs.YtdebckcphaocmaaW.PrintMore

/-- A row of bytes of the call's own, in a block that is marked behind its end. -/
def RZ (e : TypeId) (w : World) (base : Nat) (v : Value) (xs : List Int) : Prop :=
  ∃ g cap cur, v = .slice (some ⟨g, 0, none⟩) xs.length cap ∧ base ≤ g ∧ w.heap[g]? = some (.cells cur e (cur.size, cur.size + 1)) ∧ xs.length ≤ cur.size ∧ xs.length ≤ 9223372036854775807 ∧ ∀ j, j < xs.length → cur[j]? = some (.int .u8 (xs.getD j 0))
section
variable {e : TypeId} {w w1 : World} {base : Nat} {v : Value} {xs : List Int}
theorem RZ.cell {g : Nat} {cur : Array Value} {fz : Nat × Nat} (h : w.heap[g]? = some (.cells cur e fz)) (i : Nat) : w.cell? ⟨g, i, none⟩ = cur[i]? := cell_of_row w g i cur e fz h
theorem RZ.lower (h : RZ e w base v xs) {b : Nat} (hb : b ≤ base) : RZ e w b v xs := by
  obtain ⟨g, cap, cur, h1, h2, h3⟩ := h
  exact ⟨g, cap, cur, h1, Nat.le_trans hb h2, h3⟩
theorem RZ.drew (h : RZ e w base v xs) : RZ e w.drew base v xs := h
theorem RZ.drewN (h : RZ e w base v xs) (n : Nat) : RZ e (w.drewN n) base v xs := h
theorem RZ.below (h : RZ e w base v xs) (hb : Below w.heap.size w w1) : RZ e w1 base v xs := by
  obtain ⟨k, cap, cur, rfl, h2, h3, h4⟩ := h
  exact ⟨k, cap, cur, rfl, h2, (hb.block k (blk_lt h3)).trans h3, h4⟩
theorem RZ.slice (h : RZ e w base v xs) : ∃ A c, v = .slice A xs.length c := by
  obtain ⟨g, cap, cur, h1, _⟩ := h
  exact ⟨_, _, h1⟩
theorem RZ.ne (h : RZ e w base v xs) {g : Nat} (hb : ∃ cs t fz, w.heap[g]? = some (.cells cs t fz) ∧ e ≠ t) : some g ≠ v.ownBlock := by
  obtain ⟨k, cap, cur, rfl, _, h3, _⟩ := h
  obtain ⟨cs, t, fz, h4, hne⟩ := hb
  intro e1
  simp only [Value.ownBlock, Option.some.injEq] at e1
  subst e1
  rw [h3] at h4
  injection h4 with h4
  injection h4 with _ h5 _
  exact hne h5
theorem RZ.keep (h : RZ e w base v xs) {g : Nat} (hne : some g ≠ v.ownBlock) (hk : KeepBut w w1 g none) : RZ e w1 base v xs := by
  obtain ⟨k, cap, cur, rfl, h2, h3, h4⟩ := h
  refine ⟨k, cap, cur, rfl, h2, hk.blk h3 (fun e1 => hne ?_) (by simp), h4⟩
  simp [Value.ownBlock, e1]
theorem RZ.form (h : RZ e w base v xs) : ∃ g cap, v = .slice (some ⟨g, 0, none⟩) xs.length cap ∧ base ≤ g ∧ g < w.heap.size ∧ ∃ cells, w.heap[g]? = some (.cells cells e (cells.size, cells.size + 1)) := by
  obtain ⟨k, cap, cur, h1, h2, h3, _⟩ := h
  exact ⟨k, cap, h1, h2, blk_lt h3, cur, h3⟩
theorem RZ.C {A : Option Addr} {n c : Nat} (h : RZ e w base (.slice A n c) xs) : Kd.C (Kd.int .u8) w A xs.length xs := by
  obtain ⟨k, cap, cur, h1, h2, h3, h4, h5, h6⟩ := h
  injection h1 with hA hn hc
  subst hA
  refine Kd.C_of_reads (d := (0 : Int)) ⟨rfl, h5, fun _ => ⟨_, rfl, fun j hj => ?_⟩⟩
  rw [add_plain, RZ.cell h3]
  exact h6 j hj
theorem RZ.celln {g n cap : Nat} (h : RZ e w base (.slice (some ⟨g, 0, none⟩) n cap) xs) (i : Int) (_h0 : 0 ≤ i) (hi : i < n) : w.cell? ⟨g, i.toNat, none⟩ = some (.int .u8 (rd xs i)) ∧ w.frozen? ⟨g, i.toNat, none⟩ = false := by
  obtain ⟨k, cap, cur, h1, h2, h3, h4, h5, h6⟩ := h
  injection h1 with hA hn hc
  injection hA with hA
  injection hA with hA
  subst hA
  refine ⟨?_, ?_⟩
  · rw [RZ.cell h3]; exact h6 _ (by omega)
  · simp [World.frozen?, h3]; omega
theorem RZ.putn {g n cap : Nat} (h : RZ e w base (.slice (some ⟨g, 0, none⟩) n cap) xs) (i x : Int) : RZ e (w.setCell ⟨g, i.toNat, none⟩ (.int .u8 x)) base (.slice (some ⟨g, 0, none⟩) n cap) (xs.set i.toNat x) := by
  obtain ⟨k, cap', cur, h1, h2, h3, h4, h5, h6⟩ := h
  injection h1 with hA hn hc
  injection hA with hA
  injection hA with hA
  subst hA
  refine ⟨g, cap, cur.setIfInBounds i.toNat (.int .u8 x), by rw [List.length_set, hn], h2, ?_, by rw [List.length_set, Array.size_setIfInBounds]; exact h4, by rw [List.length_set]; exact h5, fun j hj => ?_⟩
  · have hlt := blk_lt h3
    have hg : w.heap[g] = .cells cur e (cur.size, cur.size + 1) := by rw [Array.getElem?_eq_getElem hlt] at h3; exact Option.some.inj h3
    simp only [World.setCell]
    rw [Array.getElem?_modify, if_pos rfl, h3]
    simp [Array.size_setIfInBounds]
  · rw [List.length_set] at hj
    rw [Array.getElem?_setIfInBounds]
    by_cases e1 : i.toNat = j
    · rw [if_pos e1, if_pos (by omega)]
      simp [List.getD_eq_getElem?_getD, e1, hj]
    · rw [if_neg e1, h6 j hj]
      simp [List.getD_eq_getElem?_getD, e1]
theorem RZ.own_string {P : Program} {src dst : TypeId} (hs : P.underlying src = some (.slice e)) (he : P.underlying e = some (.int .u8)) (hd : P.underlying dst = some .string) (h : RZ e w base v xs) : (convert src dst v).run P w = .ok (.string (strOfNums xs)) w := by
  obtain ⟨k, cap, cur, rfl, h2, h3, h4, h5, h6⟩ := h
  refine run_convert_bytes_arg w src e hs he k 0 xs.length cap xs rfl (fun i hi => ?_) dst hd
  rw [Nat.zero_add, RZ.cell h3]
  exact h6 i hi
end
theorem world_gen {P : Act → World → Prop} {a : Act} {W : World} (h : ∀ wz, wz = W → P a wz) : P a W := h W rfl
/-- '[]byte(s)': a row of the call's own. -/
theorem convZ_event {P : Program} {ops : Array Oper} {rest : List Oper} {o : Oper} {a : Act} {Q : Exit → Act → World → Prop} {W : World} (hgd : o.guard = none) {N : Tmp} (_hd : o.dst = some N) {e : TypeId} {s : ByteArray}
    (hrun : (execOp a.eval o).run P W = .ok (.value (.slice (some ⟨W.heap.size, 0, none⟩) s.size (grownCap W s.size 0 e))) (Lib.bytesWorld W e s)) (hsz : s.size ≤ 9223372036854775807)
    (h : ∀ v w1, RZ e w1 W.heap.size v (bytesOf s) → Below W.heap.size W w1 → wpList P ops Q rest (a.put o.dst v) w1) : wpList P ops Q (o :: rest) a W := by
  refine Kd.event_run hgd hrun (h _ _ ?_ (bytes_below (Below.refl _ _) (Nat.le_refl _) e s))
  have hl := bytesOf_length s
  have hr := (bytes_reads W e s hsz).2.2
  refine ⟨W.heap.size, _, _, by rw [hl], Nat.le_refl _, Lib.bytesWorld_at_new W e s, ?_, by rw [hl]; exact hsz, fun j hj => ?_⟩
  · rw [hl]; unfold Lib.bytesCells; simp
  · rw [hl] at hj
    obtain ⟨ad, e1, hc⟩ := hr (by omega)
    have hc := hc j hj
    rw [← Option.some.inj e1, add_plain, RZ.cell (Lib.bytesWorld_at_new W e s)] at hc
    exact hc
end Go.Proofs.Ytdebckcphaocmaa.Th
