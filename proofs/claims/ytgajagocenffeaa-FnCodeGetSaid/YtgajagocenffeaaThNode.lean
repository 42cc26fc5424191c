/- Lemmas on memory: a row of nodes (how often, and a row of symbols), whose symbols lie in blocks of their own. No condition. -/
import Derived.Test.YtgajagocenffeaaThTree
import Derived.Test.YtgajagocenffeaaV
namespace Go.Proofs.Ytgajagocenffeaa.Th
open Go.RowKit Go.Proofs.YtgajagocenffeaaW.PrintWords Go.Proofs.YtgajagocenffeaaW.PrintMore

/-- A node, the block in which its symbols lie, and how many have room there. -/
structure GN where
  n : Nd
  g : Nat
  c : Nat
def GN.cells (x : GN) : List Value := [.int .i64 x.n.w, .slice (some ⟨x.g, 0, none⟩) x.n.syms.length x.c]
def flat (l : List GN) : List Value := l.flatMap GN.cells
theorem flat_append (a b : List GN) : flat (a ++ b) = flat a ++ flat b := by simp [flat]
theorem flat_cons (x : GN) (b : List GN) : flat (x :: b) = .int .i64 x.n.w :: .slice (some ⟨x.g, 0, none⟩) x.n.syms.length x.c :: flat b := by simp [flat, GN.cells]
theorem flat_length (l : List GN) : (flat l).length = l.length * 2 := by
  induction l with
  | nil => rfl
  | cons x l ih => rw [flat_cons, List.length_cons, List.length_cons, ih, List.length_cons]; omega
theorem flat_at : ∀ {l : List GN} {i : Nat} {x : GN}, l[i]? = some x → (flat l)[i * 2]? = some (.int .i64 x.n.w) ∧ (flat l)[i * 2 + 1]? = some (.slice (some ⟨x.g, 0, none⟩) x.n.syms.length x.c) := by
  intro l
  induction l with
  | nil => intro i x h; simp at h
  | cons y l ih =>
    intro i x h
    cases i with
    | zero => simp at h; subst h; rw [flat_cons]; simp
    | succ i =>
      obtain ⟨h1, h2⟩ := ih (by simpa using h)
      rw [flat_cons, show (i + 1) * 2 = i * 2 + 1 + 1 by omega]
      exact ⟨h1, h2⟩
theorem flat_drop (l : List GN) : ∀ i, (flat l).drop (i * 2) = flat (l.drop i) := by
  induction l with
  | nil => intro i; simp [flat]
  | cons x l ih =>
    intro i
    cases i with
    | zero => rfl
    | succ i => rw [flat_cons, show (i + 1) * 2 = i * 2 + 1 + 1 by omega, List.drop_succ_cons, List.drop_succ_cons, ih]; rfl
theorem flat_take (l : List GN) : ∀ i, (flat l).take (i * 2) = flat (l.take i) := by
  induction l with
  | nil => intro i; simp [flat]
  | cons x l ih =>
    intro i
    cases i with
    | zero => rfl
    | succ i => rw [flat_cons, show (i + 1) * 2 = i * 2 + 1 + 1 by omega, List.take_succ_cons, List.take_succ_cons, ih, List.take_succ_cons, flat_cons]
theorem flat_one (l : List GN) : ∀ u ∈ flat l, u.oneCell' = true := by
  induction l with
  | nil => intro u hu; simp [flat] at hu
  | cons x l ih =>
    intro u hu
    rw [flat_cons] at hu
    simp only [List.mem_cons] at hu
    rcases hu with rfl | rfl | hu
    · rfl
    · rfl
    · exact ih u hu
/-- A node's symbols lie in its block, which is none of block go. -/
def GN.Ok (W : World) (base go e : Nat) (x : GN) : Prop := base ≤ x.g ∧ x.g ≠ go ∧ x.n.syms.length ≤ x.c ∧ x.c ≤ 9223372036854775807 ∧ ∃ cs, W.heap[x.g]? = some (.cells cs e (0, 0)) ∧ ∀ (j : Nat) (s : Int), x.n.syms[j]? = some s → cs[j]? = some (Value.int .i64 s)
theorem GN.Ok.move {W W1 : World} {base go e : Nat} {x : GN} (h : x.Ok W base go e) (hm : W1.heap[x.g]? = W.heap[x.g]?) : x.Ok W1 base go e := by
  obtain ⟨h1, h2, h3, h4, cs, h5, h6⟩ := h
  exact ⟨h1, h2, h3, h4, cs, hm.trans h5, h6⟩
theorem GN.Ok.lt {W : World} {base go e : Nat} {x : GN} (h : x.Ok W base go e) : x.g < W.heap.size := by
  obtain ⟨_, _, _, _, cs, h5, _⟩ := h
  exact blk_lt h5
theorem GN.Ok.cell {W : World} {base go e : Nat} {x : GN} (h : x.Ok W base go e) {j : Nat} (hj : j < x.n.syms.length) : W.cell? ⟨x.g, j, none⟩ = some (.int .i64 (x.n.syms.getD j 0)) := by
  obtain ⟨_, _, _, _, cs, h5, h6⟩ := h
  rw [blk_cell h5, h6 j _ (List.getElem?_eq_getElem hj), List.getD_eq_getElem?_getD, List.getElem?_eq_getElem hj]; rfl
theorem GN.Ok.reads {W : World} {base go e : Nat} {x : GN} (h : x.Ok W base go e) : Kd.C (Kd.int .i64) W (some ⟨x.g, 0, none⟩) x.n.syms.length x.n.syms := by
  have h4 := h.2.2.2.1
  have h3 := h.2.2.1
  refine ⟨rfl, by omega, fun hn => ⟨_, rfl, fun j p hj => ?_⟩⟩
  have hjl := (List.getElem?_eq_some_iff.1 hj).1
  refine ⟨[.int .i64 p], rfl, rfl, fun i u hu => ?_⟩
  cases i with
  | zero =>
    have hc := h.cell hjl
    rw [List.getD_eq_getElem?_getD, hj] at hc
    have ha : (⟨x.g, 0, none⟩ : Addr).add (j * (Kd.int .i64).sz + 0) = ⟨x.g, j, none⟩ := by rw [add_plain]; simp [Kd.int, Kd.scalar]
    rw [ha, hc]
    simpa using hu
  | succ i => simp at hu
/-- A row of nodes of one's own. -/
structure NL (W : World) (base go e tn : Nat) (v : Value) (l : List GN) : Prop where
  row : W.ownsRow base tn 2 v l.length (flat l)
  ne : ∀ k, v.ownBlock = some k → k ≠ go
  ok : ∀ x ∈ l, x.Ok W base go e
theorem NL.move {W W1 : World} {base go e tn : Nat} {v : Value} {l : List GN} (h : NL W base go e tn v l) (hm : ∀ k, k < W.heap.size → k ≠ go → W1.heap[k]? = W.heap[k]?) : NL W1 base go e tn v l :=
  ⟨own_move h.row (fun k hk => hm k (own_lt h.row k hk) (h.ne k hk)), h.ne, fun x hx => (h.ok x hx).move (hm _ (h.ok x hx).lt (h.ok x hx).2.1)⟩
theorem NL.below {W W1 : World} {base go e tn : Nat} {v : Value} {l : List GN} (h : NL W base go e tn v l) {B : Nat} (hb : Below B W W1) (hB : W.heap.size ≤ B) : NL W1 base go e tn v l :=
  h.move (fun k hk _ => hb.block k (by omega))
theorem NL.drewN {W : World} {base go e tn : Nat} {v : Value} {l : List GN} (h : NL W base go e tn v l) (m : Nat) : NL (W.drewN m) base go e tn v l := h.move (fun _ _ _ => rfl)
theorem NL.set {W : World} {base go e tn : Nat} {v : Value} {l : List GN} (h : NL W base go e tn v l) (j : Nat) (u : Value) : NL (W.setCell ⟨go, j, none⟩ u) base go e tn v l :=
  h.move (fun k _ hk => Below.heap_setCell W ⟨go, j, none⟩ u k hk)
theorem NL.nil (W : World) (base go e tn : Nat) : NL W base go e tn (.slice none 0 0) [] := ⟨own_nil _ _ _ _, fun k hk => by simp [Value.ownBlock] at hk, fun x hx => by simp at hx⟩
theorem NL.form {W : World} {base go e tn : Nat} {v : Value} {l : List GN} (h : NL W base go e tn v l) (hp : 0 < l.length) : ∃ g cap, v = .slice (some ⟨g, 0, none⟩) l.length cap ∧ base ≤ g ∧ g < W.heap.size ∧ l.length ≤ cap ∧ g ≠ go ∧ l.length ≤ 9223372036854775807 := by
  obtain ⟨g, cap, rfl, h1, h2⟩ := h.row.form hp
  obtain ⟨_, h3⟩ := h.row
  rcases h3 with ⟨he, _⟩ | ⟨g', cap', cur, he, _, _, h4, h5, _⟩
  · cases he
  · injection he with e1 _ e3
    subst e3
    exact ⟨g, cap, rfl, h1, h2, h4, h.ne g rfl, by simp only [maxLen] at h5; omega⟩
theorem NL.cells {W : World} {base go e tn g n c : Nat} {l : List GN} (h : NL W base go e tn (.slice (some ⟨g, 0, none⟩) n c) l) {i : Nat} {x : GN} (hx : l[i]? = some x) :
    W.cell? ⟨g, i * 2, none⟩ = some (.int .i64 x.n.w) ∧ W.cell? ⟨g, i * 2 + 1, none⟩ = some (.slice (some ⟨x.g, 0, none⟩) x.n.syms.length x.c) := by
  have h1 := h.row.cells (g := g) rfl (i * 2) _ (flat_at hx).1
  have h2 := h.row.cells (g := g) rfl (i * 2 + 1) _ (flat_at hx).2
  rw [add_plain] at h1 h2
  exact ⟨h1, h2⟩
theorem NL.ne_row {W : World} {base go e tn : Nat} {v : Value} {l : List GN} (h : NL W base go e tn v l) (he : e ≠ tn) {g : Nat} {cs : Array Value} (hg : W.heap[g]? = some (.cells cs e (0, 0))) : some g ≠ v.ownBlock := by
  intro hk
  obtain ⟨cells, hc⟩ := own_typed h.row g hk.symm
  rw [hc] at hg
  injection hg with hg
  injection hg with _ ht
  exact he ht.symm
theorem NL.append {W w1 : World} {base go e tn : Nat} {v v1 : Value} {l : List GN} (h : NL W base go e tn v l) (he : e ≠ tn) {x : GN} (hx : x.Ok W base go e) (hown : w1.ownsRow base tn 2 v1 (l.length + 1) (flat l ++ x.cells)) (hg : W.grownBy w1 v.ownBlock) (hat : v1.ownBlock = v.ownBlock ∨ ∃ b, v1.ownBlock = some b ∧ W.heap.size ≤ b) (hgo : go < W.heap.size) : NL w1 base go e tn v1 (l ++ [x]) := by
  have hmove : ∀ y : GN, y.Ok W base go e → y.Ok w1 base go e := fun y hy => by
    obtain ⟨_, _, _, _, cs, h5, _⟩ := id hy
    exact hy.move (hg.block y.g hy.lt (h.ne_row he h5))
  refine ⟨by rw [flat_append, List.length_append, List.length_singleton]; simpa [flat] using hown, fun k hk => ?_, fun y hy => ?_⟩
  · rcases hat with hat | ⟨b, hb, hle⟩
    · exact h.ne k (hat ▸ hk)
    · rw [hb] at hk; injection hk with hk; omega
  · rcases List.mem_append.1 hy with hy | hy
    · exact hmove y (h.ok y hy)
    · rw [List.mem_singleton] at hy; subst hy; exact hmove y hx
theorem NL.alloc {W : World} {base go e tn : Nat} {v : Value} {l : List GN} (h : NL W base go e tn v l) (o : Obj) : NL (W.alloc o) base go e tn v l := h.below (below_alloc (Below.refl _ _) o) (Nat.le_refl _)
theorem ok_new (W : World) (base go e : Nat) (n : Nd) (cs : Array Value) (hb : base ≤ W.heap.size) (hg : go < W.heap.size) (hs : n.syms.length ≤ 9223372036854775807) (hc : ∀ (j : Nat) (s : Int), n.syms[j]? = some s → cs[j]? = some (Value.int .i64 s)) : (GN.mk n W.heap.size n.syms.length).Ok (W.alloc (.cells cs e)) base go e :=
  ⟨hb, fun h => by simp only at h; omega, Nat.le_refl _, hs, cs, blk_new W _, hc⟩
theorem GN.Ok.alloc {W : World} {base go e : Nat} {x : GN} (h : x.Ok W base go e) (o : Obj) : x.Ok (W.alloc o) base go e := h.move (Below.heap_alloc W o x.g h.lt)
theorem GN.Ok.drew {W : World} {base go e : Nat} {x : GN} (h : x.Ok W base go e) : x.Ok W.drew base go e := h
theorem GN.Ok.grown {W w1 : World} {base go e : Nat} {x : GN} (h : x.Ok W base go e) {row : Option Nat} (hg : W.grownBy w1 row) (hne : some x.g ≠ row) : x.Ok w1 base go e := h.move (hg.block x.g h.lt hne)
theorem GN.Ok.news {W : World} {base go e : Nat} {x : GN} (h : x.Ok W base go e) : ∀ (j : Nat) (u : Value), (nums .i64 x.n.syms)[j]? = some u → W.cell? ((⟨x.g, 0, none⟩ : Addr).add j) = some u := by
  intro j u hu
  unfold nums at hu
  rw [List.getElem?_map] at hu
  obtain ⟨s, hs, rfl⟩ := Option.map_eq_some_iff.1 hu
  have hj := (List.getElem?_eq_some_iff.1 hs).1
  rw [add_plain, h.cell hj, List.getD_eq_getElem?_getD, hs]; rfl
theorem own0 {W : World} {base g e : Nat} (hb : base ≤ g) (h : W.heap[g]? = some (.cells #[] e (0, 0))) : W.ownsRow base e 1 (.slice (some ⟨g, 0, none⟩) 0 0) 0 [] :=
  ⟨rfl, .inr ⟨g, 0, #[], rfl, hb, h, Nat.le_refl _, by simp [maxLen], rfl, rfl⟩⟩
theorem nums_one (xs : List Int) : ∀ u ∈ nums .i64 xs, u.oneCell' = true := by
  intro u hu
  obtain ⟨x, _, rfl⟩ := List.mem_map.1 hu
  rfl
theorem at2 (W : World) (o o' : Obj) : ((W.alloc o).alloc o').heap[W.heap.size + 1]? = some o' := by have h := blk_new (W.alloc o) o'; simpa using h
theorem at1 (W : World) (o o' : Obj) : ((W.alloc o).alloc o').heap[W.heap.size]? = some o := blk_alloc (blk_new W o) o'
theorem keep_box {W w1 : World} {gr : Nat} {row : Option Nat} {cs : Array Value} {e tn : Nat} (hg : W.grownBy w1 row) (hrow : row = some gr) (hr : W.heap[gr]? = some (.cells cs e (0, 0))) (g : Nat) (cs' : Array Value) (he : e ≠ tn) (h : W.heap[g]? = some (.cells cs' tn (0, 0))) : w1.heap[g]? = some (.cells cs' tn (0, 0)) := by
  refine blk_grown h hg (fun e2 => ?_)
  rw [hrow] at e2
  injection e2 with e2
  subst e2
  rw [hr] at h
  injection h with h
  injection h with _ ht
  exact he ht
/-- What is owned as numbers is a node's symbols. -/
theorem ok_own {W : World} {base go e g c : Nat} {n : Nd} (h : W.ownsRow base e 1 (.slice (some ⟨g, 0, none⟩) n.syms.length c) n.syms.length (nums .i64 n.syms)) (hne : g ≠ go) : (GN.mk n g c).Ok W base go e := by
  obtain ⟨_, h2⟩ := h
  rcases h2 with ⟨he, _⟩ | ⟨g', cap, cur, he, hb, hh, hn, hm, hs, ht⟩
  · cases he
  · injection he with e1 _ e3
    injection e1 with e1
    injection e1 with e1
    subst e1 e3
    refine ⟨hb, hne, hn, by simpa [maxLen] using hm, cur, hh, fun j s hj => ?_⟩
    have hjl : j < n.syms.length := (List.getElem?_eq_some_iff.1 hj).1
    have e4 : (cur.toList.take (n.syms.length * 1))[j]? = some (.int .i64 s) := by rw [ht]; simp [nums, hj]
    rw [List.getElem?_take, if_pos (by omega)] at e4
    simpa using e4
theorem far_set {W : World} {p a : Addr} {u v : Value} (h : W.cell? a = some v) (hne : a.block ≠ p.block) : (W.setCell p u).cell? a = some v := by
  have h2 := Below.heap_setCell W p u a.block hne
  simpa [World.cell?, h2] using h
theorem realloc {W : World} {a : Addr} {v : Value} {o : Obj} (h : (W.alloc o).cell? a = some v) (hl : a.block < W.heap.size) (o' : Obj) : (W.alloc o').cell? a = some v := by
  have h1 := Below.heap_alloc W o a.block hl
  have h2 := Below.heap_alloc W o' a.block hl
  simpa [World.cell?, h1, h2] using h
theorem GN.Ok.far {W : World} {base go e tn g : Nat} {x : GN} {cs : Array Value} (h : x.Ok W base go e) (hg : W.heap[g]? = some (.cells cs tn (0, 0))) (he : e ≠ tn) (j : Nat) (u : Value) : x.Ok (W.setCell ⟨g, j, none⟩ u) base go e := by
  refine h.move (Below.heap_setCell W ⟨g, j, none⟩ u x.g (fun e2 => ?_))
  obtain ⟨_, _, _, _, cs2, h5, _⟩ := h
  simp only at e2
  rw [e2, hg] at h5
  injection h5 with h5
  injection h5 with _ ht
  exact he ht.symm
theorem own00 {W : World} {base g e : Nat} (size : Nat) (hb : base ≤ g) (h : W.heap[g]? = some (.cells #[] e (0, 0))) : W.ownsRow base e size (.slice (some ⟨g, 0, none⟩) 0 0) 0 [] :=
  ⟨by simp, .inr ⟨g, 0, #[], rfl, hb, h, Nat.le_refl _, by simp [maxLen], by simp, by simp⟩⟩
theorem NL.empty {W : World} {base go e tn g : Nat} (hb : base ≤ g) (h : W.heap[g]? = some (.cells #[] tn (0, 0))) (hne : g ≠ go) : NL W base go e tn (.slice (some ⟨g, 0, none⟩) 0 0) [] :=
  ⟨own00 2 hb h, fun k hk => by simp [Value.ownBlock] at hk; omega, fun x hx => by simp at hx⟩
theorem NL.far1 {W : World} {base go e tn : Nat} {v : Value} {l : List GN} (h : NL W base go e tn v l) (p : Addr) (u : Value) (h1 : ∀ k, v.ownBlock = some k → k ≠ p.block) (h2 : ∀ x ∈ l, x.g ≠ p.block) : NL (W.setCell p u) base go e tn v l :=
  ⟨own_move h.row (fun k hk => Below.heap_setCell W p u k (h1 k hk)), h.ne, fun x hx => (h.ok x hx).move (Below.heap_setCell W p u x.g (h2 x hx))⟩
theorem GN.Ok.readsInt {W : World} {base go e : Nat} {x : GN} (h : x.Ok W base go e) : ReadsInt W .i64 (some ⟨x.g, 0, none⟩) x.n.syms.length x.n.syms := by
  have h4 := h.2.2.2.1
  have h3 := h.2.2.1
  exact ⟨rfl, by omega, fun hn => ⟨_, rfl, fun j hj => by rw [add_plain]; exact h.cell hj⟩⟩
theorem map_erase {α β : Type} (f : α → β) : ∀ (l : List α) (i : Nat), (l.eraseIdx i).map f = (l.map f).eraseIdx i := by
  intro l
  induction l with
  | nil => intro i; rfl
  | cons x l ih =>
    intro i
    cases i with
    | zero => rfl
    | succ i => simp only [List.eraseIdx_cons_succ, List.map_cons, ih]
end Go.Proofs.Ytgajagocenffeaa.Th
