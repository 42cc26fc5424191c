/- Lemmas on memory: a node taken out of a row of nodes in place, and the place behind it cleared. No condition. -/
import Derived.Test.YtgajagocenffeaaThNode
import Derived.Lib.SliceRun
import Derived.Deep.RegionLaw
namespace Go.Proofs.Ytgajagocenffeaa.Th
open Go.RowKit Go.Proofs.YtgajagocenffeaaW.PrintWords Go.Proofs.YtgajagocenffeaaW.PrintMore

theorem row_open {W : World} {base g n c e : Nat} {xs : List Value} (h : W.ownsRow base e 2 (.slice (some ⟨g, 0, none⟩) n c) n xs) : xs.length = n * 2 ∧ ∃ cur : Array Value, base ≤ g ∧ W.heap[g]? = some (.cells cur e (0, 0)) ∧ n ≤ c ∧ c ≤ maxLen ∧ cur.size = c * 2 ∧ cur.toList.take (n * 2) = xs := by
  obtain ⟨h1, h2⟩ := h
  refine ⟨h1, ?_⟩
  rcases h2 with ⟨he, _⟩ | ⟨g', cap, cur, he, hb, hh, hn, hm, hs, ht⟩
  · cases he
  · injection he with e1 _ e3
    injection e1 with e1
    injection e1 with e1
    subst e1 e3
    exact ⟨cur, hb, hh, hn, hm, hs, ht⟩
theorem row_shut {W : World} {base g n c e : Nat} {xs : List Value} {cur : Array Value} (h1 : xs.length = n * 2) (hb : base ≤ g) (hh : W.heap[g]? = some (.cells cur e (0, 0))) (hn : n ≤ c) (hm : c ≤ maxLen) (hs : cur.size = c * 2) (ht : cur.toList.take (n * 2) = xs) : W.ownsRow base e 2 (.slice (some ⟨g, 0, none⟩) n c) n xs :=
  ⟨h1, .inr ⟨g, c, cur, rfl, hb, hh, hn, hm, hs, ht⟩⟩
theorem grown_set {W : World} (g o : Nat) (vs : List Value) : W.grownBy (W.setCells g o vs) (some g) := by
  obtain ⟨s1, s2, s3, s4⟩ := setCells_same g vs o W
  exact ⟨s1, s2, s3, by rw [s4]; exact Nat.le_refl _, fun k _ hk => setCells_far vs _ k (fun he => hk (by rw [he]))⟩
section
variable {P : Program}
theorem del_run (t ty e : TypeId) (i : TypeInfo) (ht : P.underlying t = some (.slice e)) (hi : P.info? e = some i) (hsz : i.size = 2) {W : World} {base g n c : Nat} {xs : List Value} (h : W.ownsRow base e 2 (.slice (some ⟨g, 0, none⟩) n c) n xs) (hone : ∀ u ∈ xs, u.oneCell' = true) (k : Nat) (hk : k < n)
    {A : Option Addr} (hA : A = if c = k + 1 then some ⟨g, 0, none⟩ else (some (⟨g, 0, none⟩ : Addr)).map (·.add ((k + 1) * 2))) (m c2 : Nat) (hm : m = n - (k + 1)) :
    ∃ w1, (Builtin.append_ #[t, t] ty #[.slice (some ⟨g, 0, none⟩) k c, .slice A m c2]).run P W = .ok (.slice (some ⟨g, 0, none⟩) (n - 1) c) w1 ∧ w1.ownsRow base e 2 (.slice (some ⟨g, 0, none⟩) (n - 1) c) (n - 1) (xs.take (k * 2) ++ xs.drop ((k + 1) * 2)) ∧ W.grownBy w1 (some g) := by
  subst hm
  obtain ⟨hl, cur, hb, hh, hnc, hcm, hcs, htake⟩ := row_open h
  obtain ⟨news, hnews⟩ : ∃ news, news = xs.drop ((k + 1) * 2) := ⟨_, rfl⟩
  have hnl : news.length = (n - (k + 1)) * 2 := by rw [hnews, List.length_drop, hl]; omega
  have hcur : ∀ q, q < n * 2 → cur.toList[q]? = xs[q]? := by
    intro q hq
    rw [← htake, List.getElem?_take, if_pos hq]
  obtain ⟨a, rfl, hcell⟩ : ∃ a, A = some a ∧ ∀ j u, news[j]? = some u → W.cell? (a.add j) = some u := by
    by_cases hck : c = k + 1
    · rw [if_pos hck] at hA
      refine ⟨_, hA, fun j u hu => ?_⟩
      have h0 : news = [] := List.eq_nil_of_length_eq_zero (by rw [hnl]; omega)
      rw [h0] at hu
      simp at hu
    · rw [if_neg hck, Option.map_some] at hA
      refine ⟨_, hA, fun j u hu => ?_⟩
      have hj : j < news.length := (List.getElem?_eq_some_iff.1 hu).1
      rw [add_add, add_at, cell_of_row W g _ cur e (0, 0) hh, ← Array.getElem?_toList]
      rw [hnews, List.getElem?_drop] at hu
      rw [← hu, Nat.zero_add]
      exact hcur _ (by omega)
  have hone2 : ∀ u ∈ news, u.oneCell' = true := fun u hu => hone u (by rw [hnews] at hu; exact List.mem_of_mem_drop hu)
  have hfit : 0 + k * 2 + news.length ≤ cur.size := by omega
  have hrun := run_append_room_cells (P := P) (w := W) t ty e i ht hi g 0 k c a (n - (k + 1)) c2 news (by rw [hnl, hsz]) hcell hone2 (by omega)
    (fun j hj => by rw [hsz, cell_of_row W g _ cur e (0, 0) hh]; simp; omega) (fun j _ => blk_frozen hh _)
  rw [hsz, show k + (n - (k + 1)) = n - 1 by omega] at hrun
  obtain ⟨cur', h3, h4, h5⟩ := setCells_row news (0 + k * 2) W cur hh hfit
  refine ⟨_, hrun, row_shut ?_ hb h3 (by omega) hcm (by rw [h4, hcs]) ?_, grown_set _ _ _⟩
  · rw [List.length_append, List.length_take, ← hnews, hnl]; omega
  · rw [h5, Nat.zero_add, ← hnews]
    have h7 : cur.toList.take (k * 2) = xs.take (k * 2) := by rw [← htake, List.take_take, Nat.min_eq_left (by omega)]
    rw [h7]
    exact List.take_left' (by rw [List.length_append, List.length_take, hnl]; omega)
theorem clear_run (t ty e : TypeId) (z a b : Value) (ht : P.underlying t = some (.slice e)) (hv : ∀ w, (zeroValue e).run P w = .ok z w) (hz : z.cells = #[a, b]) (ha : a.oneCell' = true) (hb1 : b.oneCell' = true) {W : World} {base g n c : Nat} {xs : List Value} (h : W.ownsRow base e 2 (.slice (some ⟨g, 0, none⟩) n c) n xs) (hc : n + 1 ≤ c) (o c2 : Nat) (ho : o = n * 2) :
    ∃ w1, (Builtin.clear_ #[t] ty #[.slice (some ⟨g, o, none⟩) 1 c2]).run P W = .ok (.tuple #[]) w1 ∧ w1.ownsRow base e 2 (.slice (some ⟨g, 0, none⟩) n c) n xs ∧ W.grownBy w1 (some g) := by
  subst ho
  obtain ⟨hl, cur, hb, hh, hnc, hcm, hcs, htake⟩ := row_open h
  have hzc : (Builtin.zeroCells z.cells 1).toList = [a, b] := by
    rw [hz]
    simp [Builtin.zeroCells]
    apply List.ext_getElem
    · simp
    · intro i h1 h2
      simp at h1 h2
      rcases (show i = 0 ∨ i = 1 by omega) with rfl | rfl <;> simp
  have hst := run_storeCells_cells (P := P) g (n * 2) [a, b] 0 W (fun j hj => by simp at hj; rw [cell_of_row W g _ cur e (0, 0) hh]; simp; omega) (fun j _ => blk_frozen hh _) (fun u hu => by
    simp only [List.mem_cons, List.not_mem_nil, or_false] at hu
    rcases hu with rfl | rfl
    · exact ha
    · exact hb1)
  simp only [Nat.add_zero] at hst
  obtain ⟨cur', h3, h4, h5⟩ := setCells_row [a, b] (n * 2) W cur hh (by simp; omega)
  refine ⟨W.setCells g (n * 2) [a, b], ?_, row_shut hl hb h3 hnc hcm (by rw [h4, hcs]) ?_, grown_set _ _ _⟩
  · simp [Builtin.clear_, run_underlying ht, hv, hzc, hst]
  · rw [h5, List.append_assoc, List.take_append_of_le_length (by rw [List.length_take, Array.length_toList]; omega), List.take_take, Nat.min_self]
    exact htake
variable {ops : Array Oper} {rest : List Oper} {o : Oper} {a : Act} {Q : Exit → Act → World → Prop} {K : Act → World → Prop} {E : Prop}
theorem step_del (hgd : o.guard = none) (s x : Operand) (t e : TypeId) (i : TypeInfo) (ho : o.op = .call { callee := .builtin .append, args := #[s, x], argTypes := #[t, t] }) (ht : P.underlying t = some (.slice e)) (hi : P.info? e = some i) (hsz : i.size = 2)
    {W : World} {base g n c : Nat} {xs : List Value} (h : W.ownsRow base e 2 (.slice (some ⟨g, 0, none⟩) n c) n xs) (hone : ∀ u ∈ xs, u.oneCell' = true) (k : Nat) (hk : k < n) {A : Option Addr} (m c2 : Nat)
    (hs : a.eval s = .slice (some ⟨g, 0, none⟩) k c) (hx : a.eval x = .slice A m c2) (hA : A = if c = k + 1 then some ⟨g, 0, none⟩ else (some (⟨g, 0, none⟩ : Addr)).map (·.add ((k + 1) * 2))) (hm : m = n - (k + 1))
    (hK : ∀ w1, w1.ownsRow base e 2 (.slice (some ⟨g, 0, none⟩) (n - 1) c) (n - 1) (xs.take (k * 2) ++ xs.drop ((k + 1) * 2)) → W.grownBy w1 (some g) → K (a.put o.dst (.slice (some ⟨g, 0, none⟩) (n - 1) c)) w1) :
    if Region.wanted o (yielded ops a.tmps) = true then Oper.wp P o a W K Q else E := by
  have hw : Region.wanted o (yielded ops a.tmps) = true := by simp [Region.wanted, hgd]
  obtain ⟨w1, hr, h1, h2⟩ := del_run (P := P) t o.type e i ht hi hsz h hone k hk hA m c2 hm
  rw [if_pos hw]
  unfold Oper.wp execOp
  simp only [ho, resolve, invoke, builtin, Sem.run_bind, Sem.run_pure, Result.andThen_ok, List.map_toArray, List.map_cons, List.map_nil, hs, hx, hr]
  exact hK w1 h1 h2
theorem wpList_clear (hgd : o.guard = none) (s : Operand) (t e : TypeId) (ho : o.op = .call { callee := .builtin .clear, args := #[s], argTypes := #[t] }) (z u v : Value) (ht : P.underlying t = some (.slice e)) (hv : ∀ w, (zeroValue e).run P w = .ok z w) (hz : z.cells = #[u, v]) (hu : u.oneCell' = true) (hv1 : v.oneCell' = true)
    {W : World} {base g n c : Nat} {xs : List Value} (h : W.ownsRow base e 2 (.slice (some ⟨g, 0, none⟩) n c) n xs) (hc : n + 1 ≤ c) (off c2 : Nat) (hs : a.eval s = .slice (some ⟨g, off, none⟩) 1 c2) (hoff : off = n * 2)
    (hK : ∀ w1, w1.ownsRow base e 2 (.slice (some ⟨g, 0, none⟩) n c) n xs → W.grownBy w1 (some g) → wpList P ops Q rest (a.put o.dst (.tuple #[])) w1) : wpList P ops Q (o :: rest) a W := by
  obtain ⟨w1, hr, h1, h2⟩ := clear_run (P := P) t o.type e z u v ht hv hz hu hv1 h hc off c2 hoff
  refine wpList_plain hgd fun K hKK => ?_
  unfold Oper.wp execOp
  simp only [ho, resolve, invoke, builtin, Sem.run_bind, Sem.run_pure, Result.andThen_ok, List.map_toArray, List.map_cons, List.map_nil, hs, hr]
  exact hKK _ _ (hK w1 h1 h2)
end
/-- A row of nodes without the node at k. -/
theorem NL.deleted {W w1 : World} {base go e tn g n c k : Nat} {l : List GN} (h : NL W base go e tn (.slice (some ⟨g, 0, none⟩) n c) l) (hn : n = l.length) (hk : k < n) (he : e ≠ tn) (hrow : w1.ownsRow base tn 2 (.slice (some ⟨g, 0, none⟩) (n - 1) c) (n - 1) ((flat l).take (k * 2) ++ (flat l).drop ((k + 1) * 2))) (hg : W.grownBy w1 (some g)) :
    NL w1 base go e tn (.slice (some ⟨g, 0, none⟩) (n - 1) c) (l.eraseIdx k) := by
  subst hn
  refine ⟨?_, fun q hq => h.ne q hq, fun x hx => ?_⟩
  · rw [flat_take, flat_drop, ← flat_append, ← List.eraseIdx_eq_take_drop_succ] at hrow
    rw [List.length_eraseIdx, if_pos hk]
    exact hrow
  · have hx2 := h.ok x (List.mem_of_mem_eraseIdx hx)
    obtain ⟨_, _, _, _, cs, h5, _⟩ := id hx2
    exact hx2.move (hg.block x.g hx2.lt (h.ne_row he h5))
end Go.Proofs.Ytgajagocenffeaa.Th
