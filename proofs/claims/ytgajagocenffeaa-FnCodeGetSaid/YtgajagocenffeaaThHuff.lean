/- Plain lemmas: a tree's lengths (the two least nodes put together, again and again) leave nothing over, are the best there are, are less for what comes more often, and are level if all come once. No condition. -/
import Derived.Test.YtgajagocenffeaaThBase
namespace Go.Proofs.Ytgajagocenffeaa.Th

/-- A node: how often it comes, its symbols, and (for proofs alone) how high it is. -/
structure Nd where
  w : Int
  syms : List Int
  h : Nat
def Nd.join (a b : Nd) : Nd := ⟨a.w + b.w, a.syms ++ b.syms, max a.h b.h + 1⟩
def leW (m : Nd) (x : Nd) : Bool := decide (x.w ≤ m.w)
/-- Behind all that are not heavier. -/
def insL (m : Nd) (r : List Nd) : List Nd := r.takeWhile (leW m) ++ m :: r.dropWhile (leW m)
theorem insL_length (m : Nd) (r : List Nd) : (insL m r).length = r.length + 1 := by
  have h := congrArg List.length (List.takeWhile_append_dropWhile (p := leW m) (l := r))
  rw [List.length_append] at h
  simp only [insL, List.length_append, List.length_cons]
  omega
def Srt (l : List Nd) : Prop := l.Pairwise fun a b => a.w ≤ b.w
theorem mem_takeWhile {p : Nd → Bool} {r : List Nd} {x : Nd} (h : x ∈ r.takeWhile p) : p x = true ∧ x ∈ r := by
  induction r with
  | nil => simp at h
  | cons y r ih =>
    rw [List.takeWhile_cons] at h
    split at h
    · rename_i hy
      rcases List.mem_cons.1 h with rfl | h
      · exact ⟨hy, List.mem_cons_self⟩
      · exact ⟨(ih h).1, List.mem_cons_of_mem _ (ih h).2⟩
    · simp at h
theorem mem_dropWhile {p : Nd → Bool} {r : List Nd} {x : Nd} (h : x ∈ r.dropWhile p) : x ∈ r := by
  have e := List.takeWhile_append_dropWhile (p := p) (l := r)
  rw [← e]; exact List.mem_append_right _ h
theorem drop_heavy {m : Nd} {r : List Nd} (hs : Srt r) {x : Nd} (h : x ∈ r.dropWhile (leW m)) : m.w < x.w := by
  induction r with
  | nil => simp at h
  | cons y r ih =>
    rw [List.dropWhile_cons] at h
    have hs' := List.pairwise_cons.1 hs
    split at h
    · exact ih hs'.2 h
    · rename_i hy
      have hy' : m.w < y.w := by simp [leW] at hy; exact hy
      rcases List.mem_cons.1 h with rfl | h
      · exact hy'
      · have := hs'.1 x h; omega
theorem srt_insL {m : Nd} {r : List Nd} (hs : Srt r) : Srt (insL m r) := by
  have e := List.takeWhile_append_dropWhile (p := leW m) (l := r)
  have hs2 : Srt (r.takeWhile (leW m) ++ r.dropWhile (leW m)) := by rw [e]; exact hs
  obtain ⟨h1, h2, h3⟩ := List.pairwise_append.1 hs2
  refine List.pairwise_append.2 ⟨h1, List.pairwise_cons.2 ⟨fun x hx => ?_, h2⟩, fun x hx y hy => ?_⟩
  · have := drop_heavy hs hx; omega
  · rcases List.mem_cons.1 hy with rfl | hy
    · have := (mem_takeWhile hx).1; simpa [leW] using this
    · exact h3 x hx y hy
theorem mem_insL {m : Nd} {r : List Nd} {x : Nd} : x ∈ insL m r ↔ x = m ∨ x ∈ r := by
  have e := List.takeWhile_append_dropWhile (p := leW m) (l := r)
  have : x ∈ r ↔ x ∈ r.takeWhile (leW m) ∨ x ∈ r.dropWhile (leW m) := by rw [← List.mem_append, e]
  rw [this]; simp only [insL, List.mem_append, List.mem_cons]
  constructor
  · rintro (h | h | h)
    · exact .inr (.inl h)
    · exact .inl h
    · exact .inr (.inr h)
  · rintro (h | h | h)
    · exact .inr (.inl h)
    · exact .inl h
    · exact .inr (.inr h)
/-- The nodes of a sorted list, each with how deep it comes to lie. -/
def deps : Nat → List Nd → List (Nd × Nat)
  | n + 1, a :: b :: r =>
    let m := a.join b
    let e := deps n (insL m r)
    let p := (r.takeWhile (leW m)).length
    let d := ((e[p]?).map Prod.snd).getD 0
    (a, d + 1) :: (b, d + 1) :: (e.take p ++ e.drop (p + 1))
  | _, l => l.map fun x => (x, 0)
theorem deps_fst : ∀ (n : Nat) (l : List Nd), l.length ≤ n + 1 → (deps n l).map Prod.fst = l := by
  intro n
  induction n with
  | zero => intro l _; simp [deps, Function.comp_def]
  | succ n ih =>
    intro l hl
    match l, hl with
    | [], _ => simp [deps]
    | [a], _ => simp [deps]
    | a :: b :: r, hl =>
      have h := ih (insL (a.join b) r) (by rw [insL_length]; simp at hl; omega)
      simp only [deps, List.map_cons, List.map_append, List.map_take, List.map_drop, h]
      have e := List.takeWhile_append_dropWhile (p := leW (a.join b)) (l := r)
      simp only [insL]
      rw [List.take_left, show (r.takeWhile (leW (a.join b))).length + 1 = (r.takeWhile (leW (a.join b)) ++ [a.join b]).length by simp, show r.takeWhile (leW (a.join b)) ++ a.join b :: r.dropWhile (leW (a.join b)) = (r.takeWhile (leW (a.join b)) ++ [a.join b]) ++ r.dropWhile (leW (a.join b)) by simp, List.drop_left, e]
/-- One step of it, laid open: the list that is made, in three parts. -/
theorem deps_step (n : Nat) (a b : Nd) (r : List Nd) (hr : Srt r) (hl : r.length ≤ n) :
    ∃ (e1 : List (Nd × Nat)) (d : Nat) (e2 : List (Nd × Nat)), deps n (insL (a.join b) r) = e1 ++ (a.join b, d) :: e2 ∧
      deps (n + 1) (a :: b :: r) = (a, d + 1) :: (b, d + 1) :: (e1 ++ e2) ∧ (∀ x ∈ e1, x.1.w ≤ a.w + b.w) ∧ (∀ x ∈ e2, a.w + b.w < x.1.w) ∧ e1.map Prod.fst ++ e2.map Prod.fst = r := by
  have h := deps_fst n (insL (a.join b) r) (by rw [insL_length]; omega)
  generalize hE : deps n (insL (a.join b) r) = E at h
  generalize hp : (r.takeWhile (leW (a.join b))).length = p
  have hm : (a.join b).w = a.w + b.w := rfl
  have hlen : E.length = r.length + 1 := by have := congrArg List.length h; rw [List.length_map, insL_length] at this; exact this
  have hpr : p ≤ r.length := by rw [← hp]; have h5 := congrArg List.length (List.takeWhile_append_dropWhile (p := leW (a.join b)) (l := r)); rw [List.length_append] at h5; omega
  have hpl : p < E.length := by omega
  have hsplit : E = E.take p ++ E[p] :: E.drop (p + 1) := by
    rw [List.getElem_cons_drop, List.take_append_drop]
  have h1 : (E.take p).map Prod.fst = r.takeWhile (leW (a.join b)) := by
    rw [List.map_take, h]; simp only [insL]; rw [← hp, List.take_left]
  have h2 : (E.drop (p + 1)).map Prod.fst = r.dropWhile (leW (a.join b)) := by
    rw [List.map_drop, h]; simp only [insL]
    rw [show r.takeWhile (leW (a.join b)) ++ a.join b :: r.dropWhile (leW (a.join b)) = (r.takeWhile (leW (a.join b)) ++ [a.join b]) ++ r.dropWhile (leW (a.join b)) by simp, show p + 1 = (r.takeWhile (leW (a.join b)) ++ [a.join b]).length by simp [hp], List.drop_left]
  have h3 : E[p].1 = a.join b := by
    have h4 : (E.map Prod.fst)[p]? = some (a.join b) := by
      rw [h]; simp only [insL]; rw [← hp, List.getElem?_append_right (Nat.le_refl _)]; simp
    rw [List.getElem?_map, List.getElem?_eq_getElem hpl] at h4
    simpa using h4
  refine ⟨E.take p, E[p].2, E.drop (p + 1), ?_, ?_, ?_, ?_, ?_⟩
  · conv => lhs; rw [hsplit]
    rw [← h3]
  · simp only [deps]
    rw [hE, hp, List.getElem?_eq_getElem hpl]
    rfl
  · intro x hx
    have := mem_takeWhile (h1 ▸ List.mem_map_of_mem (f := Prod.fst) hx)
    have := this.1
    simpa [leW, hm] using this
  · intro x hx
    have := drop_heavy hr (h2 ▸ List.mem_map_of_mem (f := Prod.fst) hx)
    rw [hm] at this; exact this
  · rw [h1, h2, List.takeWhile_append_dropWhile]
/-- Deeper or as deep, the further in front. -/
def Dn (e : List (Nd × Nat)) : Prop := e.Pairwise fun x y => y.2 ≤ x.2
def Pos (l : List Nd) : Prop := ∀ x ∈ l, 1 ≤ x.w
theorem pos_insL {a b : Nd} {r : List Nd} (h : Pos (a :: b :: r)) : Pos (insL (a.join b) r) := by
  intro x hx
  have ha := h a (by simp); have hb := h b (by simp)
  rcases mem_insL.1 hx with rfl | hx
  · show 1 ≤ a.w + b.w; omega
  · exact h x (by simp [hx])
/-- What is lighter is not less deep; and what is not heavier than the two least together is at most one less deep than any. -/
theorem deps_down : ∀ (n : Nat) (l : List Nd), l.length ≤ n + 1 → Srt l → Pos l → Dn (deps n l) ∧ ∀ (a b : Nd) (r : List Nd), l = a :: b :: r → ∀ z ∈ deps n l, z.1.w ≤ a.w + b.w → ∀ x ∈ deps n l, x.2 ≤ z.2 + 1 := by
  intro n
  induction n with
  | zero =>
    intro l hl _ _
    match l, hl with
    | [], _ => exact ⟨by simp [deps, Dn], fun a b r h => by simp at h⟩
    | [a], _ => exact ⟨by simp [deps, Dn], fun a b r h => by simp at h⟩
  | succ n ih =>
    intro l hl hs hpos
    match l, hl, hs, hpos with
    | [], _, _, _ => exact ⟨by simp [deps, Dn], fun a b r h => by simp at h⟩
    | [a], _, _, _ => exact ⟨by simp [deps, Dn], fun a b r h => by simp at h⟩
    | a :: b :: r, hl, hs, hpos =>
      have hs1 := List.pairwise_cons.1 hs
      have hs2 := List.pairwise_cons.1 hs1.2
      have hab : a.w ≤ b.w := hs1.1 b (by simp)
      have ha := hpos a (by simp)
      obtain ⟨e1, d, e2, hE, hD, hlo, hhi, hfst⟩ := deps_step n a b r hs2.2 (by simp at hl; omega)
      obtain ⟨ihP, ihQ⟩ := ih (insL (a.join b) r) (by rw [insL_length]; simp at hl; omega) (srt_insL hs2.2) (pos_insL hpos)
      rw [hE] at ihP ihQ
      obtain ⟨p1, p2, p3⟩ := List.pairwise_append.1 ihP
      have p4 := List.pairwise_cons.1 p2
      -- what is put together lies at most one less deep than any
      have q : ∀ x ∈ e1 ++ (a.join b, d) :: e2, x.2 ≤ d + 1 := by
        match hr : insL (a.join b) r, ihQ with
        | [], _ => have := insL_length (a.join b) r; rw [hr] at this; simp at this
        | [c], _ =>
          have hlen := congrArg List.length (deps_fst n (insL (a.join b) r) (by rw [insL_length]; simp at hl; omega))
          rw [hE, hr] at hlen
          have h1 : e1 = [] := by cases e1 with | nil => rfl | cons _ _ => simp at hlen
          have h2 : e2 = [] := by cases e2 with | nil => rfl | cons _ _ => (simp at hlen; omega)
          subst h1; subst h2; intro x hx; simp at hx; subst hx; simp
        | c :: c' :: r', ihQ =>
          refine fun x hx => ihQ c c' r' rfl (a.join b, d) (by simp) ?_ x hx
          show a.w + b.w ≤ c.w + c'.w
          have hlow : ∀ y ∈ insL (a.join b) r, b.w ≤ y.w := by
            intro y hy
            rcases mem_insL.1 hy with rfl | hy
            · show b.w ≤ a.w + b.w; omega
            · exact hs2.1 y hy
          have h1 := hlow c (by rw [hr]; simp)
          have h2 := hlow c' (by rw [hr]; simp)
          omega
      have dn : Dn (deps (n + 1) (a :: b :: r)) := by
        rw [hD]
        refine List.pairwise_cons.2 ⟨fun x hx => ?_, List.pairwise_cons.2 ⟨fun x hx => ?_, List.pairwise_append.2 ⟨p1, p4.2, fun x hx y hy => p3 x hx y (by simp [hy])⟩⟩⟩
        · rcases List.mem_cons.1 hx with rfl | hx
          · exact Nat.le_refl _
          · exact q x (by rcases List.mem_append.1 hx with h | h <;> simp [h])
        · exact q x (by rcases List.mem_append.1 hx with h | h <;> simp [h])
      refine ⟨dn, ?_⟩
      rintro a' b' r' heq z hz hzw x hx
      injection heq with e1' heq; injection heq with e2' e3'; subst e1'; subst e2'; subst e3'
      rw [hD] at hz hx
      have hxd : x.2 ≤ d + 1 := by
        rcases List.mem_cons.1 hx with rfl | hx
        · exact Nat.le_refl _
        rcases List.mem_cons.1 hx with rfl | hx
        · exact Nat.le_refl _
        · exact q x (by rcases List.mem_append.1 hx with h | h <;> simp [h])
      have hzd : d ≤ z.2 := by
        rcases List.mem_cons.1 hz with rfl | hz
        · simp
        rcases List.mem_cons.1 hz with rfl | hz
        · simp
        rcases List.mem_append.1 hz with hz | hz
        · exact p3 z hz (a.join b, d) (by simp)
        · have := hhi z hz; omega
      omega
/-! What the depths leave over; how deep they are at most. -/
theorem deps_len {n : Nat} {l : List Nd} (h : l.length ≤ n + 1) : (deps n l).length = l.length := by
  have := congrArg List.length (deps_fst n l h)
  rwa [List.length_map] at this
theorem deps_depth : ∀ (n : Nat) (l : List Nd), l.length ≤ n + 1 → Srt l → ∀ x ∈ deps n l, x.2 + 1 ≤ l.length := by
  intro n
  induction n with
  | zero =>
    intro l hl _ x hx
    match l, hl, hx with
    | [], _, hx => simp [deps] at hx
    | [a], _, hx => simp [deps] at hx; subst hx; simp
  | succ n ih =>
    intro l hl hs x hx
    match l, hl, hs, hx with
    | [], _, _, hx => simp [deps] at hx
    | [a], _, _, hx => simp [deps] at hx; subst hx; simp
    | a :: b :: r, hl, hs, hx =>
      have hs2 := List.pairwise_cons.1 (List.pairwise_cons.1 hs).2
      obtain ⟨e1, d, e2, hE, hD, -, -, -⟩ := deps_step n a b r hs2.2 (by simp at hl; omega)
      have hi := ih (insL (a.join b) r) (by rw [insL_length]; simp at hl; omega) (srt_insL hs2.2)
      rw [hE, insL_length] at hi
      have hd := hi (a.join b, d) (by simp)
      rw [hD] at hx
      simp only [List.length_cons]
      rcases List.mem_cons.1 hx with rfl | hx
      · show d + 1 + 1 ≤ _; simp at hd; omega
      rcases List.mem_cons.1 hx with rfl | hx
      · show d + 1 + 1 ≤ _; simp at hd; omega
      have := hi x (by rcases List.mem_append.1 hx with h | h <;> simp [h])
      omega
/-- 2 to the power of minus each, all together, of 2 to the power of M. -/
def krf (M : Nat) (ds : List Nat) : Nat := (ds.map fun d => 2 ^ (M - d)).sum
theorem krf_app (M : Nat) (a b : List Nat) : krf M (a ++ b) = krf M a + krf M b := by simp [krf]
theorem krf_cons (M d : Nat) (b : List Nat) : krf M (d :: b) = 2 ^ (M - d) + krf M b := by simp [krf]
theorem pow_half {M d : Nat} (h : d + 1 ≤ M) : 2 ^ (M - d) = 2 ^ (M - (d + 1)) + 2 ^ (M - (d + 1)) := by
  rw [show M - d = (M - (d + 1)) + 1 by omega, Nat.pow_succ]; omega
theorem deps_kraft (M : Nat) : ∀ (n : Nat) (l : List Nd), l.length ≤ n + 1 → l ≠ [] → Srt l → (∀ x ∈ deps n l, x.2 ≤ M) → krf M ((deps n l).map Prod.snd) = 2 ^ M := by
  intro n
  induction n with
  | zero =>
    intro l hl hne _ _
    match l, hl, hne with
    | [a], _, _ => simp [deps, krf]
  | succ n ih =>
    intro l hl hne hs hM
    match l, hl, hne, hs, hM with
    | [a], _, _, _, _ => simp [deps, krf]
    | a :: b :: r, hl, _, hs, hM =>
      have hs2 := List.pairwise_cons.1 (List.pairwise_cons.1 hs).2
      obtain ⟨e1, d, e2, hE, hD, -, -, -⟩ := deps_step n a b r hs2.2 (by simp at hl; omega)
      rw [hD] at hM
      have hda : d + 1 ≤ M := hM (a, d + 1) (by simp)
      have hi := ih (insL (a.join b) r) (by rw [insL_length]; simp at hl; omega) (by intro e; have := insL_length (a.join b) r; rw [e] at this; simp at this) (srt_insL hs2.2) (by
        rw [hE]
        intro x hx
        rcases List.mem_append.1 hx with h | h
        · exact hM x (by simp [h])
        · rcases List.mem_cons.1 h with rfl | h
          · show d ≤ M; omega
          · exact hM x (by simp [h]))
      rw [hE] at hi
      rw [hD]
      simp only [List.map_append, List.map_cons, krf_app, krf_cons] at hi ⊢
      rw [pow_half hda] at hi
      omega
/-- All as often: none is deeper than a level code's. -/
theorem level_depth {e : List (Nd × Nat)} {m P : Nat} (hm : ∃ x ∈ e, x.2 = m) (hle : ∀ x ∈ e, x.2 ≤ m) (hge : ∀ x ∈ e, m ≤ x.2 + 1) (hk : krf m (e.map Prod.snd) = 2 ^ m) (hP : e.length ≤ 2 ^ P) : m ≤ P := by
  -- each counts 1 or 2, and one counts 1
  have h1 : ∀ ds : List Nat, (∀ d ∈ ds, d ≤ m ∧ m ≤ d + 1) → krf m ds ≤ 2 * ds.length := by
    intro ds
    induction ds with
    | nil => intro _; simp [krf]
    | cons d ds ih =>
      intro h
      have h2 := ih (fun x hx => h x (by simp [hx]))
      have h3 := h d (by simp)
      rw [krf_cons, List.length_cons]
      have : 2 ^ (m - d) ≤ 2 ^ 1 := Nat.pow_le_pow_right (by omega) (by omega)
      omega
  obtain ⟨x, hx, hxm⟩ := hm
  obtain ⟨p, q, rfl⟩ := List.append_of_mem hx
  have hp := h1 (p.map Prod.snd) (fun d hd => by obtain ⟨y, hy, rfl⟩ := List.mem_map.1 hd; exact ⟨hle y (by simp [hy]), hge y (by simp [hy])⟩)
  have hq := h1 (q.map Prod.snd) (fun d hd => by obtain ⟨y, hy, rfl⟩ := List.mem_map.1 hd; exact ⟨hle y (by simp [hy]), hge y (by simp [hy])⟩)
  simp only [List.map_append, List.map_cons, krf_app, krf_cons, hxm, Nat.sub_self, Nat.pow_zero, List.length_map, List.length_append, List.length_cons] at hk hp hq hP
  refine Nat.le_of_not_lt fun hlt => ?_
  have h5 : 2 ^ (P + 1) ≤ 2 ^ m := Nat.pow_le_pow_right (by omega) hlt
  rw [Nat.pow_succ] at h5
  omega
/-! Nothing takes less. -/
def costD (e : List (Nd × Nat)) : Int := (e.map fun x => x.1.w * (x.2 : Int)).sum
def dotw : List Nd → List Nat → Int
  | x :: l, k :: ls => x.w * (k : Int) + dotw l ls
  | _, _ => 0
theorem costD_app (a b : List (Nd × Nat)) : costD (a ++ b) = costD a + costD b := by simp [costD]
theorem costD_cons (x : Nd × Nat) (b : List (Nd × Nat)) : costD (x :: b) = x.1.w * (x.2 : Int) + costD b := by simp [costD]
theorem dotw_app : ∀ (a : List Nd) (ka : List Nat) (b : List Nd) (kb : List Nat), a.length = ka.length → dotw (a ++ b) (ka ++ kb) = dotw a ka + dotw b kb := by
  intro a
  induction a with
  | nil => intro ka b kb h; cases ka with | nil => simp [dotw] | cons _ _ => simp at h
  | cons x a ih =>
    intro ka b kb h
    cases ka with
    | nil => simp at h
    | cons k ka => simp only [List.cons_append, dotw]; rw [ih ka b kb (by simpa using h)]; omega
/-- Put in, the greatest first. -/
def insd (x : Nat) : List Nat → List Nat
  | [] => [x]
  | y :: s => if y ≤ x then x :: y :: s else y :: insd x s
def sortd : List Nat → List Nat
  | [] => []
  | x :: s => insd x (sortd s)
theorem insd_length (x : Nat) (s : List Nat) : (insd x s).length = s.length + 1 := by
  induction s with
  | nil => rfl
  | cons y s ih => simp only [insd]; split <;> simp [ih]
theorem sortd_length (s : List Nat) : (sortd s).length = s.length := by
  induction s with
  | nil => rfl
  | cons y s ih => simp only [sortd, insd_length, ih, List.length_cons]
theorem krf_insd (M x : Nat) (s : List Nat) : krf M (insd x s) = krf M (x :: s) := by
  induction s with
  | nil => rfl
  | cons y s ih =>
    simp only [insd]
    split
    · rfl
    · simp only [krf_cons] at ih ⊢; omega
theorem krf_sortd (M : Nat) (s : List Nat) : krf M (sortd s) = krf M s := by
  induction s with
  | nil => rfl
  | cons y s ih => simp only [sortd, krf_insd, krf_cons, ih]
theorem mem_insd {x y : Nat} {s : List Nat} : y ∈ insd x s ↔ y = x ∨ y ∈ s := by
  induction s with
  | nil => simp [insd]
  | cons z s ih =>
    simp only [insd]
    split
    · simp
    · simp only [List.mem_cons, ih]; constructor <;> (intro h; rcases h with h | h | h <;> simp [h])
theorem mem_sortd {y : Nat} {s : List Nat} : y ∈ sortd s ↔ y ∈ s := by
  induction s with
  | nil => simp [sortd]
  | cons z s ih => simp only [sortd, mem_insd, ih, List.mem_cons]
theorem insd_desc {x : Nat} {s : List Nat} (h : s.Pairwise fun a b => b ≤ a) : (insd x s).Pairwise fun a b => b ≤ a := by
  induction s with
  | nil => simp [insd]
  | cons y s ih =>
    have h2 := List.pairwise_cons.1 h
    simp only [insd]
    split
    · rename_i hy
      refine List.pairwise_cons.2 ⟨fun z hz => ?_, h⟩
      rcases List.mem_cons.1 hz with rfl | hz
      · exact hy
      · have := h2.1 z hz; omega
    · rename_i hy
      refine List.pairwise_cons.2 ⟨fun z hz => ?_, ih h2.2⟩
      rcases mem_insd.1 hz with rfl | hz
      · omega
      · exact h2.1 z hz
theorem sortd_desc (s : List Nat) : (sortd s).Pairwise fun a b => b ≤ a := by
  induction s with
  | nil => simp [sortd]
  | cons y s ih => exact insd_desc ih
theorem dotw_insd : ∀ (s : List Nat) (a : Nd) (l : List Nd) (x : Nat), s.length = l.length → Srt (a :: l) → dotw (a :: l) (insd x s) ≤ dotw (a :: l) (x :: s) := by
  intro s
  induction s with
  | nil => intro a l x _ _; exact Int.le_refl _
  | cons y s ih =>
    intro a l x hl hs
    simp only [insd]
    split
    · exact Int.le_refl _
    · rename_i hy
      cases l with
      | nil => simp at hl
      | cons b l =>
        have h1 := List.pairwise_cons.1 hs
        have h2 := ih b l x (by simpa using hl) h1.2
        have h3 := h1.1 b (by simp)
        simp only [dotw] at h2 ⊢
        have h4 : a.w * (y : Int) + b.w * (x : Int) ≤ a.w * (x : Int) + b.w * (y : Int) := by
          have h5 : 0 ≤ (b.w - a.w) * ((y : Int) - (x : Int)) := Int.mul_nonneg (by omega) (by omega)
          have h6 : (b.w - a.w) * ((y : Int) - (x : Int)) = b.w * (y : Int) - b.w * (x : Int) - (a.w * (y : Int) - a.w * (x : Int)) := by
            rw [Int.sub_mul, Int.mul_sub, Int.mul_sub]
          omega
        omega
theorem dotw_sortd : ∀ (s : List Nat) (l : List Nd), s.length = l.length → Srt l → dotw l (sortd s) ≤ dotw l s := by
  intro s
  induction s with
  | nil => intro l _ _; exact Int.le_refl _
  | cons x s ih =>
    intro l hl hs
    cases l with
    | nil => simp at hl
    | cons a l =>
      have h1 := dotw_insd (sortd s) a l x (by rw [sortd_length]; simpa using hl) hs
      have h2 := ih l (by simpa using hl) (List.pairwise_cons.1 hs).2
      simp only [sortd]
      simp only [dotw] at h1 ⊢
      omega
theorem krf_mult {M k : Nat} {ds : List Nat} (hk : k ≤ M) (h : ∀ d ∈ ds, d + 1 ≤ k) : ∃ q, krf M ds = 2 ^ (M - k) * (2 * q) := by
  induction ds with
  | nil => exact ⟨0, by simp [krf]⟩
  | cons d ds ih =>
    obtain ⟨q, hq⟩ := ih (fun x hx => h x (by simp [hx]))
    have hd := h d (by simp)
    refine ⟨2 ^ (k - d - 1) + q, ?_⟩
    rw [krf_cons, hq, show M - d = (M - k) + (k - d - 1) + 1 by omega, Nat.pow_succ, Nat.pow_add, Nat.mul_add, Nat.mul_add, Nat.mul_assoc, Nat.mul_comm (2 ^ (k - d - 1)) 2]
theorem deps_best (M : Nat) : ∀ (n : Nat) (l : List Nd), l.length ≤ n + 1 → Srt l → Pos l → ∀ ls : List Nat, ls.length = l.length → (∀ x ∈ ls, x ≤ M) → krf M ls ≤ 2 ^ M → costD (deps n l) ≤ dotw l ls := by
  have one : ∀ (a : Nd) (k : Nat), Pos [a] → (0 : Int) ≤ dotw [a] [k] := by
    intro a k hp
    have := hp a (by simp)
    simp only [dotw]
    have := Int.mul_nonneg (show 0 ≤ a.w by omega) (show (0 : Int) ≤ (k : Int) by omega)
    omega
  intro n
  induction n with
  | zero =>
    intro l hl _ hpos ls hlen _ _
    match l, hl, ls, hlen with
    | [], _, [], _ => simp [deps, costD, dotw]
    | [a], _, [k], _ => have := one a k hpos; simpa [deps, costD] using this
  | succ n ih =>
    intro l hl hs hpos ls0 hlen0 hM0 hk0
    match l, hl, hs, hpos, hlen0 with
    | [], _, _, _, _ => simp [deps, costD, dotw]
    | [a], _, _, hpos, hlen0 =>
      match ls0, hlen0 with
      | [k], _ => have := one a k hpos; simpa [deps, costD] using this
    | a :: b :: r, hl, hs, hpos, hlen0 =>
      refine Int.le_trans ?_ (dotw_sortd ls0 (a :: b :: r) hlen0 hs)
      have hdesc := sortd_desc ls0
      have hM1 : ∀ x ∈ sortd ls0, x ≤ M := fun x hx => hM0 x (mem_sortd.1 hx)
      have hk1 : krf M (sortd ls0) ≤ 2 ^ M := by rw [krf_sortd]; exact hk0
      have hlen1 : (sortd ls0).length = (a :: b :: r).length := by rw [sortd_length]; exact hlen0
      generalize sortd ls0 = ls at hdesc hM1 hk1 hlen1
      clear hM0 hk0 hlen0
      match ls, hlen1, hdesc, hM1, hk1 with
      | la :: lb :: lr, hlen, hdesc, hM, hk =>
        have hlr : lr.length = r.length := by simpa using hlen
        have d1 := List.pairwise_cons.1 hdesc
        have d2 := List.pairwise_cons.1 d1.2
        have hab := d1.1 lb (by simp)
        have ha := hpos a (by simp)
        have hb := hpos b (by simp)
        have hs2 := List.pairwise_cons.1 (List.pairwise_cons.1 hs).2
        obtain ⟨e1, d, e2, hE, hD, -, -, hfst⟩ := deps_step n a b r hs2.2 (by simp at hl; omega)
        have hins := deps_fst n (insL (a.join b) r) (by rw [insL_length]; simp at hl; omega)
        rw [hE, List.map_append, List.map_cons] at hins
        -- down to where both are as long
        have key : ∀ t la, la = lb + t → la ≤ M → krf M (la :: lb :: lr) ≤ 2 ^ M → costD (deps (n + 1) (a :: b :: r)) ≤ dotw (a :: b :: r) (la :: lb :: lr) := by
          intro t
          induction t with
          | zero =>
            intro la e hlaM hk
            obtain rfl : la = lb := by omega
            have hpos1 : 1 ≤ la := by
              refine Nat.pos_of_ne_zero fun e0 => ?_
              subst e0
              simp only [krf_cons, Nat.sub_zero] at hk
              have := Nat.pow_pos (n := M) (show 0 < 2 by omega)
              omega
            obtain ⟨k, rfl⟩ : ∃ k, la = k + 1 := ⟨la - 1, by omega⟩
            have hl1 : e1.length ≤ lr.length := by
              have := congrArg List.length hfst; rw [List.length_append, List.length_map, List.length_map] at this; omega
            have hi := ih (insL (a.join b) r) (by rw [insL_length]; simp at hl; omega) (srt_insL hs2.2) (pos_insL hpos) (lr.take e1.length ++ k :: lr.drop e1.length) (by rw [List.length_append, List.length_cons, List.length_take, List.length_drop, insL_length]; omega) (by
                intro x hx
                rcases List.mem_append.1 hx with h | h
                · exact hM x (by simp [List.mem_of_mem_take h])
                · rcases List.mem_cons.1 h with rfl | h
                  · omega
                  · exact hM x (by simp [List.mem_of_mem_drop h])) (by
                have hsp : krf M lr = krf M (lr.take e1.length) + krf M (lr.drop e1.length) := by rw [← krf_app, List.take_append_drop]
                simp only [krf_app, krf_cons] at hk ⊢
                rw [pow_half (d := k) (by omega)]
                omega)
            rw [hE, ← hins, dotw_app _ _ _ _ (by rw [List.length_map, List.length_take]; omega)] at hi
            have hr2 : dotw r lr = dotw (e1.map Prod.fst) (lr.take e1.length) + dotw (e2.map Prod.fst) (lr.drop e1.length) := by
              rw [← dotw_app _ _ _ _ (by rw [List.length_map, List.length_take]; omega), List.take_append_drop, hfst]
            have hjw : (a.join b).w = a.w + b.w := rfl
            rw [hD]
            simp only [dotw, costD_app, costD_cons, hjw] at hi ⊢
            rw [hr2]
            have m1 : a.w * ((k + 1 : Nat) : Int) = a.w * (k : Int) + a.w := by rw [Int.natCast_add, Int.mul_add]; simp
            have m2 : b.w * ((k + 1 : Nat) : Int) = b.w * (k : Int) + b.w := by rw [Int.natCast_add, Int.mul_add]; simp
            have m3 : a.w * ((d + 1 : Nat) : Int) = a.w * (d : Int) + a.w := by rw [Int.natCast_add, Int.mul_add]; simp
            have m4 : b.w * ((d + 1 : Nat) : Int) = b.w * (d : Int) + b.w := by rw [Int.natCast_add, Int.mul_add]; simp
            have m5 : (a.w + b.w) * (k : Int) = a.w * (k : Int) + b.w * (k : Int) := Int.add_mul _ _ _
            have m6 : (a.w + b.w) * (d : Int) = a.w * (d : Int) + b.w * (d : Int) := Int.add_mul _ _ _
            rw [m1, m2, m3, m4]
            rw [m5, m6] at hi
            omega
          | succ t iht =>
            intro la e hlaM hk
            obtain ⟨k, rfl⟩ : ∃ k, la = k + 1 := ⟨la - 1, by omega⟩
            have h1 := iht k (by omega) (by omega) (by
              obtain ⟨q, hq⟩ := krf_mult (M := M) (k := k + 1) (ds := lb :: lr) hlaM (fun x hx => by
                rcases List.mem_cons.1 hx with rfl | hx
                · omega
                · have := d2.1 x hx; omega)
              rw [krf_cons] at hk ⊢
              rw [hq] at hk ⊢
              rw [pow_half (d := k) hlaM]
              have hp : 2 ^ M = 2 ^ (M - (k + 1)) * (2 * 2 ^ k) := by
                rw [show 2 * 2 ^ k = 2 ^ (k + 1) by rw [Nat.pow_succ]; omega, ← Nat.pow_add]; congr 1; omega
              rw [hp] at hk ⊢
              have hpp := Nat.pow_pos (n := M - (k + 1)) (show 0 < 2 by omega)
              generalize 2 ^ (M - (k + 1)) = Z at hk hpp ⊢
              generalize 2 ^ k = Y at hk ⊢
              have h7 : q < Y := by
                refine Nat.lt_of_not_le fun hle => ?_
                have := Nat.mul_le_mul_left Z (Nat.mul_le_mul_left 2 hle)
                omega
              have := Nat.mul_le_mul_left Z (Nat.mul_le_mul_left 2 (show q + 1 ≤ Y from h7))
              have h8 : Z * (2 * (q + 1)) = Z * (2 * q) + (Z + Z) := by rw [Nat.mul_add, Nat.mul_add]; omega
              omega)
            refine Int.le_trans h1 ?_
            simp only [dotw]
            have m1 : a.w * ((k + 1 : Nat) : Int) = a.w * (k : Int) + a.w := by rw [Int.natCast_add, Int.mul_add]; simp
            omega
        exact key (la - lb) la (by omega) (hM la (by simp)) hk
/-! A list of nodes as it lies, and the sorted one. -/
def isrt (l : List Nd) : List Nd := l.foldl (fun s x => insL x s) []
theorem isrt_snoc (l : List Nd) (x : Nd) : isrt (l ++ [x]) = insL x (isrt l) := by simp [isrt, List.foldl_append]
theorem snoc_ind {P : List Nd → Prop} (h0 : P []) (h1 : ∀ l x, P l → P (l ++ [x])) : ∀ l, P l := by
  have h : ∀ n (l : List Nd), l.length = n → P l := by
    intro n
    induction n with
    | zero => intro l hl; rw [List.eq_nil_of_length_eq_zero hl]; exact h0
    | succ n ih =>
      intro l hl
      have hne : l ≠ [] := by intro e; rw [e] at hl; simp at hl
      rw [← List.dropLast_concat_getLast hne]
      exact h1 _ _ (ih _ (by rw [List.length_dropLast]; omega))
  exact fun l => h _ l rfl
theorem isrt_length (l : List Nd) : (isrt l).length = l.length := by
  refine snoc_ind (P := fun l => (isrt l).length = l.length) rfl (fun l x h => ?_) l
  rw [isrt_snoc, insL_length, h]; simp
theorem mem_isrt {x : Nd} (l : List Nd) : x ∈ isrt l ↔ x ∈ l := by
  refine snoc_ind (P := fun l => x ∈ isrt l ↔ x ∈ l) (by simp [isrt]) (fun l y h => ?_) l
  rw [isrt_snoc, mem_insL, h, List.mem_append, List.mem_singleton]
  exact ⟨fun h => h.symm, fun h => h.symm⟩
theorem srt_isrt (l : List Nd) : Srt (isrt l) := by
  refine snoc_ind (P := fun l => Srt (isrt l)) (by simp [isrt, Srt]) (fun l x h => ?_) l
  rw [isrt_snoc]; exact srt_insL h
theorem insL_front {a : Nd} {s : List Nd} (h : ∀ x ∈ s, a.w < x.w) : insL a s = a :: s := by
  cases s with
  | nil => rfl
  | cons y s =>
    have := h y (by simp)
    have e : leW a y = false := by simp only [leW, decide_eq_false_iff_not]; omega
    simp [insL, e]
theorem insL_behind {a x : Nd} {s : List Nd} (h : a.w ≤ x.w) : insL x (a :: s) = a :: insL x s := by
  have e : leW x a = true := by simp only [leW, decide_eq_true_eq]; exact h
  simp [insL, e]
/-- The first of the least comes first. -/
theorem isrt_least (l1 : List Nd) (a : Nd) (h1 : ∀ x ∈ l1, a.w < x.w) : ∀ l2 : List Nd, (∀ x ∈ l2, a.w ≤ x.w) → isrt (l1 ++ a :: l2) = a :: isrt (l1 ++ l2) := by
  intro l2
  refine snoc_ind (P := fun l2 => (∀ x ∈ l2, a.w ≤ x.w) → isrt (l1 ++ a :: l2) = a :: isrt (l1 ++ l2)) (fun _ => ?_) (fun l x h hx => ?_) l2
  · rw [isrt_snoc, List.append_nil]
    exact insL_front (fun x hx => h1 x ((mem_isrt l1).1 hx))
  · rw [show l1 ++ a :: (l ++ [x]) = (l1 ++ a :: l) ++ [x] by simp, show l1 ++ (l ++ [x]) = (l1 ++ l) ++ [x] by simp, isrt_snoc, isrt_snoc, h (fun y hy => hx y (by simp [hy]))]
    exact insL_behind (hx x (by simp))
/-- Where the first of the least is. -/
def leastN : List Nd → Nat
  | [] => 0
  | [_] => 0
  | x :: y :: l => let k := leastN (y :: l); if ((y :: l)[k]?.getD x).w < x.w then k + 1 else 0
theorem leastN_split : ∀ l : List Nd, l ≠ [] → ∃ l1 a l2, l = l1 ++ a :: l2 ∧ l1.length = leastN l ∧ (∀ x ∈ l1, a.w < x.w) ∧ ∀ x ∈ l2, a.w ≤ x.w := by
  intro l
  induction l with
  | nil => intro h; exact absurd rfl h
  | cons x l ih =>
    intro _
    cases l with
    | nil => exact ⟨[], x, [], rfl, rfl, by simp, by simp⟩
    | cons y l =>
      obtain ⟨l1, a, l2, e, hlen, h1, h2⟩ := ih (by simp)
      have ha : ((y :: l)[leastN (y :: l)]?.getD x) = a := by rw [← hlen, e, List.getElem?_append_right (Nat.le_refl _)]; simp
      simp only [leastN, ha]
      split
      · rename_i c
        exact ⟨x :: l1, a, l2, by rw [e]; rfl, by simp [hlen], fun z hz => by
          rcases List.mem_cons.1 hz with rfl | hz
          · exact c
          · exact h1 z hz, h2⟩
      · rename_i c
        refine ⟨[], x, y :: l, rfl, rfl, by simp, fun z hz => ?_⟩
        rw [e] at hz
        rcases List.mem_append.1 hz with hz | hz
        · have := h1 z hz; omega
        · rcases List.mem_cons.1 hz with rfl | hz
          · omega
          · have := h2 z hz; omega
/-- Each of some places is one more. -/
def bump (out : List Int) (syms : List Int) : List Int := syms.foldl (fun o s => o.set s.toNat (o.getD s.toNat 0 + 1)) out
theorem bump_length (syms : List Int) : ∀ out, (bump out syms).length = out.length := by
  induction syms with
  | nil => intro out; rfl
  | cons s syms ih => intro out; simp only [bump, List.foldl_cons]; exact (ih _).trans (List.length_set ..)
theorem bump_at (syms : List Int) : ∀ (out : List Int), syms.Nodup → (∀ s ∈ syms, 0 ≤ s ∧ s < out.length) → ∀ i : Int, 0 ≤ i → i < out.length → (bump out syms).getD i.toNat 0 = out.getD i.toNat 0 + (if i ∈ syms then 1 else 0) := by
  induction syms with
  | nil => intro out _ _ i _ _; simp [bump]
  | cons s syms ih =>
    intro out hn hb i h0 h1
    have hn2 := List.nodup_cons.1 hn
    have hs := hb s (by simp)
    have e := ih (out.set s.toNat (out.getD s.toNat 0 + 1)) hn2.2 (fun z hz => by rw [List.length_set]; exact hb z (by simp [hz])) i h0 (by rw [List.length_set]; exact h1)
    have e2 : bump out (s :: syms) = bump (out.set s.toNat (out.getD s.toNat 0 + 1)) syms := rfl
    rw [e2, e]
    by_cases c : i = s
    · subst c
      have hlt : i.toNat < out.length := by omega
      rw [if_neg hn2.1, if_pos (by simp), List.getD_eq_getElem?_getD, List.getElem?_set_self hlt]; simp
    · have hne : s.toNat ≠ i.toNat := by omega
      rw [List.getD_eq_getElem?_getD, List.getElem?_set_ne hne, ← List.getD_eq_getElem?_getD]
      have : (i ∈ s :: syms) ↔ i ∈ syms := by rw [List.mem_cons]; exact ⟨fun h => h.resolve_left c, .inr⟩
      simp only [this]
/-- The two least put together, as long as there are two. -/
def runT : Nat → List Nd → List Int → List Int
  | 0, _, out => out
  | n + 1, l, out =>
    if 1 < l.length then
      let a := l.getD (leastN l) ⟨0, [], 0⟩
      let l1 := l.eraseIdx (leastN l)
      let b := l1.getD (leastN l1) ⟨0, [], 0⟩
      runT n (l1.eraseIdx (leastN l1) ++ [a.join b]) (bump out (a.join b).syms)
    else out
def symsOf (l : List Nd) : List Int := l.flatMap Nd.syms
theorem symsOf_app (a b : List Nd) : symsOf (a ++ b) = symsOf a ++ symsOf b := by simp [symsOf]
theorem symsOf_cons (a : Nd) (b : List Nd) : symsOf (a :: b) = a.syms ++ symsOf b := by simp [symsOf]
theorem least_step (l : List Nd) (h : 1 < l.length) : ∃ (a b : Nd) (l2 : List Nd), l.getD (leastN l) ⟨0, [], 0⟩ = a ∧ (l.eraseIdx (leastN l)).getD (leastN (l.eraseIdx (leastN l))) ⟨0, [], 0⟩ = b ∧ (l.eraseIdx (leastN l)).eraseIdx (leastN (l.eraseIdx (leastN l))) = l2 ∧ l2.length + 2 = l.length ∧ isrt l = a :: b :: isrt l2 ∧ (symsOf l).Perm (a.syms ++ (b.syms ++ symsOf l2)) ∧ (∀ P : Nd → Prop, (∀ x ∈ l, P x) → P a ∧ P b ∧ ∀ x ∈ l2, P x) := by
  obtain ⟨p, a, q, e, hlen, h1, h2⟩ := leastN_split l (by intro e; rw [e] at h; simp at h)
  have ha : l.getD (leastN l) ⟨0, [], 0⟩ = a := by rw [← hlen, e, List.getD_eq_getElem?_getD, List.getElem?_append_right (Nat.le_refl _)]; simp
  have he : l.eraseIdx (leastN l) = p ++ q := by rw [← hlen]; conv => lhs; rw [e]
                                                 rw [List.eraseIdx_append_of_length_le (Nat.le_refl _)]; simp
  have hl : l.length = (p ++ q).length + 1 := by rw [e]; simp; omega
  obtain ⟨p', b, q', e', hlen', h1', h2'⟩ := leastN_split (p ++ q) (by intro e2; rw [e2] at hl; simp at hl; omega)
  have hb : (p ++ q).getD (leastN (p ++ q)) ⟨0, [], 0⟩ = b := by rw [← hlen', e', List.getD_eq_getElem?_getD, List.getElem?_append_right (Nat.le_refl _)]; simp
  have he' : (p ++ q).eraseIdx (leastN (p ++ q)) = p' ++ q' := by rw [← hlen']; conv => lhs; rw [e']
                                                                  rw [List.eraseIdx_append_of_length_le (Nat.le_refl _)]; simp
  refine ⟨a, b, p' ++ q', ha, by rw [he]; exact hb, by rw [he]; exact he', ?_, ?_, ?_, ?_⟩
  · rw [hl, e']; simp; omega
  · rw [e, isrt_least p a h1 q h2, e', isrt_least p' b h1' q' h2']
  · rw [e]
    simp only [symsOf_app, symsOf_cons]
    have h3 : (symsOf p ++ symsOf q).Perm (b.syms ++ (symsOf p' ++ symsOf q')) := by
      rw [← symsOf_app, e', symsOf_app, symsOf_cons, ← List.append_assoc, ← List.append_assoc]
      exact List.Perm.append_right _ List.perm_append_comm
    refine List.Perm.trans ?_ (List.Perm.append_left _ h3)
    rw [← List.append_assoc, ← List.append_assoc]
    exact List.Perm.append_right _ List.perm_append_comm
  · intro P hP
    have hpq : ∀ x ∈ p ++ q, P x := fun x hx => hP x (by rw [e]; rcases List.mem_append.1 hx with h | h <;> simp [h])
    refine ⟨hP a (by rw [e]; simp), hpq b (by rw [e']; simp), fun x hx => hpq x (by rw [e']; rcases List.mem_append.1 hx with h | h <;> simp [h])⟩
theorem runT_at : ∀ (n : Nat) (l : List Nd) (out : List Int), l.length ≤ n + 1 → (symsOf l).Nodup → (∀ s ∈ symsOf l, 0 ≤ s ∧ s < out.length) →
    (runT n l out).length = out.length ∧ (∀ x ∈ deps n (isrt l), ∀ s ∈ x.1.syms, (runT n l out).getD s.toNat 0 = out.getD s.toNat 0 + (x.2 : Int)) ∧ (∀ i : Int, 0 ≤ i → i < out.length → i ∉ symsOf l → (runT n l out).getD i.toNat 0 = out.getD i.toNat 0) := by
  intro n
  induction n with
  | zero =>
    intro l out hl _ _
    refine ⟨rfl, fun x hx s _ => ?_, fun i _ _ _ => rfl⟩
    have : x.2 = 0 := by simp only [deps, List.mem_map] at hx; obtain ⟨y, _, rfl⟩ := hx; rfl
    simp [runT, this]
  | succ n ih =>
    intro l out hl hn hb
    by_cases h : 1 < l.length
    · obtain ⟨a, b, l2, ea, eb, el, hl2, hsrt, hperm, -⟩ := least_step l h
      have er : runT (n + 1) l out = runT n (l2 ++ [a.join b]) (bump out (a.join b).syms) := by
        simp only [runT, if_pos h, ea, eb, el]
      have hperm2 : (symsOf (l2 ++ [a.join b])).Perm (symsOf l) := by
        refine List.Perm.trans ?_ hperm.symm
        rw [symsOf_app, ← List.append_assoc]
        have : symsOf [a.join b] = a.syms ++ b.syms := by simp [symsOf, Nd.join]
        rw [this]
        exact List.perm_append_comm
      have hn2 : (symsOf (l2 ++ [a.join b])).Nodup := hperm2.nodup_iff.2 hn
      have hnab : (a.join b).syms.Nodup := by
        have := hperm.nodup_iff.1 hn
        rw [← List.append_assoc] at this
        exact (List.nodup_append.1 this).1
      have hbab : ∀ s ∈ (a.join b).syms, 0 ≤ s ∧ s < out.length := fun s hs => hb s (hperm.mem_iff.2 (by rw [← List.append_assoc]; exact List.mem_append_left _ hs))
      have hbl := bump_length (a.join b).syms out
      obtain ⟨i1, i2, i3⟩ := ih (l2 ++ [a.join b]) (bump out (a.join b).syms) (by simp; omega) hn2 (fun s hs => by rw [hbl]; exact hb s (hperm2.mem_iff.1 hs))
      rw [er]
      rw [isrt_snoc] at i2
      obtain ⟨e1, d, e2, hE, hD, -, -, hfst⟩ := deps_step n a b (isrt l2) (srt_isrt l2) (by rw [isrt_length]; omega)
      rw [hE] at i2
      rw [hsrt, hD]
      have hbump := bump_at (a.join b).syms out hnab hbab
      -- who is not in both
      have hout : ∀ x ∈ e1 ++ e2, ∀ s ∈ x.1.syms, s ∉ (a.join b).syms ∧ s ∈ symsOf l := by
        intro x hx s hs
        have hx2 : x.1 ∈ isrt l2 := by
          rw [← hfst, List.mem_append]
          rcases List.mem_append.1 hx with h | h
          · exact .inl (List.mem_map_of_mem (f := Prod.fst) h)
          · exact .inr (List.mem_map_of_mem (f := Prod.fst) h)
        have hs2 : s ∈ symsOf l2 := List.mem_flatMap.2 ⟨x.1, (mem_isrt l2).1 hx2, hs⟩
        rw [symsOf_app] at hn2
        have hd := (List.nodup_append.1 hn2).2.2 s hs2
        refine ⟨fun hc => hd s (by simp [symsOf, hc]) rfl, hperm.mem_iff.2 (List.mem_append_right _ (List.mem_append_right _ hs2))⟩
      refine ⟨i1.trans hbl, fun x hx s hs => ?_, fun i h0 h1 hni => ?_⟩
      · have hab : ∀ s ∈ (a.join b).syms, (runT n (l2 ++ [a.join b]) (bump out (a.join b).syms)).getD s.toNat 0 = out.getD s.toNat 0 + ((d + 1 : Nat) : Int) := by
          intro s hs
          have h5 := i2 (a.join b, d) (by simp) s hs
          have h6 := hbab s hs
          rw [hbump s h6.1 h6.2, if_pos hs] at h5
          rw [h5]; simp only [Int.natCast_add]; omega
        rcases List.mem_cons.1 hx with rfl | hx
        · exact hab s (List.mem_append_left _ hs)
        rcases List.mem_cons.1 hx with rfl | hx
        · exact hab s (List.mem_append_right _ hs)
        obtain ⟨h5, h6⟩ := hout x hx s hs
        have h7 := hb s h6
        have h8 := i2 x (by rcases List.mem_append.1 hx with h | h <;> simp [h]) s hs
        rw [hbump s h7.1 h7.2, if_neg h5] at h8
        omega
      · have h5 : i ∉ (a.join b).syms := fun hc => hni (hperm.mem_iff.2 (by rw [← List.append_assoc]; exact List.mem_append_left _ hc))
        rw [i3 i h0 (by rw [hbl]; exact h1) (fun hc => hni (hperm2.mem_iff.1 hc)), hbump i h0 h1, if_neg h5]; omega
    · refine ⟨by simp [runT, if_neg h], fun x hx s _ => ?_, fun i _ _ _ => by simp [runT, if_neg h]⟩
      have h2 : x.2 = 0 := by
        have hl' := isrt_length l
        match hm : isrt l, hx with
        | [], hx => simp [deps] at hx
        | [y], hx => simp [deps] at hx; rw [hx]
        | _ :: _ :: _, _ => rw [hm] at hl'; simp at hl'; omega
      simp [runT, if_neg h, h2]
/-! The tree's lengths, as a program makes them of how often each comes. -/
def leavesN : List Int → Int → List Nd
  | [], _ => []
  | n :: r, i => (if 0 < n then [⟨n, [i], 0⟩] else []) ++ leavesN r (i + 1)
def treeM (often : List Int) : List Int :=
  if (leavesN often 0).length = 1 then (List.replicate often.length 0).set ((((leavesN often 0).headD ⟨0, [], 0⟩).syms.headD 0)).toNat 1
  else runT (leavesN often 0).length (leavesN often 0) (List.replicate often.length 0)
theorem mem_leavesN {x : Nd} : ∀ (r : List Int) (i : Int), x ∈ leavesN r i ↔ ∃ j : Nat, j < r.length ∧ x = ⟨r.getD j 0, [i + j], 0⟩ ∧ 0 < r.getD j 0 := by
  intro r
  induction r with
  | nil => intro i; simp [leavesN]
  | cons n r ih =>
    intro i
    simp only [leavesN, List.mem_append, ih]
    constructor
    · rintro (h | ⟨j, h1, h2, h3⟩)
      · split at h
        · rename_i hn
          rw [List.mem_singleton] at h
          exact ⟨0, by simp, by simpa using h, by simpa using hn⟩
        · simp at h
      · refine ⟨j + 1, by simp; omega, ?_, by simpa using h3⟩
        rw [h2]; simp; omega
    · rintro ⟨j, h1, h2, h3⟩
      cases j with
      | zero => left; rw [if_pos (by simpa using h3), h2]; simp
      | succ j => right; refine ⟨j, by simp at h1; omega, ?_, by simpa using h3⟩; rw [h2]; simp; omega
theorem leavesN_syms : ∀ (r : List Int) (i : Int), (∀ s ∈ symsOf (leavesN r i), i ≤ s ∧ s < i + r.length) ∧ (symsOf (leavesN r i)).Nodup := by
  intro r
  induction r with
  | nil => intro i; simp [leavesN, symsOf]
  | cons n r ih =>
    intro i
    obtain ⟨h1, h2⟩ := ih (i + 1)
    simp only [leavesN, symsOf_app, List.length_cons]
    by_cases hn : 0 < n
    · rw [if_pos hn]
      have e : symsOf [(⟨n, [i], 0⟩ : Nd)] = [i] := rfl
      rw [e]
      refine ⟨fun s hs => ?_, List.nodup_cons.2 ⟨fun hs => ?_, h2⟩⟩
      · rcases List.mem_cons.1 hs with rfl | hs
        · omega
        · have := h1 s hs; omega
      · have := h1 i hs; omega
    · rw [if_neg hn]
      exact ⟨fun s hs => by have := h1 s hs; omega, h2⟩
theorem leavesN_length (r : List Int) : ∀ i, (leavesN r i).length ≤ r.length := by
  induction r with
  | nil => intro i; simp [leavesN]
  | cons n r ih => intro i; have := ih (i + 1); simp only [leavesN, List.length_append, List.length_cons]; split <;> simp <;> omega
theorem isrt_perm (l : List Nd) : (isrt l).Perm l := by
  have hi : ∀ (m : Nd) (r : List Nd), (insL m r).Perm (m :: r) := by
    intro m r
    have e := List.takeWhile_append_dropWhile (p := leW m) (l := r)
    refine List.Perm.trans List.perm_middle ?_
    rw [e]
  refine snoc_ind (P := fun l => (isrt l).Perm l) (List.Perm.refl _) (fun l x h => ?_) l
  rw [isrt_snoc]
  exact (hi x (isrt l)).trans ((List.Perm.cons x h).trans (by simpa using (List.perm_append_comm (l₁ := [x]) (l₂ := l))))
/-- A sum over those that come. -/
def fsum (F : Int → Int → Int) : List Int → Int → Int
  | [], _ => 0
  | n :: r, i => (if 0 < n then F n i else 0) + fsum F r (i + 1)
theorem fsum_leaves (F : Int → Int → Int) : ∀ (r : List Int) (i : Int), ((leavesN r i).map fun x => F x.w (x.syms.headD 0)).sum = fsum F r i := by
  intro r
  induction r with
  | nil => intro i; rfl
  | cons n r ih =>
    intro i
    simp only [leavesN, fsum, List.map_append, List.sum_append, ih]
    split <;> simp
theorem perm_sum {a b : List Int} (h : a.Perm b) : a.sum = b.sum := by
  induction h with
  | nil => rfl
  | cons x _ ih => simp only [List.sum_cons, ih]
  | swap x y l => simp only [List.sum_cons]; omega
  | trans _ _ h1 h2 => exact h1.trans h2
theorem fsum_isrt (F : Int → Int → Int) (r : List Int) : ((isrt (leavesN r 0)).map fun x => F x.w (x.syms.headD 0)).sum = fsum F r 0 := by
  rw [← fsum_leaves]
  exact perm_sum ((isrt_perm (leavesN r 0)).map _)
theorem treeM_length (often : List Int) : (treeM often).length = often.length := by
  unfold treeM
  split
  · simp
  · have h := leavesN_syms often 0
    rw [(runT_at _ (leavesN often 0) (List.replicate often.length 0) (by omega) h.2 (fun s hs => by have := h.1 s hs; simp; omega)).1]
    simp
/-- What the lengths are: each one's depth. -/
theorem treeM_at (often : List Int) (h2 : 2 ≤ (leavesN often 0).length) :
    (∀ x ∈ deps (leavesN often 0).length (isrt (leavesN often 0)), (treeM often).getD (x.1.syms.headD 0).toNat 0 = (x.2 : Int)) ∧
    (∀ j : Nat, j < often.length → ¬ 0 < often.getD j 0 → (treeM often).getD j 0 = 0) ∧
    (∀ j : Nat, j < often.length → 0 < often.getD j 0 → ∃ x ∈ deps (leavesN often 0).length (isrt (leavesN often 0)), x.1 = ⟨often.getD j 0, [(j : Int)], 0⟩ ∧ (treeM often).getD j 0 = (x.2 : Int)) := by
  have h := leavesN_syms often 0
  obtain ⟨-, r2, r3⟩ := runT_at (leavesN often 0).length (leavesN often 0) (List.replicate often.length 0) (by omega) h.2 (fun s hs => by have := h.1 s hs; simp; omega)
  have e : treeM often = runT (leavesN often 0).length (leavesN often 0) (List.replicate often.length 0) := by unfold treeM; rw [if_neg (by omega)]
  have hz : ∀ j : Nat, (List.replicate often.length (0 : Int)).getD j 0 = 0 := by
    intro j; rw [List.getD_eq_getElem?_getD, List.getElem?_replicate]; split <;> rfl
  have hfst := deps_fst (leavesN often 0).length (isrt (leavesN often 0)) (by rw [isrt_length]; omega)
  have hleaf : ∀ x ∈ deps (leavesN often 0).length (isrt (leavesN often 0)), ∃ j : Nat, j < often.length ∧ x.1 = ⟨often.getD j 0, [(j : Int)], 0⟩ ∧ 0 < often.getD j 0 := by
    intro x hx
    have hm : x.1 ∈ isrt (leavesN often 0) := by rw [← hfst]; exact List.mem_map_of_mem (f := Prod.fst) hx
    obtain ⟨j, h1, h2, h3⟩ := (mem_leavesN often 0).1 ((mem_isrt _).1 hm)
    exact ⟨j, h1, by simpa using h2, h3⟩
  refine ⟨fun x hx => ?_, fun j hj hn => ?_, fun j hj hp => ?_⟩
  · obtain ⟨j, h1, h4, h3⟩ := hleaf x hx
    have := r2 x hx (j : Int) (by rw [h4]; simp)
    rw [e, h4]
    simp only [List.headD_cons] at this ⊢
    rw [this, hz]; omega
  · have := r3 (j : Int) (by omega) (by simp; omega) (fun hc => by
      obtain ⟨x, hx, hs⟩ := List.mem_flatMap.1 hc
      obtain ⟨j', h1, h4, h3⟩ := (mem_leavesN often 0).1 hx
      rw [h4] at hs
      simp at hs
      have : j = j' := by omega
      subst this; exact hn h3)
    rw [e]
    have e1 : ((j : Int)).toNat = j := Int.toNat_natCast j
    rw [e1, hz] at this; exact this
  · have hm : (⟨often.getD j 0, [(j : Int)], 0⟩ : Nd) ∈ leavesN often 0 := (mem_leavesN often 0).2 ⟨j, hj, by simp, hp⟩
    have hm2 := (mem_isrt _).2 hm
    rw [← hfst] at hm2
    obtain ⟨x, hx, hx1⟩ := List.mem_map.1 hm2
    refine ⟨x, hx, hx1, ?_⟩
    have := r2 x hx (j : Int) (by rw [hx1]; simp)
    rw [e]
    have e1 : ((j : Int)).toNat = j := Int.toNat_natCast j
    rw [e1, hz] at this; rw [this]; omega
theorem deps_pos {n : Nat} {a b : Nd} {r : List Nd} (h : (a :: b :: r).length ≤ n + 1) (hs : Srt (a :: b :: r)) : ∀ x ∈ deps n (a :: b :: r), 1 ≤ x.2 := by
  intro x hx
  refine Nat.pos_of_ne_zero fun e0 => ?_
  -- one that lies at the top takes all
  have hd := deps_depth n _ h hs
  have hk := deps_kraft (a :: b :: r).length n _ h (by simp) hs (fun y hy => by have := hd y hy; omega)
  obtain ⟨p, q, e⟩ := List.append_of_mem hx
  have hl := deps_len h
  rw [e] at hk hl
  simp only [List.map_append, List.map_cons, krf_app, krf_cons, e0, Nat.sub_zero] at hk
  have hpos : ∀ ds : List Nat, 0 < ds.length → 0 < krf (a :: b :: r).length ds := by
    intro ds hds
    cases ds with
    | nil => simp at hds
    | cons d ds => rw [krf_cons]; have := Nat.pow_pos (n := (a :: b :: r).length - d) (show 0 < 2 by omega); omega
  simp only [List.length_append, List.length_cons] at hl
  by_cases hp : 0 < p.length
  · have := hpos (p.map Prod.snd) (by simpa using hp); omega
  · have := hpos (q.map Prod.snd) (by simp; omega); omega
theorem isrt_two {l : List Nd} (h : 2 ≤ l.length) : ∃ a b r, isrt l = a :: b :: r := by
  have := isrt_length l
  match hm : isrt l with
  | [] => rw [hm] at this; simp at this; omega
  | [_] => rw [hm] at this; simp at this; omega
  | a :: b :: r => exact ⟨a, b, r, rfl⟩
/-- How deep each lies. -/
theorem treeM_range (often : List Int) (h2 : 2 ≤ (leavesN often 0).length) (j : Nat) (hj : j < often.length) (hp : 0 < often.getD j 0) : 1 ≤ (treeM often).getD j 0 ∧ (treeM often).getD j 0 + 1 ≤ (leavesN often 0).length := by
  obtain ⟨x, hx, hx1, hv⟩ := (treeM_at often h2).2.2 j hj hp
  obtain ⟨a, b, r, e⟩ := isrt_two h2
  have hl := isrt_length (leavesN often 0)
  have hs := srt_isrt (leavesN often 0)
  have h3 := deps_depth _ _ (by rw [isrt_length]; omega) hs x hx
  rw [isrt_length] at h3
  rw [e] at hx hs hl
  have h4 := deps_pos (by omega) hs x hx
  omega
/-- What comes more often is not longer. -/
theorem treeM_mono (often : List Int) (h2 : 2 ≤ (leavesN often 0).length) (i j : Nat) (hi : i < often.length) (hj : j < often.length) (hp : 0 < often.getD i 0) (hlt : often.getD i 0 < often.getD j 0) : (treeM often).getD j 0 ≤ (treeM often).getD i 0 := by
  obtain ⟨x, hx, hx1, hv⟩ := (treeM_at often h2).2.2 i hi hp
  obtain ⟨y, hy, hy1, hu⟩ := (treeM_at often h2).2.2 j hj (by omega)
  have hs := srt_isrt (leavesN often 0)
  have hpos : Pos (isrt (leavesN often 0)) := fun z hz => by
    obtain ⟨k, -, h4, h3⟩ := (mem_leavesN often 0).1 ((mem_isrt _).1 hz)
    rw [h4]; show 1 ≤ often.getD k 0; omega
  have hle : (isrt (leavesN often 0)).length ≤ (leavesN often 0).length + 1 := by rw [isrt_length]; omega
  have hdn := (deps_down _ _ hle hs hpos).1
  have hfst := deps_fst _ _ hle
  have hxw : x.1.w < y.1.w := by rw [hx1, hy1]; exact hlt
  generalize deps (leavesN often 0).length (isrt (leavesN often 0)) = e at hx hy hdn hfst
  have hs2 : (e.map Prod.fst).Pairwise fun a b => a.w ≤ b.w := by rw [hfst]; exact hs
  rw [List.pairwise_map] at hs2
  have key : ∀ e : List (Nd × Nat), x ∈ e → y ∈ e → Dn e → (e.Pairwise fun a b => a.1.w ≤ b.1.w) → y.2 ≤ x.2 := by
    intro e
    induction e with
    | nil => intro h; simp at h
    | cons z e ih =>
      intro h1 h3 h4 h5
      have h6 := List.pairwise_cons.1 h4
      have h7 := List.pairwise_cons.1 h5
      rcases List.mem_cons.1 h1 with rfl | g1
      · rcases List.mem_cons.1 h3 with rfl | g3
        · exact Nat.le_refl _
        · exact h6.1 y g3
      · rcases List.mem_cons.1 h3 with rfl | g3
        · have := h7.1 x g1; omega
        · exact ih g1 g3 h6.2 h7.2
  have := key e hx hy hdn hs2
  rw [hv, hu]; omega
theorem krf_sum (M : Nat) (ds : List Nat) : ((krf M ds : Nat) : Int) = (ds.map fun d => ((2 ^ (M - d) : Nat) : Int)).sum := by
  induction ds with
  | nil => rfl
  | cons d ds ih => rw [krf_cons, List.map_cons, List.sum_cons, ← ih]; omega
/-- It leaves nothing over. -/
theorem treeM_kraft (often : List Int) (h2 : 2 ≤ (leavesN often 0).length) (M : Nat) (hM : ∀ j, j < often.length → (treeM often).getD j 0 ≤ (M : Int)) :
    fsum (fun _ i => ((2 ^ (M - ((treeM often).getD i.toNat 0).toNat) : Nat) : Int)) often 0 = ((2 ^ M : Nat) : Int) := by
  obtain ⟨t1, t2, t3⟩ := treeM_at often h2
  have hle : (isrt (leavesN often 0)).length ≤ (leavesN often 0).length + 1 := by rw [isrt_length]; omega
  have hfst := deps_fst _ _ hle
  rw [← fsum_isrt, ← hfst, List.map_map]
  have hk := deps_kraft M _ _ hle (by intro e0; have := isrt_length (leavesN often 0); rw [e0] at this; simp at this; omega) (srt_isrt _) (fun x hx => by
    have h3 := t1 x hx
    have hm : x.1 ∈ isrt (leavesN often 0) := by rw [← hfst]; exact List.mem_map_of_mem (f := Prod.fst) hx
    obtain ⟨j, h1, h4, h5⟩ := (mem_leavesN often 0).1 ((mem_isrt _).1 hm)
    rw [h4] at h3
    have := hM j h1
    simp only [List.headD_cons, Int.zero_add, Int.toNat_natCast] at h3
    omega)
  rw [← hk, krf_sum, List.map_map]
  congr 1
  refine List.map_congr_left fun x hx => ?_
  have := t1 x hx
  simp only [Function.comp]
  rw [this]; simp
/-- Nothing takes less. -/
theorem treeM_best (often : List Int) (h2 : 2 ≤ (leavesN often 0).length) (X : List Int) (M : Nat) (hX : ∀ j, j < often.length → 0 ≤ X.getD j 0 ∧ X.getD j 0 ≤ (M : Int)) (hk : fsum (fun _ i => ((2 ^ (M - (X.getD i.toNat 0).toNat) : Nat) : Int)) often 0 ≤ ((2 ^ M : Nat) : Int)) :
    fsum (fun w i => w * (treeM often).getD i.toNat 0) often 0 ≤ fsum (fun w i => w * X.getD i.toNat 0) often 0 := by
  obtain ⟨t1, t2, t3⟩ := treeM_at often h2
  have hle : (isrt (leavesN often 0)).length ≤ (leavesN often 0).length + 1 := by rw [isrt_length]; omega
  have hfst := deps_fst _ _ hle
  have hpos : Pos (isrt (leavesN often 0)) := fun z hz => by
    obtain ⟨k, -, h4, h3⟩ := (mem_leavesN often 0).1 ((mem_isrt _).1 hz)
    rw [h4]; show 1 ≤ often.getD k 0; omega
  have hXm : ∀ x ∈ isrt (leavesN often 0), 0 ≤ X.getD (x.syms.headD 0).toNat 0 ∧ X.getD (x.syms.headD 0).toNat 0 ≤ (M : Int) := by
    intro x hx
    obtain ⟨j, h1, h4, h5⟩ := (mem_leavesN often 0).1 ((mem_isrt _).1 hx)
    rw [h4]; have := hX j h1; simpa using this
  have hb := deps_best M _ _ hle (srt_isrt _) hpos ((isrt (leavesN often 0)).map fun x => (X.getD (x.syms.headD 0).toNat 0).toNat) (by simp) (by
      intro z hz
      obtain ⟨x, hx, rfl⟩ := List.mem_map.1 hz
      have := hXm x hx; omega) (by
      rw [← fsum_isrt] at hk
      have : ((krf M ((isrt (leavesN often 0)).map fun x => (X.getD (x.syms.headD 0).toNat 0).toNat) : Nat) : Int) ≤ ((2 ^ M : Nat) : Int) := by
        rw [krf_sum, List.map_map]; exact hk
      omega)
  rw [← fsum_isrt, ← fsum_isrt]
  have e1 : costD (deps (leavesN often 0).length (isrt (leavesN often 0))) = ((isrt (leavesN often 0)).map fun x => x.w * (treeM often).getD (x.syms.headD 0).toNat 0).sum := by
    conv => rhs; rw [← hfst]
    rw [List.map_map]
    unfold costD
    congr 1
    refine List.map_congr_left fun x hx => ?_
    have := t1 x hx
    simp only [Function.comp]
    rw [this]
  have e2 : ∀ l : List Nd, (∀ x ∈ l, 0 ≤ X.getD (x.syms.headD 0).toNat 0) → dotw l (l.map fun x => (X.getD (x.syms.headD 0).toNat 0).toNat) = (l.map fun x => x.w * X.getD (x.syms.headD 0).toNat 0).sum := by
    intro l
    induction l with
    | nil => intro _; rfl
    | cons x l ih =>
      intro h
      have h0 := h x (by simp)
      simp only [List.map_cons, dotw, List.sum_cons]
      rw [ih (fun y hy => h y (by simp [hy])), Int.toNat_of_nonneg h0]
  rw [e1, e2 _ (fun x hx => (hXm x hx).1)] at hb
  exact hb
/-- All once: a level code. -/
theorem treeM_level (often : List Int) (h2 : 2 ≤ (leavesN often 0).length) (h1 : ∀ j, j < often.length → often.getD j 0 ≤ 1) (P : Nat) (hP : (leavesN often 0).length ≤ 2 ^ P) (j : Nat) (hj : j < often.length) : (treeM often).getD j 0 ≤ (P : Int) := by
  obtain ⟨t1, t2, t3⟩ := treeM_at often h2
  by_cases hp : 0 < often.getD j 0
  · obtain ⟨x, hx, hx1, hv⟩ := t3 j hj hp
    have hle : (isrt (leavesN often 0)).length ≤ (leavesN often 0).length + 1 := by rw [isrt_length]; omega
    have hfst := deps_fst _ _ hle
    have hs := srt_isrt (leavesN often 0)
    have hw : ∀ z ∈ isrt (leavesN often 0), z.w = 1 := fun z hz => by
      obtain ⟨k, h3, h4, h5⟩ := (mem_leavesN often 0).1 ((mem_isrt _).1 hz)
      rw [h4]; have := h1 k h3; show often.getD k 0 = 1; omega
    have hpos : Pos (isrt (leavesN often 0)) := fun z hz => by rw [hw z hz]; omega
    obtain ⟨a, b, r, e⟩ := isrt_two h2
    have hq := (deps_down _ _ hle hs hpos).2 a b r e
    have hne : isrt (leavesN often 0) ≠ [] := by rw [e]; simp
    have hd := deps_depth _ _ hle hs
    have hk := fun m => deps_kraft m _ _ hle hne hs
    have hlen := deps_len hle
    rw [isrt_length] at hlen
    have hze : ∀ z ∈ deps (leavesN often 0).length (isrt (leavesN often 0)), z.1.w ≤ a.w + b.w := by
      intro z hz
      have hm : z.1 ∈ isrt (leavesN often 0) := by rw [← hfst]; exact List.mem_map_of_mem (f := Prod.fst) hz
      rw [hw _ hm, hw a (by rw [e]; simp), hw b (by rw [e]; simp)]; omega
    generalize deps (leavesN often 0).length (isrt (leavesN often 0)) = E at hx hq hd hk hlen hze
    have hmax : ∀ F : List (Nd × Nat), F ≠ [] → ∃ y ∈ F, ∀ z ∈ F, z.2 ≤ y.2 := by
      intro F
      induction F with
      | nil => intro h; exact absurd rfl h
      | cons z F ih =>
        intro _
        cases F with
        | nil => exact ⟨z, by simp, by simp⟩
        | cons z' F =>
          obtain ⟨y, hy, hy2⟩ := ih (by simp)
          by_cases c : y.2 ≤ z.2
          · refine ⟨z, by simp, fun u hu => ?_⟩
            rcases List.mem_cons.1 hu with rfl | hu
            · exact Nat.le_refl _
            · have := hy2 u hu; omega
          · refine ⟨y, List.mem_cons_of_mem _ hy, fun u hu => ?_⟩
            rcases List.mem_cons.1 hu with rfl | hu
            · omega
            · exact hy2 u hu
    obtain ⟨y, hy, hy2⟩ := hmax E (by intro e0; rw [e0] at hx; simp at hx)
    have := level_depth (e := E) (m := y.2) (P := P) ⟨y, hy, rfl⟩ hy2 (fun z hz => hq z hz (hze z hz) y hy) (hk y.2 hy2) (by omega)
    have h9 := hy2 x hx
    rw [hv]; omega
  · rw [t2 j hj hp]; omega
end Go.Proofs.Ytgajagocenffeaa.Th
