/- What the functions that the law comes to compute, as plain functions, and that the machine's calls come to just that: written by a program for this claim, and turned where Lean did not take it. No condition. -/
import Derived.StillTailTactics
import Derived.Test.YtgajagocenffeaaThNode
import Derived.Test.YtgajagocenffeaaHFnCodeGetx0
import Derived.Test.YtgajagocenffeaaHFnCodeGetx4
namespace Go.Proofs.Ytgajagocenffeaa.PFnCodeGet
open Go.RowKit Go.Proofs.YtgajagocenffeaaW.PrintWords Go.Proofs.YtgajagocenffeaaW.PrintLast Go.Proofs.YtgajagocenffeaaW.PrintMore
attribute [local go_sem] max2_int min2_int max_two min_two max_three min_three max_four min_four   -- for this text's walks alone
set_option linter.unusedVariables false
set_option linter.unusedSimpArgs false

/-! ### spec_l3Tree: function 61 -/
section
open Go.Proofs.Ytgajagocenffeaa.Th
def l3S (x : GN) : S85 := ⟨x.n.w, x.n.syms⟩
theorem l3_C {W : World} {base go g c : Nat} {l : List GN} (hn : NL W base go 3 85 (.slice (some ⟨g, 0, none⟩) l.length c) l) (hl : l.length ≤ 9223372036854775807) : Kd.C k85 W (some ⟨g, 0, none⟩) (l.map l3S).length (l.map l3S) := by
  refine ⟨rfl, by simpa using hl, fun _ => ⟨_, rfl, fun j p hj => ?_⟩⟩
  rw [List.getElem?_map] at hj
  obtain ⟨x, hx, rfl⟩ := Option.map_eq_some_iff.1 hj
  have hok := hn.ok x (List.mem_of_getElem? hx)
  refine ⟨x.cells, rfl, k85_mk W (l3S x) hok.2.2.1 hok.reads, fun i u hu => ?_⟩
  obtain ⟨h1, h2⟩ := hn.cells hx
  rw [add_plain]
  match i, hu with
  | 0, hu => simp only [GN.cells, List.getElem?_cons_zero, Option.some.injEq] at hu; subst hu; exact h1
  | 1, hu => simp only [GN.cells, List.getElem?_cons_succ, List.getElem?_cons_zero, Option.some.injEq] at hu; subst hu; exact h2
  | i + 2, hu => simp [GN.cells] at hu
/-- The first of the least among the first k, but one; -1 if there is none. -/
def LB (l : List S85) (k but b : Int) : Prop := (b = -1 ∧ ∀ j : Int, 0 ≤ j → j < k → j = but) ∨ (0 ≤ b ∧ b < k ∧ b ≠ but ∧ (∀ j : Int, 0 ≤ j → j < b → j ≠ but → (rd_T85 l b).f0 < (rd_T85 l j).f0) ∧ ∀ j : Int, 0 ≤ j → j < k → j ≠ but → (rd_T85 l b).f0 ≤ (rd_T85 l j).f0)
theorem l3Least_loop (l : List S85) (hl : l.length ≤ 1000000) (but : Int) : ∀ (d : Nat) (k : Nat) (b i : Int), 0 ≤ i → i ≤ l.length → (l.length : Int) - i = d → d < k → LB l i but b → ∃ r, spec_l3Least.l0 k l but b i = some r ∧ LB l l.length but r := by
  intro d
  induction d with
  | zero =>
    intro k b i h0 h1 hd hk hb
    obtain ⟨k, rfl⟩ : ∃ m, k = m + 1 := ⟨k - 1, by omega⟩
    exact ⟨b, by rw [spec_l3Least.l0, if_neg (by omega)], by rw [show (l.length : Int) = i by omega]; exact hb⟩
  | succ d ih =>
    intro k b i h0 h1 hd hk hb
    obtain ⟨k, rfl⟩ : ∃ m, k = m + 1 := ⟨k - 1, by omega⟩
    have hw : wrap64 (i + 1) = i + 1 := by unfold wrap64; omega
    rw [spec_l3Least.l0, if_pos (by omega), hw]
    by_cases c : i = but
    · rw [if_pos c]
      refine ih k b (i + 1) (by omega) (by omega) (by omega) (by omega) ?_
      rcases hb with ⟨rfl, h⟩ | ⟨h2, h3, h4, h5, h6⟩
      · exact .inl ⟨rfl, fun j hj0 hj => by rcases (show j < i ∨ j = i by omega) with h7 | h7; exact h j hj0 h7; omega⟩
      · exact .inr ⟨h2, by omega, h4, h5, fun j hj0 hj hne => h6 j hj0 (by omega) hne⟩
    · rw [if_neg c]
      rcases hb with ⟨rfl, h⟩ | ⟨h2, h3, h4, h5, h6⟩
      · rw [if_pos (by omega)]
        exact ih k i (i + 1) (by omega) (by omega) (by omega) (by omega) (.inr ⟨h0, by omega, c, fun j hj0 hj hne => absurd (h j hj0 hj) hne, fun j hj0 hj hne => by
          rcases (show j < i ∨ j = i by omega) with h7 | h7
          · exact absurd (h j hj0 h7) hne
          · rw [h7]; exact Int.le_refl _⟩)
      · rw [if_neg (by omega), if_pos h0, if_pos h2, if_pos (by omega)]
        by_cases hlt : (rd_T85 l i).f0 < (rd_T85 l b).f0
        · rw [if_pos hlt]
          exact ih k i (i + 1) (by omega) (by omega) (by omega) (by omega) (.inr ⟨h0, by omega, c, fun j hj0 hj hne => Int.lt_of_lt_of_le hlt (h6 j hj0 hj hne), fun j hj0 hj hne => by
            rcases (show j < i ∨ j = i by omega) with h7 | h7
            · exact Int.le_trans (Int.le_of_lt hlt) (h6 j hj0 h7 hne)
            · rw [h7]; exact Int.le_refl _⟩)
        · rw [if_neg hlt]
          exact ih k b (i + 1) (by omega) (by omega) (by omega) (by omega) (.inr ⟨h2, by omega, h4, h5, fun j hj0 hj hne => by
            rcases (show j < i ∨ j = i by omega) with h7 | h7
            · exact h6 j hj0 h7 hne
            · rw [h7]; omega⟩)
theorem l3Least_at (l : List S85) (hl : l.length ≤ 1000000) (but : Int) : ∃ r, spec_l3Least.f (l.length + 1) l but = some r ∧ LB l l.length but r :=
  l3Least_loop l hl but l.length (l.length + 1) (-1) 0 (by omega) (by omega) (by omega) (by omega) (.inl ⟨rfl, fun j h1 h2 => by omega⟩)
theorem l3_get (l : List GN) (j : Nat) : (rd_T85 (l.map l3S) (j : Int)).f0 = ((l.map GN.n).getD j ⟨0, [], 0⟩).w := by
  unfold rd_T85
  rw [Int.toNat_natCast, List.getD_eq_getElem?_getD, List.getD_eq_getElem?_getD, List.getElem?_map, List.getElem?_map]
  cases l[j]? <;> rfl
/-- The first call's answer, and the second's. -/
theorem l3Least_first (l : List GN) (hl : l.length ≤ 1000000) (hp : 0 < l.length) : spec_l3Least.f (l.length + 1) (l.map l3S) (-1) = some ((leastN (l.map GN.n) : Nat) : Int) := by
  obtain ⟨r, h1, h2⟩ := l3Least_at (l.map l3S) (by simpa using hl) (-1)
  rw [List.length_map] at h1
  rw [h1]
  rcases h2 with ⟨rfl, h⟩ | ⟨h3, h4, h5, h6, h7⟩
  · have := h 0 (by omega) (by simpa using hp); omega
  · obtain ⟨i, rfl⟩ := Int.eq_ofNat_of_zero_le h3
    rw [List.length_map] at h4 h7
    congr 2
    symm
    refine leastN_is (by simpa using (show i < l.length by omega)) (fun j hj => ?_) (fun j hj => ?_)
    · have := h6 (j : Int) (by omega) (by omega) (by omega)
      rwa [l3_get, l3_get] at this
    · have := h7 (j : Int) (by omega) (by simp at hj; omega) (by omega)
      rwa [l3_get, l3_get] at this
theorem l3Least_second (l : List GN) (hl : l.length ≤ 1000000) (hp : 1 < l.length) : ∃ b : Nat, spec_l3Least.f (l.length + 1) (l.map l3S) ((leastN (l.map GN.n) : Nat) : Int) = some (b : Int) ∧ b < l.length ∧ b ≠ leastN (l.map GN.n) ∧
    ((l.map GN.n).eraseIdx (leastN (l.map GN.n))).getD (leastN ((l.map GN.n).eraseIdx (leastN (l.map GN.n)))) ⟨0, [], 0⟩ = (l.map GN.n).getD b ⟨0, [], 0⟩ ∧ skip2 (leastN (l.map GN.n)) b (l.map GN.n) 0 = ((l.map GN.n).eraseIdx (leastN (l.map GN.n))).eraseIdx (leastN ((l.map GN.n).eraseIdx (leastN (l.map GN.n)))) := by
  obtain ⟨r, h1, h2⟩ := l3Least_at (l.map l3S) (by simpa using hl) ((leastN (l.map GN.n) : Nat) : Int)
  rw [List.length_map] at h1
  have hne : l.map GN.n ≠ [] := by intro h; have := congrArg List.length h; simp at this; rw [this] at hp; simp at hp
  have hal := leastN_lt hne
  rw [List.length_map] at hal
  rcases h2 with ⟨rfl, h⟩ | ⟨h3, h4, h5, h6, h7⟩
  · have a1 := h 0 (by omega) (by simp; omega)
    have a2 := h 1 (by omega) (by simp; omega)
    omega
  · obtain ⟨i, rfl⟩ := Int.eq_ofNat_of_zero_le h3
    rw [List.length_map] at h4 h7
    have hs := second_is (l := l.map GN.n) (a := leastN (l.map GN.n)) (b := i) rfl (by simpa using (show i < l.length by omega)) (by intro e; exact h5 (by rw [e])) (by simpa using hal)
      (fun j hj hn => by have := h6 (j : Int) (by omega) (by omega) (by omega); rwa [l3_get, l3_get] at this)
      (fun j hj hn => by have := h7 (j : Int) (by omega) (by simp at hj; omega) (by omega); rwa [l3_get, l3_get] at this)
    exact ⟨i, h1, by omega, by intro e; exact h5 (by rw [e]), hs.1, hs.2⟩
theorem l3_info : (Try.prog.info? 85).map (fun i => (i.zero, i.size, i.bytes)) = some (some (.agg #[.int .i64 0, .slice none 0 0]), 2, 32) := by kernel_rfl
def spec_l3Tree.f (l0 : List Int) : Option (List Int) := if l0.length ≤ 300 ∧ ∀ x ∈ l0, x ≤ 4294967296 then some (treeM l0) else none
set_option maxHeartbeats 8000000 in
set_option maxRecDepth 100000 in
theorem spec_l3Tree.calls (A0 : Option Addr) (c0 : Nat) (l0 : List Int) (r : List Int) (w : World) (hr0 : Kd.C (Kd.int .i64) w A0 l0.length l0) (hc0 : l0.length ≤ c0) (h : spec_l3Tree.f l0 = some r) :
    Calls Try.prog 61 #[.slice A0 l0.length c0] w fun e w' => ∃ v0_ : Value, e = .returned (v0_) ∧ Kd.R (Kd.int .i64) 3 w' w.heap.size (fun _ => True) v0_ r ∧ Below w.heap.size w w' := by
  have HC0 := Aside0.mk hc0
  clear hc0
  obtain ⟨hlen, hval⟩ : l0.length ≤ 300 ∧ ∀ x ∈ l0, x ≤ 4294967296 := by
    unfold spec_l3Tree.f at h
    split at h
    · assumption
    · cases h
  have HT : Aside0 (treeM l0 = r) := ⟨by unfold spec_l3Tree.f at h; rw [if_pos ⟨hlen, hval⟩] at h; exact Option.some.inj h⟩
  have HVAL := Aside0.mk hval
  clear h hval
  have HLEN := Aside0.mk hlen
  have hl0 : (0 : Int) ≤ (l0.length : Int) := by omega
  have hl1 : (l0.length : Int) ≤ 300 := by omega
  have hmk := print_make (P := Try.prog) 22 3 .i64 8 Try.underlying22 info3 (by decide) l0.length (by omega)
  have HR0 := Aside0.mk hr0
  clear hr0 hlen
  go_enter Try.func61, Try.ntmps61
  go_wp2
  have HM0 := Aside0.mk (own_made (w) w.heap.size 3 .i64 l0.length (Nat.le_refl _) (by omega))
  go_loopw [4, 5] (fun v4 v5 wr => ∃ (l : List GN) (k : Nat) (A : Option Addr) (c : Nat), v4 = .slice A l.length c ∧ v5 = .int .i64 k ∧ k ≤ l0.length ∧ Aside0 (NL wr w.heap.size w.heap.size 3 85 (.slice A l.length c) l) ∧ Aside0 (l.map GN.n = leavesN (l0.take k) 0) ∧ Aside0 (wr.heap[w.heap.size]? = some (.cells (madeCells #[.int .i64 0] l0.length) 3 (0, 0))) ∧ Aside0 (Below w.heap.size w wr)) (fun _ v5 _ => l0.length - (intOf v5).toNat)
  case atStart =>
    refine ⟨[], 0, _, _, rfl, rfl, by omega, ⟨⟨?_, ?_, ?_⟩⟩, ⟨rfl⟩, ⟨?_⟩, ⟨?_⟩⟩
    · have := World.ownsRow_lit (base := w.heap.size) (e := 85) (size := 2) (w.alloc (Obj.cells (madeCells #[Value.int IntKind.i64 0] l0.length) 3)) #[] 0 (by simp) (by simp [maxLen]) rfl
      simp at this
      exact this
    · intro k hk
      simp [Value.ownBlock] at hk
      omega
    · intro x hx; simp at hx
    · exact blk_alloc (blk_new w _) _
    · exact ((Below.refl _ _).alloc (Nat.le_refl _) _).alloc (by simp) _
  case round =>
    obtain ⟨l, k, A, c, rfl, rfl, hk, HN, HL, HG, HB⟩ := hrel
    have HLE := Aside0.mk (show l.length ≤ 300 from by
      have h1 := congrArg List.length HL.out
      have h2 := leavesN_length (l0.take k) 0
      have h3 := HLEN.out
      rw [List.length_map] at h1
      rw [List.length_take] at h2
      omega)
    by_cases hlt : k < l0.length
    · have c1 : decide ((k : Int) < (l0.length : Int)) = true := decide_eq_true (by omega)
      have p1 : 0 ≤ (k : Int) := by omega
      have q1 : (k : Int) < (l0.length : Int) := by omega
      obtain ⟨ad, e1, hx⟩ := Kd.at_int HR0.out (k : Int) p1 q1
      cases e1
      rw [Int.toNat_natCast] at hx
      replace hx := (HB.out.cell (World.block_lt_of_cell? w _ hx)).trans hx
      have hst : l0.take (k + 1) = l0.take k ++ [rd l0 k] := by
        rw [List.take_succ_eq_append_getElem hlt]; simp [rd, List.getD_eq_getElem?_getD, List.getElem?_eq_getElem hlt]
      have HST := Aside0.mk hst
      clear hst
      have HMEM := Aside0.mk (HVAL.out (rd l0 k) (by simp [rd, List.getD_eq_getElem?_getD, List.getElem?_eq_getElem hlt]))
      by_cases hpos : 0 < rd l0 k
      · have c2 : decide (rd l0 k > 0) = true := decide_eq_true hpos
        have HPOS := Aside0.mk hpos
        clear hpos
        go_wp2_with (at_builtin; go_loud (refine print_append_cells (w0 := w) w.heap.size rfl (.tmp 27) (.tmp 35) 83 85 (.agg #[.int .i64 0, .slice none 0 0]) 2 32 rfl Try.underlying83 l3_info rfl (by decide) (by decide) (.slice A l.length c) l.length (flat l) [.int .i64 (rd l0 k), .slice (some ⟨wr.heap.size, 0, none⟩) 1 1] (by rfl) (by simp [Act.eval]) rfl (by simp [Value.oneCell']) (HN.out.alloc _).row ?_ ?_ ?_ ?_))
        · exact HB.out.alloc HB.out.size _
        · have := HB.out.size; simp; omega
        · have := HLE.out; omega
        intro v1 w1 hown hB hg hat
        obtain ⟨A1, c1, hv1⟩ := own_slice hown
        have hgo : w.heap.size < wr.heap.size := blk_lt HG.out
        have hx1 := ok_new wr w.heap.size w.heap.size 3 ⟨rd l0 k, [(k : Int)], 0⟩ #[.int .i64 k] (Nat.le_of_lt hgo) hgo (by simp) (fun j s hs => by cases j with | zero => simpa using hs | succ j => simp at hs)
        have HN1 := Aside0.mk ((HN.out.alloc (Obj.cells #[.int .i64 k] 3)).append (by decide) hx1 hown hg (by simpa using hat) (by simp; omega))
        have HG1 := Aside0.mk (blk_grown (blk_alloc HG.out (Obj.cells #[.int .i64 k] 3)) hg (fun e => (HN.out.ne _ e.symm) rfl))
        have HB1 := Aside0.mk hB
        clear hown hB hg hat hx1 hgo
        subst hv1
        go_wp2
        go_roundw
        case rel =>
          exact ⟨l ++ [⟨⟨rd l0 k, [(k : Int)], 0⟩, wr.heap.size, 1⟩], k + 1, A1, c1, by rw [List.length_append]; rfl, by go_num, by omega, ⟨by rw [List.length_append]; exact HN1.out⟩, ⟨by rw [List.map_append, HL.out, HST.out, leavesN_append]; simp [leavesN, if_pos HPOS.out]; omega⟩, HG1, HB1⟩
        case measure => simp [intOf]; omega
      · have c2 : decide (rd l0 k > 0) = false := decide_eq_false (by omega)
        have HPOS := Aside0.mk hpos
        clear hpos
        go_wp2
        go_roundw
        case rel => exact ⟨l, k + 1, A, c, rfl, by go_num, by omega, HN, ⟨by rw [HL.out, HST.out, leavesN_append]; simp [leavesN, if_neg HPOS.out]⟩, HG, HB⟩
        case measure => simp [intOf]; omega
    · obtain rfl : k = l0.length := by omega
      have HL2 := Aside0.mk (show l.map GN.n = leavesN l0 0 from by rw [HL.out, List.take_length])
      clear HL hlt
      have hgo : w.heap.size < wr.heap.size := blk_lt HG.out
      have ho1 : wr.ownsRow w.heap.size 3 1 (.slice (some ⟨w.heap.size, 0, none⟩) l0.length l0.length) l0.length (nums .i64 (List.replicate l0.length 0)) := own_move HM0.out (fun k hk => by
        have : w.heap.size = k := by simpa [Value.ownBlock] using hk
        subst this
        rw [HG.out, blk_new])
      have ho2 : ∀ k, (Value.slice (some ⟨w.heap.size, 0, none⟩) l0.length l0.length).ownBlock = some k → k = w.heap.size := fun k hk => by
        have : w.heap.size = k := by simpa [Value.ownBlock] using hk
        exact this.symm
      have HO := Aside0.mk (Kd.R_of_own (enc := Value.int .i64) (h1 := fun _ => rfl) (ok := fun k => k = w.heap.size) (xs := List.replicate l0.length 0) (by rw [List.length_replicate]; exact ho1) ho2)
      clear ho2
      clear ho1
      go_upto_if 39 with (fail)
      go_cut [] (fun wx => ∃ (o : List Int) (m : Nat), Aside0 (NL wx w.heap.size w.heap.size 3 85 (.slice A l.length c) l) ∧ Aside0 (Kd.R (Kd.int .i64) 3 wx w.heap.size (fun k => k = w.heap.size) (.slice (some ⟨w.heap.size, 0, none⟩) l0.length l0.length) o) ∧ Aside0 (Go.Proofs.Ytgajagocenffeaa.Th.runT m (l.map GN.n) o = r ∧ l.length ≤ m + 1 ∧ o.length = l0.length ∧ m ≤ 300 ∧ ∀ x ∈ o, 0 ≤ x ∧ x ≤ 1) ∧ Aside0 (Below w.heap.size w wx))
      case first =>
        by_cases h1 : l.length = 1
        · have c2 : ((l.length : Int) == 1) = true := by simp [h1]
          obtain ⟨x, rfl⟩ := List.length_eq_one_iff.1 h1
          clear h1
          obtain ⟨gl, cap, hv, hbl, _⟩ := HN.out.form (by simp)
          injection hv with hA _ hc
          subst hA hc
          have hxn : x.n ∈ leavesN l0 0 := by rw [← HL2.out]; simp
          obtain ⟨j, hj, hxj, _⟩ := (mem_leavesN l0 0).1 hxn
          have hs : x.n.syms = [(j : Int)] := by rw [hxj]; simp
          have hcl := (HN.out.cells (i := 0) rfl).2
          rw [hs] at hcl
          have hok := HN.out.ok x (by simp)
          have hcs := hok.cell (j := 0) (by rw [hs]; simp)
          rw [hs] at hcs
          obtain ⟨hco, hfo⟩ := Kd.R_celln 0 HO.out (j : Int) (by omega) (by omega)
          have hpu := Kd.R_putn HO.out (j : Int) 1
          rw [Int.toNat_natCast] at hco hfo hpu
          have HPU := Aside0.mk hpu
          have p1 : (0 : Int) ≤ (j : Int) := by omega
          have q1 : (j : Int) < (l0.length : Int) := by omega
          have HS := Aside0.mk hs
          have HBL := Aside0.mk hbl
          clear hok hpu hxn hxj hs hj hbl
          simp only [List.length_singleton, List.getD_cons_zero] at hcl hcs
          go_wp2
          go_meet
          have hrep : ∀ x ∈ (List.replicate l0.length (0 : Int)).set j 1, 0 ≤ x ∧ x ≤ 1 := fun y hy => by
            rcases List.mem_or_eq_of_mem_set hy with hy | rfl
            · rw [List.mem_replicate] at hy; omega
            · omega
          have htr : (List.replicate l0.length (0 : Int)).set j 1 = r := by
            rw [← HT.out, treeM, ← HL2.out, if_pos (by simp)]
            simp [HS.out]
          exact ⟨_, 0, ⟨HN.out.set _ _⟩, ⟨HPU.out⟩, ⟨htr, by simp, by simp, by omega, hrep⟩, ⟨HB.out.setCell (Nat.le_refl _) _⟩⟩
        · have c2 : ((l.length : Int) == 1) = false := by simp; omega
          have H1 := Aside0.mk h1
          clear h1
          go_wp2
          go_meet
          refine ⟨_, (leavesN l0 0).length, HN, HO, ⟨?_, ?_, by simp, by have := leavesN_length l0 0; have := HLEN.out; omega, fun x hx => by rw [List.mem_replicate] at hx; omega⟩, HB⟩
          · rw [← HT.out, treeM, ← HL2.out, if_neg (by rw [List.length_map]; exact H1.out)]
          · rw [← HL2.out, List.length_map]; omega
      case rest =>
        obtain ⟨o, m, HN1, HO1, HP, HB1⟩ := hcut
        have HI1 := Aside0.mk (show LInv l0.length (l.map GN.n) from by rw [HL2.out]; exact leavesN_inv l0 HLEN.out HVAL.out)
        have hwc : w.heap.size < wc.heap.size := by
          obtain ⟨cells, hc⟩ := Kd.R_typed HO1.out _ rfl
          exact blk_lt hc
        clear HN HO HG HB HL2 HM0 hgo
        go_wp2
        go_loopg [4] m (fun mk v4 wr => ∃ (l : List GN) (A : Option Addr) (c : Nat) (o : List Int), v4 = .slice A l.length c ∧ Aside0 (NL wr w.heap.size w.heap.size 3 85 (.slice A l.length c) l) ∧ Aside0 (Kd.R (Kd.int .i64) 3 wr w.heap.size (fun k => k = w.heap.size) (.slice (some ⟨w.heap.size, 0, none⟩) l0.length l0.length) o) ∧ Aside0 (Go.Proofs.Ytgajagocenffeaa.Th.runT mk (l.map GN.n) o = r ∧ l.length ≤ mk + 1 ∧ o.length = l0.length ∧ mk ≤ 300 ∧ ∀ x ∈ o, 0 ≤ x ∧ x ≤ 1 + 300 * (300 - mk)) ∧ Aside0 (LInv l0.length (l.map GN.n)) ∧ Aside0 (Below w.heap.size w wr))
        case atStart => exact ⟨l, A, c, o, rfl, HN1, HO1, ⟨HP.out.1, HP.out.2.1, HP.out.2.2.1, HP.out.2.2.2.1, fun x hx => by have := HP.out.2.2.2.2 x hx; have := HP.out.2.2.2.1; omega⟩, HI1, HB1⟩
        case round =>
          clear HN1 HO1 HP HI1 HB1 hwc
          obtain ⟨l, A, c, o, rfl, HN, HO, HP, HI, HB⟩ := hrel
          by_cases h1 : 1 < l.length
          · have c1 : decide ((l.length : Int) > 1) = true := decide_eq_true (by omega)
            obtain ⟨gl, cap, hv, hbl, hgl, hcap, hne, _⟩ := HN.out.form (by omega)
            injection hv with hA _ hc
            subst hA hc
            have hlm : l.length ≤ 1000000 := by have h2 := HP.out.2.1; have h4 := HP.out.2.2.2.1; omega
            have ha1 := spec_l3Least.calls (l.length + 1) (some ⟨gl, 0, none⟩) c (l.map l3S) (-1) _ wr (l3_C HN.out (by omega)) (by rw [List.length_map]; exact hcap) (l3Least_first l hlm (by omega))
            obtain ⟨b, hb0, hbl2, hba, hbx, hskip⟩ := l3Least_second l hlm h1
            have hb1 := fun (n : Nat) => spec_l3Least.calls (l.length + 1) (some ⟨gl, 0, none⟩) c (l.map l3S) _ _ (wr.drewN n) (l3_C (HN.out.drewN n) (by omega)) (by rw [List.length_map]; exact hcap) hb0
            simp only [List.length_map] at ha1 hb1
            have hal : leastN (l.map GN.n) < l.length := by
              have := leastN_lt (l := l.map GN.n) (by intro e; have := congrArg List.length e; rw [List.length_map] at this; simp only [List.length_nil] at this; omega)
              rwa [List.length_map] at this
            obtain ⟨a, ha0⟩ : ∃ a, leastN (l.map GN.n) = a := ⟨_, rfl⟩
            rw [ha0] at ha1 hb1 hba hal
            have HA1 := Aside0.mk ha1
            have HB1 := Aside0.mk hb1
            have HBX := Aside0.mk (And.intro ha0 (And.intro hbx hskip))
            have HBND := Aside0.mk (And.intro hal (And.intro hbl2 hba))
            have HL1 := Aside0.mk h1
            clear ha1 hb1 ha0 hbx hskip hb0 hal hbl2 hba h1 hbl hgl hne hlm hcap
            go_upto_region 12 with (go_at_call 73; refine (HA1.out).mono ?_; rintro e w' ⟨rfl, hd⟩; obtain ⟨⟨m, rfl⟩⟩ := hd)
            go_upto_region 13 with (go_at_call 73; refine (HB1.out _).mono ?_; rintro e w' ⟨rfl, hd⟩; obtain ⟨⟨m, rfl⟩⟩ := hd)
            generalize hq : World.drewN wr _ = wq
            have HNq := Aside0.mk (show NL wq w.heap.size w.heap.size 3 85 (.slice (some ⟨gl, 0, none⟩) l.length c) l from by rw [← hq]; exact HN.out.drewN _)
            have HOq := Aside0.mk (show Kd.R (Kd.int .i64) 3 wq w.heap.size (fun k => k = w.heap.size) (.slice (some ⟨w.heap.size, 0, none⟩) l0.length l0.length) o from by rw [← hq]; exact Kd.R_below HO.out (pw_below_drewN (Below.refl _ _) _))
            have HBq := Aside0.mk (show Below w.heap.size w wq from by rw [← hq]; exact pw_below_drewN HB.out _)
            clear HA1 HB1 HN HO HB
            clear hq
            obtain ⟨xa, hxa⟩ : ∃ xa, l[a]? = some xa := ⟨_, List.getElem?_eq_getElem HBND.out.1⟩
            obtain ⟨xb, hxb⟩ : ∃ xb, l[b]? = some xb := ⟨_, List.getElem?_eq_getElem HBND.out.2.1⟩
            obtain ⟨ca0, ca1⟩ := HNq.out.cells hxa
            obtain ⟨cb0, cb1⟩ := HNq.out.cells hxb
            have pa : (0 : Int) ≤ (a : Int) := by omega
            have qa : (a : Int) < (l.length : Int) := by have := HBND.out.1; omega
            have pb : (0 : Int) ≤ (b : Int) := by omega
            have qb : (b : Int) < (l.length : Int) := by have := HBND.out.2.1; omega
            have HXA := Aside0.mk hxa
            have HXB := Aside0.mk hxb
            have hoka := HNq.out.ok xa (List.mem_of_getElem? hxa)
            have hokb := HNq.out.ok xb (List.mem_of_getElem? hxb)
            have hma : xa.n ∈ l.map GN.n := List.mem_map.2 ⟨xa, List.mem_of_getElem? hxa, rfl⟩
            have hmb : xb.n ∈ l.map GN.n := List.mem_map.2 ⟨xb, List.mem_of_getElem? hxb, rfl⟩
            have hna : 0 < xa.n.syms.length := List.length_pos_iff.2 (HI.out.some_ _ hma)
            have hnb : 0 < xb.n.syms.length := List.length_pos_iff.2 (HI.out.some_ _ hmb)
            obtain ⟨m', hm', hrun, hinv, hl2, hwa, hwb, hsw, hsl, hsr⟩ : ∃ m', gk = m' + 1 ∧ Go.Proofs.Ytgajagocenffeaa.Th.runT gk (l.map GN.n) o = Go.Proofs.Ytgajagocenffeaa.Th.runT m' (skip2 a b (l.map GN.n) 0 ++ [xa.n.join xb.n]) (bump o (xa.n.syms ++ xb.n.syms)) ∧ LInv l0.length (skip2 a b (l.map GN.n) 0 ++ [xa.n.join xb.n]) ∧ (skip2 a b (l.map GN.n) 0).length + 2 = (l.map GN.n).length ∧ 0 < xa.n.w ∧ 0 < xb.n.w ∧ xa.n.w + xb.n.w ≤ 2199023255552 ∧ (xa.n.syms ++ xb.n.syms).length ≤ 300 ∧ ∀ s ∈ xa.n.syms ++ xb.n.syms, 0 ≤ s ∧ s < l0.length := by
              have hga : (l.map GN.n).getD (leastN (l.map GN.n)) ⟨0, [], 0⟩ = xa.n := by rw [HBX.out.1, List.getD_eq_getElem?_getD, List.getElem?_map, HXA.out]; rfl
              have hgb : (l.map GN.n).getD b ⟨0, [], 0⟩ = xb.n := by rw [List.getD_eq_getElem?_getD, List.getElem?_map, HXB.out]; rfl
              have h3 := runT_step HI.out (by rw [List.length_map]; exact HL1.out) (by rw [List.length_map]; exact HP.out.2.1) hga (HBX.out.2.1.trans hgb) (by rw [← HBX.out.2.2, HBX.out.1]) o
              exact h3
            have HST := Aside0.mk (And.intro hm' (And.intro hrun (And.intro hinv hl2)))
            have HSL := Aside0.mk hsl
            have HSR := Aside0.mk hsr
            have hsl2 := hsl
            rw [List.length_append] at hsl2
            have hba : xa.n.syms.length ≤ 300 := by omega
            have hbb : xb.n.syms.length ≤ 300 := by omega
            have hsum : IntKind.i64.wrap (xa.n.w + xb.n.w) = xa.n.w + xb.n.w := by rw [i64_w', w64 (by omega)]
            clear hm' hrun hinv hl2 hsw hsl hsr hsl2 hwa hwb
            have hwq := HBq.out.size
            have hwq2 : w.heap.size < wq.heap.size := by
              obtain ⟨cells, hc⟩ := Kd.R_typed HOq.out _ rfl
              exact blk_lt hc
            have hlb := hokb.lt
            have hglq := own_lt HNq.out.row gl rfl
            obtain ⟨i0, hi0, hz0, hz1, hz2⟩ := info_parts info3
            clear hxa hxb hma hmb
            go_cut [8] (fun v8 wx => ∃ (gb gs cs : Nat), v8 = .pointer (some ⟨gb, 0, none⟩) ∧ Aside0 (wx.heap[gb]? = some (.cells #[.int .i64 (xa.n.w + xb.n.w), .slice (some ⟨gs, 0, none⟩) (xa.n.syms ++ xb.n.syms).length cs] 85 (0, 0))) ∧ Aside0 ((GN.mk (xa.n.join xb.n) gs cs).Ok wx w.heap.size w.heap.size 3) ∧ Aside0 (wq.heap.size ≤ gb) ∧ Aside0 (Below wq.heap.size wq wx))
            case first =>
              go_region_held3 (fun w' => w'.cell? ⟨gl, a * 2, none⟩ = some (.int .i64 xa.n.w) ∧ w'.cell? ⟨gl, a * 2 + 1, none⟩ = some (.slice (some ⟨xa.g, 0, none⟩) xa.n.syms.length xa.c) ∧ w'.cell? ⟨gl, b * 2, none⟩ = some (.int .i64 xb.n.w) ∧ w'.cell? ⟨gl, b * 2 + 1, none⟩ = some (.slice (some ⟨xb.g, 0, none⟩) xb.n.syms.length xb.c)) (first | (go_split_ands; refine ⟨?_, ?_, ?_, ?_⟩ <;> exact realloc (W := w2) (by assumption) (by have h3 := hb2.out.size; simp; omega) _) | (go_split_ands; refine ⟨?_, ?_, ?_, ?_⟩ <;> exact far_set (far_set (by assumption) (by have h3 := hb1.out.size; simp; omega)) (by have h3 := hb1.out.size; simp; omega)) | (go_split_ands; refine ⟨?_, ?_, ?_, ?_⟩ <;> (rw [hg2.cell_far _ (by have h3 := hb1.out.size; simp; omega) (by have h3 := hg1q.out; intro h4; have h5 : gl = g1 := (by simpa [Value.ownBlock] using h4); omega)]; assumption)) | (go_split_ands; refine ⟨?_, ?_, ?_, ?_⟩ <;> (rw [hg1.cell_far _ (by simp; omega) (by simp [Value.ownBlock]; omega)]; assumption)) | go_keep)
                (first
                  | ((refine step_append_lies _ (by rfl) (.tmp 67) (.tmp 72) 22 (by rfl) w.heap.size 3 i0 (.int .i64 0) 1 8 Try.underlying22 hi0 hz0 hz1 hz2 rfl (by decide) _ 0 [] (by rfl) (own0 (g := _) (by omega) (by first | exact at2 _ _ _ | exact at1 _ _ _ | exact blk_new _ _)) ⟨xa.g, 0, none⟩ xa.n.syms.length xa.c (nums .i64 xa.n.syms) (by rfl) (by simp [nums]) (GN.Ok.news (by repeat (first | exact hoka | apply GN.Ok.alloc | apply GN.Ok.drew))) (nums_one _) (by omega) (by simp only [maxLen]; omega) (by omega) (by simp; omega) _ rfl ?_; intro g1 cap1 w1 hown1 hg1 hat1 hlt1; simp only [Nat.zero_add, List.nil_append] at hown1; simp only [Nat.zero_add]; have hb1 := Aside0.mk (Below.grown (B := wq.heap.size) (a := wq) (by repeat (first | exact Below.refl _ _ | apply Below.drew | refine Below.alloc ?_ (by simp <;> omega) _)) hg1 (by simp <;> omega) (fun k hk => by simp [Value.ownBlock] at hk; omega)); have hokb1 := Aside0.mk (GN.Ok.grown (by repeat (first | exact hokb | apply GN.Ok.alloc | apply GN.Ok.drew)) hg1 (by simp [Value.ownBlock]; omega)); have hg1q := Aside0.mk (show wq.heap.size ≤ g1 from by rcases hat1 with h | h <;> simp [Value.ownBlock] at h <;> omega); (try have hbx0 := Aside0.mk (keep_box hg1 rfl (by first | exact at2 _ _ _ | exact at1 _ _ _ | exact blk_new _ _) wq.heap.size #[.int .i64 0, .slice none 0 0] (tn := 85) (by decide) (at1 _ _ _))); (try have hbx1 := Aside0.mk (keep_box hg1 rfl (by first | exact at2 _ _ _ | exact at1 _ _ _ | exact blk_new _ _) (wq.heap.size + 1) #[.int .i64 0, .slice none 0 0] (tn := 85) (by decide) (at2 _ _ _)))))
                  | ((refine step_append_lies _ (by rfl) (.tmp 73) (.tmp 78) 22 (by rfl) w.heap.size 3 i0 (.int .i64 0) 1 8 Try.underlying22 hi0 hz0 hz1 hz2 rfl (by decide) (.slice (some ⟨g1, 0, none⟩) xa.n.syms.length cap1) xa.n.syms.length (nums .i64 xa.n.syms) (by rfl) (by first | exact hown1 | exact hown1.alloc _) ⟨xb.g, 0, none⟩ xb.n.syms.length xb.c (nums .i64 xb.n.syms) (by rfl) (by simp [nums]) (GN.Ok.news (by repeat (first | exact hokb1.out | apply GN.Ok.alloc | apply GN.Ok.drew))) (nums_one _) (by omega) (by simp only [maxLen]; omega) (by omega) (by have := hb1.out.size; simp; omega) _ rfl ?_; intro g2 cap2 w2 hown2 hg2 hat2 hlt2; have hb2 := Aside0.mk (Below.grown (B := wq.heap.size) (a := wq) (by repeat (first | exact hb1.out | apply Below.drew | refine Below.alloc ?_ (by have := hb1.out.size; simp <;> omega) _)) hg2 (by have := hb1.out.size; simp; omega) (fun k hk => by have := hg1q.out; simp [Value.ownBlock] at hk; omega)); have hg2q := Aside0.mk (show wq.heap.size ≤ g2 from hat2.elim (fun h => by have h2 := hg1q.out; have h3 : g1 = g2 := (by simpa [Value.ownBlock] using h); omega) (fun h => by have h2 := hb1.out.size; (try simp at h); omega)); obtain ⟨cs1, hc1⟩ := own_typed hown1 g1 rfl; (try have hby := Aside0.mk (keep_box hg2 rfl hc1 _ _ (tn := 85) (by decide) hbx0.out)); (try have hby := Aside0.mk (keep_box hg2 rfl hc1 _ _ (tn := 85) (by decide) hbx1.out)); (try have hby := Aside0.mk (keep_box hg2 rfl (blk_alloc hc1 _) _ #[.int .i64 0, .slice none 0 0] (tn := 85) (by decide) (blk_new _ _))); (try (have hbc0 := blk_cell hby.out 0; have hbc1 := blk_cell hby.out 1; have hbf := blk_frozen hby.out)))))
              all_goals go_wp2_with fail
              all_goals go_meet
              all_goals
                have hok3 := ok_own (n := xa.n.join xb.n) (W := w2) (base := w.heap.size) (go := w.heap.size) (e := 3) (g := g2) (c := cap2) (by show w2.ownsRow _ _ _ (.slice _ (xa.n.syms ++ xb.n.syms).length _) (xa.n.syms ++ xb.n.syms).length (nums .i64 (xa.n.syms ++ xb.n.syms)); rw [List.length_append, nums_append]; exact hown2) (by have h3 := hg2q.out; omega)
              all_goals first
                | exact ⟨w2.heap.size, g2, cap2, rfl, ⟨by rw [List.length_append]; exact blk_new _ _⟩, ⟨hok3.alloc _⟩, ⟨hb2.out.size⟩, ⟨hb2.out.alloc hb2.out.size _⟩⟩
                | exact ⟨_, g2, cap2, rfl, ⟨by rw [List.length_append]; exact blk_set (blk_set hby.out 0 _) 1 _⟩, ⟨(hok3.far hby.out (by decide) _ _).far (blk_set hby.out 0 _) (by decide) _ _⟩, ⟨by have h3 := hb1.out.size; simp <;> omega⟩, ⟨(hb2.out.setCell (by have h3 := hb1.out.size; simp <;> omega) _).setCell (by have h3 := hb1.out.size; simp <;> omega) _⟩⟩
            case rest =>
              obtain ⟨gb, gs, cs, rfl, HBX1, HNEW, HGB, HBW⟩ := hcut
              have HN := Aside0.mk (HNq.out.below HBW.out (Nat.le_refl _))
              have HO := Aside0.mk (Kd.R_below HOq.out HBW.out)
              have HB := Aside0.mk (HBq.out.trans (HBW.out.mono hwq))
              have hgo3 : gb ≠ w.heap.size := by have := HGB.out; omega
              have hgbc := blk_lt HBX1.out
              obtain ⟨S, hS⟩ : ∃ S, xa.n.syms ++ xb.n.syms = S := ⟨_, rfl⟩
              rw [hS] at HBX1 HSL HSR HST
              have HSE := Aside0.mk hS
              clear hS hsum
              go_wp2
              go_loopw [9] (fun v9 wr => ∃ k : Nat, v9 = .int .i64 k ∧ k ≤ S.length ∧ Aside0 (Kd.R (Kd.int .i64) 3 wr w.heap.size (fun k => k = w.heap.size) (.slice (some ⟨w.heap.size, 0, none⟩) l0.length l0.length) (bump o (S.take k))) ∧ Aside0 (KeepBut wc wr w.heap.size none) ∧ Aside0 (Below w.heap.size w wr)) (fun v9 _ => S.length - (intOf v9).toNat)
              case atStart => exact ⟨0, rfl, Nat.zero_le _, HO, ⟨KeepBut.refl _ _ _⟩, HB⟩
              case round =>
                obtain ⟨k, rfl, hk, HO3, HK3, HB3⟩ := hrel
                have HNW := Aside0.mk (HNEW.out.move (HK3.out.2 gs HNEW.out.lt HNEW.out.2.1 (by simp)))
                have hbx := HK3.out.blk HBX1.out hgo3 (by simp)
                have hb1 : wr.cell? ⟨gb, 1, none⟩ = some (.slice (some ⟨gs, 0, none⟩) S.length cs) := (blk_cell hbx 1).trans rfl
                clear hbx
                have hsl := HSL.out
                by_cases hlt : k < S.length
                · obtain ⟨s, hs⟩ : ∃ s, S[k]? = some s := ⟨_, List.getElem?_eq_getElem hlt⟩
                  have hsk : wr.cell? ⟨gs, k, none⟩ = some (.int .i64 s) := by
                    have h1 := HNW.out.cell (j := k) (by show k < (xa.n.syms ++ xb.n.syms).length; rw [HSE.out]; exact hlt)
                    have h2 : (xa.n.syms ++ xb.n.syms).getD k 0 = s := by rw [HSE.out, List.getD_eq_getElem?_getD, hs]; rfl
                    rw [← h2]; exact h1
                  obtain ⟨hs0, hs1⟩ := HSR.out s (List.mem_of_getElem? hs)
                  have hstk : S.take (k + 1) = S.take k ++ [s] := by rw [List.take_add_one, hs]; rfl
                  have HSTK := Aside0.mk hstk
                  clear hstk hs
                  obtain ⟨hco, hfo⟩ := Kd.R_celln 0 HO3.out s hs0 (by omega)
                  have hpu := Kd.R_putn HO3.out s (rdOf 0 (bump o (S.take k)) s + 1)
                  have HPU := Aside0.mk hpu
                  clear hpu
                  have hbd : 0 ≤ rdOf 0 (bump o (S.take k)) s ∧ rdOf 0 (bump o (S.take k)) s ≤ 1000000 := by
                    have hb4 := bump_le (M := 1 + 300 * (300 - (gk : Int))) (S.take k) o HP.out.2.2.2.2
                    have hln : s.toNat < (bump o (S.take k)).length := by rw [bump_length, HP.out.2.2.1]; omega
                    have hb5 := hb4 (rdOf 0 (bump o (S.take k)) s) (by unfold rdOf; rw [List.getD_eq_getElem?_getD, List.getElem?_eq_getElem hln]; exact List.getElem_mem _)
                    have hb6 := HP.out.2.2.2.1
                    have hb7 : (S.take k).length ≤ k := List.length_take_le _ _
                    omega
                  obtain ⟨hbd0, hbd1⟩ := hbd
                  obtain ⟨q, hq⟩ : ∃ q, rdOf 0 (bump o (S.take k)) s = q := ⟨_, rfl⟩
                  rw [hq] at hco hbd0 hbd1
                  have HQ := Aside0.mk hq
                  clear hq
                  have hw : IntKind.i64.wrap (q + 1) = q + 1 := by rw [i64_w', w64 (by omega)]
                  have p1 : (0 : Int) ≤ (k : Int) := by omega
                  have q1 : (k : Int) < (S.length : Int) := by omega
                  go_upto_region 17 with (fail)
                  go_still_tail 16, (by kernel_rfl)
                  change wpList _ _ _ _ _ wr.drew
                  go_wp2
                  go_roundw
                  case rel =>
                    refine ⟨k + 1, by go_num, by omega, ⟨?_⟩, ⟨(HK3.out.trans (KeepBut.of_below (below_drew (Below.refl _ _)) _ none) (.inl rfl)).set_ _ _⟩, ⟨(below_drew HB3.out).setCell (Nat.le_refl _) _⟩⟩
                    rw [HSTK.out, bump_append]
                    have h1 := HPU.out
                    rw [HQ.out] at h1
                    have h2 : bump (bump o (S.take k)) [s] = (bump o (S.take k)).set s.toNat (q + 1) := by
                      rw [← HQ.out]; rfl
                    rw [h2]
                    exact h1
                  case measure => simp [intOf]; omega
                · obtain rfl : k = S.length := by omega
                  rw [List.take_length] at HO3
                  have HBB := Aside0.mk (HK3.out.blk HBX1.out hgo3 (by simp))
                  have HN3 := Aside0.mk (HN.out.move (fun i h1 h2 => HK3.out.2 i h1 h2 (by simp)))
                  go_wp2
                  clear HN HO HB HK3 hlt hsl hb1 HNq HOq HBq HBX1 HBW HGB hgbc hwq hwq2 hglq hlb hoka hokb hna hnb hba hbb ca0 ca1 cb0 cb1 pa qa pb qb hgo3
                  obtain ⟨w3, rfl⟩ : ∃ w3 : World, w3 = wr := ⟨_, rfl⟩
                  have HGO := Aside0.mk (show w.heap.size < w3.heap.size from by obtain ⟨cells, hc⟩ := Kd.R_typed HO3.out w.heap.size rfl; exact blk_lt hc)
                  go_loopw [10, 11] (fun v10 v11 wr => ∃ (k : Nat) (A' : Option Addr) (c' : Nat), v10 = .slice A' (skip2 a b (l.take k) 0).length c' ∧ v11 = .int .i64 k ∧ k ≤ l.length ∧ Aside0 (NL wr w.heap.size w.heap.size 3 85 (.slice A' (skip2 a b (l.take k) 0).length c') (skip2 a b (l.take k) 0)) ∧ Aside0 (∀ g, (Value.slice A' (skip2 a b (l.take k) 0).length c').ownBlock = some g → w3.heap.size ≤ g) ∧ Aside0 (Below w3.heap.size w3 wr)) (fun _ v11 _ => l.length - (intOf v11).toNat)
                  case atStart =>
                    refine ⟨0, _, _, rfl, rfl, Nat.zero_le _, ⟨?_⟩, ⟨?_⟩, ⟨?_⟩⟩
                    · rw [List.take_zero]
                      exact NL.empty HB3.out.size (blk_new _ _) (by have h3 := HGO.out; omega)
                    · intro g hg
                      have : w3.heap.size = g := by simpa [Value.ownBlock] using hg
                      omega
                    · exact (Below.refl _ _).alloc (Nat.le_refl _) _
                  case round =>
                    obtain ⟨k, A', c', rfl, rfl, hk, HR, HRB, HW⟩ := hrel
                    have hw3 := HB3.out.size
                    by_cases hlt : k < l.length
                    · obtain ⟨x, hx⟩ : ∃ x, l[k]? = some x := ⟨_, List.getElem?_eq_getElem hlt⟩
                      have HSK := Aside0.mk (skip2_take a b l hx)
                      have hgl := own_lt HN3.out.row gl rfl
                      obtain ⟨cx0, cx1⟩ := HN3.out.cells hx
                      rw [← HW.out.cell hgl] at cx0 cx1
                      have hokx := HN3.out.ok x (List.mem_of_getElem? hx)
                      have HOKX := Aside0.mk (hokx.move (W1 := wr) (HW.out.block _ hokx.lt))
                      clear hokx hx
                      have p1 : (0 : Int) ≤ (k : Int) := by omega
                      have q1 : (k : Int) < (l.length : Int) := by omega
                      have hpick : (k ≠ a ∧ k ≠ b) ∨ (k = a ∨ k ≠ a ∧ k = b) := by omega
                      rcases hpick with ⟨hka, hkb⟩ | hkab
                      · have e1 : ((k : Int) == (a : Int)) = false := beq_eq_false_iff_ne.mpr (by omega)
                        have e2 : ((k : Int) != (a : Int)) = true := bne_iff_ne.mpr (by omega)
                        have e3 : (k == a) = false := beq_eq_false_iff_ne.mpr (by omega)
                        have e4 : (k != a) = true := bne_iff_ne.mpr (by omega)
                        have e5 : ((k : Int) == (b : Int)) = false := beq_eq_false_iff_ne.mpr (by omega)
                        have e6 : ((k : Int) != (b : Int)) = true := bne_iff_ne.mpr (by omega)
                        have e7 : (k == b) = false := beq_eq_false_iff_ne.mpr (by omega)
                        have e8 : (k != b) = true := bne_iff_ne.mpr (by omega)
                        have HKA := Aside0.mk (And.intro hka hkb)
                        have hsl4 := skip2_length a b (l.take k) 0
                        rw [List.length_take] at hsl4
                        have hll := HP.out.2.1
                        have hgk := HP.out.2.2.2.1
                        have hwr := HW.out.size
                        have hgo4 := HGO.out
                        clear hka hkb
                        go_wp2_with (at_builtin; go_loud (refine print_append_cells (w0 := w3) w.heap.size rfl (.tmp 119) (.tmp 124) 83 85 (.agg #[.int .i64 0, .slice none 0 0]) 2 32 rfl Try.underlying83 l3_info rfl (by decide) (by decide) (.slice A' (skip2 a b (l.take k) 0).length c') (skip2 a b (l.take k) 0).length (flat (skip2 a b (l.take k) 0)) x.cells (by rfl) (by simp [Act.eval]) rfl (by simp [GN.cells, Value.oneCell']) HR.out.row ?_ ?_ ?_ ?_))
                        · exact HW.out.mono (by omega)
                        · omega
                        · omega
                        intro v1 w1 hown hB hg hat
                        obtain ⟨A1, c1', hv1⟩ := own_slice hown
                        have HN1 := Aside0.mk (HR.out.append (by decide) HOKX.out hown hg hat (by omega))
                        have HW1 := Aside0.mk (HW.out.grown hg hwr HRB.out)
                        have HRB1 := Aside0.mk (show ∀ g, v1.ownBlock = some g → w3.heap.size ≤ g from fun g hk1 => by
                          rcases hat with h1 | ⟨q, h1, h2⟩
                          · exact HRB.out g (h1 ▸ hk1)
                          · rw [h1] at hk1; injection hk1 with hk1; omega)
                        clear hown hB hg hat
                        subst hv1
                        go_wp2
                        go_roundw
                        case rel => exact ⟨k + 1, A1, c1', by rw [HSK.out, if_pos HKA.out, List.length_append]; rfl, by go_num, by omega, ⟨by rw [HSK.out, if_pos HKA.out, List.length_append]; exact HN1.out⟩, ⟨by rw [HSK.out, if_pos HKA.out, List.length_append]; exact HRB1.out⟩, HW1⟩
                        case measure => simp [intOf]; omega
                      · have HKA := Aside0.mk hkab
                        rcases hkab with hka | ⟨hka, hkb⟩
                        · have e1 : ((k : Int) == (a : Int)) = true := beq_iff_eq.mpr (by omega)
                          have e2 : ((k : Int) != (a : Int)) = false := bne_eq_false_iff_eq.mpr (by omega)
                          have e3 : (k == a) = true := beq_iff_eq.mpr (by omega)
                          have e4 : (k != a) = false := bne_eq_false_iff_eq.mpr (by omega)
                          clear hka
                          go_wp2
                          go_roundw
                          case rel => exact ⟨k + 1, A', c', by rw [HSK.out, if_neg (by have := HKA.out; omega), List.append_nil], by go_num, by omega, ⟨by rw [HSK.out, if_neg (by have := HKA.out; omega), List.append_nil]; exact HR.out⟩, ⟨by rw [HSK.out, if_neg (by have := HKA.out; omega), List.append_nil]; exact HRB.out⟩, HW⟩
                          case measure => simp [intOf]; omega
                        · have e1 : ((k : Int) == (a : Int)) = false := beq_eq_false_iff_ne.mpr (by omega)
                          have e2 : ((k : Int) != (a : Int)) = true := bne_iff_ne.mpr (by omega)
                          have e3 : (k == a) = false := beq_eq_false_iff_ne.mpr (by omega)
                          have e4 : (k != a) = true := bne_iff_ne.mpr (by omega)
                          have e5 : ((k : Int) == (b : Int)) = true := beq_iff_eq.mpr (by omega)
                          have e6 : ((k : Int) != (b : Int)) = false := bne_eq_false_iff_eq.mpr (by omega)
                          have e7 : (k == b) = true := beq_iff_eq.mpr (by omega)
                          have e8 : (k != b) = false := bne_eq_false_iff_eq.mpr (by omega)
                          clear hka hkb
                          go_wp2
                          go_roundw
                          case rel => exact ⟨k + 1, A', c', by rw [HSK.out, if_neg (by have := HKA.out; omega), List.append_nil], by go_num, by omega, ⟨by rw [HSK.out, if_neg (by have := HKA.out; omega), List.append_nil]; exact HR.out⟩, ⟨by rw [HSK.out, if_neg (by have := HKA.out; omega), List.append_nil]; exact HRB.out⟩, HW⟩
                          case measure => simp [intOf]; omega
                    · obtain rfl : k = l.length := by omega
                      obtain ⟨R, hR⟩ : ∃ R, skip2 a b (l.take l.length) 0 = R := ⟨_, rfl⟩
                      have HRE := Aside0.mk (show skip2 a b l 0 = R from by rw [← hR, List.take_length])
                      rw [hR] at HR HRB ⊢
                      clear hR hlt
                      have hgb3 := blk_lt HBB.out
                      have hbb := (HW.out.block gb hgb3).trans HBB.out
                      have cb0 : wr.cell? ⟨gb, 0, none⟩ = some (.int .i64 (xa.n.w + xb.n.w)) := (blk_cell hbb 0).trans rfl
                      have cb1 : wr.cell? ⟨gb, 1, none⟩ = some (.slice (some ⟨gs, 0, none⟩) S.length cs) := (blk_cell hbb 1).trans rfl
                      have hll := HP.out.2.1
                      have hgk := HP.out.2.2.2.1
                      have hrl := skip2_length a b l 0
                      rw [HRE.out] at hrl
                      have hwr := HW.out.size
                      have hgo4 := HGO.out
                      clear hbb hgb3
                      go_wp2_with (at_builtin; go_loud (refine print_append_cells (w0 := w3) w.heap.size rfl (.tmp 126) (.tmp 128) 83 85 (.agg #[.int .i64 0, .slice none 0 0]) 2 32 rfl Try.underlying83 l3_info rfl (by decide) (by decide) (.slice A' R.length c') R.length (flat R) [.int .i64 (xa.n.w + xb.n.w), .slice (some ⟨gs, 0, none⟩) S.length cs] (by rfl) (by simp [Act.eval]) rfl (by simp [Value.oneCell']) HR.out.row ?_ ?_ ?_ ?_))
                      · exact HW.out.mono (by omega)
                      · omega
                      · omega
                      intro v1 w1 hown hB hg hat
                      obtain ⟨A1, c1', hv1⟩ := own_slice hown
                      have hxc : (GN.mk (xa.n.join xb.n) gs cs).cells = [.int .i64 (xa.n.w + xb.n.w), .slice (some ⟨gs, 0, none⟩) S.length cs] := by rw [← HSE.out]; rfl
                      have HN1 := Aside0.mk (HR.out.append (by decide) (HNW.out.move (HW.out.block _ HNW.out.lt)) (by rw [hxc]; exact hown) hg hat (by omega))
                      have HO1 := Aside0.mk (Kd.R_grown (Kd.R_step HO3.out (fun k _ hk => HW.out.block k hk)) hg (fun k hk he => (HR.out.ne k he.symm) hk))
                      have HB1 := Aside0.mk (HB3.out.trans hB)
                      clear hown hB hg hat hxc
                      subst hv1
                      go_wp2
                      obtain ⟨hm', hrun, hinv, hl2⟩ := HST.out
                      have HM := Aside0.mk hm'
                      have HRUN := Aside0.mk hrun
                      have HINV := Aside0.mk hinv
                      rw [List.length_map] at hl2
                      clear hm' hrun hinv
                      go_roundg m'
                      case measure => have := HM.out; omega
                      case rel =>
                        have hmap : (R ++ [GN.mk (xa.n.join xb.n) gs cs]).map GN.n = skip2 a b (l.map GN.n) 0 ++ [xa.n.join xb.n] := by
                          rw [List.map_append, ← HRE.out, skip2_map]; rfl
                        have hlen : (R ++ [GN.mk (xa.n.join xb.n) gs cs]).length + 1 = l.length := by
                          have h1 : (R ++ [GN.mk (xa.n.join xb.n) gs cs]).length = (skip2 a b (l.map GN.n) 0).length + 1 := by
                            rw [← List.length_map (f := GN.n), hmap, List.length_append]; rfl
                          omega
                        refine ⟨R ++ [GN.mk (xa.n.join xb.n) gs cs], A1, c1', bump o S, by rw [List.length_append]; rfl, ⟨by rw [List.length_append]; exact HN1.out⟩, HO1, ⟨?_, ?_, ?_, ?_, ?_⟩, ⟨by rw [hmap]; exact HINV.out⟩, HB1⟩
                        · rw [hmap, ← HRUN.out]; exact HP.out.1
                        · have h2 := HM.out; have h3 := HP.out.2.1; omega
                        · rw [bump_length]; exact HP.out.2.2.1
                        · have := HM.out; omega
                        · intro x hx
                          have h1 := bump_le (M := 1 + 300 * (300 - (gk : Int))) S o HP.out.2.2.2.2 x hx
                          have h2 := HM.out
                          have h3 := HSL.out
                          omega
          · obtain ⟨hrun, hll, _, _, _⟩ := HP.out
            have hfin : o = r := by
              rw [← hrun]
              cases gk with
              | zero => rfl
              | succ n => unfold Go.Proofs.Ytgajagocenffeaa.Th.runT; rw [if_neg (by rw [List.length_map]; exact h1)]
            subst hfin
            clear hrun hll
            have c1 : decide ((l.length : Int) > 1) = false := decide_eq_false (by omega)
            have HO1 := Aside0.mk (Kd.R_mono HO.out (fun _ _ => trivial))
            go_wp2
            go_ret
            exact ⟨_, rfl, HO1.out, HB.out⟩
end

/-! ### spec_l3Most: function 62 -/
def spec_l3Most.l0 : Nat → List Int → Int → Int → Option (Int)
  | 0, _, _, _ => none
  | k + 1, x0, x3, x4 => if x4 < (x0.length : Int) then (if 0 ≤ x4 then (if (rd x0 x4) > x3 then (spec_l3Most.l0 k x0 (rd x0 x4) (wrap64 (x4 + 1))) else (spec_l3Most.l0 k x0 x3 (wrap64 (x4 + 1)))) else (none)) else (some x3)
def spec_l3Most.f (k : Nat) (l0 : List Int) : Option (Int) := spec_l3Most.l0 k l0 0 0
theorem spec_l3Most.mono_l : ∀ k, (∀ y0 y1 y2, LeO (spec_l3Most.l0 k y0 y1 y2) (spec_l3Most.l0 (k + 1) y0 y1 y2))
  | 0 => fun _ _ _ r h => by simp [spec_l3Most.l0] at h
  | k + 1 => by
    have ih0 := spec_l3Most.mono_l k
    · intro y0 y1 y2
      unfold spec_l3Most.l0
      repeat' first
      | (with_reducible exact ih0 _ _ _)
      | (with_reducible exact LeO.refl _)
      | (with_reducible exact LeO.none _)
      | (with_reducible refine LeO.ite ?_ ?_)
      | (with_reducible refine LeO.bind ?_ (fun _ => ?_))
      | exact ih0 _ _ _
      | exact LeO.none _
      | refine LeO.ite ?_ ?_
      | refine LeO.bind ?_ (fun _ => ?_)
theorem spec_l3Most.mono : ∀ a0 k, LeO (spec_l3Most.f k a0) (spec_l3Most.f (k + 1) a0) := by
  intro a0 k
  have ih0 := spec_l3Most.mono_l k
  unfold spec_l3Most.f
  repeat' first
      | (with_reducible exact ih0 _ _ _)
      | (with_reducible exact LeO.refl _)
      | (with_reducible exact LeO.none _)
      | (with_reducible refine LeO.ite ?_ ?_)
      | (with_reducible refine LeO.bind ?_ (fun _ => ?_))
      | exact ih0 _ _ _
      | exact LeO.none _
      | refine LeO.ite ?_ ?_
      | refine LeO.bind ?_ (fun _ => ?_)
set_option maxHeartbeats 8000000 in
set_option maxRecDepth 100000 in
theorem spec_l3Most.calls (k : Nat) (A0 : Option Addr) (c0 : Nat) (l0 : List Int) (r : Int) (w : World) (hr0 : Kd.C (Kd.int .i64) w A0 l0.length l0) (hc0 : l0.length ≤ c0) (h : spec_l3Most.f k l0 = some r) :
    Calls Try.prog 62 #[.slice A0 l0.length c0] w fun e w' => e = .returned (.int .i64 r) ∧ Drawn0 w w' := by
  have HR0 := Aside0.mk hr0
  have HC0 := Aside0.mk hc0
  clear hr0 hc0
  have H : (spec_l3Most.l0 k l0 0 0) = some r := h
  clear h
  have H' := Aside0.mk H
  clear H
  go_enter Try.func62, Try.ntmps62
  go_wp2
  go_loopg [3, 4] k (fun kq v3 v4 w' => ∃ (x3_1 : Int) (x4_1 : Int), v3 = .int .i64 x3_1 ∧ v4 = .int .i64 x4_1 ∧ Aside0 (spec_l3Most.l0 kq l0 x3_1 x4_1 = some r) ∧ Aside0 (kq ≤ k) ∧ Drawn0 w w')
  case atStart => exact ⟨(0), (0), (by first | rfl | (simp; done) | (simp [*]; done)), (by first | rfl | (simp; done) | (simp [*]; done)), H', ⟨Nat.le_refl _⟩, by repeat (first | exact Drawn0.refl _ | apply Drawn0.step)⟩
  case round =>
    clear H'
    obtain ⟨x3_1, x4_1, rfl, rfl, HA, HK1, ⟨m1, rfl⟩⟩ := hrel
    cases gk with
    | zero => exact absurd HA.out (by simp [spec_l3Most.l0])
    | succ k1 =>
      have H := HA.out
      clear HA
      simp only [spec_l3Most.l0] at H
      by_cases c2 : x4_1 < (l0.length : Int)
      · rw [if_pos c2] at H
        have c2b0 : decide (x4_1 < (l0.length : Int)) = true := decide_eq_true c2
        clear c2
        by_cases c3 : 0 ≤ x4_1
        · rw [if_pos c3] at H
          have c3b0 : decide (0 ≤ x4_1) = true := decide_eq_true c3
          clear c3
          by_cases c4 : (rd l0 x4_1) > x3_1
          · rw [if_pos c4] at H
            have c4b0 : decide (x3_1 < (rd l0 x4_1)) = true := decide_eq_true c4
            clear c4
            have H' := Aside0.mk H
            clear H
            have p147 : 0 ≤ (x4_1 : Int) := of_decide_eq_true (by first | (with_reducible assumption) | assumption)
            have q147 : x4_1 < (l0.length : Int) := of_decide_eq_true (by first | (with_reducible assumption) | assumption)
            obtain ⟨ad147, e147, hx147_0⟩ := Kd.at_int HR0.out x4_1 p147 q147
            cases e147
            replace p147 := eq_true p147
            replace q147 := eq_true q147
            have p148 : 0 ≤ (x4_1 : Int) := of_decide_eq_true (by first | (with_reducible assumption) | assumption)
            have q148 : x4_1 < (l0.length : Int) := of_decide_eq_true (by first | (with_reducible assumption) | assumption)
            obtain ⟨ad148, e148, hx148_0⟩ := Kd.at_int HR0.out x4_1 p148 q148
            obtain rfl : ad147 = ad148 := (by injection e148)
            replace p148 := eq_true p148
            replace q148 := eq_true q148
            go_wp2
            go_roundg k1
            case measure => have := HK1.out; omega
            case rel => exact ⟨(rd l0 x4_1), (wrap64 (x4_1 + 1)), (by first | rfl | (simp; done) | (simp [*]; done)), (by first | rfl | (simp; done) | (simp [*]; done)), H', ⟨by have := HK1.out; omega⟩, by repeat (first | exact Drawn0.refl _ | apply Drawn0.step)⟩
          · rw [if_neg c4] at H
            have c4b0 : decide (x3_1 < (rd l0 x4_1)) = false := decide_eq_false c4
            clear c4
            have H' := Aside0.mk H
            clear H
            have p147 : 0 ≤ (x4_1 : Int) := of_decide_eq_true (by first | (with_reducible assumption) | assumption)
            have q147 : x4_1 < (l0.length : Int) := of_decide_eq_true (by first | (with_reducible assumption) | assumption)
            obtain ⟨ad147, e147, hx147_0⟩ := Kd.at_int HR0.out x4_1 p147 q147
            cases e147
            replace p147 := eq_true p147
            replace q147 := eq_true q147
            go_wp2
            go_roundg k1
            case measure => have := HK1.out; omega
            case rel => exact ⟨(x3_1), (wrap64 (x4_1 + 1)), (by first | rfl | (simp; done) | (simp [*]; done)), (by first | rfl | (simp; done) | (simp [*]; done)), H', ⟨by have := HK1.out; omega⟩, by repeat (first | exact Drawn0.refl _ | apply Drawn0.step)⟩
        · rw [if_neg c3] at H
          exact absurd H (by simp)
      · rw [if_neg c2] at H
        have c2b0 : decide (x4_1 < (l0.length : Int)) = false := decide_eq_false c2
        clear c2
        obtain rfl := Option.some.inj H
        go_wp2
        go_ret
        exact ⟨by first | rfl | (simp; done) | (simp [*]; done), by repeat (first | exact Drawn0.refl _ | apply Drawn0.step)⟩

/-! ### spec_l3Fit: function 38 -/
mutual
def spec_l3Fit.l0 : Nat → Int → List Int → List Int → Option (List Int)
  | 0, _, _, _ => none
  | k + 1, x1, x5, x6 => (spec_l3Most.f k x6).bind fun t158 => (if t158 > x1 then (spec_l3Fit.l1 k x1 x5 0) else (some x6))
def spec_l3Fit.l1 : Nat → Int → List Int → Int → Option (List Int)
  | 0, _, _, _ => none
  | k + 1, x1, x5, x7 => if x7 < (x5.length : Int) then (if 0 ≤ x7 then (spec_l3Fit.l1 k x1 (x5.set (x7 : Int).toNat (wrap64 (Int.tdiv (wrap64 ((rd x5 x7) + 1)) 2))) (wrap64 (x7 + 1))) else (none)) else ((spec_l3Tree.f x5).bind fun t161 => (spec_l3Fit.l0 k x1 x5 t161))
end
def spec_l3Fit.f (k : Nat) (l0 : List Int) (a1 : Int) : Option (List Int) := (some (([] : List Int) : List Int)).bind fun y149 => (if y149.length + l0.length < 17592186044416 then ((some (y149 ++ l0 : List Int)).bind fun y152 => ((spec_l3Tree.f y152).bind fun t155 => (spec_l3Fit.l0 k a1 y152 t155))) else (none))
theorem spec_l3Fit.mono_l : ∀ k, (∀ y0 y1 y2, LeO (spec_l3Fit.l0 k y0 y1 y2) (spec_l3Fit.l0 (k + 1) y0 y1 y2)) ∧ (∀ y0 y1 y2, LeO (spec_l3Fit.l1 k y0 y1 y2) (spec_l3Fit.l1 (k + 1) y0 y1 y2))
  | 0 => ⟨fun _ _ _ r h => by simp [spec_l3Fit.l0] at h, fun _ _ _ r h => by simp [spec_l3Fit.l1] at h⟩
  | k + 1 => by
    obtain ⟨ih0, ih1⟩ := spec_l3Fit.mono_l k
    refine ⟨?_, ?_⟩
    · intro y0 y1 y2
      unfold spec_l3Fit.l0
      repeat' first
      | (with_reducible exact ih0 _ _ _)
      | (with_reducible exact ih1 _ _ _)
      | (with_reducible exact spec_l3Most.mono _ _)
      | (with_reducible exact LeO.refl _)
      | (with_reducible exact LeO.none _)
      | (with_reducible refine LeO.ite ?_ ?_)
      | (with_reducible refine LeO.bind ?_ (fun _ => ?_))
      | exact ih0 _ _ _
      | exact ih1 _ _ _
      | exact spec_l3Most.mono _ _
      | exact LeO.none _
      | refine LeO.ite ?_ ?_
      | refine LeO.bind ?_ (fun _ => ?_)
    · intro y0 y1 y2
      unfold spec_l3Fit.l1
      repeat' first
      | (with_reducible exact ih0 _ _ _)
      | (with_reducible exact ih1 _ _ _)
      | (with_reducible exact spec_l3Most.mono _ _)
      | (with_reducible exact LeO.refl _)
      | (with_reducible exact LeO.none _)
      | (with_reducible refine LeO.ite ?_ ?_)
      | (with_reducible refine LeO.bind ?_ (fun _ => ?_))
      | exact ih0 _ _ _
      | exact ih1 _ _ _
      | exact spec_l3Most.mono _ _
      | exact LeO.none _
      | refine LeO.ite ?_ ?_
      | refine LeO.bind ?_ (fun _ => ?_)
theorem spec_l3Fit.mono : ∀ a0 a1 k, LeO (spec_l3Fit.f k a0 a1) (spec_l3Fit.f (k + 1) a0 a1) := by
  intro a0 a1 k
  obtain ⟨ih0, ih1⟩ := spec_l3Fit.mono_l k
  unfold spec_l3Fit.f
  repeat' first
      | (with_reducible exact ih0 _ _ _)
      | (with_reducible exact ih1 _ _ _)
      | (with_reducible exact spec_l3Most.mono _ _)
      | (with_reducible exact LeO.refl _)
      | (with_reducible exact LeO.none _)
      | (with_reducible refine LeO.ite ?_ ?_)
      | (with_reducible refine LeO.bind ?_ (fun _ => ?_))
      | exact ih0 _ _ _
      | exact ih1 _ _ _
      | exact spec_l3Most.mono _ _
      | exact LeO.none _
      | refine LeO.ite ?_ ?_
      | refine LeO.bind ?_ (fun _ => ?_)
set_option maxHeartbeats 8000000 in
set_option maxRecDepth 100000 in
theorem spec_l3Fit.calls (k : Nat) (A0 : Option Addr) (c0 : Nat) (l0 : List Int) (a1 : Int) (r : List Int) (w : World) (hr0 : Kd.C (Kd.int .i64) w A0 l0.length l0) (hc0 : l0.length ≤ c0) (h : spec_l3Fit.f k l0 a1 = some r) :
    Calls Try.prog 38 #[.slice A0 l0.length c0, .int .i64 a1] w fun e w' => ∃ v0_ : Value, e = .returned (v0_) ∧ Kd.R (Kd.int .i64) 3 w' w.heap.size (fun _ => True) v0_ r ∧ Below w.heap.size w w' := by
  have HR0 := Aside0.mk hr0
  have HC0 := Aside0.mk hc0
  clear hr0 hc0
  have HB := Aside0.mk (Below.refl w.heap.size w)
  have H : ((some (([] : List Int) : List Int)).bind fun y149 => (if y149.length + l0.length < 17592186044416 then ((some (y149 ++ l0 : List Int)).bind fun y152 => ((spec_l3Tree.f y152).bind fun t155 => (spec_l3Fit.l0 k a1 y152 t155))) else (none))) = some r := h
  clear h
  obtain ⟨y149, hy149⟩ : ∃ y_ : List Int, y_ = (([] : List Int)) := ⟨_, rfl⟩
  replace H : (if y149.length + l0.length < 17592186044416 then ((some (y149 ++ l0 : List Int)).bind fun y152 => ((spec_l3Tree.f y152).bind fun t155 => (spec_l3Fit.l0 k a1 y152 t155))) else (none)) = some r := by first | (rw [hy149]; with_reducible exact H) | (have H2_ := (Option.bind_some _ _).symm.trans H; rw [hy149]; with_reducible exact H2_) | (have H2_ := (Option.bind_some _ _).symm.trans H; with_reducible exact H2_) | with_reducible exact H | (rw [hy149]; exact H) | exact H
  have Ny149 := Aside0.mk hy149
  clear hy149
  by_cases c3 : y149.length + l0.length < 17592186044416
  · rw [if_pos c3] at H
    have LMc3 := Aside0.mk c3
    clear c3
    obtain ⟨y152, hy152⟩ : ∃ y_ : List Int, y_ = (y149 ++ l0) := ⟨_, rfl⟩
    replace H : ((spec_l3Tree.f y152).bind fun t155 => (spec_l3Fit.l0 k a1 y152 t155)) = some r := by first | (rw [hy152]; with_reducible exact H) | (have H2_ := (Option.bind_some _ _).symm.trans H; rw [hy152]; with_reducible exact H2_) | (have H2_ := (Option.bind_some _ _).symm.trans H; with_reducible exact H2_) | with_reducible exact H | (rw [hy152]; exact H) | exact H
    have Ny152 := Aside0.mk hy152
    clear hy152
    replace H := Option.bind_eq_some_iff.mp H
    obtain ⟨t155, A40, H⟩ := H
    replace H : (spec_l3Fit.l0 k a1 y152 t155) = some r := H
    have A4 := Aside0.mk A40
    clear A40
    have H' := Aside0.mk H
    clear H
    go_enter Try.func38, Try.ntmps38
    go_wp2_with (first | ((with_reducible refine gate_dst (N := 8) rfl ?_); refine Kd.R_lit (Kd.int .i64) _ 3 ?hg (N := 8) ?hd (xs := ([] : List Int)) (inner := []) (ok := fun _ => True) (okp := fun _ => True) ?hr ?hp (fun _ hk => hk) trivial (Below.refl _ _) (Nat.le_refl _) (by simp) ?_; (case hd => rfl); (case hg => rfl); (case hr => first | (go_simp; done) | (go_simp; rfl)); (case hp => exact (Reps.none _ _)); intro v150 w5 ho6 hb hg_ hnew_; clear hg_ hnew_; (first | rw [← Ny149.out] at ho6 | (simp only [Int.reduceToNat] at ho6; rw [← Ny149.out] at ho6)); have n0_ := Aside0.mk (Kd.R_lower ho6 (below_size (by repeat (first | (with_reducible first | exact HB.out | apply below_alloc | apply pw_below_drewN | apply below_drew1) | exact HB.out)))); have n1_ := Aside0.mk (below_step (by repeat (first | (with_reducible first | exact HB.out | apply below_alloc | apply pw_below_drewN | apply below_drew1) | exact HB.out)) hb); clear HB; have HO151 := n0_; have HB := n1_; clear n0_ n1_; clear hb ho6) | ((with_reducible refine gate_builtin (b := .append) (xs := #[.tmp 8, .tmp 9]) rfl ?_); at_builtin; refine Kd.R_append_rows (Kd.int .i64) (w0 := w) w.heap.size rfl (.tmp 8) (.tmp 9) 22 3 (.int .i64 0) 8 rfl Try.underlying22 info3 rfl (by decide) (by omega) v150 y149 l0 _ _ _ (fun _ => True) (fun _ => False) rfl rfl ?aO ?aR (fun _ _ h => h) (fun _ h => h.elim) ?aF ?aB ?aS ?aL ?_; (case aR => repeat (first | exact (Kd.C_below HR0.out HB.out) | (with_reducible refine Kd.C_alloc ?_ _) | (with_reducible refine Kd.C_drewN ?_ _) | (with_reducible refine Kd.C_drew ?_))); (case aB => exact (by repeat (first | (with_reducible first | exact HB.out | apply below_alloc | apply pw_below_drewN | apply below_drew1) | exact HB.out))); (case aF => exact (fun _ _ => trivial)); (case aO => exact (by (with_reducible repeat (first | apply Kd.R_alloc | apply Kd.R_drewN | apply Kd.R_drew)); exact HO151.out)); (case aS => exact (below_size (by repeat (first | (with_reducible first | exact HB.out | apply below_alloc | apply pw_below_drewN | apply below_drew1) | exact HB.out)))); (case aL => have := LMc3.out; omega); intro v153 w7 ho hb hg hat; rw [← Ny152.out] at ho; have n0_ := Aside0.mk (hb); have n1_ := Aside0.mk (ho); clear HB; clear HO151; have HB := n0_; have HO154 := n1_; clear n0_ n1_; clear ho hb hg hat; obtain ⟨Ao8, co8, eo8⟩ := Kd.R_slice HO154.out; subst eo8) | ((with_reducible refine gate_callee (f := 61) rfl ?_); refine goesL_ (some 12) rfl rfl Try.func61 (by kernel_rfl) rfl #[.slice Ao8 y152.length co8] rfl (by (try simp only [List.map_toArray, List.map_cons, List.map_nil]); first | done | rfl | (simp only [List.length_drop, List.length_take]; rfl)) ?_; (with_reducible refine (spec_l3Tree.calls _ _ y152 t155 _ ?side1 ?side2 A4.out).mono ?_); (case side1 => repeat (first | exact (Kd.R_reads' HO154.out).2.2 | (with_reducible refine Kd.C_alloc ?_ _) | (with_reducible refine Kd.C_drewN ?_ _) | (with_reducible refine Kd.C_drew ?_))); (case side2 => exact (Kd.R_reads' HO154.out).2.1); rintro e w9 ⟨v156, rfl, ho0, hb⟩; refine ⟨_, rfl, ?_⟩; have n0_ := Aside0.mk (Kd.R_elder' (by (with_reducible repeat (first | apply Kd.R_alloc | apply Kd.R_drewN | apply Kd.R_drew)); exact HO154.out) (Kd.R_base ho0) hb); have n1_ := Aside0.mk (Kd.R_lower (Kd.R_new' ho0 (Kd.R_lt (by (with_reducible repeat (first | apply Kd.R_alloc | apply Kd.R_drewN | apply Kd.R_drew)); exact HO154.out))) (below_size (by repeat (first | (with_reducible first | exact HB.out | apply below_alloc | apply pw_below_drewN | apply below_drew1) | exact HB.out)))); have n2_ := Aside0.mk (below_step (by repeat (first | (with_reducible first | exact HB.out | apply below_alloc | apply pw_below_drewN | apply below_drew1) | exact HB.out)) hb); clear HO154; clear HB; have HO154 := n0_; have HO157 := n1_; have HB := n2_; clear n0_ n1_ n2_; (try clear hb); (try clear hb2); (try clear hk); (try clear hi); (try clear ho0)))
    go_loopg [6] k (fun kq v6 w' => ∃ (x5_1 : List Int) (x6_1 : List Int), Aside0 (spec_l3Fit.l0 kq a1 x5_1 x6_1 = some r) ∧ Aside0 (kq ≤ k) ∧ Aside0 (Kd.R (Kd.int .i64) 3 w' w.heap.size (fun k_ => some k_ ≠ (v6 : Value).ownBlock) (.slice Ao8 y152.length co8) x5_1) ∧ Aside0 (Kd.R (Kd.int .i64) 3 w' w.heap.size (fun k_ => some k_ ≠ ((.slice Ao8 y152.length co8) : Value).ownBlock) v6 x6_1) ∧ Aside0 (Below w.heap.size w w'))
    case atStart => exact ⟨(y152), (t155), H', ⟨Nat.le_refl _⟩, ⟨by (with_reducible repeat (first | apply Kd.R_alloc | apply Kd.R_drewN | apply Kd.R_drew)); exact Kd.R_mono HO154.out (fun _ hk => hk.2)⟩, ⟨by (with_reducible repeat (first | apply Kd.R_alloc | apply Kd.R_drewN | apply Kd.R_drew)); exact Kd.R_mono HO157.out (fun _ hk => hk.2)⟩, ⟨by repeat (first | (with_reducible first | exact HB.out | apply below_alloc | apply pw_below_drewN | apply below_drew1) | exact HB.out)⟩⟩
    case round =>
      clear H'
      try clear p2
      try clear c3
      try clear c6
      obtain ⟨x5_1, x6_1, HA, HK1, HO_5, HO_6, HB⟩ := hrel
      have hl5_1 := (Kd.R_reads' HO_5.out).1
      rw [hl5_1] at HO_5
      (try simp only [hl5_1])
      (try simp only [hl5_1] at HO_6)
      cases gk with
      | zero => exact absurd HA.out (by simp [spec_l3Fit.l0])
      | succ k1 =>
        have H := HA.out
        clear HA
        simp only [spec_l3Fit.l0] at H
        replace H := Option.bind_eq_some_iff.mp H
        obtain ⟨t158, A100, H⟩ := H
        replace H : (if t158 > a1 then (spec_l3Fit.l1 k1 a1 x5_1 0) else (some x6_1)) = some r := H
        have A10 := Aside0.mk A100
        clear A100
        by_cases c11 : t158 > a1
        · rw [if_pos c11] at H
          have c11b0 : decide (a1 < t158) = true := decide_eq_true c11
          clear c11
          have H' := Aside0.mk H
          clear H
          obtain ⟨Ao12, co12, eo12⟩ := Kd.R_slice HO_6.out
          subst eo12
          go_wp2_with (first | ((with_reducible refine gate_callee (f := 62) rfl ?_); refine goesL_ (some 14) rfl rfl Try.func62 (by kernel_rfl) rfl #[.slice Ao12 x6_1.length co12] rfl (by (try simp only [List.map_toArray, List.map_cons, List.map_nil]); first | done | rfl | (simp only [List.length_drop, List.length_take]; rfl)) ?_; (with_reducible refine (spec_l3Most.calls k1 _ _ x6_1 t158 _ ?side1 ?side2 A10.out).mono ?_); (case side1 => repeat (first | exact (Kd.R_reads' HO_6.out).2.2 | (with_reducible refine Kd.C_alloc ?_ _) | (with_reducible refine Kd.C_drewN ?_ _) | (with_reducible refine Kd.C_drew ?_))); (case side2 => exact (Kd.R_reads' HO_6.out).2.1); rintro e w' ⟨rfl, ⟨nd, rfl⟩⟩; refine ⟨_, rfl, ?_⟩))
          go_loopg [7] k1 (fun kq v7 w' => ∃ (x5_2 : List Int) (x7_2 : Int), v7 = .int .i64 x7_2 ∧ Aside0 (spec_l3Fit.l1 kq a1 x5_2 x7_2 = some r) ∧ Aside0 (kq ≤ k1) ∧ Aside0 (Kd.R (Kd.int .i64) 3 w' w.heap.size (fun _ => True) (.slice Ao8 x5_1.length co8) x5_2) ∧ Aside0 (Below w.heap.size w w'))
          case atStart => exact ⟨(x5_1), (0), (by first | rfl | (simp; done) | (simp [*]; done)), H', ⟨Nat.le_refl _⟩, ⟨by (try simp only [hl5_1]); (with_reducible repeat (first | apply Kd.R_alloc | apply Kd.R_drewN | apply Kd.R_drew)); exact Kd.R_mono HO_5.out (fun _ hk => trivial)⟩, ⟨by repeat (first | (with_reducible first | exact HB.out | apply below_alloc | apply pw_below_drewN | apply below_drew1) | exact HB.out)⟩⟩
          case round =>
            clear H'
            try clear c1
            try clear p2
            try clear c3
            try clear c6
            try clear c11
            try clear c11b0
            try clear p2
            obtain ⟨x5_2, x7_2, rfl, HA, HK2, HO_5, HB⟩ := hrel
            have hl5_2 := (Kd.R_reads' HO_5.out).1
            rw [hl5_2] at HO_5
            (try simp only [hl5_2])
            cases gk with
            | zero => exact absurd HA.out (by simp [spec_l3Fit.l1])
            | succ k2 =>
              have H := HA.out
              clear HA
              simp only [spec_l3Fit.l1] at H
              by_cases c13 : x7_2 < (x5_2.length : Int)
              · rw [if_pos c13] at H
                have c13b0 : decide (x7_2 < (x5_2.length : Int)) = true := decide_eq_true c13
                clear c13
                by_cases c14 : 0 ≤ x7_2
                · rw [if_pos c14] at H
                  have c14b0 : decide (0 ≤ x7_2) = true := decide_eq_true c14
                  clear c14
                  obtain ⟨y160, hy160⟩ : ∃ y_ : List Int, y_ = (x5_2.set (x7_2 : Int).toNat (wrap64 (Int.tdiv (wrap64 ((rd x5_2 x7_2) + 1)) 2))) := ⟨_, rfl⟩
                  replace H : (spec_l3Fit.l1 k2 a1 y160 (wrap64 (x7_2 + 1))) = some r := by first | (rw [hy160]; with_reducible exact H) | (have H2_ := (Option.bind_some _ _).symm.trans H; rw [hy160]; with_reducible exact H2_) | (have H2_ := (Option.bind_some _ _).symm.trans H; with_reducible exact H2_) | with_reducible exact H | (rw [hy160]; exact H) | exact H
                  have Ny160 := Aside0.mk hy160
                  clear hy160
                  have H' := Aside0.mk H
                  clear H
                  have p159 : 0 ≤ (x7_2 : Int) := of_decide_eq_true (by first | (with_reducible assumption) | assumption)
                  have q159 : x7_2 < (x5_2.length : Int) := of_decide_eq_true (by first | (with_reducible assumption) | assumption)
                  obtain ⟨ad159, e159, hx159_0⟩ := Kd.at_int (Kd.R_reads' HO_5.out).2.2 x7_2 p159 q159
                  cases e159
                  replace p159 := eq_true p159
                  replace q159 := eq_true q159
                  have p15 : 0 ≤ (x7_2 : Int) := of_decide_eq_true (by first | (with_reducible assumption) | assumption)
                  have q15 : (x7_2 : Int) < ((x5_2.length : Int) : Int) := of_decide_eq_true (by first | (with_reducible assumption) | assumption)
                  obtain ⟨go15, co15, eo15, gb15, gl15, cl15, HG15⟩ := Kd.R_form HO_5.out (by omega)
                  (first | cases eo15 | (injection eo15 with ea_ en_ ec_; (first | subst ea_ | (injection ea_ with ea_; subst ea_)); subst ec_; clear en_))
                  have GB15 := Aside0.mk gb15
                  have GG15 := Aside0.mk HG15
                  clear gb15 gl15 HG15
                  (first | simp only [add_plain] at hx159_0 | skip)
                  obtain ⟨hx15_0, hf15_0⟩ := Kd.R_celln 0 HO_5.out (x7_2 : Int) p15 q15
                  replace p15 := eq_true p15
                  replace q15 := eq_true q15
                  have HP16 := Kd.R_putg HO_5.out (x7_2 : Int) (wrap64 (Int.tdiv (wrap64 ((rd x5_2 x7_2) + 1)) 2))
                  go_wp2_with (first | ((with_reducible refine gate_store (t := 3) (p := 31) rfl ?_); refine store_event (t := 3) (p := 31) (v := ?vo_w17) (w1 := (wr.setCell ⟨go15, (x7_2 : Int).toNat, none⟩ (.int .i64 (wrap64 (Int.tdiv (wrap64 ((rd x5_2 x7_2) + 1)) 2))))) ?hg ?ho ?hn ?hr ?_; (case ho => rfl); (case hg => rfl); (case hn => rfl); (case hr => first | (go_simp; done) | (go_simp; rfl)); intro w17 hw; have hg : wr.grownBy w17 (some go15) := (by rw [hw]; exact HP16.2); have hp_ : Kd.R (Kd.int .i64) 3 w17 w.heap.size (fun _ => True) (.slice (some ⟨go15, 0, none⟩) x5_2.length co8) y160 := (by rw [hw, Ny160.out]; exact HP16.1); clear HP16; have n0_ := Aside0.mk (hp_); have n1_ := Aside0.mk ((by rw [hw]; exact below_set (HB.out) GB15.out : Below w.heap.size w w17)); clear HO_5; clear HB; have HO_5 := n0_; have HB := n1_; clear n0_ n1_; clear hg hw hp_))
                  (try simp only [← hl5_2])
                  go_roundg k2
                  case measure => have := HK1.out; have := HK2.out; omega
                  case rel => exact ⟨(y160), (wrap64 (x7_2 + 1)), (by first | rfl | (simp; done) | (simp [*]; done)), H', ⟨by have := HK1.out; have := HK2.out; omega⟩, ⟨by (try simp only [hl5_1]); (try simp only [hl5_2]); (with_reducible repeat (first | apply Kd.R_alloc | apply Kd.R_drewN | apply Kd.R_drew)); exact HO_5.out⟩, ⟨by repeat (first | (with_reducible first | exact HB.out | apply below_alloc | apply pw_below_drewN | apply below_drew1) | exact HB.out)⟩⟩
                · rw [if_neg c14] at H
                  exact absurd H (by simp)
              · rw [if_neg c13] at H
                have c13b0 : decide (x7_2 < (x5_2.length : Int)) = false := decide_eq_false c13
                clear c13
                replace H := Option.bind_eq_some_iff.mp H
                obtain ⟨t161, A180, H⟩ := H
                replace H : (spec_l3Fit.l0 k2 a1 x5_2 t161) = some r := H
                have A18 := Aside0.mk A180
                clear A180
                have H' := Aside0.mk H
                clear H
                go_wp2_with (first | ((with_reducible refine gate_callee (f := 61) rfl ?_); refine goesL_ (some 33) rfl rfl Try.func61 (by kernel_rfl) rfl #[.slice Ao8 x5_2.length co8] rfl (by (try simp only [List.map_toArray, List.map_cons, List.map_nil]); first | done | rfl | (simp only [List.length_drop, List.length_take]; rfl)) ?_; (with_reducible refine (spec_l3Tree.calls _ _ x5_2 t161 _ ?side1 ?side2 A18.out).mono ?_); (case side1 => repeat (first | exact (Kd.R_reads' HO_5.out).2.2 | (with_reducible refine Kd.C_alloc ?_ _) | (with_reducible refine Kd.C_drewN ?_ _) | (with_reducible refine Kd.C_drew ?_))); (case side2 => exact (Kd.R_reads' HO_5.out).2.1); rintro e w19 ⟨v162, rfl, ho0, hb⟩; refine ⟨_, rfl, ?_⟩; have n0_ := Aside0.mk (Kd.R_elder' (by (with_reducible repeat (first | apply Kd.R_alloc | apply Kd.R_drewN | apply Kd.R_drew)); exact HO_5.out) (Kd.R_base ho0) hb); have n1_ := Aside0.mk (Kd.R_lower (Kd.R_new' ho0 (Kd.R_lt (by (with_reducible repeat (first | apply Kd.R_alloc | apply Kd.R_drewN | apply Kd.R_drew)); exact HO_5.out))) (below_size (by repeat (first | (with_reducible first | exact HB.out | apply below_alloc | apply pw_below_drewN | apply below_drew1) | exact HB.out)))); have n2_ := Aside0.mk (below_step (by repeat (first | (with_reducible first | exact HB.out | apply below_alloc | apply pw_below_drewN | apply below_drew1) | exact HB.out)) hb); clear HO_5; clear HB; have HO_5 := n0_; have HO163 := n1_; have HB := n2_; clear n0_ n1_ n2_; (try clear hb); (try clear hb2); (try clear hk); (try clear hi); (try clear ho0)))
                (try simp only [← hl5_1, ← hl5_2])
                go_roundg k2
                case measure => have := HK1.out; have := HK2.out; omega
                case rel => exact ⟨(x5_2), (t161), H', ⟨by have := HK1.out; have := HK2.out; omega⟩, ⟨by (try simp only [hl5_1]); (try simp only [hl5_2]); (with_reducible repeat (first | apply Kd.R_alloc | apply Kd.R_drewN | apply Kd.R_drew)); exact Kd.R_mono HO_5.out (fun _ hk => hk.2)⟩, ⟨by (try simp only [hl5_1]); (try simp only [hl5_2]); (with_reducible repeat (first | apply Kd.R_alloc | apply Kd.R_drewN | apply Kd.R_drew)); exact Kd.R_mono HO163.out (fun _ hk => hk.2)⟩, ⟨by repeat (first | (with_reducible first | exact HB.out | apply below_alloc | apply pw_below_drewN | apply below_drew1) | exact HB.out)⟩⟩
        · rw [if_neg c11] at H
          have c11b0 : decide (a1 < t158) = false := decide_eq_false c11
          clear c11
          obtain rfl := Option.some.inj H
          obtain ⟨Ao20, co20, eo20⟩ := Kd.R_slice HO_6.out
          subst eo20
          go_wp2_with (first | ((with_reducible refine gate_callee (f := 62) rfl ?_); refine goesL_ (some 14) rfl rfl Try.func62 (by kernel_rfl) rfl #[.slice Ao20 x6_1.length co20] rfl (by (try simp only [List.map_toArray, List.map_cons, List.map_nil]); first | done | rfl | (simp only [List.length_drop, List.length_take]; rfl)) ?_; (with_reducible refine (spec_l3Most.calls k1 _ _ x6_1 t158 _ ?side1 ?side2 A10.out).mono ?_); (case side1 => repeat (first | exact (Kd.R_reads' HO_6.out).2.2 | (with_reducible refine Kd.C_alloc ?_ _) | (with_reducible refine Kd.C_drewN ?_ _) | (with_reducible refine Kd.C_drew ?_))); (case side2 => exact (Kd.R_reads' HO_6.out).2.1); rintro e w' ⟨rfl, ⟨nd, rfl⟩⟩; refine ⟨_, rfl, ?_⟩))
          go_ret
          exact ⟨_, by first | rfl | (simp [errW_none, errW_some] <;> rfl) | (simp [*, errW_none, errW_some] <;> rfl), by (with_reducible repeat (first | apply Kd.R_alloc | apply Kd.R_drewN | apply Kd.R_drew)); exact Kd.R_mono HO_6.out (fun _ hk => trivial), by repeat (first | (with_reducible first | exact HB.out | apply below_alloc | apply pw_below_drewN | apply below_drew1) | exact HB.out)⟩
  · rw [if_neg c3] at H
    exact absurd H (by simp)

end Go.Proofs.Ytgajagocenffeaa.PFnCodeGet
