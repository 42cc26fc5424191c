/- Plain lemmas: the seven parts of a woven picture: each point is in just one. No condition. -/
import Derived.Test.YtpjkcdgamlllgaaThGen
namespace Go.Proofs.Ytpjkcdgamlllgaa.Th
open Go.RowKit Go.Proofs.YtpjkcdgamlllgaaW.PrintWords Go.Proofs.YtpjkcdgamlllgaaW.PrintMore

def Q7 : List (Nat × Nat × Nat × Nat) := [(0, 0, 8, 8), (4, 0, 8, 8), (0, 4, 4, 8), (2, 0, 4, 4), (0, 2, 2, 4), (1, 0, 2, 2), (0, 1, 1, 2)]
def cov (q : Nat × Nat × Nat × Nat) (x y : Nat) : Bool := decide (q.1 ≤ x ∧ (x - q.1) % q.2.2.1 = 0 ∧ q.2.1 ≤ y ∧ (y - q.2.1) % q.2.2.2 = 0)
def cnt (Q : List (Nat × Nat × Nat × Nat)) (x y : Nat) : Nat := (Q.filter fun q => cov q x y).length
set_option maxRecDepth 100000 in
theorem cover_all : ∀ x, x < 20 → ∀ y, y < 20 → cnt Q7 x y = 1 := by decide
theorem Q7_b : ∀ q ∈ Q7, q.1 ≤ 4 ∧ q.2.1 ≤ 4 ∧ (1 ≤ q.2.2.1 ∧ q.2.2.1 ≤ 8) ∧ (1 ≤ q.2.2.2 ∧ q.2.2.2 ≤ 8) := by decide
def keep (w h : Nat) (q : Nat × Nat × Nat × Nat) : Bool := decide (q.1 < w ∧ q.2.1 < h)
def many (n o d : Nat) : Nat := (n - o + d - 1) / d
theorem cnt_keep (w h : Nat) (Q : List (Nat × Nat × Nat × Nat)) {x y : Nat} (hx : x < w) (hy : y < h) : cnt (Q.filter (keep w h)) x y = cnt Q x y := by
  unfold cnt
  rw [List.filter_filter]
  congr 1
  refine List.filter_congr fun q _ => ?_
  by_cases c : cov q x y = true
  · have : keep w h q = true := by
      unfold cov at c; have := of_decide_eq_true c
      exact decide_eq_true ⟨by omega, by omega⟩
    rw [c, this]; rfl
  · rw [Bool.eq_false_iff.2 c]; simp
theorem set_genL (g : Nat → Nat → Int) {wide x y : Nat} (hx : x < wide) {high : Nat} (_hy : y < high) (v : Int) : (genL g wide high).set (y * wide + x) v = genL (fun a b => if a = x ∧ b = y then v else g a b) wide high := by
  refine List.ext_getElem (by rw [List.length_set, genL_length, genL_length]) fun i h1 h2 => ?_
  have hw : 0 < wide := by omega
  rw [genL_length] at h2
  have ha : i % wide < wide := Nat.mod_lt _ hw
  have hb : i / wide < high := by rw [Nat.div_lt_iff_lt_mul hw]; exact h2
  have hdm := Nat.div_add_mod i wide
  rw [Nat.mul_comm] at hdm
  have e : ((i / wide : Nat) : Int) * (wide : Int) + ((i % wide : Nat) : Int) = (i : Int) := by
    have h5 : ((i / wide * wide + i % wide : Nat) : Int) = (i : Int) := by rw [hdm]
    rw [← h5]; simp
  have r1 := rd_genL g ha hb
  have r2 := rd_genL (fun a b => if a = x ∧ b = y then v else g a b) ha hb
  rw [e] at r1 r2
  rw [rd_getElem (by rw [genL_length]; exact h2)] at r1 r2
  rw [List.getElem_set, r2]
  by_cases c : y * wide + x = i
  · have c1 : i % wide = x := by rw [← c, Nat.mul_comm, Nat.mul_add_mod]; exact Nat.mod_eq_of_lt hx
    have c2 : i / wide = y := by rw [← c, Nat.mul_comm, Nat.mul_add_div hw, Nat.div_eq_of_lt hx, Nat.add_zero]
    rw [if_pos c, if_pos ⟨c1, c2⟩]
  · rw [if_neg c]
    rw [if_neg (fun e9 => c (by rw [← e9.1, ← e9.2]; exact hdm))]
    exact r1
def num (q : Nat × Nat × Nat × Nat) (w x y : Nat) : Nat := (y - q.2.1) / q.2.2.2 * many w q.1 q.2.2.1 + (x - q.1) / q.2.2.1
def gk (g : Nat → Nat → Int) (q : Nat × Nat × Nat × Nat) (w k : Nat) (x y : Nat) : Int := g x y + if cov q x y = true ∧ num q w x y < k then 1 else 0
theorem many_b {n o d a : Nat} (hd : 1 ≤ d) (ho : o < n) (ha : a < many n o d) : o + a * d < n := by
  unfold many at ha
  have h1 := Nat.div_mul_le_self (n - o + d - 1) d
  have h2 : (a + 1) * d ≤ (n - o + d - 1) / d * d := Nat.mul_le_mul_right _ ha
  rw [Nat.succ_mul] at h2
  omega
theorem many_lt {n o d x : Nat} (hd : 1 ≤ d) (ho : o ≤ x) (hx : x < n) : (x - o) / d < many n o d := by
  unfold many
  rw [Nat.lt_div_iff_mul_lt hd]
  have := Nat.div_mul_le_self (x - o) d
  omega
theorem cov_eq {q : Nat × Nat × Nat × Nat} {x y : Nat} (hc : cov q x y = true) : x = q.1 + (x - q.1) / q.2.2.1 * q.2.2.1 ∧ y = q.2.1 + (y - q.2.1) / q.2.2.2 * q.2.2.2 := by
  unfold cov at hc
  obtain ⟨c1, c2, c3, c4⟩ := of_decide_eq_true hc
  have h1 := Nat.div_add_mod (x - q.1) q.2.2.1
  have h2 := Nat.div_add_mod (y - q.2.1) q.2.2.2
  rw [Nat.mul_comm, c2] at h1
  rw [Nat.mul_comm, c4] at h2
  omega
theorem cov_le {q : Nat × Nat × Nat × Nat} {x y : Nat} (hc : cov q x y = true) : q.1 ≤ x ∧ q.2.1 ≤ y := by
  unfold cov at hc
  obtain ⟨c1, -, c3, -⟩ := of_decide_eq_true hc
  exact ⟨c1, c3⟩
/-- The next point of a part. -/
theorem gk_step (g : Nat → Nat → Int) (q : Nat × Nat × Nat × Nat) (w h k : Nat) (hd : 1 ≤ q.2.2.1) (he : 1 ≤ q.2.2.2) (hq : q.1 < w) (hr : q.2.1 < h) (hk : k < many w q.1 q.2.2.1 * many h q.2.1 q.2.2.2) {x0 y0 : Nat} (hx : x0 = q.1 + k % many w q.1 q.2.2.1 * q.2.2.1) (hy : y0 = q.2.1 + k / many w q.1 q.2.2.1 * q.2.2.2) :
    (x0 < w ∧ y0 < h) ∧ gk g q w k x0 y0 = g x0 y0 ∧ genL (fun a b => if a = x0 ∧ b = y0 then gk g q w k x0 y0 + 1 else gk g q w k a b) w h = genL (gk g q w (k + 1)) w h := by
  have hpw : 0 < many w q.1 q.2.2.1 := by
    rcases Nat.eq_zero_or_pos (many w q.1 q.2.2.1) with e | e
    · rw [e] at hk; omega
    · exact e
  have hx0 : x0 < w := by rw [hx]; exact many_b hd hq (Nat.mod_lt _ hpw)
  have hy0 : y0 < h := by rw [hy]; exact many_b he hr (by rw [Nat.div_lt_iff_lt_mul hpw, Nat.mul_comm]; exact hk)
  have ea : (x0 - q.1) / q.2.2.1 = k % many w q.1 q.2.2.1 := by rw [hx, Nat.add_sub_cancel_left, Nat.mul_div_cancel _ (by omega)]
  have eb : (y0 - q.2.1) / q.2.2.2 = k / many w q.1 q.2.2.1 := by rw [hy, Nat.add_sub_cancel_left, Nat.mul_div_cancel _ (by omega)]
  have en : num q w x0 y0 = k := by
    unfold num
    rw [ea, eb]
    have := Nat.div_add_mod k (many w q.1 q.2.2.1)
    rw [Nat.mul_comm] at this
    exact this
  have ec : cov q x0 y0 = true := by
    unfold cov
    refine decide_eq_true ⟨by omega, ?_, by omega, ?_⟩
    · rw [hx, Nat.add_sub_cancel_left, Nat.mul_mod_left]
    · rw [hy, Nat.add_sub_cancel_left, Nat.mul_mod_left]
  have e0 : gk g q w k x0 y0 = g x0 y0 := by unfold gk; rw [if_neg (fun e => by rw [en] at e; omega), Int.add_zero]
  refine ⟨⟨hx0, hy0⟩, e0, genL_congr fun x y hxw hyh => ?_⟩
  by_cases c : x = x0 ∧ y = y0
  · rw [if_pos c, e0, c.1, c.2]
    unfold gk
    rw [if_pos ⟨ec, by rw [en]; omega⟩]
  · rw [if_neg c]
    unfold gk
    congr 1
    by_cases c1 : cov q x y = true
    · have hle := cov_le c1
      have hne : num q w x y ≠ k := by
        intro e
        have hlt := many_lt (n := w) hd hle.1 hxw
        have eq := cov_eq c1
        unfold num at e
        apply c
        have e1 : k % many w q.1 q.2.2.1 = (x - q.1) / q.2.2.1 := by rw [← e, Nat.mul_comm, Nat.mul_add_mod]; exact Nat.mod_eq_of_lt hlt
        have e2 : k / many w q.1 q.2.2.1 = (y - q.2.1) / q.2.2.2 := by rw [← e, Nat.mul_comm, Nat.mul_add_div hpw, Nat.div_eq_of_lt hlt, Nat.add_zero]
        rw [hx, hy, e1, e2]
        exact eq
      by_cases c2 : num q w x y < k
      · rw [if_pos ⟨c1, c2⟩, if_pos ⟨c1, by omega⟩]
      · rw [if_neg (fun e => c2 e.2), if_neg (fun e => by have := e.2; omega)]
    · rw [if_neg (fun e => c1 e.1), if_neg (fun e => c1 e.1)]
/-- All of a part. -/
theorem gk_all (g : Nat → Nat → Int) (q : Nat × Nat × Nat × Nat) (w h : Nat) (hd : 1 ≤ q.2.2.1) (he : 1 ≤ q.2.2.2) : genL (gk g q w (many w q.1 q.2.2.1 * many h q.2.1 q.2.2.2)) w h = genL (fun x y => g x y + if cov q x y = true then 1 else 0) w h := by
  refine genL_congr fun x y hx hy => ?_
  unfold gk
  congr 1
  by_cases c : cov q x y = true
  · have hle := cov_le c
    have a1 := many_lt (n := w) hd hle.1 hx
    have a2 := many_lt (n := h) he hle.2 hy
    have hn : num q w x y < many w q.1 q.2.2.1 * many h q.2.1 q.2.2.2 := by
     unfold num
     have h1 : ((y - q.2.1) / q.2.2.2 + 1) * many w q.1 q.2.2.1 ≤ many h q.2.1 q.2.2.2 * many w q.1 q.2.2.1 := Nat.mul_le_mul_right _ a2
     rw [Nat.succ_mul, Nat.mul_comm (many h q.2.1 q.2.2.2)] at h1
     omega
    rw [if_pos c, if_pos ⟨c, hn⟩]
  · rw [if_neg c, if_neg (fun e => c e.1)]
theorem cnt_snoc (Q : List (Nat × Nat × Nat × Nat)) (q : Nat × Nat × Nat × Nat) (x y : Nat) : (cnt (Q ++ [q]) x y : Int) = (cnt Q x y : Int) + if cov q x y = true then 1 else 0 := by
  unfold cnt
  rw [List.filter_append, List.length_append]
  by_cases c : cov q x y = true
  · rw [if_pos c]; simp [c]
  · rw [if_neg c]; simp [c]
end Go.Proofs.Ytpjkcdgamlllgaa.Th
