/- Plain lemmas: fewer numbers of packets are the first of more. No condition. -/
import Derived.Test.YtfladcffgblfdaaThRun
namespace Go.Proofs.Ytfladcffgblfdaa.Th
open Go.RowKit Go.Proofs.YtfladcffgblfdaaW.PrintWords Go.Proofs.YtfladcffgblfdaaW.PrintMore

theorem pkNeed_nn (s : ByteArray) (at_ size : Int) (hz : 1 ≤ size ∧ size ≤ 4) : 0 ≤ pkNeed (bt s at_) size ∧ 1 ≤ pkN (bt s at_) ∧ pkN (bt s at_) ≤ 128 := by
  have hb := bt_range s at_
  have h1 : 1 ≤ pkN (bt s at_) ∧ pkN (bt s at_) ≤ 128 := by unfold pkN; omega
  refine ⟨?_, h1⟩
  unfold pkNeed
  split
  · omega
  · exact (mul_le4 (n := pkN (bt s at_)) (by omega) hz).1
theorem runM_ext (s : ByteArray) (size count : Int) (hz : 1 ≤ size ∧ size ≤ 4) : ∀ (f : Nat) (at_ : Int) (out o : List Int) (e : Int), at_ ≤ s.size → (out.length : Int) ≤ count → count ≤ out.length + f → runM s size count f at_ out = (o, e, true) → (∃ z, o = out ++ z) ∧ at_ ≤ e ∧ e ≤ s.size ∧ (o.length : Int) = count := by
  intro f
  induction f with
  | zero =>
    intro at_ out o e h0 h1 h2 h
    simp only [runM, Prod.mk.injEq] at h
    obtain ⟨rfl, rfl, _⟩ := h
    exact ⟨⟨[], by simp⟩, by omega, h0, by omega⟩
  | succ f ih =>
    intro at_ out o e h0 h1 h2 h
    simp only [runM] at h
    by_cases c1 : (out.length : Int) < count
    · rw [if_pos c1] at h
      by_cases c2 : at_ < s.size
      · rw [if_pos c2] at h
        by_cases c3 : at_ + 1 + pkNeed (bt s at_) size ≤ s.size ∧ (out.length : Int) + pkN (bt s at_) ≤ count
        · rw [if_pos c3] at h
          have hn := pkNeed_nn s at_ size hz
          obtain ⟨⟨z, hz'⟩, h4, h5, h6⟩ := ih _ _ o e c3.1 (by rw [List.length_append, pkM_length]; omega) (by rw [List.length_append, pkM_length]; omega) h
          exact ⟨⟨_, by rw [hz', List.append_assoc]⟩, by omega, h5, h6⟩
        · rw [if_neg c3] at h; simp at h
      · rw [if_neg c2] at h; simp at h
    · rw [if_neg c1] at h
      simp only [Prod.mk.injEq] at h
      obtain ⟨rfl, rfl, _⟩ := h
      exact ⟨⟨[], by simp⟩, by omega, h0, by omega⟩
theorem runM_cut (s : ByteArray) (size c c' : Int) (hz : 1 ≤ size ∧ size ≤ 4) (hcc : c' ≤ c) : ∀ (f f' : Nat) (at_ : Int) (out o o' : List Int) (e e' : Int), at_ ≤ s.size → (out.length : Int) ≤ c' → c ≤ out.length + f → c' ≤ out.length + f' → runM s size c f at_ out = (o, e, true) → runM s size c' f' at_ out = (o', e', true) → o' = o.take c'.toNat ∧ e' ≤ e := by
  intro f
  induction f with
  | zero =>
    intro f' at_ out o o' e e' h0 h1 h2 h3 h h'
    have x := runM_ext s size c hz 0 at_ out o e h0 (by omega) h2 h
    have x' := runM_ext s size c' hz f' at_ out o' e' h0 h1 h3 h'
    have hcl : c = c' := by omega
    simp only [runM, Prod.mk.injEq] at h
    obtain ⟨rfl, rfl, _⟩ := h
    have he : runM s size c' f' at_ out = (out, at_, true) := by
      cases f' with
      | zero => rfl
      | succ f' => simp only [runM]; rw [if_neg (by omega)]
    rw [he] at h'
    simp only [Prod.mk.injEq] at h'
    obtain ⟨rfl, rfl, _⟩ := h'
    exact ⟨(List.take_of_length_le (by omega)).symm, by omega⟩
  | succ f ih =>
    intro f' at_ out o o' e e' h0 h1 h2 h3 h h'
    by_cases c1 : (out.length : Int) < c'
    · obtain ⟨g, rfl⟩ : ∃ g, f' = g + 1 := ⟨f' - 1, by omega⟩
      simp only [runM] at h h'
      rw [if_pos (by omega)] at h
      rw [if_pos c1] at h'
      by_cases c2 : at_ < s.size
      · rw [if_pos c2] at h h'
        by_cases c3 : at_ + 1 + pkNeed (bt s at_) size ≤ s.size ∧ (out.length : Int) + pkN (bt s at_) ≤ c'
        · rw [if_pos (by omega)] at h
          rw [if_pos c3] at h'
          have hn := pkNeed_nn s at_ size hz
          exact ih g _ _ o o' e e' c3.1 (by rw [List.length_append, pkM_length]; omega) (by rw [List.length_append, pkM_length]; omega) (by rw [List.length_append, pkM_length]; omega) h h'
        · rw [if_neg c3] at h'; simp at h'
      · rw [if_neg c2] at h; simp at h
    · have x := runM_ext s size c hz (f + 1) at_ out o e h0 (by omega) h2 h
      have he : runM s size c' f' at_ out = (out, at_, true) := by
        cases f' with
        | zero => rfl
        | succ f' => simp only [runM]; rw [if_neg (by omega)]
      rw [he] at h'
      simp only [Prod.mk.injEq] at h'
      obtain ⟨rfl, rfl, _⟩ := h'
      obtain ⟨⟨z, hz'⟩, h4, _⟩ := x
      refine ⟨?_, h4⟩
      rw [hz', List.take_append_of_le_length (by omega), List.take_of_length_le (by omega)]
theorem runGetM_cut (s : ByteArray) (at_ size c c' : Int) (h0 : 0 ≤ c') (hcc : c' ≤ c) (o o' : List Int) (e e' : Int) (h : runGetM s at_ size c = (o, e, true)) (h' : runGetM s at_ size c' = (o', e', true)) : o' = o.take c'.toNat ∧ e' ≤ e := by
  unfold runGetM at h h'
  by_cases k : runOk s at_ size c = true
  · by_cases k' : runOk s at_ size c' = true
    · rw [if_pos k] at h
      rw [if_pos k'] at h'
      have hk := of_decide_eq_true k
      exact runM_cut s size c c' hk.1 hcc c.toNat c'.toNat at_ [] o o' e e' hk.2.2.2.2 (by simpa using h0) (by simp; omega) (by simp; omega) h h'
    · rw [if_neg k'] at h'; simp at h'
  · rw [if_neg k] at h; simp at h
theorem runGetM_ok (s : ByteArray) (at_ size c : Int) (o : List Int) (e : Int) (h : runGetM s at_ size c = (o, e, true)) : (o.length : Int) = c ∧ e ≤ s.size ∧ 0 ≤ c ∧ c ≤ 1000 := by
  unfold runGetM at h
  by_cases k : runOk s at_ size c = true
  · rw [if_pos k] at h
    have hk := of_decide_eq_true k
    have x := runM_ext s size c hk.1 c.toNat at_ [] o e hk.2.2.2.2 (by simp; omega) (by simp; omega) h
    exact ⟨x.2.2.2, x.2.2.1, hk.2.1.1, hk.2.1.2⟩
  · rw [if_neg k] at h; simp at h
theorem runM_bad (s : ByteArray) (size count : Int) : ∀ (f : Nat) (at_ : Int) (out : List Int), (runM s size count f at_ out).2.2 = false → runM s size count f at_ out = ([], 0, false) := by
  intro f
  induction f with
  | zero => intro at_ out h; simp [runM] at h
  | succ f ih =>
    intro at_ out h
    simp only [runM] at h ⊢
    split
    · rename_i c1
      rw [if_pos c1] at h
      split
      · rename_i c2
        rw [if_pos c2] at h
        split
        · rename_i c3
          rw [if_pos c3] at h
          exact ih _ _ h
        · rfl
      · rfl
    · rename_i c1
      rw [if_neg c1] at h; simp at h
theorem runGetM_bad (s : ByteArray) (at_ size c : Int) (h : (runGetM s at_ size c).2.2 = false) : runGetM s at_ size c = ([], 0, false) := by
  unfold runGetM at h ⊢
  split
  · rename_i k; rw [if_pos k] at h; exact runM_bad _ _ _ _ _ _ h
  · rfl
end Go.Proofs.Ytfladcffgblfdaa.Th
