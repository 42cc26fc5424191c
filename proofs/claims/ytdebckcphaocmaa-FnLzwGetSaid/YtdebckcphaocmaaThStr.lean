/- Plain lemmas: texts as lists of their bytes, and back. No condition. -/
import Derived.Test.YtdebckcphaocmaaThBase
namespace Go.Proofs.Ytdebckcphaocmaa.Th
open Go.RowKit Go.Proofs.YtdebckcphaocmaaW.PrintWords Go.Proofs.YtdebckcphaocmaaW.PrintMore

theorem son_nil : strOfNums [] = (⟨#[]⟩ : ByteArray) := rfl
theorem son_append (xs ys : List Int) : strOfNums (xs ++ ys) = strOfNums xs ++ strOfNums ys := by
  have h : ∀ a b : ByteArray, a.data = b.data → a = b := fun a b e => by cases a; cases b; simp_all
  apply h
  simp [strOfNums, ByteArray.data_append]
def byteR (x : Int) : Prop := 0 ≤ x ∧ x ≤ 255
theorem bytesOf_son {xs : List Int} (h : ∀ x ∈ xs, 0 ≤ x ∧ x ≤ 255) : bytesOf (strOfNums xs) = xs := by
  unfold bytesOf strOfNums
  simp only [List.map_map]
  conv => rhs; rw [← List.map_id xs]
  apply List.map_congr_left
  intro x hx
  have := h x hx
  simp
  omega
theorem son_bytesOf (s : ByteArray) : strOfNums (bytesOf s) = s := by
  have h : ∀ a b : ByteArray, a.data = b.data → a = b := fun a b e => by cases a; cases b; simp_all
  apply h
  unfold bytesOf strOfNums
  simp only [List.map_map]
  rw [show ((fun n : Int => UInt8.ofNat n.toNat) ∘ fun b : UInt8 => (b.toNat : Int)) = id from ?_]
  · simp
  · funext b; simp
theorem bytesOf_b (s : ByteArray) : ∀ x ∈ bytesOf s, 0 ≤ x ∧ x ≤ 255 := by
  intro x hx
  unfold bytesOf at hx
  simp only [List.mem_map] at hx
  obtain ⟨b, _, rfl⟩ := hx
  have := b.toNat_lt
  omega
theorem bytesOf_inj {s t : ByteArray} (h : bytesOf s = bytesOf t) : s = t := by
  rw [← son_bytesOf s, ← son_bytesOf t, h]
theorem bytesOf_append (s t : ByteArray) : bytesOf (s ++ t) = bytesOf s ++ bytesOf t := by
  unfold bytesOf; simp [ByteArray.data_append]
theorem bytesOf_nil : bytesOf (⟨#[]⟩ : ByteArray) = [] := rfl
theorem bt_split {s : ByteArray} {pre suf : List Int} {x : Int} (h : bytesOf s = pre ++ x :: suf) {i : Int} (hi : i = (pre.length : Int)) : bt s i = x := by
  rw [← rd_bytesOf, h]; exact rd_at _ _ _ hi
theorem size_split {s : ByteArray} {pre suf : List Int} (h : bytesOf s = pre ++ suf) : s.size = pre.length + suf.length := by
  rw [← bytesOf_length, h, List.length_append]
theorem byte_loop (u : ByteArray) : ∀ (d i : Nat) (acc : List UInt8), u.size - i = d → ByteArray.toList.loop u i acc = acc.reverse ++ u.data.toList.drop i := by
  intro d
  induction d with
  | zero =>
    intro i acc hd
    have hs : u.data.toList.length = u.size := by rw [Array.length_toList]; rfl
    rw [ByteArray.toList.loop, if_neg (by omega), List.drop_eq_nil_of_le (by omega), List.append_nil]
  | succ d ih =>
    intro i acc hd
    have hs : u.data.toList.length = u.size := by rw [Array.length_toList]; rfl
    rw [ByteArray.toList.loop, if_pos (by omega), ih (i + 1) _ (by omega), List.drop_eq_getElem_cons (i := i) (by omega), List.reverse_cons, List.append_assoc]
    congr 1
    have hi : i < u.data.size := by show i < u.size; omega
    simp [ByteArray.get!, getElem!_pos u.data i hi]
theorem byte_toList (u : ByteArray) : u.toList = u.data.toList := by
  rw [ByteArray.toList, byte_loop u u.size 0 [] (by omega)]; rfl
theorem toList_inj {s t : ByteArray} : s.toList = t.toList ↔ s = t := by
  constructor
  · intro h
    have h2 : ∀ u : ByteArray, u.toList = u.data.toList := fun u => byte_toList u
    rw [h2, h2] at h
    cases s; cases t
    simp only [ByteArray.mk.injEq]
    exact Array.ext' h
  · rintro rfl; rfl
end Go.Proofs.Ytdebckcphaocmaa.Th
