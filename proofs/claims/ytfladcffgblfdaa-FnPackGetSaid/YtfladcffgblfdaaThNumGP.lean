/- Plain lemmas: a number put is the number got, and the other way. No condition. -/
import Derived.Test.YtfladcffgblfdaaThNum
import Derived.Test.YtfladcffgblfdaaThPut
namespace Go.Proofs.Ytfladcffgblfdaa.Th
open Go.RowKit Go.Proofs.YtfladcffgblfdaaW.PrintWords Go.Proofs.YtfladcffgblfdaaW.PrintMore

theorem bytesOf_extract (s : ByteArray) (a b : Nat) : bytesOf (s.extract a b) = ((bytesOf s).drop a).take (b - a) := by
  unfold bytesOf
  rw [ByteArray.data_extract, Array.toList_extract, List.extract_eq_take_drop, List.map_take, List.map_drop]
theorem take_rd (L : List Int) (a j : Nat) (h : a + j < L.length) : (L.drop a).take (j + 1) = (L.drop a).take j ++ [rd L ((a : Int) + j)] := by
  rw [List.take_succ_eq_append_getElem (by rw [List.length_drop]; omega), List.getElem_drop]
  congr 2
  unfold rd
  rw [show ((a : Int) + (j : Int)).toNat = a + j by omega, List.getD_eq_getElem?_getD, List.getElem?_eq_getElem h]
  rfl
/-- Where the i-th byte from the highest on stands. -/
def ixM (at_ size : Int) (big : Bool) (i : Int) : Int := if big = true then at_ + i else at_ + size - 1 - i
theorem P2_byte (i : Nat) : P2 (8 * (i + 1)) = P2 (8 * i) * 256 := by
  rw [show 8 * (i + 1) = 8 * i + 8 by omega, P2_add]; rfl
theorem div_byte (n : Int) (i : Nat) : n / P2 (8 * i) / 256 = n / P2 (8 * (i + 1)) := by
  rw [Int.ediv_ediv_of_nonneg (by have := P2_pos (8 * i); omega), P2_byte]
/-- What stands there as the number's bytes is the number. -/
theorem numM_of (s : ByteArray) (at_ : Int) (size : Nat) (big : Bool) (n : Int) (hn : 0 ≤ n) (hn2 : n < P2 (8 * size)) (hb : ∀ i : Nat, i < size → bt s (ixM at_ size big i) = n / P2 (8 * (size - 1 - i)) % 256) : ∀ i : Nat, i ≤ size → numM s at_ size big i = n / P2 (8 * (size - i)) := by
  intro i
  induction i with
  | zero => intro _; simp only [numM]; exact (Int.ediv_eq_zero_of_lt hn hn2).symm
  | succ i ih =>
    intro hi
    have h1 := hb i (by omega)
    unfold ixM at h1
    simp only [numM]
    rw [ih (by omega), h1, show size - i = (size - 1 - i) + 1 by omega, ← div_byte, show size - (i + 1) = size - 1 - i by omega]
    omega
theorem numM_shift (s : ByteArray) (at_ size : Int) (big : Bool) (i : Nat) : ∀ j : Nat, numM s at_ size big (i + j) / P2 (8 * j) = numM s at_ size big i := by
  intro j
  induction j with
  | zero => simp [P2]
  | succ j ih =>
    have h := bt_range s (if big = true then at_ + ((i + j : Nat) : Int) else at_ + size - 1 - ((i + j : Nat) : Int))
    rw [P2_byte, Int.mul_comm, ← Int.ediv_ediv_of_nonneg (by omega), show i + (j + 1) = (i + j) + 1 by omega]
    simp only [numM]
    rw [show (256 * numM s at_ size big (i + j) + bt s (if big = true then at_ + ((i + j : Nat) : Int) else at_ + size - 1 - ((i + j : Nat) : Int))) / 256 = numM s at_ size big (i + j) by omega]
    exact ih
theorem bytesLo_get (n : Int) (size : Nat) : ∀ j : Nat, j < size → (bytesLo n size)[j]? = some (n / P2 (8 * j) % 256) := by
  induction size with
  | zero => intro j h; omega
  | succ i ih =>
    intro j h
    have hl := bytesLo_length n i
    simp only [bytesLo]
    by_cases e : j = i
    · rw [List.getElem?_append_right (by omega), hl, e]; simp
    · rw [List.getElem?_append_left (by omega)]; exact ih j (by omega)
theorem byte_of_num (s : ByteArray) (at_ : Int) (size : Nat) (big : Bool) (j : Nat) (hj : j < size) : numM s at_ size big size / P2 (8 * j) % 256 = bt s (ixM at_ size big ((size - 1 - j : Nat) : Int)) := by
  have h1 := numM_shift s at_ size big (size - j) j
  rw [show size - j + j = size by omega] at h1
  have hb := bt_range s (if big = true then at_ + ((size - 1 - j : Nat) : Int) else at_ + size - 1 - ((size - 1 - j : Nat) : Int))
  rw [h1, show size - j = (size - 1 - j) + 1 by omega]
  simp only [numM]
  unfold ixM
  omega
theorem bytes_cut (s : ByteArray) (a n : Nat) (h : a + n ≤ s.size) (j : Nat) (hj : j < n) : (((bytesOf s).drop a).take n)[j]? = some (bt s ((a + j : Nat) : Int)) := by
  have hl := bytesOf_length s
  have e : (((bytesOf s).drop a).take n)[j]? = (bytesOf s)[a + j]? := by
    rw [List.getElem?_take, if_pos hj, List.getElem?_drop]
  have hr := rd_bytesOf s ((a + j : Nat) : Int)
  rw [e, ← hr]
  unfold rd
  rw [Int.toNat_natCast, List.getD_eq_getElem?_getD, List.getElem?_eq_getElem (by omega)]
  rfl
/-- A number got and put again is what stands there. -/
theorem put_get (s : ByteArray) (at_ : Nat) (size : Nat) (big : Bool) (h : at_ + size ≤ s.size) : numPutM (numM s at_ size big size) size big = s.extract at_ (at_ + size) := by
  apply bytesOf_inj
  have hl := bytesOf_length s
  have hL := bytesLo_length (numM s at_ size big size) size
  rw [bytesOf_extract, show at_ + size - at_ = size by omega]
  unfold numPutM
  rw [bytesOf_son (by
    intro x hx
    have hx2 : x ∈ bytesLo (numM s at_ size big size) size := by cases big <;> simpa using hx
    exact bytesLo_b _ _ x hx2)]
  apply List.ext_getElem?
  intro j
  by_cases hj : j < size
  · rw [bytes_cut s at_ size h j hj]
    cases big with
    | false =>
      rw [if_neg (by decide), bytesLo_get _ _ j hj, byte_of_num s at_ size false j hj]
      congr 2
      unfold ixM
      rw [if_neg (by decide)]
      omega
    | true =>
      rw [if_pos rfl, List.getElem?_reverse (by omega), hL, bytesLo_get _ _ _ (by omega), byte_of_num s at_ size true _ (by omega)]
      congr 2
      unfold ixM
      rw [if_pos rfl]
      omega
  · rw [List.getElem?_eq_none (by cases big <;> simp <;> omega), List.getElem?_eq_none (by rw [List.length_take, List.length_drop]; omega)]
/-- The bytes of a number, put. -/
theorem bt_put (n : Int) (size : Nat) (big : Bool) (j : Nat) (hj : j < size) : bt (numPutM n size big) (j : Int) = n / P2 (8 * (if big = true then size - 1 - j else j)) % 256 := by
  have hL := bytesLo_length n size
  rw [← rd_bytesOf]
  unfold numPutM
  rw [bytesOf_son (by
    intro x hx
    have hx2 : x ∈ bytesLo n size := by cases big <;> simpa using hx
    exact bytesLo_b _ _ x hx2)]
  unfold rd
  rw [Int.toNat_natCast, List.getD_eq_getElem?_getD]
  cases big with
  | false => rw [if_neg (by decide), if_neg (by decide), bytesLo_get _ _ j hj]; rfl
  | true => rw [if_pos rfl, if_pos rfl, List.getElem?_reverse (by omega), hL, bytesLo_get _ _ _ (by omega)]; rfl
theorem numPutM_size (n : Int) (size : Nat) (big : Bool) : (numPutM n size big).size = size := by
  unfold numPutM
  rw [strOfNums_size]
  cases big <;> simp [bytesLo_length]
/-- A number put and got again is the number. -/
theorem get_put (n : Int) (size : Nat) (big : Bool) (hn : 0 ≤ n) (hn2 : n < P2 (8 * size)) : numM (numPutM n size big) 0 size big size = n := by
  have h := numM_of (numPutM n size big) 0 size big n hn hn2 (by
    intro i hi
    cases big with
    | true =>
      have := bt_put n size true i hi
      unfold ixM
      rw [if_pos rfl] at this ⊢
      rw [Int.zero_add]; exact this
    | false =>
      have := bt_put n size false (size - 1 - i) (by omega)
      unfold ixM
      rw [if_neg (by decide)] at this ⊢
      rw [show (0 : Int) + size - 1 - i = ((size - 1 - i : Nat) : Int) by omega]; exact this) size (by omega)
  rw [h]; simp [P2]
end Go.Proofs.Ytfladcffgblfdaa.Th
