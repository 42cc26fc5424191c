/- Plain lemmas: what is taken away from a byte of a row, and put back. No condition. -/
import Derived.Test.YtpjkcdgamlllgaaThStr
namespace Go.Proofs.Ytpjkcdgamlllgaa.Th
open Go.RowKit Go.Proofs.YtpjkcdgamlllgaaW.PrintWords Go.Proofs.YtpjkcdgamlllgaaW.PrintMore

def ab (x : Int) : Int := if x < 0 then -x else x
def nearM (a b c : Int) : Int :=
  if ab (a + b - c - a) ≤ ab (a + b - c - b) ∧ ab (a + b - c - a) ≤ ab (a + b - c - c) then a
  else if ab (a + b - c - b) ≤ ab (a + b - c - c) then b else c
def guessM (kind a b c : Int) : Int := if kind = 1 then a else if kind = 2 then b else if kind = 3 then (a + b) / 2 else if kind = 4 then nearM a b c else 0
theorem guessM_b {kind a b c : Int} (ha : 0 ≤ a ∧ a ≤ 255) (hb : 0 ≤ b ∧ b ≤ 255) (hc : 0 ≤ c ∧ c ≤ 255) : 0 ≤ guessM kind a b c ∧ guessM kind a b c ≤ 255 := by
  unfold guessM nearM
  repeat' split
  all_goals omega
def byteM (s : ByteArray) (i : Int) : Int := if 0 ≤ i ∧ i < s.size then bt s i else 0
theorem byteM_b (s : ByteArray) (i : Int) : 0 ≤ byteM s i ∧ byteM s i ≤ 255 := by
  have := bt_range s i
  unfold byteM; split <;> omega
def byteL (xs : List Int) (i : Int) : Int := if 0 ≤ i ∧ i < xs.length then rd xs i else 0
theorem byteL_b {xs : List Int} (h : ∀ x ∈ xs, 0 ≤ x ∧ x ≤ 255) (i : Int) : 0 ≤ byteL xs i ∧ byteL xs i ≤ 255 := by
  unfold byteL; split
  · rcases rd_mem_or xs i with h1 | h1
    · exact h _ h1
    · omega
  · omega
theorem byteM_son {xs : List Int} (h : ∀ x ∈ xs, 0 ≤ x ∧ x ≤ 255) (i : Int) : byteM (strOfNums xs) i = byteL xs i := by
  unfold byteM byteL
  rw [strOfNums_size, ← rd_bytesOf, bytesOf_son h]
theorem rd_left (xs ys : List Int) (i : Int) (h0 : 0 ≤ i) (h : i < xs.length) : rd (xs ++ ys) i = rd xs i := by
  simp only [rd, List.getD_eq_getElem?_getD]
  rw [List.getElem?_append_left (by omega)]
def putL (kind : Int) (row above : ByteArray) (step : Int) : Nat → List Int
  | 0 => []
  | n + 1 => putL kind row above step n ++ [(bt row n - guessM kind (byteM row (n - step)) (byteM above n) (byteM above (n - step))) % 256]
def getL (kind : Int) (row above : ByteArray) (step : Int) : Nat → List Int
  | 0 => []
  | n + 1 => getL kind row above step n ++ [(bt row n + guessM kind (byteL (getL kind row above step n) (n - step)) (byteM above n) (byteM above (n - step))) % 256]
theorem putL_length (kind : Int) (row above : ByteArray) (step : Int) (n : Nat) : (putL kind row above step n).length = n := by
  induction n with
  | zero => rfl
  | succ n ih => simp [putL, ih]
theorem getL_length (kind : Int) (row above : ByteArray) (step : Int) (n : Nat) : (getL kind row above step n).length = n := by
  induction n with
  | zero => rfl
  | succ n ih => simp [getL, ih]
theorem getL_b (kind : Int) (row above : ByteArray) (step : Int) (n : Nat) : ∀ x ∈ getL kind row above step n, 0 ≤ x ∧ x ≤ 255 := by
  induction n with
  | zero => simp [getL]
  | succ n ih =>
    intro x hx
    simp only [getL, List.mem_append, List.mem_singleton] at hx
    rcases hx with hx | rfl
    · exact ih x hx
    · omega
def filtOk (kind : Int) (row above : ByteArray) (step : Int) : Bool := decide ((0 ≤ kind ∧ kind ≤ 4) ∧ (1 ≤ step ∧ step ≤ 4) ∧ row.size ≤ 1000 ∧ (above.toList = [] ∨ above.size = row.size))
end Go.Proofs.Ytpjkcdgamlllgaa.Th
