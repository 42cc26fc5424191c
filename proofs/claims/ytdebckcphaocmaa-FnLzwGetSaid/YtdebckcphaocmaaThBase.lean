/- Plain lemmas on whole numbers, wraps, shifts and lists, for the statements of this seat. No condition. -/
import Derived.Test.YtdebckcphaocmaaV
import Derived.Laws.BitsLemmas
import Derived.OpenShut
namespace Go.Proofs.Ytdebckcphaocmaa
/-- Under the name by which the printed rows call it. -/
theorem PrintWords.sized_ints : type_of% @Go.Proofs.YtdebckcphaocmaaW.PrintWords.sized_ints := @Go.Proofs.YtdebckcphaocmaaW.PrintWords.sized_ints
end Go.Proofs.Ytdebckcphaocmaa
namespace Go.Proofs.Ytdebckcphaocmaa.Th
open Go.RowKit Go.Proofs.YtdebckcphaocmaaW.PrintWords Go.Proofs.YtdebckcphaocmaaW.PrintMore

theorem w64 {x : Int} (h : -9223372036854775808 ≤ x ∧ x ≤ 9223372036854775807) : wrap64 x = x := by
  unfold wrap64; omega
theorem wf_b {n : Int} (h : (Lit.int .i64 n).wf = true) : -9223372036854775808 ≤ n ∧ n ≤ 9223372036854775807 := by
  simp [Lit.wf, IntKind.min, IntKind.max, IntKind.bits, IntKind.signed] at h
  omega
/-- Two to the power of n. -/
def P2 (n : Nat) : Int := ((2 ^ n : Nat) : Int)
theorem P2_zero : P2 0 = 1 := rfl
theorem P2_succ (n : Nat) : P2 (n + 1) = 2 * P2 n := by unfold P2; rw [Nat.pow_succ]; omega
theorem P2_pos (n : Nat) : 1 ≤ P2 n := by unfold P2; have := Nat.two_pow_pos n; omega
theorem P2_le {n m : Nat} (h : n ≤ m) : P2 n ≤ P2 m := by
  unfold P2; have := Nat.pow_le_pow_right (n := 2) (by decide) h; omega
theorem P2_add (n m : Nat) : P2 (n + m) = P2 n * P2 m := by unfold P2; rw [Nat.pow_add]; simp
theorem P2_7 : P2 7 = 128 := rfl
theorem P2_8 : P2 8 = 256 := rfl
theorem P2_15 : P2 15 = 32768 := rfl
theorem P2_24 : P2 24 = 16777216 := rfl
theorem P2_32 : P2 32 = 4294967296 := rfl
theorem P2_40 : P2 40 = 1099511627776 := rfl
theorem P2_62 : P2 62 = 4611686018427387904 := rfl
theorem P2_b {n m : Nat} (h : n ≤ m) : 1 ≤ P2 n ∧ P2 n ≤ P2 m := ⟨P2_pos n, P2_le h⟩
theorem P2_62b {n : Nat} (h : n ≤ 62) : 1 ≤ P2 n ∧ P2 n ≤ 4611686018427387904 := by
  have := P2_b h; rw [P2_62] at this; exact this
theorem P2_cast (n : Nat) : (2 : Int) ^ n = P2 n := by unfold P2; simp
theorem i64_w' (n : Int) : IntKind.i64.wrap n = wrap64 n := by
  rw [IntKind.wrap_i64]; unfold wrap64; rfl
theorem wraps_i64 (n : Int) (h₀ : 0 ≤ n) (h₁ : n < 2 ^ 63) : IntKind.i64.wrap n = n := by rw [IntKind.wrap_i64]; omega
theorem shl_P2 {x y : Int} (h0 : 0 ≤ y) (h1 : y ≤ 62) (hx : -9223372036854775808 ≤ x * P2 y.toNat ∧ x * P2 y.toNat ≤ 9223372036854775807) : shl .i64 x y = x * P2 y.toNat := by
  unfold shl
  have : min y.toNat (IntKind.i64).bits = y.toNat := by simp only [IntKind.bits]; omega
  rw [this, P2_cast, i64_w', w64 hx]
theorem shl1_P2 {y : Int} (h0 : 0 ≤ y) (h1 : y ≤ 62) : shl .i64 1 y = P2 y.toNat := by
  have hb := P2_62b (n := y.toNat) (by omega)
  rw [shl_P2 h0 h1 (by omega)]; omega
theorem shr_P2 {x y : Int} (h1 : y ≤ 63) : shr .i64 x y = x / P2 y.toNat := by
  unfold shr
  have : min y.toNat (IntKind.i64).bits = y.toNat := by simp only [IntKind.bits]; omega
  rw [this, P2_cast]
theorem and1 {x : Int} (h0 : 0 ≤ x) (h1 : x ≤ 9223372036854775807) : Go.bits .and .i64 x 1 = x % 2 := by
  have := bits_mask .i64 63 (by decide) wraps_i64 1 (by decide) x h0 (by omega)
  simpa using this
theorem or_join {i : Nat} {x y : Int} (hx0 : 0 ≤ x) (hx : x % P2 i = 0) (hx1 : x ≤ 9223372036854775807) (hy0 : 0 ≤ y) (hy : y < P2 i) (hi : y ≤ 9223372036854775807) : Go.bits .or .i64 x y = x + y :=
  bits_join .i64 63 (by decide) wraps_i64 i x y hx0 (by rw [P2_cast]; exact hx) (by omega) hy0 (by rw [P2_cast]; exact hy) (by omega)
theorem or_comm' {x y : Int} (hx0 : 0 ≤ x) (hx1 : x ≤ 9223372036854775807) (hy0 : 0 ≤ y) (hy1 : y ≤ 9223372036854775807) : Go.bits .or .i64 x y = Go.bits .or .i64 y x := by
  obtain ⟨a, rfl⟩ := Int.eq_ofNat_of_zero_le hx0
  obtain ⟨b, rfl⟩ := Int.eq_ofNat_of_zero_le hy0
  have ha : a < 2 ^ 63 := by omega
  have hb : b < 2 ^ 63 := by omega
  rw [(bits_nat .i64 63 (by decide) wraps_i64 a b ha hb).2, (bits_nat .i64 63 (by decide) wraps_i64 b a hb ha).2, Nat.or_comm]
theorem tdiv_pos {a b : Int} (h : 0 ≤ a) : Int.tdiv a b = a / b := Int.tdiv_eq_ediv_of_nonneg h
theorem tmod_pos {a b : Int} (h : 0 ≤ a) : Int.tmod a b = a % b := Int.tmod_eq_emod_of_nonneg h
theorem rd_at (pre suf : List Int) (x : Int) {i : Int} (hi : i = (pre.length : Int)) : rd (pre ++ x :: suf) i = x := by
  subst hi; simp [rd]
theorem set_at (pre suf : List Int) (x y : Int) {i : Nat} (hi : i = pre.length) : (pre ++ x :: suf).set i y = pre ++ y :: suf := by
  subst hi; simp
theorem rd_mem_or (xs : List Int) (i : Int) : rd xs i ∈ xs ∨ rd xs i = 0 := by
  unfold rd
  rw [List.getD_eq_getElem?_getD]
  cases h : xs[i.toNat]? with
  | none => right; rfl
  | some v => left; exact List.mem_of_getElem? h
theorem Ev.det {α : Type} {g : Nat → Option α} {r q : α} (h : Ev g r) (h' : Ev g q) : r = q := by
  obtain ⟨K, h⟩ := h; obtain ⟨K', h'⟩ := h'
  have := (h (K + K') (by omega)).symm.trans (h' (K + K') (by omega))
  exact Option.some.inj this
end Go.Proofs.Ytdebckcphaocmaa.Th
