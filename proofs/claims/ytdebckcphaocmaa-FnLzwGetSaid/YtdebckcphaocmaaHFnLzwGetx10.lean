/- What the functions that the law comes to compute, as plain functions, and that the machine's calls come to just that: written by a program for this claim, and turned where Lean did not take it. No condition. -/
import Derived.Test.YtdebckcphaocmaaThLzw
import Derived.Test.YtdebckcphaocmaaThLz
import Derived.Test.YtdebckcphaocmaaHFnLzwGetx0
import Derived.Test.YtdebckcphaocmaaHFnLzwGetx1
import Derived.Test.YtdebckcphaocmaaHFnLzwGetx2
import Derived.Test.YtdebckcphaocmaaHFnLzwGetx5
import Derived.Test.YtdebckcphaocmaaHFnLzwGetx9
namespace Go.Proofs.Ytdebckcphaocmaa.PFnLzwGet
open Go.RowKit Go.Proofs.YtdebckcphaocmaaW.PrintWords Go.Proofs.YtdebckcphaocmaaW.PrintLast Go.Proofs.YtdebckcphaocmaaW.PrintMore
attribute [local go_sem] max2_int min2_int max_two min_two max_three min_three max_four min_four   -- for this text's walks alone
set_option linter.unusedVariables false
set_option linter.unusedSimpArgs false

/-! ### spec_LzwGet: function 7 -/
section
open Go.Proofs.Ytdebckcphaocmaa.Th
set_option maxHeartbeats 8000000 in
set_option maxRecDepth 100000 in
theorem l6next_short (k : Nat) {W w0 : World} {base g : Nat} {tx : ByteArray} {bits : Int} {wide : Bool} {limit at_ : Int} {vl : Value} {list : List ByteArray} {last : ByteArray} {vo : Value} {out : List Int} {vc : Value} {codes : List Int} {code : Int}
    (h : LS W base g tx bits wide limit at_ vl list last vo out vc codes code) (hB : Below base w0 W) (n : Int) (hn : spec_l6Width.f k (list.length : Int) bits wide = some n) (hs : tx.size ≤ 9000) (ha : 0 ≤ at_ ∧ at_ + n ≤ 1000000 ∧ 0 ≤ n) (hc : at_ + n > 8 * (tx.size : Int)) :
    Calls Try.prog 39 #[.pointer (some ⟨g, 0, none⟩)] W fun e w' => e = .returned (.int .i64 (-1)) ∧ LS w' base g tx bits wide limit at_ vl list last vo out vc codes 2 ∧ Below base w0 w' := by
  have HN := Aside0.mk hn
  have HL := Aside0.mk h
  have HB := Aside0.mk hB
  obtain ⟨A5, c5, rfl⟩ := Kd.R_slice h.rl
  obtain ⟨A7, c7, rfl⟩ := Kd.R_slice h.ro
  obtain ⟨A8, c8, rfl⟩ := Kd.R_slice h.rc
  obtain ⟨z0, z1, z2, z3, z4, z5, z6, z7, z8, z9⟩ := h.cells
  have y9 := blk_frozen h.blk 9
  have w8 : IntKind.i64.wrap (8 * (tx.size : Int)) = 8 * (tx.size : Int) := by rw [i64_w', w64 (by omega)]
  have wa : IntKind.i64.wrap (at_ + n) = at_ + n := by rw [i64_w', w64 (by omega)]
  have c4 : decide (at_ + n > 8 * (tx.size : Int)) = true := decide_eq_true hc
  clear hn h hB
  go_enter Try.func39, Try.ntmps39
  go_wp2
  repeat (go_quiet (first | (go_at_call 47; (with_reducible refine (spec_l6Width.calls k (list.length : Int) bits wide n _ HN.out).mono ?_); rintro e w' ⟨rfl, ⟨nd, rfl⟩⟩; (try first | exact ⟨rfl, _, World.drewN_drewN _ _ _⟩ | exact ⟨rfl, _, Eq.trans (World.drewN_drewN _ _ _) (congrArg (World.drewN _) (Nat.add_assoc _ _ _))⟩))); try go_wp2)
  repeat (go_quiet (fail); try go_wp2)
  go_ret
  exact ⟨rfl, (HL.out.drewN _).at9 2, (pw_below_drewN HB.out _).setCell HL.out.ge _⟩
set_option maxHeartbeats 8000000 in
set_option maxRecDepth 100000 in
theorem l6next_some (k : Nat) {W w0 : World} {base g : Nat} {tx : ByteArray} {bits : Int} {wide : Bool} {limit at_ : Int} {vl : Value} {list : List ByteArray} {last : ByteArray} {vo : Value} {out : List Int} {vc : Value} {codes : List Int} {code : Int}
    (h : LS W base g tx bits wide limit at_ vl list last vo out vc codes code) (hB : Below base w0 W) (n v : Int) (hn : spec_l6Width.f k (list.length : Int) bits wide = some n) (hv : spec_l1Get.f k tx at_ n wide = some v) (hs : tx.size ≤ 9000) (ha : 0 ≤ at_ ∧ at_ + n ≤ 1000000 ∧ 0 ≤ n) (hc : ¬ at_ + n > 8 * (tx.size : Int)) :
    Calls Try.prog 39 #[.pointer (some ⟨g, 0, none⟩)] W fun e w' => e = .returned (.int .i64 v) ∧ LS w' base g tx bits wide limit (at_ + n) vl list last vo out vc codes code ∧ Below base w0 w' := by
  have HN := Aside0.mk hn
  have HL := Aside0.mk h
  have HB := Aside0.mk hB
  obtain ⟨A5, c5, rfl⟩ := Kd.R_slice h.rl
  obtain ⟨A7, c7, rfl⟩ := Kd.R_slice h.ro
  obtain ⟨A8, c8, rfl⟩ := Kd.R_slice h.rc
  obtain ⟨z0, z1, z2, z3, z4, z5, z6, z7, z8, z9⟩ := h.cells
  have y4 := blk_frozen h.blk 4
  have w8 : IntKind.i64.wrap (8 * (tx.size : Int)) = 8 * (tx.size : Int) := by rw [i64_w', w64 (by omega)]
  have wa : IntKind.i64.wrap (at_ + n) = at_ + n := by rw [i64_w', w64 (by omega)]
  have c4 : decide (at_ + n > 8 * (tx.size : Int)) = false := decide_eq_false hc
  have HV := Aside0.mk hv
  clear hn h hB hv
  go_enter Try.func39, Try.ntmps39
  go_wp2
  repeat (go_quiet (first | (go_at_call 47; (with_reducible refine (spec_l6Width.calls k (list.length : Int) bits wide n _ HN.out).mono ?_); rintro e w' ⟨rfl, ⟨nd, rfl⟩⟩; (try first | exact ⟨rfl, _, World.drewN_drewN _ _ _⟩ | exact ⟨rfl, _, Eq.trans (World.drewN_drewN _ _ _) (congrArg (World.drewN _) (Nat.add_assoc _ _ _))⟩)) | (go_at_call 48; (with_reducible refine (spec_l1Get.calls k tx at_ n wide v _ HV.out).mono ?_); rintro e w' ⟨rfl, ⟨nd, rfl⟩⟩; (try first | exact ⟨rfl, _, World.drewN_drewN _ _ _⟩ | exact ⟨rfl, _, Eq.trans (World.drewN_drewN _ _ _) (congrArg (World.drewN _) (Nat.add_assoc _ _ _))⟩))); try go_wp2)
  repeat (go_quiet (fail); try go_wp2)
  go_ret
  exact ⟨rfl, (HL.out.drewN _).at4 _, (pw_below_drewN HB.out _).setCell HL.out.ge _⟩
end
section
open Go.Proofs.Ytdebckcphaocmaa.Th
theorem lzInfo9 : (Try.prog.info? 9).map (fun i => (i.zero, i.size, i.bytes)) = some (some (.string ByteArray.empty), 1, 16) := by kernel_rfl
theorem lzInfo5 : (Try.prog.info? 5).map (fun i => (i.zero, i.size, i.bytes)) = some (some (.int .u8 0), 1, 1) := by kernel_rfl
set_option maxHeartbeats 8000000 in
set_option maxRecDepth 100000 in
theorem l6step_clear (k : Nat) {W w0 : World} {base g : Nat} {tx : ByteArray} {bits : Int} {wide : Bool} {limit : Int} {vl vo vc : Value} {st : LzSt} {code : Int}
    (h : LS W base g tx bits wide limit st.pos vl st.list st.last vo (bytesOf st.out) vc st.codes code) (hB : Below base w0 W) (hbs : base ≤ W.heap.size) (n p : Int) (hn : spec_l1Pow.f k bits = some p) (hp : 0 ≤ p ∧ p ≤ 256) (hc : n = p) (s0 : List ByteArray) (hst : spec_l6Start.f k bits = some s0) :
    Calls Try.prog 40 #[.pointer (some ⟨g, 0, none⟩), .int .i64 n] W fun e w' => e = .returned (.bool true) ∧ (∃ v1 v2 v3, LS w' base g tx bits wide limit st.pos v1 s0 ⟨#[]⟩ v2 (bytesOf st.out) v3 st.codes code) ∧ Below base w0 w' := by
  have HN := Aside0.mk hn
  have HL := Aside0.mk h
  have HB := Aside0.mk hB
  obtain ⟨A5, c5, rfl⟩ := Kd.R_slice h.rl
  obtain ⟨A7, c7, rfl⟩ := Kd.R_slice h.ro
  obtain ⟨A8, c8, rfl⟩ := Kd.R_slice h.rc
  obtain ⟨z0, z1, z2, z3, z4, z5, z6, z7, z8, z9⟩ := h.cells
  have wp : IntKind.i64.wrap (p + 1) = p + 1 := by rw [i64_w', w64 (by omega)]
  clear hn h hB
  have HST := Aside0.mk hst
  have d0 : (n == p) = true := by rw [hc]; exact beq_self_eq_true p
  clear hst
  go_enter Try.func40, Try.ntmps40
  go_wp2_with (first | (go_at_call 27; refine (spec_l1Pow.calls k bits p _ HN.out).mono ?_; rintro e w' ⟨rfl, ⟨m, rfl⟩⟩) | (go_at_call 38; refine (spec_l6Start.calls k bits s0 _ HST.out).mono ?_; rintro e w' ⟨v1, rfl, hr, hb⟩; obtain ⟨A1, c1, rfl⟩ := Kd.R_slice hr; have hl := (HL.out.drewN m).below hb; obtain ⟨e0, e1, e2, e3, e4, e5, e6, e7, e8, e9⟩ := hl.cells; have x5 := blk_frozen hl.blk 5; have x6 := blk_frozen hl.blk 6; have HR := Aside0.mk (Kd.R_lower hr (show base ≤ (W.drewN m).heap.size from hbs)); have HL1 := Aside0.mk hl; have HB1 := Aside0.mk ((pw_below_drewN HB.out m).trans (hb.mono hbs)); clear hr hb hl HB HL z0 z1 z2 z3 z4 z5 z6 z7 z8 z9; (try first | exact ⟨_, rfl, rfl⟩ | exact ⟨rfl, rfl⟩)))
  go_ret
  exact ⟨rfl, ⟨_, _, _, (HL1.out.at5 HR.out).at6 ⟨#[]⟩⟩, ((HB1.out).setCell HL1.out.ge _).setCell HL1.out.ge _⟩
set_option maxHeartbeats 8000000 in
set_option maxRecDepth 100000 in
theorem l6step_end (k : Nat) {W w0 : World} {base g : Nat} {tx : ByteArray} {bits : Int} {wide : Bool} {limit : Int} {vl vo vc : Value} {st : LzSt} {code : Int}
    (h : LS W base g tx bits wide limit st.pos vl st.list st.last vo (bytesOf st.out) vc st.codes code) (hB : Below base w0 W) (hbs : base ≤ W.heap.size) (n p : Int) (hn : spec_l1Pow.f k bits = some p) (hp : 0 ≤ p ∧ p ≤ 256) (hc : n ≠ p) (hc1 : n = p + 1) :
    Calls Try.prog 40 #[.pointer (some ⟨g, 0, none⟩), .int .i64 n] W fun e w' => e = .returned (.bool false) ∧ (∃ v1 v2 v3, LS w' base g tx bits wide limit st.pos v1 st.list st.last v2 (bytesOf st.out) v3 st.codes code) ∧ Below base w0 w' := by
  have HN := Aside0.mk hn
  have HL := Aside0.mk h
  have HB := Aside0.mk hB
  obtain ⟨A5, c5, rfl⟩ := Kd.R_slice h.rl
  obtain ⟨A7, c7, rfl⟩ := Kd.R_slice h.ro
  obtain ⟨A8, c8, rfl⟩ := Kd.R_slice h.rc
  obtain ⟨z0, z1, z2, z3, z4, z5, z6, z7, z8, z9⟩ := h.cells
  have wp : IntKind.i64.wrap (p + 1) = p + 1 := by rw [i64_w', w64 (by omega)]
  clear hn h hB
  have d0 : (n == p) = false := beq_eq_false_iff_ne.2 hc
  have d1 : (n == p + 1) = true := by rw [hc1]; exact beq_self_eq_true _
  go_enter Try.func40, Try.ntmps40
  go_wp2_with (first | (go_at_call 27; refine (spec_l1Pow.calls k bits p _ HN.out).mono ?_; rintro e w' ⟨rfl, ⟨m, rfl⟩⟩))
  go_ret
  exact ⟨rfl, ⟨_, _, _, HL.out.drewN _⟩, pw_below_drewN HB.out _⟩
set_option maxHeartbeats 8000000 in
set_option maxRecDepth 100000 in
theorem l6step_bad1 (k : Nat) {W w0 : World} {base g : Nat} {tx : ByteArray} {bits : Int} {wide : Bool} {limit : Int} {vl vo vc : Value} {st : LzSt} {code : Int}
    (h : LS W base g tx bits wide limit st.pos vl st.list st.last vo (bytesOf st.out) vc st.codes code) (hB : Below base w0 W) (hbs : base ≤ W.heap.size) (n p : Int) (hn : spec_l1Pow.f k bits = some p) (hp : 0 ≤ p ∧ p ≤ 256) (hc : n ≠ p) (hc1 : n ≠ p + 1) (hc2 : n > st.list.length) :
    Calls Try.prog 40 #[.pointer (some ⟨g, 0, none⟩), .int .i64 n] W fun e w' => e = .returned (.bool false) ∧ (∃ v1 v2 v3, LS w' base g tx bits wide limit st.pos v1 st.list st.last v2 (bytesOf st.out) v3 st.codes 1) ∧ Below base w0 w' := by
  have HN := Aside0.mk hn
  have HL := Aside0.mk h
  have HB := Aside0.mk hB
  obtain ⟨A5, c5, rfl⟩ := Kd.R_slice h.rl
  obtain ⟨A7, c7, rfl⟩ := Kd.R_slice h.ro
  obtain ⟨A8, c8, rfl⟩ := Kd.R_slice h.rc
  obtain ⟨z0, z1, z2, z3, z4, z5, z6, z7, z8, z9⟩ := h.cells
  have wp : IntKind.i64.wrap (p + 1) = p + 1 := by rw [i64_w', w64 (by omega)]
  clear hn h hB
  have d0 : (n == p) = false := beq_eq_false_iff_ne.2 hc
  have d1 : (n == p + 1) = false := beq_eq_false_iff_ne.2 hc1
  have y9 := blk_frozen HL.out.blk 9
  have d2 : decide (n > (st.list.length : Int)) = true := decide_eq_true hc2
  go_enter Try.func40, Try.ntmps40
  go_wp2_with (first | (go_at_call 27; refine (spec_l1Pow.calls k bits p _ HN.out).mono ?_; rintro e w' ⟨rfl, ⟨m, rfl⟩⟩))
  go_ret
  exact ⟨rfl, ⟨_, _, _, (HL.out.drewN _).at9 1⟩, (pw_below_drewN HB.out _).setCell HL.out.ge _⟩
set_option maxHeartbeats 8000000 in
set_option maxRecDepth 100000 in
theorem l6step_bad2 (k : Nat) {W w0 : World} {base g : Nat} {tx : ByteArray} {bits : Int} {wide : Bool} {limit : Int} {vl vo vc : Value} {st : LzSt} {code : Int}
    (h : LS W base g tx bits wide limit st.pos vl st.list st.last vo (bytesOf st.out) vc st.codes code) (hB : Below base w0 W) (hbs : base ≤ W.heap.size) (n p : Int) (hn : spec_l1Pow.f k bits = some p) (hp : 0 ≤ p ∧ p ≤ 256) (hc : n ≠ p) (hc1 : n ≠ p + 1) (hc2 : n = st.list.length) (hc3 : st.last.size = 0) :
    Calls Try.prog 40 #[.pointer (some ⟨g, 0, none⟩), .int .i64 n] W fun e w' => e = .returned (.bool false) ∧ (∃ v1 v2 v3, LS w' base g tx bits wide limit st.pos v1 st.list st.last v2 (bytesOf st.out) v3 st.codes 1) ∧ Below base w0 w' := by
  have HN := Aside0.mk hn
  have HL := Aside0.mk h
  have HB := Aside0.mk hB
  obtain ⟨A5, c5, rfl⟩ := Kd.R_slice h.rl
  obtain ⟨A7, c7, rfl⟩ := Kd.R_slice h.ro
  obtain ⟨A8, c8, rfl⟩ := Kd.R_slice h.rc
  obtain ⟨z0, z1, z2, z3, z4, z5, z6, z7, z8, z9⟩ := h.cells
  have wp : IntKind.i64.wrap (p + 1) = p + 1 := by rw [i64_w', w64 (by omega)]
  clear hn h hB
  have d0 : (n == p) = false := beq_eq_false_iff_ne.2 hc
  have d1 : (n == p + 1) = false := beq_eq_false_iff_ne.2 hc1
  have y9 := blk_frozen HL.out.blk 9
  have d2 : decide (n > (st.list.length : Int)) = false := decide_eq_false (by omega)
  have d3 : (n == (st.list.length : Int)) = true := by rw [hc2]; exact beq_self_eq_true _
  have d4 : st.last = ⟨#[]⟩ := ByteArray.size_eq_zero_iff.1 hc3
  go_enter Try.func40, Try.ntmps40
  go_wp2_with (first | (go_at_call 27; refine (spec_l1Pow.calls k bits p _ HN.out).mono ?_; rintro e w' ⟨rfl, ⟨m, rfl⟩⟩))
  go_ret
  exact ⟨rfl, ⟨_, _, _, (HL.out.drewN _).at9 1⟩, (pw_below_drewN HB.out _).setCell HL.out.ge _⟩
set_option maxHeartbeats 8000000 in
set_option maxRecDepth 100000 in
theorem l6step_long1 (k : Nat) {W w0 : World} {base g : Nat} {tx : ByteArray} {bits : Int} {wide : Bool} {limit : Int} {vl vo vc : Value} {st : LzSt} {code : Int}
    (h : LS W base g tx bits wide limit st.pos vl st.list st.last vo (bytesOf st.out) vc st.codes code) (hB : Below base w0 W) (hbs : base ≤ W.heap.size) (n p : Int) (hn : spec_l1Pow.f k bits = some p) (hp : 0 ≤ p ∧ p ≤ 256) (h0 : 0 ≤ n) (hc : n ≠ p) (hc1 : n ≠ p + 1) (hI : LzI tx bits st) (hpb : p = P2 bits.toNat) (hlim : limit ≤ 65536) (hlt : n < st.list.length) (hc3 : (st.out.size : Int) + (lzText st n).size > limit) :
    Calls Try.prog 40 #[.pointer (some ⟨g, 0, none⟩), .int .i64 n] W fun e w' => e = .returned (.bool false) ∧ (∃ v1 v2 v3, LS w' base g tx bits wide limit st.pos v1 st.list st.last v2 (bytesOf st.out) v3 st.codes 3) ∧ Below base w0 w' := by
  have HN := Aside0.mk hn
  have HL := Aside0.mk h
  have HB := Aside0.mk hB
  obtain ⟨A5, c5, rfl⟩ := Kd.R_slice h.rl
  obtain ⟨A7, c7, rfl⟩ := Kd.R_slice h.ro
  obtain ⟨A8, c8, rfl⟩ := Kd.R_slice h.rc
  obtain ⟨z0, z1, z2, z3, z4, z5, z6, z7, z8, z9⟩ := h.cells
  have wp : IntKind.i64.wrap (p + 1) = p + 1 := by rw [i64_w', w64 (by omega)]
  clear hn h hB
  have d0 : (n == p) = false := beq_eq_false_iff_ne.2 hc
  have d1 : (n == p + 1) = false := beq_eq_false_iff_ne.2 hc1
  have d2 : decide (n > (st.list.length : Int)) = false := decide_eq_false (by omega)
  have d3 : (n == (st.list.length : Int)) = false := beq_eq_false_iff_ne.2 (by omega)
  have d5 : decide (n < (st.list.length : Int)) = true := decide_eq_true hlt
  have hs : lzText st n = rdOf ByteArray.empty st.list n := by unfold lzText; rw [if_pos hlt]
  have hbad : ¬ lzBad st n := by unfold lzBad; omega
  obtain ⟨ad, ea, hcell⟩ := Kd.at_string (Kd.R_reads' HL.out.rl).2.2 n h0 hlt
  cases ea
  generalize rdOf ByteArray.empty st.list n = s at hcell hs
  have q1 : ((1 : Int) ≤ ((lzText st n).size : Int)) = True := eq_true (by have := (hI.text h0 (by omega) (by omega) hbad).1; omega)
  rw [hs] at q1
  have ht := hI.text h0 (by omega) (by omega) hbad
  have ho := hI.out
  have hbl := bytesOf_length st.out
  rw [hs] at ht
  rw [hs] at hc3
  have wl : IntKind.i64.wrap ((st.out.size : Int) + s.size) = (st.out.size : Int) + s.size := by rw [i64_w', w64 (by omega)]
  have d6 : decide ((st.out.size : Int) + s.size > limit) = true := decide_eq_true hc3
  rw [hbl] at z7
  have y9 := blk_frozen HL.out.blk 9
  go_enter Try.func40, Try.ntmps40
  go_wp2_with (first | (go_at_call 27; refine (spec_l1Pow.calls k bits p _ HN.out).mono ?_; rintro e w' ⟨rfl, ⟨m, rfl⟩⟩))
  repeat (go_quiet (fail); try go_wp2)
  go_ret
  exact ⟨rfl, ⟨_, _, _, (HL.out.drewN _).at9 3⟩, (pw_below_drewN HB.out _).setCell HL.out.ge _⟩
set_option maxHeartbeats 8000000 in
set_option maxRecDepth 100000 in
theorem l6step_long2 (k : Nat) {W w0 : World} {base g : Nat} {tx : ByteArray} {bits : Int} {wide : Bool} {limit : Int} {vl vo vc : Value} {st : LzSt} {code : Int}
    (h : LS W base g tx bits wide limit st.pos vl st.list st.last vo (bytesOf st.out) vc st.codes code) (hB : Below base w0 W) (hbs : base ≤ W.heap.size) (n p : Int) (hn : spec_l1Pow.f k bits = some p) (hp : 0 ≤ p ∧ p ≤ 256) (h0 : 0 ≤ n) (hc : n ≠ p) (hc1 : n ≠ p + 1) (hI : LzI tx bits st) (hpb : p = P2 bits.toNat) (hlim : limit ≤ 65536) (hlt : n = st.list.length) (hz : st.last.size ≠ 0) (hc3 : (st.out.size : Int) + (lzText st n).size > limit) :
    Calls Try.prog 40 #[.pointer (some ⟨g, 0, none⟩), .int .i64 n] W fun e w' => e = .returned (.bool false) ∧ (∃ v1 v2 v3, LS w' base g tx bits wide limit st.pos v1 st.list st.last v2 (bytesOf st.out) v3 st.codes 3) ∧ Below base w0 w' := by
  have HN := Aside0.mk hn
  have HL := Aside0.mk h
  have HB := Aside0.mk hB
  obtain ⟨A5, c5, rfl⟩ := Kd.R_slice h.rl
  obtain ⟨A7, c7, rfl⟩ := Kd.R_slice h.ro
  obtain ⟨A8, c8, rfl⟩ := Kd.R_slice h.rc
  obtain ⟨z0, z1, z2, z3, z4, z5, z6, z7, z8, z9⟩ := h.cells
  have wp : IntKind.i64.wrap (p + 1) = p + 1 := by rw [i64_w', w64 (by omega)]
  clear hn h hB
  have d0 : (n == p) = false := beq_eq_false_iff_ne.2 hc
  have d1 : (n == p + 1) = false := beq_eq_false_iff_ne.2 hc1
  have d2 : decide (n > (st.list.length : Int)) = false := decide_eq_false (by omega)
  have d3 : (n == (st.list.length : Int)) = true := by rw [hlt]; exact beq_self_eq_true _
  have d5 : decide (n < (st.list.length : Int)) = false := decide_eq_false (by omega)
  have hs : lzText st n = st.last ++ st.last.extract 0 1 := by unfold lzText; rw [if_neg (by omega)]
  have hbad : ¬ lzBad st n := by unfold lzBad; omega
  have q1 : ((1 : Int) ≤ ((lzText st n).size : Int)) = True := eq_true (by have := (hI.text h0 (by omega) (by omega) hbad).1; omega)
  rw [hs] at q1
  have ht := hI.text h0 (by omega) (by omega) hbad
  have ho := hI.out
  have hbl := bytesOf_length st.out
  rw [hs] at ht
  rw [hs] at hc3
  have hm : st.last.toList.isEmpty = false := by rw [isE]; exact decide_eq_false hz
  have hq : ¬ (9223372036854775807 < st.last.size + min 1 st.last.size) := by have := hI.last; omega
  have wl : IntKind.i64.wrap ((st.out.size : Int) + (st.last ++ st.last.extract 0 1).size) = (st.out.size : Int) + (st.last ++ st.last.extract 0 1).size := by rw [i64_w', w64 (by omega)]
  have d6 : decide ((st.out.size : Int) + (st.last ++ st.last.extract 0 1).size > limit) = true := decide_eq_true hc3
  have hsz : (st.last ++ st.last.extract 0 1).size = st.last.size + min 1 st.last.size := by rw [ByteArray.size_append, ByteArray.size_extract]; omega
  have d6b : limit < wrap64 ((st.out.size : Int) + ((st.last.size : Int) + ((min 1 st.last.size : Nat) : Int))) := by rw [w64 (by omega)]; omega
  rw [hbl] at z7
  have y9 := blk_frozen HL.out.blk 9
  go_enter Try.func40, Try.ntmps40
  go_wp2_with (first | (go_at_call 27; refine (spec_l1Pow.calls k bits p _ HN.out).mono ?_; rintro e w' ⟨rfl, ⟨m, rfl⟩⟩))
  repeat (go_quiet (fail); try go_wp2)
  go_ret
  exact ⟨rfl, ⟨_, _, _, (HL.out.drewN _).at9 3⟩, (pw_below_drewN HB.out _).setCell HL.out.ge _⟩
set_option maxHeartbeats 8000000 in
set_option maxRecDepth 100000 in
theorem l6step_grow1 (k : Nat) {W w0 : World} {base g : Nat} {tx : ByteArray} {bits : Int} {wide : Bool} {limit : Int} {vl vo vc : Value} {st : LzSt} {code : Int}
    (h : LS W base g tx bits wide limit st.pos vl st.list st.last vo (bytesOf st.out) vc st.codes code) (hB : Below base w0 W) (hbs : base ≤ W.heap.size) (n p : Int) (hn : spec_l1Pow.f k bits = some p) (hp : 0 ≤ p ∧ p ≤ 256) (h0 : 0 ≤ n) (hc : n ≠ p) (hc1 : n ≠ p + 1) (hI : LzI tx bits st) (hpb : p = P2 bits.toNat) (hlim : limit ≤ 65536) (hlt : n < st.list.length) (hc3 : ¬ (st.out.size : Int) + (lzText st n).size > limit) (hz : st.last.size ≠ 0) (hl : st.list.length < 4096) :
    Calls Try.prog 40 #[.pointer (some ⟨g, 0, none⟩), .int .i64 n] W fun e w' => e = .returned (.bool true) ∧ (∃ v1 v2 v3, LS w' base g tx bits wide limit (lzPut st n).pos v1 (lzPut st n).list (lzPut st n).last v2 (bytesOf (lzPut st n).out) v3 (lzPut st n).codes code) ∧ Below base w0 w' := by
  have HN := Aside0.mk hn
  have HL := Aside0.mk h
  have HB := Aside0.mk hB
  obtain ⟨A5, c5, rfl⟩ := Kd.R_slice h.rl
  obtain ⟨A7, c7, rfl⟩ := Kd.R_slice h.ro
  obtain ⟨A8, c8, rfl⟩ := Kd.R_slice h.rc
  obtain ⟨z0, z1, z2, z3, z4, z5, z6, z7, z8, z9⟩ := h.cells
  have wp : IntKind.i64.wrap (p + 1) = p + 1 := by rw [i64_w', w64 (by omega)]
  clear hn h hB
  have d0 : (n == p) = false := beq_eq_false_iff_ne.2 hc
  have d1 : (n == p + 1) = false := beq_eq_false_iff_ne.2 hc1
  have d2 : decide (n > (st.list.length : Int)) = false := decide_eq_false (by omega)
  have d3 : (n == (st.list.length : Int)) = false := beq_eq_false_iff_ne.2 (by omega)
  have d5 : decide (n < (st.list.length : Int)) = true := decide_eq_true hlt
  have hs : lzText st n = rdOf ByteArray.empty st.list n := by unfold lzText; rw [if_pos hlt]
  have hbad : ¬ lzBad st n := by unfold lzBad; omega
  obtain ⟨ad, ea, hcell⟩ := Kd.at_string (Kd.R_reads' HL.out.rl).2.2 n h0 hlt
  cases ea
  generalize rdOf ByteArray.empty st.list n = s at hcell hs
  have q1 : ((1 : Int) ≤ ((lzText st n).size : Int)) = True := eq_true (by have := (hI.text h0 (by omega) (by omega) hbad).1; omega)
  rw [hs] at q1
  have ht := hI.text h0 (by omega) (by omega) hbad
  have ho := hI.out
  have hbl := bytesOf_length st.out
  rw [hs] at ht
  rw [hs] at hc3
  have wl : IntKind.i64.wrap ((st.out.size : Int) + s.size) = (st.out.size : Int) + s.size := by rw [i64_w', w64 (by omega)]
  have d6 : decide ((st.out.size : Int) + s.size > limit) = false := decide_eq_false hc3
  rw [hbl] at z7
  have HBL := Aside0.mk hbl
  have HOO := Aside0.mk (show (bytesOf st.out).length + s.size ≤ 140737488355328 by omega)
  have hm : st.last.toList.isEmpty = false := by rw [isE]; exact decide_eq_false hz
  have hq : ¬ (9223372036854775807 < st.last.size + min 1 st.last.size) := by have := hI.last; omega
  have q2 : (9223372036854775807 < st.last.size + 1) = False := eq_false (by have := hI.last; omega)
  have HLL := Aside0.mk hl
  have d8 : decide ((st.list.length : Int) < 4096) = true := decide_eq_true (by omega)
  have y5 := blk_frozen HL.out.blk 5
  have y6 := blk_frozen HL.out.blk 6
  have y7 := blk_frozen HL.out.blk 7
  go_enter Try.func40, Try.ntmps40
  go_wp2_with (first | (go_at_call 27; refine (spec_l1Pow.calls k bits p _ HN.out).mono ?_; rintro e w' ⟨rfl, ⟨m, rfl⟩⟩))
  go_quiet (fail)
  go_wp2_with (first | fail | ((with_reducible refine gate_builtin (b := .append) (xs := #[.tmp 101, .tmp 102]) rfl ?_); at_builtin; refine print_append_str (w0 := w0) base rfl (.tmp 101) (.tmp 102) 22 9 5 rfl Try.underlying22 Try.underlying9 lzInfo5 (.slice A7 (bytesOf st.out).length c7) (bytesOf st.out) s (by rw [HBL.out]; rfl) rfl ?aO ?aB ?aS ?aL ?_; (case aO => exact Kd.own_of_R (Kd.R_drewN HL.out.ro _)); (case aB => exact pw_below_drewN HB.out _); (case aS => exact hbs); (case aL => have := HOO.out; omega); intro v7 w7 ho hb hg; obtain ⟨b7, hy7⟩ : ∃ y, bytesOf st.out ++ bytesOf s = y := ⟨_, rfl⟩; rw [hy7] at ho; have HY7 := Aside0.mk hy7; clear hy7; have hr := Kd.R_of_own (h1 := fun _ => rfl) (ok := fun _ => True) ho (fun _ _ => trivial); obtain ⟨A9, c9, rfl⟩ := Kd.R_slice hr; have hl7 := (HL.out.drewN _).app7 hg hr; have hb7 := (HL.out.drewN _).mid7 hg; have HB7 := Aside0.mk (hb.setCell (p := ⟨g, 7, none⟩) HL.out.ge (.slice A9 b7.length c9)); obtain ⟨e0, e1, e2, e3, e4, e5, e6, e7, e8, e9⟩ := lz_cells hb7; have x5 := blk_frozen hb7 5; have x6 := blk_frozen hb7 6; have x7 := blk_frozen hb7 7; have HL7 := Aside0.mk hl7; clear hl7 hb7 hr ho hb hg HL HB z0 z1 z2 z3 z4 z5 z6 z7 z8 z9 y5 y6 y7))
  have HL8 := Aside0.mk HL7.out.drew
  have HB8 := Aside0.mk (Below.drew HB7.out)
  obtain ⟨e0, e1, e2, e3, e4, e5, e6, e7, e8, e9⟩ := HL8.out.cells
  clear HL7 HB7
  refine start_ (n := 17) (S := fun w' => w'.cell? ⟨g, 5, none⟩ = some (.slice (some ad) st.list.length c5) ∧ w'.cell? ⟨g, 6, none⟩ = some (.string st.last)) (ds := [13, 16]) #[false, false, false, false, false, false, false, false, false, false, false, false, false, false, false, false, false] (by kernel_rfl) rfl rfl ⟨e5, e6⟩ (fun hHeld => ?_)
  generalize (w7.setCell ⟨g, 7, none⟩ (.slice A9 b7.length c9)).drew = w8 at HL8 HB8 e0 e1 e2 e3 e4 e5 e6 e7 e8 e9 hHeld ⊢
  refine pure_ (i := 0) (N := some 119) (v := ?_) (a' := ?_) #[true, false, false, false, false, false, false, false, false, false, false, false, false, false, false, false, false] rfl rfl (by kernel_rfl) (fun _ _ _ h => h) (Or.inl ⟨by rfl, ?_⟩) ?_ ?_
  rotate_left
  · intro w'
    go_simp
    with_reducible rfl
  rotate_left
  · simp only [Act.put, List.setIfInBounds_toArray, List.set_cons_zero, List.set_cons_succ, i64_w, i32_w]
    rfl
  refine pure_ (i := 1) (N := some 120) (v := ?_) (a' := ?_) #[true, true, false, false, false, false, false, false, false, false, false, false, false, false, false, false, false] rfl rfl (by kernel_rfl) (fun _ _ _ h => h) (Or.inl ⟨by rfl, ?_⟩) ?_ ?_
  rotate_left
  · intro w'
    go_simp
    with_reducible rfl
  rotate_left
  · simp only [Act.put, List.setIfInBounds_toArray, List.set_cons_zero, List.set_cons_succ, i64_w, i32_w]
    rfl
  refine pure_ (i := 2) (N := some 121) (v := ?_) (a' := ?_) #[true, true, true, false, false, false, false, false, false, false, false, false, false, false, false, false, false] rfl rfl (by kernel_rfl) (fun _ _ _ h => h) (Or.inl ⟨by rfl, ?_⟩) ?_ ?_
  rotate_left
  · intro w'
    go_simp
    with_reducible rfl
  rotate_left
  · simp only [Act.put, List.setIfInBounds_toArray, List.set_cons_zero, List.set_cons_succ, i64_w, i32_w]
    rfl
  refine pure_ (i := 3) (N := some 122) (v := ?_) (a' := ?_) #[true, true, true, true, false, false, false, false, false, false, false, false, false, false, false, false, false] rfl rfl (by kernel_rfl) (fun _ _ _ h => h) (Or.inl ⟨by rfl, ?_⟩) ?_ ?_
  rotate_left
  · intro w'
    go_simp
    with_reducible rfl
  rotate_left
  · simp only [Act.put, List.setIfInBounds_toArray, List.set_cons_zero, List.set_cons_succ, i64_w, i32_w]
    rfl
  refine pure_ (i := 5) (N := some 124) (v := ?_) (a' := ?_) #[true, true, true, true, false, true, false, false, false, false, false, false, false, false, false, false, false] rfl rfl (by kernel_rfl) (fun _ _ _ h => h) (Or.inl ⟨by rfl, ?_⟩) ?_ ?_
  rotate_left
  · intro w'
    go_simp
    with_reducible rfl
  rotate_left
  · simp only [Act.put, List.setIfInBounds_toArray, List.set_cons_zero, List.set_cons_succ, i64_w, i32_w]
    rfl
  refine pure_ (i := 6) (N := some 125) (v := ?_) (a' := ?_) #[true, true, true, true, false, true, true, false, false, false, false, false, false, false, false, false, false] rfl rfl (by kernel_rfl) (fun _ _ _ h => h) (Or.inl ⟨by rfl, ?_⟩) ?_ ?_
  rotate_left
  · intro w'
    go_simp
    with_reducible rfl
  rotate_left
  · simp only [Act.put, List.setIfInBounds_toArray, List.set_cons_zero, List.set_cons_succ, i64_w, i32_w]
    rfl
  refine pure_ (i := 7) (N := some 126) (v := ?_) (a' := ?_) #[true, true, true, true, false, true, true, true, false, false, false, false, false, false, false, false, false] rfl rfl (by kernel_rfl) (fun _ _ _ h => h) (Or.inl ⟨by rfl, ?_⟩) ?_ ?_
  rotate_left
  · intro w'
    go_simp
    with_reducible rfl
  rotate_left
  · simp only [Act.put, List.setIfInBounds_toArray, List.set_cons_zero, List.set_cons_succ, i64_w, i32_w]
    rfl
  refine pure_ (i := 9) (N := some 128) (v := ?_) (a' := ?_) #[true, true, true, true, false, true, true, true, false, true, false, false, false, false, false, false, false] rfl rfl (by kernel_rfl) (fun _ _ _ h => h) (Or.inl ⟨by rfl, ?_⟩) ?_ ?_
  rotate_left
  · intro w'
    go_simp
    with_reducible rfl
  rotate_left
  · simp only [Act.put, List.setIfInBounds_toArray, List.set_cons_zero, List.set_cons_succ, i64_w, i32_w]
    rfl
  refine pure_ (i := 10) (N := some 129) (v := ?_) (a' := ?_) #[true, true, true, true, false, true, true, true, false, true, true, false, false, false, false, false, false] rfl rfl (by kernel_rfl) (fun _ _ _ h => h) (Or.inl ⟨by rfl, ?_⟩) ?_ ?_
  rotate_left
  · intro w'
    go_simp
    with_reducible rfl
  rotate_left
  · simp only [Act.put, List.setIfInBounds_toArray, List.set_cons_zero, List.set_cons_succ, i64_w, i32_w]
    rfl
  refine take_ (i := 4) (N := some 123) (v := ?_) (a' := ?_) #[true, true, true, true, true, true, true, true, false, true, true, false, false, false, false, false, false] rfl rfl (by kernel_rfl) (fun _ _ _ h => h) (Or.inl ⟨by rfl, ?_⟩) hHeld ?_ ?_
  rotate_left
  · rintro w' ⟨s0, s1⟩
    go_simp
    with_reducible rfl
  rotate_left
  · simp only [Act.put, List.setIfInBounds_toArray, List.set_cons_zero, List.set_cons_succ, i64_w, i32_w]
    rfl
  refine take_ (i := 8) (N := some 127) (v := ?_) (a' := ?_) #[true, true, true, true, true, true, true, true, true, true, true, false, false, false, false, false, false] rfl rfl (by kernel_rfl) (fun _ _ _ h => h) (Or.inl ⟨by rfl, ?_⟩) hHeld ?_ ?_
  rotate_left
  · rintro w' ⟨s0, s1⟩
    go_simp
    with_reducible rfl
  rotate_left
  · simp only [Act.put, List.setIfInBounds_toArray, List.set_cons_zero, List.set_cons_succ, i64_w, i32_w]
    rfl
  refine pure_ (i := 11) (N := some 130) (v := ?_) (a' := ?_) #[true, true, true, true, true, true, true, true, true, true, true, true, false, false, false, false, false] rfl rfl (by kernel_rfl) (fun _ _ _ h => h) (Or.inl ⟨by rfl, ?_⟩) ?_ ?_
  rotate_left
  · intro w'
    go_simp
    with_reducible rfl
  rotate_left
  · simp only [Act.put, List.setIfInBounds_toArray, List.set_cons_zero, List.set_cons_succ, i64_w, i32_w]
    rfl
  refine one_ (i := 12) (N := some 131) #[true, true, true, true, true, true, true, true, true, true, true, true, true, false, false, false, false] rfl rfl (by kernel_rfl) (by decide) (fun K hK => ?_)
  refine value_ (w1 := ?_) (v := ?_) (by rfl) rfl ?_ ?_
  rotate_left 2
  · go_simp
    constructor
    · rfl
    · rfl
  refine hK.out _ _ ⟨(((Below.refl _ _).alloc (Nat.le_refl _) _).cell HL8.out.lt).trans e5, (((Below.refl _ _).alloc (Nat.le_refl _) _).cell HL8.out.lt).trans e6⟩ (fun hHeld => ?_)
  clear hK K
  refine norm_ (a' := ?_) ?_ ?_
  rotate_left
  · show Act.put _ (some 131) _ = _
    simp only [Act.put, List.setIfInBounds_toArray, List.set_cons_zero, List.set_cons_succ, i64_w, i32_w]
    rfl
  refine last_ (i := 13) (N := some 132) #[true, true, true, true, true, true, true, true, true, true, true, true, true, true, false, false, false] rfl rfl (by kernel_rfl) (by decide) (fun K hK => ?_)
  refine Kd.R_append_step Kd.string (w0 := w0) base (by rfl) (.tmp 123) (.tmp 131) 41 9 (.string ⟨#[]⟩) 16 rfl Try.underlying41 lzInfo9 rfl (by decide) (by omega) (.slice (some ad) st.list.length c5) st.list (st.last ++ s.extract 0 1) [.string (st.last ++ s.extract 0 1)] (fun _ => True) (fun _ => False) rfl rfl ?aP (fun _ hk => hk.elim) ?aF ?aO ?aB ?aS ?aL ?_
  (case aP => exact rfl)
  (case aB => exact HB8.out)
  (case aF => exact fun _ _ => trivial)
  (case aO => exact HL8.out.rl)
  (case aS => exact Nat.le_of_lt (Nat.lt_of_le_of_lt HL8.out.ge HL8.out.lt))
  (case aL => have := HLL.out; omega)
  intro v5 w5 hr hb hg hat
  obtain ⟨b5, hy5⟩ : ∃ y, st.list ++ [(st.last ++ s.extract 0 1)] = y := ⟨_, rfl⟩
  rw [hy5] at hr
  have HY5 := Aside0.mk hy5
  clear hy5
  obtain ⟨A10, c10, rfl⟩ := Kd.R_slice hr
  have hl5 := HL8.out.app5 hg hr
  have hb5 := HL8.out.mid5 hg
  have HB5 := Aside0.mk (hb.setCell (p := ⟨g, 5, none⟩) HL8.out.ge (.slice A10 b5.length c10))
  obtain ⟨f0, f1, f2, f3, f4, f5, f6, f7, f8, f9⟩ := lz_cells hb5
  have u5 := blk_frozen hb5 5
  have u6 := blk_frozen hb5 6
  have HL9 := Aside0.mk hl5
  clear hl5 hb5 hr hb hg hat
  refine hK.out _ _ ?_
  clear hK K
  refine norm_ (a' := ?_) ?_ ?_
  rotate_left
  · show Act.put _ (some 132) _ = _
    simp only [Act.put, List.setIfInBounds_toArray, List.set_cons_zero, List.set_cons_succ, i64_w, i32_w]
    rfl
  refine pure_ (i := 14) (N := some 133) (v := ?_) (a' := ?_) #[true, true, true, true, true, true, true, true, true, true, true, true, true, true, true, false, false] rfl rfl (by kernel_rfl) (fun _ _ _ h => h) (Or.inl ⟨by rfl, ?_⟩) ?_ ?_
  rotate_left
  · intro w'
    go_simp
    with_reducible rfl
  rotate_left
  · simp only [Act.put, List.setIfInBounds_toArray, List.set_cons_zero, List.set_cons_succ, i64_w, i32_w]
    rfl
  refine pure_ (i := 15) (N := some 134) (v := ?_) (a' := ?_) #[true, true, true, true, true, true, true, true, true, true, true, true, true, true, true, true, false] rfl rfl (by kernel_rfl) (fun _ _ _ h => h) (Or.inl ⟨by rfl, ?_⟩) ?_ ?_
  rotate_left
  · intro w'
    go_simp
    with_reducible rfl
  rotate_left
  · simp only [Act.put, List.setIfInBounds_toArray, List.set_cons_zero, List.set_cons_succ, i64_w, i32_w]
    rfl
  refine last_ (i := 16) (N := none) #[true, true, true, true, true, true, true, true, true, true, true, true, true, true, true, true, true] rfl rfl (by kernel_rfl) (by decide) (fun K hK => ?_)
  refine skip_ (w1 := ?_) (by rfl) rfl ?_ ?_
  rotate_left
  · go_simp
    rfl
  refine hK.out _ _ ?_
  clear hK K
  refine done_ (by kernel_rfl) ?_
  try go_wp2
  go_ret
  have e1 : lzPut st n = ⟨st.pos, st.list ++ [st.last ++ s.extract 0 1], s, st.out ++ s, st.codes⟩ := by unfold lzPut lzMore; rw [hs, if_pos ⟨hz, hl⟩]
  rw [e1]
  refine ⟨rfl, ⟨?a1, ?a2, ?a3, ?a4⟩, (HB5.out).setCell HL9.out.ge _⟩
  case a4 => show LS _ _ _ _ _ _ _ st.pos _ (st.list ++ [st.last ++ s.extract 0 1]) s _ (bytesOf (st.out ++ s)) _ st.codes code; rw [bytesOf_append, HY7.out, HY5.out]; exact HL9.out.at6 _
set_option maxHeartbeats 8000000 in
set_option maxRecDepth 100000 in
theorem l6step_grow2 (k : Nat) {W w0 : World} {base g : Nat} {tx : ByteArray} {bits : Int} {wide : Bool} {limit : Int} {vl vo vc : Value} {st : LzSt} {code : Int}
    (h : LS W base g tx bits wide limit st.pos vl st.list st.last vo (bytesOf st.out) vc st.codes code) (hB : Below base w0 W) (hbs : base ≤ W.heap.size) (n p : Int) (hn : spec_l1Pow.f k bits = some p) (hp : 0 ≤ p ∧ p ≤ 256) (h0 : 0 ≤ n) (hc : n ≠ p) (hc1 : n ≠ p + 1) (hI : LzI tx bits st) (hpb : p = P2 bits.toNat) (hlim : limit ≤ 65536) (hlt : n = st.list.length) (hc3 : ¬ (st.out.size : Int) + (lzText st n).size > limit) (hz : st.last.size ≠ 0) (hl : st.list.length < 4096) :
    Calls Try.prog 40 #[.pointer (some ⟨g, 0, none⟩), .int .i64 n] W fun e w' => e = .returned (.bool true) ∧ (∃ v1 v2 v3, LS w' base g tx bits wide limit (lzPut st n).pos v1 (lzPut st n).list (lzPut st n).last v2 (bytesOf (lzPut st n).out) v3 (lzPut st n).codes code) ∧ Below base w0 w' := by
  have HN := Aside0.mk hn
  have HL := Aside0.mk h
  have HB := Aside0.mk hB
  obtain ⟨A5, c5, rfl⟩ := Kd.R_slice h.rl
  obtain ⟨A7, c7, rfl⟩ := Kd.R_slice h.ro
  obtain ⟨A8, c8, rfl⟩ := Kd.R_slice h.rc
  obtain ⟨z0, z1, z2, z3, z4, z5, z6, z7, z8, z9⟩ := h.cells
  have wp : IntKind.i64.wrap (p + 1) = p + 1 := by rw [i64_w', w64 (by omega)]
  clear hn h hB
  have d0 : (n == p) = false := beq_eq_false_iff_ne.2 hc
  have d1 : (n == p + 1) = false := beq_eq_false_iff_ne.2 hc1
  have d2 : decide (n > (st.list.length : Int)) = false := decide_eq_false (by omega)
  have d3 : (n == (st.list.length : Int)) = true := by rw [hlt]; exact beq_self_eq_true _
  have d5 : decide (n < (st.list.length : Int)) = false := decide_eq_false (by omega)
  have hs : lzText st n = st.last ++ st.last.extract 0 1 := by unfold lzText; rw [if_neg (by omega)]
  have hbad : ¬ lzBad st n := by unfold lzBad; omega
  have q1 : ((1 : Int) ≤ ((lzText st n).size : Int)) = True := eq_true (by have := (hI.text h0 (by omega) (by omega) hbad).1; omega)
  rw [hs] at q1
  have ht := hI.text h0 (by omega) (by omega) hbad
  have ho := hI.out
  have hbl := bytesOf_length st.out
  rw [hs] at ht
  rw [hs] at hc3
  have wl : IntKind.i64.wrap ((st.out.size : Int) + (st.last ++ st.last.extract 0 1).size) = (st.out.size : Int) + (st.last ++ st.last.extract 0 1).size := by rw [i64_w', w64 (by omega)]
  have d6 : decide ((st.out.size : Int) + (st.last ++ st.last.extract 0 1).size > limit) = false := decide_eq_false hc3
  rw [hbl] at z7
  have HBL := Aside0.mk hbl
  have HOO := Aside0.mk (show (bytesOf st.out).length + (st.last ++ st.last.extract 0 1).size ≤ 140737488355328 by omega)
  have hsz : (st.last ++ st.last.extract 0 1).size = st.last.size + min 1 st.last.size := by rw [ByteArray.size_append, ByteArray.size_extract]; omega
  have d6b : ¬ (limit < wrap64 ((st.out.size : Int) + ((st.last.size : Int) + ((min 1 st.last.size : Nat) : Int)))) := by rw [w64 (by omega)]; omega
  have hm : st.last.toList.isEmpty = false := by rw [isE]; exact decide_eq_false hz
  have hq : ¬ (9223372036854775807 < st.last.size + min 1 st.last.size) := by have := hI.last; omega
  have q2 : (9223372036854775807 < st.last.size + 1) = False := eq_false (by have := hI.last; omega)
  have q1b : ((1 : Int) ≤ (st.last.size : Int) + ((min 1 st.last.size : Nat) : Int)) = True := eq_true (by omega)
  have q2b : (9223372036854775807 < st.last.size + min 1 (st.last.size + min 1 st.last.size)) = False := eq_false (by have := hI.last; omega)
  have HLL := Aside0.mk hl
  have d8 : decide ((st.list.length : Int) < 4096) = true := decide_eq_true (by omega)
  have y5 := blk_frozen HL.out.blk 5
  have y6 := blk_frozen HL.out.blk 6
  have y7 := blk_frozen HL.out.blk 7
  go_enter Try.func40, Try.ntmps40
  go_wp2_with (first | (go_at_call 27; refine (spec_l1Pow.calls k bits p _ HN.out).mono ?_; rintro e w' ⟨rfl, ⟨m, rfl⟩⟩))
  go_quiet (fail)
  go_wp2_with (first | fail | ((with_reducible refine gate_builtin (b := .append) (xs := #[.tmp 101, .tmp 102]) rfl ?_); at_builtin; refine print_append_str (w0 := w0) base rfl (.tmp 101) (.tmp 102) 22 9 5 rfl Try.underlying22 Try.underlying9 lzInfo5 (.slice A7 (bytesOf st.out).length c7) (bytesOf st.out) (st.last ++ st.last.extract 0 1) (by rw [HBL.out]; rfl) rfl ?aO ?aB ?aS ?aL ?_; (case aO => exact Kd.own_of_R (Kd.R_drewN HL.out.ro _)); (case aB => exact pw_below_drewN HB.out _); (case aS => exact hbs); (case aL => have := HOO.out; omega); intro v7 w7 ho hb hg; obtain ⟨b7, hy7⟩ : ∃ y, bytesOf st.out ++ bytesOf (st.last ++ st.last.extract 0 1) = y := ⟨_, rfl⟩; rw [hy7] at ho; have HY7 := Aside0.mk hy7; clear hy7; have hr := Kd.R_of_own (h1 := fun _ => rfl) (ok := fun _ => True) ho (fun _ _ => trivial); obtain ⟨A9, c9, rfl⟩ := Kd.R_slice hr; have hl7 := (HL.out.drewN _).app7 hg hr; have hb7 := (HL.out.drewN _).mid7 hg; have HB7 := Aside0.mk (hb.setCell (p := ⟨g, 7, none⟩) HL.out.ge (.slice A9 b7.length c9)); obtain ⟨e0, e1, e2, e3, e4, e5, e6, e7, e8, e9⟩ := lz_cells hb7; have x5 := blk_frozen hb7 5; have x6 := blk_frozen hb7 6; have x7 := blk_frozen hb7 7; have HL7 := Aside0.mk hl7; clear hl7 hb7 hr ho hb hg HL HB z0 z1 z2 z3 z4 z5 z6 z7 z8 z9 y5 y6 y7))
  have HL8 := Aside0.mk HL7.out.drew
  have HB8 := Aside0.mk (Below.drew HB7.out)
  obtain ⟨e0, e1, e2, e3, e4, e5, e6, e7, e8, e9⟩ := HL8.out.cells
  clear HL7 HB7
  refine start_ (n := 17) (S := fun w' => w'.cell? ⟨g, 5, none⟩ = some (.slice A5 st.list.length c5) ∧ w'.cell? ⟨g, 6, none⟩ = some (.string st.last)) (ds := [13, 16]) #[false, false, false, false, false, false, false, false, false, false, false, false, false, false, false, false, false] (by kernel_rfl) rfl rfl ⟨e5, e6⟩ (fun hHeld => ?_)
  generalize (w7.setCell ⟨g, 7, none⟩ (.slice A9 b7.length c9)).drew = w8 at HL8 HB8 e0 e1 e2 e3 e4 e5 e6 e7 e8 e9 hHeld ⊢
  refine pure_ (i := 0) (N := some 119) (v := ?_) (a' := ?_) #[true, false, false, false, false, false, false, false, false, false, false, false, false, false, false, false, false] rfl rfl (by kernel_rfl) (fun _ _ _ h => h) (Or.inl ⟨by rfl, ?_⟩) ?_ ?_
  rotate_left
  · intro w'
    go_simp
    with_reducible rfl
  rotate_left
  · simp only [Act.put, List.setIfInBounds_toArray, List.set_cons_zero, List.set_cons_succ, i64_w, i32_w]
    rfl
  refine pure_ (i := 1) (N := some 120) (v := ?_) (a' := ?_) #[true, true, false, false, false, false, false, false, false, false, false, false, false, false, false, false, false] rfl rfl (by kernel_rfl) (fun _ _ _ h => h) (Or.inl ⟨by rfl, ?_⟩) ?_ ?_
  rotate_left
  · intro w'
    go_simp
    with_reducible rfl
  rotate_left
  · simp only [Act.put, List.setIfInBounds_toArray, List.set_cons_zero, List.set_cons_succ, i64_w, i32_w]
    rfl
  refine pure_ (i := 2) (N := some 121) (v := ?_) (a' := ?_) #[true, true, true, false, false, false, false, false, false, false, false, false, false, false, false, false, false] rfl rfl (by kernel_rfl) (fun _ _ _ h => h) (Or.inl ⟨by rfl, ?_⟩) ?_ ?_
  rotate_left
  · intro w'
    go_simp
    with_reducible rfl
  rotate_left
  · simp only [Act.put, List.setIfInBounds_toArray, List.set_cons_zero, List.set_cons_succ, i64_w, i32_w]
    rfl
  refine pure_ (i := 3) (N := some 122) (v := ?_) (a' := ?_) #[true, true, true, true, false, false, false, false, false, false, false, false, false, false, false, false, false] rfl rfl (by kernel_rfl) (fun _ _ _ h => h) (Or.inl ⟨by rfl, ?_⟩) ?_ ?_
  rotate_left
  · intro w'
    go_simp
    with_reducible rfl
  rotate_left
  · simp only [Act.put, List.setIfInBounds_toArray, List.set_cons_zero, List.set_cons_succ, i64_w, i32_w]
    rfl
  refine pure_ (i := 5) (N := some 124) (v := ?_) (a' := ?_) #[true, true, true, true, false, true, false, false, false, false, false, false, false, false, false, false, false] rfl rfl (by kernel_rfl) (fun _ _ _ h => h) (Or.inl ⟨by rfl, ?_⟩) ?_ ?_
  rotate_left
  · intro w'
    go_simp
    with_reducible rfl
  rotate_left
  · simp only [Act.put, List.setIfInBounds_toArray, List.set_cons_zero, List.set_cons_succ, i64_w, i32_w]
    rfl
  refine pure_ (i := 6) (N := some 125) (v := ?_) (a' := ?_) #[true, true, true, true, false, true, true, false, false, false, false, false, false, false, false, false, false] rfl rfl (by kernel_rfl) (fun _ _ _ h => h) (Or.inl ⟨by rfl, ?_⟩) ?_ ?_
  rotate_left
  · intro w'
    go_simp
    with_reducible rfl
  rotate_left
  · simp only [Act.put, List.setIfInBounds_toArray, List.set_cons_zero, List.set_cons_succ, i64_w, i32_w]
    rfl
  refine pure_ (i := 7) (N := some 126) (v := ?_) (a' := ?_) #[true, true, true, true, false, true, true, true, false, false, false, false, false, false, false, false, false] rfl rfl (by kernel_rfl) (fun _ _ _ h => h) (Or.inl ⟨by rfl, ?_⟩) ?_ ?_
  rotate_left
  · intro w'
    go_simp
    with_reducible rfl
  rotate_left
  · simp only [Act.put, List.setIfInBounds_toArray, List.set_cons_zero, List.set_cons_succ, i64_w, i32_w]
    rfl
  refine pure_ (i := 9) (N := some 128) (v := ?_) (a' := ?_) #[true, true, true, true, false, true, true, true, false, true, false, false, false, false, false, false, false] rfl rfl (by kernel_rfl) (fun _ _ _ h => h) (Or.inl ⟨by rfl, ?_⟩) ?_ ?_
  rotate_left
  · intro w'
    go_simp
    with_reducible rfl
  rotate_left
  · simp only [Act.put, List.setIfInBounds_toArray, List.set_cons_zero, List.set_cons_succ, i64_w, i32_w]
    rfl
  refine pure_ (i := 10) (N := some 129) (v := ?_) (a' := ?_) #[true, true, true, true, false, true, true, true, false, true, true, false, false, false, false, false, false] rfl rfl (by kernel_rfl) (fun _ _ _ h => h) (Or.inl ⟨by rfl, ?_⟩) ?_ ?_
  rotate_left
  · intro w'
    go_simp
    with_reducible rfl
  rotate_left
  · simp only [Act.put, List.setIfInBounds_toArray, List.set_cons_zero, List.set_cons_succ, i64_w, i32_w]
    rfl
  refine take_ (i := 4) (N := some 123) (v := ?_) (a' := ?_) #[true, true, true, true, true, true, true, true, false, true, true, false, false, false, false, false, false] rfl rfl (by kernel_rfl) (fun _ _ _ h => h) (Or.inl ⟨by rfl, ?_⟩) hHeld ?_ ?_
  rotate_left
  · rintro w' ⟨s0, s1⟩
    go_simp
    with_reducible rfl
  rotate_left
  · simp only [Act.put, List.setIfInBounds_toArray, List.set_cons_zero, List.set_cons_succ, i64_w, i32_w]
    rfl
  refine take_ (i := 8) (N := some 127) (v := ?_) (a' := ?_) #[true, true, true, true, true, true, true, true, true, true, true, false, false, false, false, false, false] rfl rfl (by kernel_rfl) (fun _ _ _ h => h) (Or.inl ⟨by rfl, ?_⟩) hHeld ?_ ?_
  rotate_left
  · rintro w' ⟨s0, s1⟩
    go_simp
    with_reducible rfl
  rotate_left
  · simp only [Act.put, List.setIfInBounds_toArray, List.set_cons_zero, List.set_cons_succ, i64_w, i32_w]
    rfl
  refine pure_ (i := 11) (N := some 130) (v := ?_) (a' := ?_) #[true, true, true, true, true, true, true, true, true, true, true, true, false, false, false, false, false] rfl rfl (by kernel_rfl) (fun _ _ _ h => h) (Or.inl ⟨by rfl, ?_⟩) ?_ ?_
  rotate_left
  · intro w'
    go_simp
    with_reducible rfl
  rotate_left
  · simp only [Act.put, List.setIfInBounds_toArray, List.set_cons_zero, List.set_cons_succ, i64_w, i32_w]
    rfl
  refine one_ (i := 12) (N := some 131) #[true, true, true, true, true, true, true, true, true, true, true, true, true, false, false, false, false] rfl rfl (by kernel_rfl) (by decide) (fun K hK => ?_)
  refine value_ (w1 := ?_) (v := ?_) (by rfl) rfl ?_ ?_
  rotate_left 2
  · go_simp
    constructor
    · rfl
    · rfl
  refine hK.out _ _ ⟨(((Below.refl _ _).alloc (Nat.le_refl _) _).cell HL8.out.lt).trans e5, (((Below.refl _ _).alloc (Nat.le_refl _) _).cell HL8.out.lt).trans e6⟩ (fun hHeld => ?_)
  clear hK K
  refine norm_ (a' := ?_) ?_ ?_
  rotate_left
  · show Act.put _ (some 131) _ = _
    simp only [Act.put, List.setIfInBounds_toArray, List.set_cons_zero, List.set_cons_succ, i64_w, i32_w]
    rfl
  refine last_ (i := 13) (N := some 132) #[true, true, true, true, true, true, true, true, true, true, true, true, true, true, false, false, false] rfl rfl (by kernel_rfl) (by decide) (fun K hK => ?_)
  refine Kd.R_append_step Kd.string (w0 := w0) base (by rfl) (.tmp 123) (.tmp 131) 41 9 (.string ⟨#[]⟩) 16 rfl Try.underlying41 lzInfo9 rfl (by decide) (by omega) (.slice A5 st.list.length c5) st.list (st.last ++ (st.last ++ st.last.extract 0 1).extract 0 1) [.string (st.last ++ (st.last ++ st.last.extract 0 1).extract 0 1)] (fun _ => True) (fun _ => False) rfl rfl ?aP (fun _ hk => hk.elim) ?aF ?aO ?aB ?aS ?aL ?_
  (case aP => exact rfl)
  (case aB => exact HB8.out)
  (case aF => exact fun _ _ => trivial)
  (case aO => exact HL8.out.rl)
  (case aS => exact Nat.le_of_lt (Nat.lt_of_le_of_lt HL8.out.ge HL8.out.lt))
  (case aL => have := HLL.out; omega)
  intro v5 w5 hr hb hg hat
  obtain ⟨b5, hy5⟩ : ∃ y, st.list ++ [(st.last ++ (st.last ++ st.last.extract 0 1).extract 0 1)] = y := ⟨_, rfl⟩
  rw [hy5] at hr
  have HY5 := Aside0.mk hy5
  clear hy5
  obtain ⟨A10, c10, rfl⟩ := Kd.R_slice hr
  have hl5 := HL8.out.app5 hg hr
  have hb5 := HL8.out.mid5 hg
  have HB5 := Aside0.mk (hb.setCell (p := ⟨g, 5, none⟩) HL8.out.ge (.slice A10 b5.length c10))
  obtain ⟨f0, f1, f2, f3, f4, f5, f6, f7, f8, f9⟩ := lz_cells hb5
  have u5 := blk_frozen hb5 5
  have u6 := blk_frozen hb5 6
  have HL9 := Aside0.mk hl5
  clear hl5 hb5 hr hb hg hat
  refine hK.out _ _ ?_
  clear hK K
  refine norm_ (a' := ?_) ?_ ?_
  rotate_left
  · show Act.put _ (some 132) _ = _
    simp only [Act.put, List.setIfInBounds_toArray, List.set_cons_zero, List.set_cons_succ, i64_w, i32_w]
    rfl
  refine pure_ (i := 14) (N := some 133) (v := ?_) (a' := ?_) #[true, true, true, true, true, true, true, true, true, true, true, true, true, true, true, false, false] rfl rfl (by kernel_rfl) (fun _ _ _ h => h) (Or.inl ⟨by rfl, ?_⟩) ?_ ?_
  rotate_left
  · intro w'
    go_simp
    with_reducible rfl
  rotate_left
  · simp only [Act.put, List.setIfInBounds_toArray, List.set_cons_zero, List.set_cons_succ, i64_w, i32_w]
    rfl
  refine pure_ (i := 15) (N := some 134) (v := ?_) (a' := ?_) #[true, true, true, true, true, true, true, true, true, true, true, true, true, true, true, true, false] rfl rfl (by kernel_rfl) (fun _ _ _ h => h) (Or.inl ⟨by rfl, ?_⟩) ?_ ?_
  rotate_left
  · intro w'
    go_simp
    with_reducible rfl
  rotate_left
  · simp only [Act.put, List.setIfInBounds_toArray, List.set_cons_zero, List.set_cons_succ, i64_w, i32_w]
    rfl
  refine last_ (i := 16) (N := none) #[true, true, true, true, true, true, true, true, true, true, true, true, true, true, true, true, true] rfl rfl (by kernel_rfl) (by decide) (fun K hK => ?_)
  refine skip_ (w1 := ?_) (by rfl) rfl ?_ ?_
  rotate_left
  · go_simp
    rfl
  refine hK.out _ _ ?_
  clear hK K
  refine done_ (by kernel_rfl) ?_
  try go_wp2
  go_ret
  have e1 : lzPut st n = ⟨st.pos, st.list ++ [st.last ++ (st.last ++ st.last.extract 0 1).extract 0 1], (st.last ++ st.last.extract 0 1), st.out ++ (st.last ++ st.last.extract 0 1), st.codes⟩ := by unfold lzPut lzMore; rw [hs, if_pos ⟨hz, hl⟩]
  rw [e1]
  refine ⟨rfl, ⟨?a1, ?a2, ?a3, ?a4⟩, (HB5.out).setCell HL9.out.ge _⟩
  case a4 => show LS _ _ _ _ _ _ _ st.pos _ (st.list ++ [st.last ++ (st.last ++ st.last.extract 0 1).extract 0 1]) (st.last ++ st.last.extract 0 1) _ (bytesOf (st.out ++ (st.last ++ st.last.extract 0 1))) _ st.codes code; rw [bytesOf_append, HY7.out, HY5.out]; exact HL9.out.at6 _
set_option maxHeartbeats 8000000 in
set_option maxRecDepth 100000 in
theorem l6step_full1 (k : Nat) {W w0 : World} {base g : Nat} {tx : ByteArray} {bits : Int} {wide : Bool} {limit : Int} {vl vo vc : Value} {st : LzSt} {code : Int}
    (h : LS W base g tx bits wide limit st.pos vl st.list st.last vo (bytesOf st.out) vc st.codes code) (hB : Below base w0 W) (hbs : base ≤ W.heap.size) (n p : Int) (hn : spec_l1Pow.f k bits = some p) (hp : 0 ≤ p ∧ p ≤ 256) (h0 : 0 ≤ n) (hc : n ≠ p) (hc1 : n ≠ p + 1) (hI : LzI tx bits st) (hpb : p = P2 bits.toNat) (hlim : limit ≤ 65536) (hlt : n < st.list.length) (hc3 : ¬ (st.out.size : Int) + (lzText st n).size > limit) (hz : st.last.size ≠ 0) (hl : ¬ st.list.length < 4096) :
    Calls Try.prog 40 #[.pointer (some ⟨g, 0, none⟩), .int .i64 n] W fun e w' => e = .returned (.bool true) ∧ (∃ v1 v2 v3, LS w' base g tx bits wide limit (lzPut st n).pos v1 (lzPut st n).list (lzPut st n).last v2 (bytesOf (lzPut st n).out) v3 (lzPut st n).codes code) ∧ Below base w0 w' := by
  have HN := Aside0.mk hn
  have HL := Aside0.mk h
  have HB := Aside0.mk hB
  obtain ⟨A5, c5, rfl⟩ := Kd.R_slice h.rl
  obtain ⟨A7, c7, rfl⟩ := Kd.R_slice h.ro
  obtain ⟨A8, c8, rfl⟩ := Kd.R_slice h.rc
  obtain ⟨z0, z1, z2, z3, z4, z5, z6, z7, z8, z9⟩ := h.cells
  have wp : IntKind.i64.wrap (p + 1) = p + 1 := by rw [i64_w', w64 (by omega)]
  clear hn h hB
  have d0 : (n == p) = false := beq_eq_false_iff_ne.2 hc
  have d1 : (n == p + 1) = false := beq_eq_false_iff_ne.2 hc1
  have d2 : decide (n > (st.list.length : Int)) = false := decide_eq_false (by omega)
  have d3 : (n == (st.list.length : Int)) = false := beq_eq_false_iff_ne.2 (by omega)
  have d5 : decide (n < (st.list.length : Int)) = true := decide_eq_true hlt
  have hs : lzText st n = rdOf ByteArray.empty st.list n := by unfold lzText; rw [if_pos hlt]
  have hbad : ¬ lzBad st n := by unfold lzBad; omega
  obtain ⟨ad, ea, hcell⟩ := Kd.at_string (Kd.R_reads' HL.out.rl).2.2 n h0 hlt
  cases ea
  generalize rdOf ByteArray.empty st.list n = s at hcell hs
  have q1 : ((1 : Int) ≤ ((lzText st n).size : Int)) = True := eq_true (by have := (hI.text h0 (by omega) (by omega) hbad).1; omega)
  rw [hs] at q1
  have ht := hI.text h0 (by omega) (by omega) hbad
  have ho := hI.out
  have hbl := bytesOf_length st.out
  rw [hs] at ht
  rw [hs] at hc3
  have wl : IntKind.i64.wrap ((st.out.size : Int) + s.size) = (st.out.size : Int) + s.size := by rw [i64_w', w64 (by omega)]
  have d6 : decide ((st.out.size : Int) + s.size > limit) = false := decide_eq_false hc3
  rw [hbl] at z7
  have HBL := Aside0.mk hbl
  have HOO := Aside0.mk (show (bytesOf st.out).length + s.size ≤ 140737488355328 by omega)
  have hm : st.last.toList.isEmpty = false := by rw [isE]; exact decide_eq_false hz
  have d8 : decide ((st.list.length : Int) < 4096) = false := decide_eq_false (by omega)
  have y5 := blk_frozen HL.out.blk 5
  have y6 := blk_frozen HL.out.blk 6
  have y7 := blk_frozen HL.out.blk 7
  go_enter Try.func40, Try.ntmps40
  go_wp2_with (first | (go_at_call 27; refine (spec_l1Pow.calls k bits p _ HN.out).mono ?_; rintro e w' ⟨rfl, ⟨m, rfl⟩⟩))
  go_quiet (fail)
  go_wp2_with (first | fail | ((with_reducible refine gate_builtin (b := .append) (xs := #[.tmp 101, .tmp 102]) rfl ?_); at_builtin; refine print_append_str (w0 := w0) base rfl (.tmp 101) (.tmp 102) 22 9 5 rfl Try.underlying22 Try.underlying9 lzInfo5 (.slice A7 (bytesOf st.out).length c7) (bytesOf st.out) s (by rw [HBL.out]; rfl) rfl ?aO ?aB ?aS ?aL ?_; (case aO => exact Kd.own_of_R (Kd.R_drewN HL.out.ro _)); (case aB => exact pw_below_drewN HB.out _); (case aS => exact hbs); (case aL => have := HOO.out; omega); intro v7 w7 ho hb hg; obtain ⟨b7, hy7⟩ : ∃ y, bytesOf st.out ++ bytesOf s = y := ⟨_, rfl⟩; rw [hy7] at ho; have HY7 := Aside0.mk hy7; clear hy7; have hr := Kd.R_of_own (h1 := fun _ => rfl) (ok := fun _ => True) ho (fun _ _ => trivial); obtain ⟨A9, c9, rfl⟩ := Kd.R_slice hr; have hl7 := (HL.out.drewN _).app7 hg hr; have hb7 := (HL.out.drewN _).mid7 hg; have HB7 := Aside0.mk (hb.setCell (p := ⟨g, 7, none⟩) HL.out.ge (.slice A9 b7.length c9)); obtain ⟨e0, e1, e2, e3, e4, e5, e6, e7, e8, e9⟩ := lz_cells hb7; have x5 := blk_frozen hb7 5; have x6 := blk_frozen hb7 6; have x7 := blk_frozen hb7 7; have HL7 := Aside0.mk hl7; clear hl7 hb7 hr ho hb hg HL HB z0 z1 z2 z3 z4 z5 z6 z7 z8 z9 y5 y6 y7))
  go_ret
  have e1 : lzPut st n = ⟨st.pos, st.list, s, st.out ++ s, st.codes⟩ := by unfold lzPut lzMore; rw [hs, if_neg (fun h => hl h.2)]
  rw [e1]
  refine ⟨rfl, ⟨?a1, ?a2, ?a3, ?a4⟩, (HB7.out).setCell HL7.out.ge _⟩
  case a4 => show LS _ _ _ _ _ _ _ st.pos _ (st.list) s _ (bytesOf (st.out ++ s)) _ st.codes code; rw [bytesOf_append, HY7.out]; exact HL7.out.at6 _
set_option maxHeartbeats 8000000 in
set_option maxRecDepth 100000 in
theorem l6step_full2 (k : Nat) {W w0 : World} {base g : Nat} {tx : ByteArray} {bits : Int} {wide : Bool} {limit : Int} {vl vo vc : Value} {st : LzSt} {code : Int}
    (h : LS W base g tx bits wide limit st.pos vl st.list st.last vo (bytesOf st.out) vc st.codes code) (hB : Below base w0 W) (hbs : base ≤ W.heap.size) (n p : Int) (hn : spec_l1Pow.f k bits = some p) (hp : 0 ≤ p ∧ p ≤ 256) (h0 : 0 ≤ n) (hc : n ≠ p) (hc1 : n ≠ p + 1) (hI : LzI tx bits st) (hpb : p = P2 bits.toNat) (hlim : limit ≤ 65536) (hlt : n = st.list.length) (hc3 : ¬ (st.out.size : Int) + (lzText st n).size > limit) (hz : st.last.size ≠ 0) (hl : ¬ st.list.length < 4096) :
    Calls Try.prog 40 #[.pointer (some ⟨g, 0, none⟩), .int .i64 n] W fun e w' => e = .returned (.bool true) ∧ (∃ v1 v2 v3, LS w' base g tx bits wide limit (lzPut st n).pos v1 (lzPut st n).list (lzPut st n).last v2 (bytesOf (lzPut st n).out) v3 (lzPut st n).codes code) ∧ Below base w0 w' := by
  have HN := Aside0.mk hn
  have HL := Aside0.mk h
  have HB := Aside0.mk hB
  obtain ⟨A5, c5, rfl⟩ := Kd.R_slice h.rl
  obtain ⟨A7, c7, rfl⟩ := Kd.R_slice h.ro
  obtain ⟨A8, c8, rfl⟩ := Kd.R_slice h.rc
  obtain ⟨z0, z1, z2, z3, z4, z5, z6, z7, z8, z9⟩ := h.cells
  have wp : IntKind.i64.wrap (p + 1) = p + 1 := by rw [i64_w', w64 (by omega)]
  clear hn h hB
  have d0 : (n == p) = false := beq_eq_false_iff_ne.2 hc
  have d1 : (n == p + 1) = false := beq_eq_false_iff_ne.2 hc1
  have d2 : decide (n > (st.list.length : Int)) = false := decide_eq_false (by omega)
  have d3 : (n == (st.list.length : Int)) = true := by rw [hlt]; exact beq_self_eq_true _
  have d5 : decide (n < (st.list.length : Int)) = false := decide_eq_false (by omega)
  have hs : lzText st n = st.last ++ st.last.extract 0 1 := by unfold lzText; rw [if_neg (by omega)]
  have hbad : ¬ lzBad st n := by unfold lzBad; omega
  have q1 : ((1 : Int) ≤ ((lzText st n).size : Int)) = True := eq_true (by have := (hI.text h0 (by omega) (by omega) hbad).1; omega)
  rw [hs] at q1
  have ht := hI.text h0 (by omega) (by omega) hbad
  have ho := hI.out
  have hbl := bytesOf_length st.out
  rw [hs] at ht
  rw [hs] at hc3
  have wl : IntKind.i64.wrap ((st.out.size : Int) + (st.last ++ st.last.extract 0 1).size) = (st.out.size : Int) + (st.last ++ st.last.extract 0 1).size := by rw [i64_w', w64 (by omega)]
  have d6 : decide ((st.out.size : Int) + (st.last ++ st.last.extract 0 1).size > limit) = false := decide_eq_false hc3
  rw [hbl] at z7
  have HBL := Aside0.mk hbl
  have HOO := Aside0.mk (show (bytesOf st.out).length + (st.last ++ st.last.extract 0 1).size ≤ 140737488355328 by omega)
  have hsz : (st.last ++ st.last.extract 0 1).size = st.last.size + min 1 st.last.size := by rw [ByteArray.size_append, ByteArray.size_extract]; omega
  have d6b : ¬ (limit < wrap64 ((st.out.size : Int) + ((st.last.size : Int) + ((min 1 st.last.size : Nat) : Int)))) := by rw [w64 (by omega)]; omega
  have hm : st.last.toList.isEmpty = false := by rw [isE]; exact decide_eq_false hz
  have hq : ¬ (9223372036854775807 < st.last.size + min 1 st.last.size) := by have := hI.last; omega
  have d8 : decide ((st.list.length : Int) < 4096) = false := decide_eq_false (by omega)
  have y5 := blk_frozen HL.out.blk 5
  have y6 := blk_frozen HL.out.blk 6
  have y7 := blk_frozen HL.out.blk 7
  go_enter Try.func40, Try.ntmps40
  go_wp2_with (first | (go_at_call 27; refine (spec_l1Pow.calls k bits p _ HN.out).mono ?_; rintro e w' ⟨rfl, ⟨m, rfl⟩⟩))
  go_quiet (fail)
  go_wp2_with (first | fail | ((with_reducible refine gate_builtin (b := .append) (xs := #[.tmp 101, .tmp 102]) rfl ?_); at_builtin; refine print_append_str (w0 := w0) base rfl (.tmp 101) (.tmp 102) 22 9 5 rfl Try.underlying22 Try.underlying9 lzInfo5 (.slice A7 (bytesOf st.out).length c7) (bytesOf st.out) (st.last ++ st.last.extract 0 1) (by rw [HBL.out]; rfl) rfl ?aO ?aB ?aS ?aL ?_; (case aO => exact Kd.own_of_R (Kd.R_drewN HL.out.ro _)); (case aB => exact pw_below_drewN HB.out _); (case aS => exact hbs); (case aL => have := HOO.out; omega); intro v7 w7 ho hb hg; obtain ⟨b7, hy7⟩ : ∃ y, bytesOf st.out ++ bytesOf (st.last ++ st.last.extract 0 1) = y := ⟨_, rfl⟩; rw [hy7] at ho; have HY7 := Aside0.mk hy7; clear hy7; have hr := Kd.R_of_own (h1 := fun _ => rfl) (ok := fun _ => True) ho (fun _ _ => trivial); obtain ⟨A9, c9, rfl⟩ := Kd.R_slice hr; have hl7 := (HL.out.drewN _).app7 hg hr; have hb7 := (HL.out.drewN _).mid7 hg; have HB7 := Aside0.mk (hb.setCell (p := ⟨g, 7, none⟩) HL.out.ge (.slice A9 b7.length c9)); obtain ⟨e0, e1, e2, e3, e4, e5, e6, e7, e8, e9⟩ := lz_cells hb7; have x5 := blk_frozen hb7 5; have x6 := blk_frozen hb7 6; have x7 := blk_frozen hb7 7; have HL7 := Aside0.mk hl7; clear hl7 hb7 hr ho hb hg HL HB z0 z1 z2 z3 z4 z5 z6 z7 z8 z9 y5 y6 y7))
  go_ret
  have e1 : lzPut st n = ⟨st.pos, st.list, (st.last ++ st.last.extract 0 1), st.out ++ (st.last ++ st.last.extract 0 1), st.codes⟩ := by unfold lzPut lzMore; rw [hs, if_neg (fun h => hl h.2)]
  rw [e1]
  refine ⟨rfl, ⟨?a1, ?a2, ?a3, ?a4⟩, (HB7.out).setCell HL7.out.ge _⟩
  case a4 => show LS _ _ _ _ _ _ _ st.pos _ (st.list) (st.last ++ st.last.extract 0 1) _ (bytesOf (st.out ++ (st.last ++ st.last.extract 0 1))) _ st.codes code; rw [bytesOf_append, HY7.out]; exact HL7.out.at6 _
set_option maxHeartbeats 8000000 in
set_option maxRecDepth 100000 in
theorem l6step_new (k : Nat) {W w0 : World} {base g : Nat} {tx : ByteArray} {bits : Int} {wide : Bool} {limit : Int} {vl vo vc : Value} {st : LzSt} {code : Int}
    (h : LS W base g tx bits wide limit st.pos vl st.list st.last vo (bytesOf st.out) vc st.codes code) (hB : Below base w0 W) (hbs : base ≤ W.heap.size) (n p : Int) (hn : spec_l1Pow.f k bits = some p) (hp : 0 ≤ p ∧ p ≤ 256) (h0 : 0 ≤ n) (hc : n ≠ p) (hc1 : n ≠ p + 1) (hI : LzI tx bits st) (hpb : p = P2 bits.toNat) (hlim : limit ≤ 65536) (hlt : n < st.list.length) (hc3 : ¬ (st.out.size : Int) + (lzText st n).size > limit) (hz : st.last.size = 0) :
    Calls Try.prog 40 #[.pointer (some ⟨g, 0, none⟩), .int .i64 n] W fun e w' => e = .returned (.bool true) ∧ (∃ v1 v2 v3, LS w' base g tx bits wide limit (lzPut st n).pos v1 (lzPut st n).list (lzPut st n).last v2 (bytesOf (lzPut st n).out) v3 (lzPut st n).codes code) ∧ Below base w0 w' := by
  have HN := Aside0.mk hn
  have HL := Aside0.mk h
  have HB := Aside0.mk hB
  obtain ⟨A5, c5, rfl⟩ := Kd.R_slice h.rl
  obtain ⟨A7, c7, rfl⟩ := Kd.R_slice h.ro
  obtain ⟨A8, c8, rfl⟩ := Kd.R_slice h.rc
  obtain ⟨z0, z1, z2, z3, z4, z5, z6, z7, z8, z9⟩ := h.cells
  have wp : IntKind.i64.wrap (p + 1) = p + 1 := by rw [i64_w', w64 (by omega)]
  clear hn h hB
  have d0 : (n == p) = false := beq_eq_false_iff_ne.2 hc
  have d1 : (n == p + 1) = false := beq_eq_false_iff_ne.2 hc1
  have d2 : decide (n > (st.list.length : Int)) = false := decide_eq_false (by omega)
  have d3 : (n == (st.list.length : Int)) = false := beq_eq_false_iff_ne.2 (by omega)
  have d5 : decide (n < (st.list.length : Int)) = true := decide_eq_true hlt
  have hs : lzText st n = rdOf ByteArray.empty st.list n := by unfold lzText; rw [if_pos hlt]
  have hbad : ¬ lzBad st n := by unfold lzBad; omega
  obtain ⟨ad, ea, hcell⟩ := Kd.at_string (Kd.R_reads' HL.out.rl).2.2 n h0 hlt
  cases ea
  generalize rdOf ByteArray.empty st.list n = s at hcell hs
  have q1 : ((1 : Int) ≤ ((lzText st n).size : Int)) = True := eq_true (by have := (hI.text h0 (by omega) (by omega) hbad).1; omega)
  rw [hs] at q1
  have ht := hI.text h0 (by omega) (by omega) hbad
  have ho := hI.out
  have hbl := bytesOf_length st.out
  rw [hs] at ht
  rw [hs] at hc3
  have wl : IntKind.i64.wrap ((st.out.size : Int) + s.size) = (st.out.size : Int) + s.size := by rw [i64_w', w64 (by omega)]
  have d6 : decide ((st.out.size : Int) + s.size > limit) = false := decide_eq_false hc3
  rw [hbl] at z7
  have HBL := Aside0.mk hbl
  have HOO := Aside0.mk (show (bytesOf st.out).length + s.size ≤ 140737488355328 by omega)
  have hm : st.last.toList.isEmpty = true := by rw [isE]; exact decide_eq_true hz
  have y5 := blk_frozen HL.out.blk 5
  have y6 := blk_frozen HL.out.blk 6
  have y7 := blk_frozen HL.out.blk 7
  go_enter Try.func40, Try.ntmps40
  go_wp2_with (first | (go_at_call 27; refine (spec_l1Pow.calls k bits p _ HN.out).mono ?_; rintro e w' ⟨rfl, ⟨m, rfl⟩⟩))
  go_quiet (fail)
  go_wp2_with (first | fail | ((with_reducible refine gate_builtin (b := .append) (xs := #[.tmp 101, .tmp 102]) rfl ?_); at_builtin; refine print_append_str (w0 := w0) base rfl (.tmp 101) (.tmp 102) 22 9 5 rfl Try.underlying22 Try.underlying9 lzInfo5 (.slice A7 (bytesOf st.out).length c7) (bytesOf st.out) s (by rw [HBL.out]; rfl) rfl ?aO ?aB ?aS ?aL ?_; (case aO => exact Kd.own_of_R (Kd.R_drewN HL.out.ro _)); (case aB => exact pw_below_drewN HB.out _); (case aS => exact hbs); (case aL => have := HOO.out; omega); intro v7 w7 ho hb hg; obtain ⟨b7, hy7⟩ : ∃ y, bytesOf st.out ++ bytesOf s = y := ⟨_, rfl⟩; rw [hy7] at ho; have HY7 := Aside0.mk hy7; clear hy7; have hr := Kd.R_of_own (h1 := fun _ => rfl) (ok := fun _ => True) ho (fun _ _ => trivial); obtain ⟨A9, c9, rfl⟩ := Kd.R_slice hr; have hl7 := (HL.out.drewN _).app7 hg hr; have hb7 := (HL.out.drewN _).mid7 hg; have HB7 := Aside0.mk (hb.setCell (p := ⟨g, 7, none⟩) HL.out.ge (.slice A9 b7.length c9)); obtain ⟨e0, e1, e2, e3, e4, e5, e6, e7, e8, e9⟩ := lz_cells hb7; have x5 := blk_frozen hb7 5; have x6 := blk_frozen hb7 6; have x7 := blk_frozen hb7 7; have HL7 := Aside0.mk hl7; clear hl7 hb7 hr ho hb hg HL HB z0 z1 z2 z3 z4 z5 z6 z7 z8 z9 y5 y6 y7))
  go_ret
  have e1 : lzPut st n = ⟨st.pos, st.list, s, st.out ++ s, st.codes⟩ := by unfold lzPut lzMore; rw [hs, if_neg (fun h => h.1 hz)]
  rw [e1]
  refine ⟨rfl, ⟨?a1, ?a2, ?a3, ?a4⟩, (HB7.out).setCell HL7.out.ge _⟩
  case a4 => show LS _ _ _ _ _ _ _ st.pos _ (st.list) s _ (bytesOf (st.out ++ s)) _ st.codes code; rw [bytesOf_append, HY7.out]; exact HL7.out.at6 _
set_option maxHeartbeats 8000000 in
set_option maxRecDepth 100000 in
theorem l6step (k : Nat) {W w0 : World} {base g : Nat} {tx : ByteArray} {bits : Int} {wide : Bool} {limit : Int} {vl vo vc : Value} {st : LzSt}
    (h : LS W base g tx bits wide limit st.pos vl st.list st.last vo (bytesOf st.out) vc st.codes 0) (hB : Below base w0 W) (hbs : base ≤ W.heap.size) (n : Int) (h0 : 0 ≤ n) (hI : LzI tx bits st) (hn : spec_l1Pow.f k bits = some (P2 bits.toNat)) (hst : spec_l6Start.f k bits = some (lzStart bits)) (hlim : limit ≤ 65536) :
    Calls Try.prog 40 #[.pointer (some ⟨g, 0, none⟩), .int .i64 n] W fun e w' => e = .returned (.bool (lzStep bits limit st n).2.isNone) ∧ (∃ v1 v2 v3, LS w' base g tx bits wide limit (lzStep bits limit st n).1.pos v1 (lzStep bits limit st n).1.list (lzStep bits limit st n).1.last v2 (bytesOf (lzStep bits limit st n).1.out) v3 (lzStep bits limit st n).1.codes ((lzStep bits limit st n).2.getD 0)) ∧ Below base w0 w' := by
  have hp := P2_bits hI.rng
  have hp2 : 0 ≤ P2 bits.toNat ∧ P2 bits.toNat ≤ 256 := by omega
  unfold lzStep
  by_cases c1 : n = P2 bits.toNat
  · rw [if_pos c1]; exact l6step_clear k h hB hbs n _ hn hp2 c1 _ hst
  · rw [if_neg c1]
    by_cases c2 : n = P2 bits.toNat + 1
    · rw [if_pos c2]; exact l6step_end k h hB hbs n _ hn hp2 c1 c2
    · rw [if_neg c2]
      by_cases c3 : lzBad st n
      · rw [if_pos c3]
        rcases c3 with c3 | ⟨c3, c4⟩
        · exact l6step_bad1 k h hB hbs n _ hn hp2 c1 c2 c3
        · exact l6step_bad2 k h hB hbs n _ hn hp2 c1 c2 c3 c4
      · rw [if_neg c3]
        have c3' : n ≤ st.list.length ∧ (n = st.list.length → st.last.size ≠ 0) := by
          unfold lzBad at c3; exact ⟨by omega, fun a b => c3 (Or.inr ⟨a, b⟩)⟩
        by_cases c4 : (st.out.size : Int) + (lzText st n).size > limit
        · rw [if_pos c4]
          by_cases c5 : n < st.list.length
          · exact l6step_long1 k h hB hbs n _ hn hp2 h0 c1 c2 hI rfl hlim c5 c4
          · exact l6step_long2 k h hB hbs n _ hn hp2 h0 c1 c2 hI rfl hlim (by omega) (c3'.2 (by omega)) c4
        · rw [if_neg c4]
          by_cases c5 : n < st.list.length
          · by_cases c6 : st.last.size = 0
            · exact l6step_new k h hB hbs n _ hn hp2 h0 c1 c2 hI rfl hlim c5 c4 c6
            · by_cases c7 : st.list.length < 4096
              · exact l6step_grow1 k h hB hbs n _ hn hp2 h0 c1 c2 hI rfl hlim c5 c4 c6 c7
              · exact l6step_full1 k h hB hbs n _ hn hp2 h0 c1 c2 hI rfl hlim c5 c4 c6 c7
          · by_cases c7 : st.list.length < 4096
            · exact l6step_grow2 k h hB hbs n _ hn hp2 h0 c1 c2 hI rfl hlim (by omega) c4 (c3'.2 (by omega)) c7
            · exact l6step_full2 k h hB hbs n _ hn hp2 h0 c1 c2 hI rfl hlim (by omega) c4 (c3'.2 (by omega)) c7
end
section
open Go.Proofs.Ytdebckcphaocmaa.Th
theorem lzInfo3 : (Try.prog.info? 3).map (fun i => (i.zero, i.size, i.bytes)) = some (some (.int .i64 0), 1, 8) := by kernel_rfl
set_option maxHeartbeats 8000000 in
set_option maxRecDepth 100000 in
theorem l6all (k : Nat) (w : World) (tx : ByteArray) (bits : Int) (wide : Bool) (limit : Int) (hr : 2 ≤ bits ∧ bits ≤ 8) (hs : tx.size ≤ 9000) (hlim : limit ≤ 65536)
    (hw : ∀ known : Nat, known ≤ 4096 → spec_l6Width.f k (known : Int) bits wide = some (lzWid known bits wide))
    (hg : ∀ a n : Int, 0 ≤ a → 0 ≤ n → n ≤ 12 → a + n ≤ 8 * (tx.size : Int) → spec_l1Get.f k tx a n wide = some (bitsM tx a wide n.toNat))
    (hn : spec_l1Pow.f k bits = some (P2 bits.toNat)) (hst : spec_l6Start.f k bits = some (lzStart bits)) :
    Calls Try.prog 25 #[.string tx, .int .i64 bits, .bool wide, .int .i64 limit] w fun e w' => ∃ g, e = .returned (.pointer (some ⟨g, 0, none⟩)) ∧ (∃ v1 v2 v3, LS w' w.heap.size g tx bits wide limit (lzAll tx bits wide limit).1.pos v1 (lzAll tx bits wide limit).1.list (lzAll tx bits wide limit).1.last v2 (bytesOf (lzAll tx bits wide limit).1.out) v3 (lzAll tx bits wide limit).1.codes (lzAll tx bits wide limit).2) ∧ Below w.heap.size w w' := by
  have HW := Aside0.mk hw
  have HG := Aside0.mk hg
  have HN := Aside0.mk hn
  have HST := Aside0.mk hst
  clear hw hg hn hst
  obtain ⟨fin, hfin⟩ : ∃ f, lzAll tx bits wide limit = f := ⟨_, rfl⟩
  rw [hfin]
  have HF := Aside0.mk hfin
  clear hfin
  go_enter Try.func25, Try.ntmps25
  go_wp2_with (first | (go_at_call 38; refine (spec_l6Start.calls k bits (lzStart bits) _ HST.out).mono ?_; rintro e w' ⟨v1, rfl, hr, hb⟩; obtain ⟨A1, c1, rfl⟩ := Kd.R_slice hr; have HR := Aside0.mk hr; have HBB := Aside0.mk hb; clear hr hb))
  have hL0 : LS (w'.alloc (Obj.cells #[.string tx, .int .i64 bits, .bool wide, .int .i64 limit, .int .i64 0, .slice A1 (lzStart bits).length c1, .string ⟨#[]⟩, .slice none 0 0, .slice none 0 0, .int .i64 0] 56)) w.heap.size w'.heap.size tx bits wide limit (lzInit bits).pos (.slice A1 (lzStart bits).length c1) (lzInit bits).list (lzInit bits).last (.slice none 0 0) (bytesOf (lzInit bits).out) (.slice none 0 0) (lzInit bits).codes 0 :=
    ⟨blk_new _ _, HBB.out.size, Kd.R_alloc HR.out _, Kd.R_nil _ _ _ _ _, Kd.R_nil _ _ _ _ _⟩
  have hB0 := below_alloc HBB.out (Obj.cells #[.string tx, .int .i64 bits, .bool wide, .int .i64 limit, .int .i64 0, .slice A1 (lzStart bits).length c1, .string ⟨#[]⟩, .slice none 0 0, .slice none 0 0, .int .i64 0] 56)
  generalize w'.heap.size = g at hL0 ⊢
  have HL0 := Aside0.mk hL0
  have HB0 := Aside0.mk hB0
  clear hL0 hB0
  go_loopg [10] (8 * tx.size + 1) (fun kq v10 wr => (∃ (st : LzSt) (v1 v2 v3 : Value), v10 = .bool true ∧ Aside0 (LS wr w.heap.size g tx bits wide limit st.pos v1 st.list st.last v2 (bytesOf st.out) v3 st.codes 0) ∧ Aside0 (LzI tx bits st) ∧ Aside0 (lzRun tx bits wide limit kq st = fin) ∧ Aside0 (8 * (tx.size : Int) + 1 ≤ (kq : Int) + st.pos) ∧ Aside0 (Below w.heap.size w wr)) ∨ (∃ (v1 v2 v3 : Value), v10 = .bool false ∧ Aside0 (LS wr w.heap.size g tx bits wide limit fin.1.pos v1 fin.1.list fin.1.last v2 (bytesOf fin.1.out) v3 fin.1.codes fin.2) ∧ Aside0 (Below w.heap.size w wr)))
  case atStart => exact Or.inl ⟨lzInit bits, _, _, _, rfl, ⟨HL0.out⟩, ⟨LzI.init tx hr⟩, HF, ⟨by show _ ≤ _ + (0 : Int); omega⟩, ⟨HB0.out⟩⟩
  case round =>
    clear HL0 HB0 HBB HR HF
    rcases hrel with ⟨st, v1, v2, v3, rfl, HL, HI, HR, HK, HB⟩ | ⟨v1, v2, v3, rfl, HL, HB⟩
    · cases gk with
      | zero => exact absurd HK.out (by have := HI.out.pos; omega)
      | succ k1 =>
        have hlen := HI.out.len
        have hwd := lzWid_b hr st.list.length wide
        have hpos := HI.out.pos
        have HWN := Aside0.mk (HW.out st.list.length hlen.2)
        by_cases hc : st.pos + lzWid st.list.length bits wide > 8 * (tx.size : Int)
        · have hf : (st, (2 : Int)) = fin := (lzRun_short hc).symm.trans HR.out
          subst hf
          have hn1 := l6next_short k HL.out HB.out _ HWN.out hs (by omega) hc
          have HNX := Aside0.mk hn1
          clear hn1 HL HB
          go_wp2_with (first | (go_at_call 39; refine (HNX.out).mono ?_; rintro e w1 ⟨rfl, hl, hb⟩; have HL1 := Aside0.mk hl; have HB1 := Aside0.mk hb; clear hl hb))
          go_ret
          exact ⟨g, rfl, ⟨_, _, _, HL1.out⟩, HB1.out⟩
        · have hv := HG.out st.pos (lzWid st.list.length bits wide) hpos.1 (by omega) (by omega) (by omega)
          have hn1 := l6next_some k HL.out HB.out _ _ HWN.out hv hs (by omega) hc
          have HNX := Aside0.mk hn1
          have h0 := lzNum_b tx bits wide st
          have d0 : decide (lzNum tx bits wide st < 0) = false := decide_eq_false (by omega)
          clear hn1 HL HB
          change Aside0 (Calls _ _ _ _ fun e w' => e = .returned (.int .i64 (lzNum tx bits wide st)) ∧ _ ∧ _) at HNX
          obtain ⟨on1, hon⟩ : ∃ b, (lzStep bits limit (lzAdv tx bits wide st) (lzNum tx bits wide st)).2.isNone = b := ⟨_, rfl⟩
          have HON := Aside0.mk hon
          have HIA := Aside0.mk (HI.out.adv (wide := wide) hc)
          have HH0 := Aside0.mk h0
          have HLIM := Aside0.mk hlim
          have HCL := Aside0.mk (show (st.codes.length + 1) * 8 ≤ 140737488355328 by have := HI.out.codes; omega)
          clear hon
          go_wp2_with (first | (go_at_call 39; refine (HNX.out).mono ?_; rintro e w1 ⟨rfl, hl, hb⟩; have HL1 := Aside0.mk hl; have HB1 := Aside0.mk hb; obtain ⟨A5, c5, rfl⟩ := Kd.R_slice hl.rl; obtain ⟨A7, c7, rfl⟩ := Kd.R_slice hl.ro; obtain ⟨A8, c8, rfl⟩ := Kd.R_slice hl.rc; obtain ⟨z0, z1, z2, z3, z4, z5, z6, z7, z8, z9⟩ := hl.cells; have y8 := blk_frozen hl.blk 8; clear hl hb HNX) | ((with_reducible refine gate_builtin (b := .append) (xs := #[.tmp 30, .tmp 32]) rfl ?_); at_builtin; refine Kd.R_append (Kd.int .i64) (w0 := w) w.heap.size rfl (.tmp 30) (.tmp 32) 29 3 (.int .i64 0) 8 rfl Try.underlying29 lzInfo3 rfl (by decide) (by omega) (.slice A8 st.codes.length c8) st.codes (lzNum tx bits wide st) [.int .i64 (lzNum tx bits wide st)] (fun _ => True) (fun _ => False) rfl rfl ?aP (fun _ hk => hk.elim) ?aF ?aO ?aB ?aS ?aL ?_; (case aP => exact rfl); (case aB => exact HB1.out); (case aF => exact (fun _ _ => trivial)); (case aO => exact HL1.out.rc); (case aS => exact HB1.out.size); (case aL => exact HCL.out); intro v8 w8 hr hb hg hat; obtain ⟨b8, hy8⟩ : ∃ y, st.codes ++ [lzNum tx bits wide st] = y := ⟨_, rfl⟩; rw [hy8] at hr; obtain ⟨A9, c9, rfl⟩ := Kd.R_slice hr; have hl8 := HL1.out.app8 hg hr; have hb8 := HL1.out.mid8 hg; have HB8 := Aside0.mk (hb.setCell (p := ⟨g, 8, none⟩) HL1.out.ge (.slice A9 b8.length c9)); have hl9 : LS (w8.setCell ⟨g, 8, none⟩ (.slice A9 b8.length c9)) w.heap.size g tx bits wide limit (lzAdv tx bits wide st).pos (.slice A5 st.list.length c5) (lzAdv tx bits wide st).list (lzAdv tx bits wide st).last (.slice A7 (bytesOf st.out).length c7) (bytesOf (lzAdv tx bits wide st).out) (.slice A9 b8.length c9) (lzAdv tx bits wide st).codes 0 := (by show LS _ _ _ _ _ _ _ _ _ _ _ _ _ _ (st.codes ++ [lzNum tx bits wide st]) _; rw [hy8]; exact hl8); have HSS := Aside0.mk (l6step k hl9 HB8.out (Nat.le_of_lt (Nat.lt_of_le_of_lt hl9.ge hl9.lt)) _ HH0.out HIA.out HN.out HST.out HLIM.out); obtain ⟨e0, e1, e2, e3, e4, e5, e6, e7, e8, e9⟩ := lz_cells hb8; have x8 := blk_frozen hb8 8; clear hl8 hl9 hb8 hr hb hg hat hy8 HL1 HB1 z0 z1 z2 z3 z4 z5 z6 z7 z8 z9 y8) | (go_at_call 40; refine (HSS.out).mono ?_; rintro e w1 ⟨rfl, hl, hb⟩; rw [HON.out]; have HL1 := Aside0.mk hl; have HB1 := Aside0.mk hb; clear hl hb HSS))
          go_roundg k1
          case measure => omega
          case rel =>
            obtain ⟨u1, u2, u3, hl⟩ := HL1.out
            have hi2 := HIA.out.step (n := lzNum tx bits wide st) (limit := limit) HH0.out HLIM.out
            have hp2 : (lzStep bits limit (lzAdv tx bits wide st) (lzNum tx bits wide st)).1.pos = st.pos + lzWid st.list.length bits wide := lzStep_pos _ _ _ _
            have ho := HON.out
            have hk := HK.out
            cases hs2 : (lzStep bits limit (lzAdv tx bits wide st) (lzNum tx bits wide st)).2 with
            | none =>
              rw [hs2] at ho hl
              exact Or.inl ⟨_, u1, u2, u3, by rw [← ho]; rfl, ⟨hl⟩, ⟨hi2⟩, ⟨(lzRun_go (Int.not_lt.2 hc) hs2).symm.trans HR.out⟩, ⟨by rw [hp2]; omega⟩, HB1⟩
            | some c =>
              rw [hs2] at ho hl
              have hf := (lzRun_end (Int.not_lt.2 hc) hs2).symm.trans HR.out
              exact Or.inr ⟨u1, u2, u3, by rw [← ho]; rfl, ⟨by rw [← hf]; exact hl⟩, HB1⟩
    · go_wp2
      go_ret
      exact ⟨g, rfl, ⟨v1, v2, v3, HL.out⟩, HB.out⟩
end
section
open Go.Proofs.Ytdebckcphaocmaa.Th
theorem l6Ok_f (a : Int) (b : Bool) : spec_l6Ok.f a b = some (lzOk a b) := by
  unfold spec_l6Ok.f spec_l1In.f lzOk
  by_cases h : a ≥ 2
  · rw [if_pos h, Option.bind_some]
    by_cases h2 : a ≤ 8
    · rw [decide_eq_true h2, if_pos rfl, decide_eq_true (show 2 ≤ a ∧ a ≤ 8 from ⟨h, h2⟩)]
      cases b <;> simp
    · rw [decide_eq_false h2, if_neg (by simp), decide_eq_false (by omega)]; rfl
  · rw [if_neg h, Option.bind_some, if_neg (by simp), decide_eq_false (by omega)]; rfl
/-- The reader's helpers tell what they should, at so many rounds. -/
def l6Ready (k : Nat) (tx : ByteArray) (bits : Int) (wide : Bool) : Bool :=
  (List.range 4097).all (fun i => decide (spec_l6Width.f k (i : Int) bits wide = some (lzWid i bits wide))) &&
  (List.range (8 * tx.size + 1)).all (fun a => (List.range 13).all (fun n => decide (a + n > 8 * tx.size) || decide (spec_l1Get.f k tx (a : Int) (n : Int) wide = some (bitsM tx (a : Int) wide n)))) &&
  decide (spec_l1Pow.f k bits = some (P2 bits.toNat)) && decide (spec_l6Start.f k bits = some (lzStart bits))
theorem l6Ready_iff (k : Nat) (tx : ByteArray) (bits : Int) (wide : Bool) : l6Ready k tx bits wide = true ↔
    (∀ i : Nat, i ≤ 4096 → spec_l6Width.f k (i : Int) bits wide = some (lzWid i bits wide)) ∧
    (∀ a n : Int, 0 ≤ a → 0 ≤ n → n ≤ 12 → a + n ≤ 8 * (tx.size : Int) → spec_l1Get.f k tx a n wide = some (bitsM tx a wide n.toNat)) ∧
    spec_l1Pow.f k bits = some (P2 bits.toNat) ∧ spec_l6Start.f k bits = some (lzStart bits) := by
  unfold l6Ready
  simp only [Bool.and_eq_true, List.all_eq_true, List.mem_range, decide_eq_true_eq, Bool.or_eq_true]
  constructor
  · rintro ⟨⟨⟨h1, h2⟩, h3⟩, h4⟩
    refine ⟨fun i hi => h1 i (by omega), fun a n ha hn hn2 han => ?_, h3, h4⟩
    have hx := h2 a.toNat (by omega) n.toNat (by omega)
    rcases hx with hx | hx
    · omega
    · rw [Int.toNat_of_nonneg ha, Int.toNat_of_nonneg hn] at hx
      exact hx
  · rintro ⟨h1, h2, h3, h4⟩
    refine ⟨⟨⟨fun i hi => h1 i (by omega), fun a ha n hn => ?_⟩, h3⟩, h4⟩
    by_cases hc : a + n > 8 * tx.size
    · exact Or.inl hc
    · refine Or.inr ?_
      have hx := h2 (a : Int) (n : Int) (by omega) (by omega) (by omega) (by omega)
      rw [Int.toNat_natCast] at hx
      exact hx
theorem l6Ready_mono (k : Nat) (tx : ByteArray) (bits : Int) (wide : Bool) (h : l6Ready k tx bits wide = true) : l6Ready (k + 1) tx bits wide = true := by
  rw [l6Ready_iff] at h ⊢
  exact ⟨fun i hi => spec_l6Width.mono _ _ _ k _ (h.1 i hi), fun a n ha hn hn2 han => spec_l1Get.mono _ _ _ _ k _ (h.2.1 a n ha hn hn2 han), spec_l1Pow.mono _ k _ h.2.2.1, spec_l6Start.mono _ k _ h.2.2.2⟩
end
section
open Go.Proofs.Ytdebckcphaocmaa.Th
def spec_LzwGet.f (k : Nat) (a0 : ByteArray) (a1 : Int) (a2 : Bool) (a3 : Int) : Option (ByteArray × Int) := if l6Ready k a0 a1 a2 = true ∨ ¬ (lzOk a1 a2 = true ∧ a0.size ≤ 9000) then some (lzGetM a0 a1 a2 a3) else none
theorem spec_LzwGet.mono : ∀ a0 a1 a2 a3 k, LeO (spec_LzwGet.f k a0 a1 a2 a3) (spec_LzwGet.f (k + 1) a0 a1 a2 a3) := by
  intro a0 a1 a2 a3 k r h
  unfold spec_LzwGet.f at h ⊢
  by_cases c : l6Ready k a0 a1 a2 = true ∨ ¬ (lzOk a1 a2 = true ∧ a0.size ≤ 9000)
  · rw [if_pos c] at h; rw [if_pos (c.imp (l6Ready_mono _ _ _ _) id)]; exact h
  · rw [if_neg c] at h; cases h
theorem l1In_at (limit : Int) : spec_l1In.f limit 0 5000 = some (decide (0 ≤ limit ∧ limit ≤ 5000)) := by
  unfold spec_l1In.f
  by_cases c : limit ≥ 0
  · rw [if_pos c]
    by_cases c2 : limit ≤ 5000
    · rw [decide_eq_true c2, decide_eq_true (show 0 ≤ limit ∧ limit ≤ 5000 from ⟨c, c2⟩)]
    · rw [decide_eq_false c2, decide_eq_false (by omega)]
  · rw [if_neg c, decide_eq_false (by omega)]
set_option maxHeartbeats 8000000 in
set_option maxRecDepth 100000 in
theorem spec_LzwGet.calls (k : Nat) (a0 : ByteArray) (a1 : Int) (a2 : Bool) (a3 : Int) (r1 : ByteArray) (r2 : Int) (w : World) (h : spec_LzwGet.f k a0 a1 a2 a3 = some (r1, r2)) :
    Calls Try.prog 7 #[.string a0, .int .i64 a1, .bool a2, .int .i64 a3] w fun e w' => e = .returned (.tuple #[.string r1, .int .i64 r2]) ∧ Below w.heap.size w w' := by
  unfold spec_LzwGet.f at h
  by_cases c0 : l6Ready k a0 a1 a2 = true ∨ ¬ (lzOk a1 a2 = true ∧ a0.size ≤ 9000)
  · rw [if_pos c0] at h
    have hok := l6Ok_f a1 a2
    have hin := l1In_at a3
    by_cases c : lzOk a1 a2 = true
    · rw [c] at hok
      have HOK := Aside0.mk hok
      by_cases c2 : a0.size ≤ 9000
      · have d1 : decide ((a0.size : Int) > 9000) = false := decide_eq_false (by omega)
        by_cases c4 : 0 ≤ a3 ∧ a3 ≤ 5000
        · rw [decide_eq_true c4] at hin
          have HIN := Aside0.mk hin
          rw [lzGetM_in ⟨c, c2, c4.1, c4.2⟩] at h
          have hrd := (l6Ready_iff _ _ _ _).1 (c0.resolve_right (fun x => x ⟨c, c2⟩))
          have hall := fun W => l6all k W a0 a1 a2 a3 (lzOk_b c) c2 (by omega) hrd.1 hrd.2.1 hrd.2.2.1 hrd.2.2.2
          have HLIM := Aside0.mk c4
          have HALL := Aside0.mk hall
          have hout := (lzAll_I a0 (lzOk_b c) a2 (limit := a3) (by omega)).out
          clear hall hrd hok hin c0 c c2 c4
          generalize lzAll a0 a1 a2 a3 = fin at HALL h hout
          have HO := Aside0.mk hout
          clear hout
          by_cases c3 : fin.2 = 0
          · rw [if_pos c3] at h
            obtain ⟨rfl, rfl⟩ := Prod.mk.inj (Option.some.inj h)
            rw [c3] at HALL
            clear h c3
            go_enter Try.func7, Try.ntmps7
            go_wp2_with (first | (go_at_call 23; refine (spec_l6Ok.calls a1 a2 _ _ HOK.out).mono ?_; rintro e w' ⟨rfl, hd⟩; obtain ⟨⟨m, rfl⟩⟩ := hd) | (go_at_call 24; refine (spec_l1In.calls a3 0 5000 _ _ HIN.out).mono ?_; rintro e w' ⟨rfl, hd⟩; obtain ⟨⟨m2, rfl⟩⟩ := hd) | (go_at_call 25; refine (HALL.out _).mono ?_; rintro e w' ⟨g, rfl, ⟨v1, v2, v3, hl⟩, hb⟩; obtain ⟨A5, c5, rfl⟩ := Kd.R_slice hl.rl; obtain ⟨A7, c7, rfl⟩ := Kd.R_slice hl.ro; obtain ⟨A8, c8, rfl⟩ := Kd.R_slice hl.rc; obtain ⟨e0, e1, e2, e3, e4, e5, e6, e7, e8, e9⟩ := hl.cells; have hcv := own_string (P := Try.prog) Try.underlying22 Try.underlying5 Try.underlying9 (Kd.own_of_R hl.ro); rw [son_bytesOf] at hcv; have HL1 := Aside0.mk hl; have HB1 := Aside0.mk hb; clear hl hb))
            go_ret2
            exact ⟨rfl, below_step (pw_below_drewN (Below.refl w.heap.size w) _) HB1.out⟩
          · rw [if_neg c3] at h
            obtain ⟨rfl, rfl⟩ := Prod.mk.inj (Option.some.inj h)
            have d2 : (fin.2 != 0) = true := by rw [bne_iff_ne]; exact c3
            have d3 : (fin.2 == 0) = false := beq_eq_false_iff_ne.2 c3
            clear h c3
            go_enter Try.func7, Try.ntmps7
            go_wp2_with (first | (go_at_call 23; refine (spec_l6Ok.calls a1 a2 _ _ HOK.out).mono ?_; rintro e w' ⟨rfl, hd⟩; obtain ⟨⟨m, rfl⟩⟩ := hd) | (go_at_call 24; refine (spec_l1In.calls a3 0 5000 _ _ HIN.out).mono ?_; rintro e w' ⟨rfl, hd⟩; obtain ⟨⟨m2, rfl⟩⟩ := hd) | (go_at_call 25; refine (HALL.out _).mono ?_; rintro e w' ⟨g, rfl, ⟨v1, v2, v3, hl⟩, hb⟩; obtain ⟨A5, c5, rfl⟩ := Kd.R_slice hl.rl; obtain ⟨A7, c7, rfl⟩ := Kd.R_slice hl.ro; obtain ⟨A8, c8, rfl⟩ := Kd.R_slice hl.rc; obtain ⟨e0, e1, e2, e3, e4, e5, e6, e7, e8, e9⟩ := hl.cells; have HL1 := Aside0.mk hl; have HB1 := Aside0.mk hb; clear hl hb))
            repeat (go_quiet (fail); try go_wp2)
            go_ret2
            exact ⟨rfl, pw_below_drewN (below_step (pw_below_drewN (Below.refl w.heap.size w) _) HB1.out) _⟩
        · rw [lzGetM_out (fun x => c4 x.2.2)] at h
          obtain ⟨rfl, rfl⟩ := Prod.mk.inj (Option.some.inj h)
          rw [decide_eq_false c4] at hin
          have HIN := Aside0.mk hin
          clear h hok hin c0 c c2 c4
          go_enter Try.func7, Try.ntmps7
          go_wp2_with (first | (go_at_call 23; refine (spec_l6Ok.calls a1 a2 _ _ HOK.out).mono ?_; rintro e w' ⟨rfl, hd⟩; obtain ⟨⟨m, rfl⟩⟩ := hd) | (go_at_call 24; refine (spec_l1In.calls a3 0 5000 _ _ HIN.out).mono ?_; rintro e w' ⟨rfl, hd⟩; obtain ⟨⟨m2, rfl⟩⟩ := hd))
          go_ret2
          exact ⟨rfl, by first | exact pw_below_drewN (Below.refl _ _) _ | exact pw_below_drewN (pw_below_drewN (Below.refl _ _) _) _⟩
      · have d1 : decide ((a0.size : Int) > 9000) = true := decide_eq_true (by omega)
        rw [lzGetM_out (fun x => c2 x.2.1)] at h
        obtain ⟨rfl, rfl⟩ := Prod.mk.inj (Option.some.inj h)
        clear h hok hin c0 c c2
        go_enter Try.func7, Try.ntmps7
        go_wp2_with (first | (go_at_call 23; refine (spec_l6Ok.calls a1 a2 _ _ HOK.out).mono ?_; rintro e w' ⟨rfl, hd⟩; obtain ⟨⟨m, rfl⟩⟩ := hd))
        go_ret2
        exact ⟨rfl, pw_below_drewN (Below.refl _ _) _⟩
    · have c' : lzOk a1 a2 = false := by simpa using c
      rw [lzGetM_out (fun x => c x.1)] at h
      obtain ⟨rfl, rfl⟩ := Prod.mk.inj (Option.some.inj h)
      rw [c'] at hok
      have HOK := Aside0.mk hok
      clear h hok hin c0 c c'
      go_enter Try.func7, Try.ntmps7
      go_wp2_with (first | (go_at_call 23; refine (spec_l6Ok.calls a1 a2 _ _ HOK.out).mono ?_; rintro e w' ⟨rfl, hd⟩; obtain ⟨⟨m, rfl⟩⟩ := hd))
      go_ret2
      exact ⟨rfl, pw_below_drewN (Below.refl _ _) _⟩
  · rw [if_neg c0] at h
    cases h
end

end Go.Proofs.Ytdebckcphaocmaa.PFnLzwGet
