/- What the functions that the law comes to compute, as plain functions, and that the machine's calls come to just that: written by a program for this claim, and turned where Lean did not take it. No condition. -/
import Derived.Test.YtdebckcphaocmaaThLzu
import Derived.Test.YtdebckcphaocmaaThLzw
import Derived.Test.YtdebckcphaocmaaThLz
import Derived.Test.YtdebckcphaocmaaHFnLzwGetx0
import Derived.Test.YtdebckcphaocmaaHFnLzwGetx6
import Derived.Test.YtdebckcphaocmaaHFnLzwGetx7
namespace Go.Proofs.Ytdebckcphaocmaa.PFnLzwGet
open Go.RowKit Go.Proofs.YtdebckcphaocmaaW.PrintWords Go.Proofs.YtdebckcphaocmaaW.PrintLast Go.Proofs.YtdebckcphaocmaaW.PrintMore
attribute [local go_sem] max2_int min2_int max_two min_two max_three min_three max_four min_four   -- for this text's walks alone
set_option linter.unusedVariables false
set_option linter.unusedSimpArgs false

/-! ### impl_LzwGet: function 6 -/
section
open Go.Proofs.Ytdebckcphaocmaa.Th
set_option maxHeartbeats 8000000 in
set_option maxRecDepth 100000 in
theorem lu_clear {W w0 : World} {base g : Nat} {bits : Int} {wide : Bool} {many : Int} {tlast : Bool} {vl : Value} {list : List ByteArray} {last out : ByteArray} {vc : Value} {codes : List Int}
    (h : US W base g bits wide many tlast vl list last out vc codes) (hB : Below base w0 W) (hb : 2 ≤ bits ∧ bits ≤ 8) :
    Calls Try.prog 44 #[.pointer (some ⟨g, 0, none⟩)] W fun e w' => e = .returned (.tuple #[]) ∧ US w' base g bits wide (P2 bits.toNat + 2) false vl list last out vc codes ∧ Below base w0 w' := by
  have HL := Aside0.mk h
  have HB := Aside0.mk hB
  obtain ⟨A4, c4, rfl⟩ := Kd.R_slice h.rl
  obtain ⟨A7, c7, rfl⟩ := Kd.R_slice h.rc
  obtain ⟨z0, z1, z2, z3, z4, z5, z6, z7⟩ := uz_cells h.blk
  have y2 := blk_frozen h.blk 2
  have y3 := blk_frozen h.blk 3
  clear h hB
  go_enter Try.func44, Try.ntmps44
  have w1 : wrap64 (2 ^ bits.toNat) = P2 bits.toNat := by have := P2_bits hb; rw [P2_cast, w64 (by omega)]
  have w2 : wrap64 (P2 bits.toNat + 2) = P2 bits.toNat + 2 := by have := P2_bits hb; rw [w64 (by omega)]
  go_wp2
  refine bodyPost_end (results_none rfl _ _ _) rfl ?_

  exact ⟨rfl, (HL.out.at2 _).at3 _, ((HB.out).setCell HL.out.ge _).setCell HL.out.ge _⟩
set_option maxHeartbeats 8000000 in
set_option maxRecDepth 100000 in
theorem lu_more {W w0 : World} {base g : Nat} {bits : Int} {wide : Bool} {many : Int} {tlast : Bool} {vl : Value} {list : List ByteArray} {last out : ByteArray} {vc : Value} {codes : List Int}
    (h : US W base g bits wide many tlast vl list last out vc codes) (hB : Below base w0 W) (ht : tlast = true) (hm : 0 ≤ many ∧ many < 4096) :
    Calls Try.prog 46 #[.pointer (some ⟨g, 0, none⟩)] W fun e w' => e = .returned (.bool true) ∧ US w' base g bits wide (many + 1) true vl list last out vc codes ∧ Below base w0 w' := by
  have HL := Aside0.mk h
  have HB := Aside0.mk hB
  obtain ⟨A4, c4, rfl⟩ := Kd.R_slice h.rl
  obtain ⟨A7, c7, rfl⟩ := Kd.R_slice h.rc
  obtain ⟨z0, z1, z2, z3, z4, z5, z6, z7⟩ := uz_cells h.blk
  have y2 := blk_frozen h.blk 2
  have y3 := blk_frozen h.blk 3
  clear h hB
  subst ht
  have d1 : decide (many < 4096) = true := decide_eq_true hm.2
  have w1 : wrap64 (many + 1) = many + 1 := w64 (by omega)
  go_enter Try.func46, Try.ntmps46
  go_wp2
  repeat (go_quiet (fail); try go_wp2)
  go_ret
  exact ⟨rfl, (HL.out.at2 _).at3 _, (HB.out.setCell HL.out.ge _).setCell HL.out.ge _⟩
set_option maxHeartbeats 8000000 in
set_option maxRecDepth 100000 in
theorem lu_same {W w0 : World} {base g : Nat} {bits : Int} {wide : Bool} {many : Int} {tlast : Bool} {vl : Value} {list : List ByteArray} {last out : ByteArray} {vc : Value} {codes : List Int}
    (h : US W base g bits wide many tlast vl list last out vc codes) (hB : Below base w0 W) (ht : tlast = true) (hm : ¬ many < 4096) :
    Calls Try.prog 46 #[.pointer (some ⟨g, 0, none⟩)] W fun e w' => e = .returned (.bool false) ∧ US w' base g bits wide many true vl list last out vc codes ∧ Below base w0 w' := by
  have HL := Aside0.mk h
  have HB := Aside0.mk hB
  obtain ⟨A4, c4, rfl⟩ := Kd.R_slice h.rl
  obtain ⟨A7, c7, rfl⟩ := Kd.R_slice h.rc
  obtain ⟨z0, z1, z2, z3, z4, z5, z6, z7⟩ := uz_cells h.blk
  have y2 := blk_frozen h.blk 2
  have y3 := blk_frozen h.blk 3
  clear h hB
  subst ht
  have d1 : decide (many < 4096) = false := decide_eq_false hm
  go_enter Try.func46, Try.ntmps46
  go_wp2
  repeat (go_quiet (fail); try go_wp2)
  go_ret
  exact ⟨rfl, HL.out.at3 _, HB.out.setCell HL.out.ge _⟩
set_option maxHeartbeats 8000000 in
set_option maxRecDepth 100000 in
theorem lu_first {W w0 : World} {base g : Nat} {bits : Int} {wide : Bool} {many : Int} {tlast : Bool} {vl : Value} {list : List ByteArray} {last out : ByteArray} {vc : Value} {codes : List Int}
    (h : US W base g bits wide many tlast vl list last out vc codes) (hB : Below base w0 W) (ht : tlast = false) :
    Calls Try.prog 46 #[.pointer (some ⟨g, 0, none⟩)] W fun e w' => e = .returned (.bool false) ∧ US w' base g bits wide many true vl list last out vc codes ∧ Below base w0 w' := by
  have HL := Aside0.mk h
  have HB := Aside0.mk hB
  obtain ⟨A4, c4, rfl⟩ := Kd.R_slice h.rl
  obtain ⟨A7, c7, rfl⟩ := Kd.R_slice h.rc
  obtain ⟨z0, z1, z2, z3, z4, z5, z6, z7⟩ := uz_cells h.blk
  have y2 := blk_frozen h.blk 2
  have y3 := blk_frozen h.blk 3
  clear h hB
  subst ht
  go_enter Try.func46, Try.ntmps46
  go_wp2
  repeat (go_quiet (fail); try go_wp2)
  go_ret
  exact ⟨rfl, HL.out.at3 _, HB.out.setCell HL.out.ge _⟩
set_option maxHeartbeats 8000000 in
set_option maxRecDepth 100000 in
theorem lu_size {W w0 : World} {base g : Nat} {bits : Int} {wide : Bool} {many : Int} {tlast : Bool} {vl : Value} {list : List ByteArray} {last out : ByteArray} {vc : Value} {codes : List Int}
    (h : US W base g bits wide many tlast vl list last out vc codes) (hB : Below base w0 W) (hb : 2 ≤ bits ∧ bits ≤ 8) (hm : 0 ≤ many ∧ many ≤ 5000) :
    Calls Try.prog 35 #[.pointer (some ⟨g, 0, none⟩)] W fun e w' => e = .returned (.int .i64 (lzWid many bits wide)) ∧ US w' base g bits wide many tlast vl list last out vc codes ∧ Below base w0 w' := by
  have HL := Aside0.mk h
  have HB := Aside0.mk hB
  obtain ⟨A4, c4, rfl⟩ := Kd.R_slice h.rl
  obtain ⟨A7, c7, rfl⟩ := Kd.R_slice h.rc
  obtain ⟨z0, z1, z2, z3, z4, z5, z6, z7⟩ := uz_cells h.blk
  have y2 := blk_frozen h.blk 2
  have y3 := blk_frozen h.blk 3
  clear h hB
  have w1 : wrap64 (many + 1) = many + 1 := w64 (by omega)
  have w2 : wrap64 (bits + 1) = bits + 1 := w64 (by omega)
  generalize hK : many + (if wide = true then 1 else 0) = K
  have hf : lzUp K 12 (bits + 1) = lzWid many bits wide := by unfold lzWid; rw [hK]
  have hKb : 0 ≤ K ∧ K ≤ 5001 := by rw [← hK]; cases wide <;> simp <;> omega
  generalize lzWid many bits wide = fin at hf ⊢
  have HF := Aside0.mk hf
  clear hf
  cases wide
  · simp only [Bool.false_eq_true, if_false, if_true, Int.add_zero] at hK
    subst hK
    go_enter Try.func35, Try.ntmps35
    go_wp2
    clear z0 z1 z2 z3 z4 z5 z6 z7 y2 y3 w1
    go_loopw [4] (fun v4 wr => ∃ (d : Nat) (n : Int), v4 = .int .i64 n ∧ Aside0 (n + d = bits + 13 ∧ bits + 1 ≤ n ∧ n ≤ 12) ∧ Aside0 (lzUp many d n = fin) ∧ wr = W) (fun v4 _ => 12 - (intOf v4).toNat)
    case atStart => exact ⟨12, bits + 1, rfl, ⟨by omega, by omega, by omega⟩, HF, rfl⟩
    case round =>
      obtain ⟨d, n, rfl, HN, HU, rfl⟩ := hrel
      obtain ⟨n0, n1, n2⟩ := HN.out
      have hP := P2_b (n := n.toNat) (m := 12) (by omega)
      have hP12 : P2 12 = 4096 := rfl
      have w3 : wrap64 (2 ^ n.toNat) = P2 n.toNat := by rw [P2_cast, w64 (by omega)]
      by_cases q1 : n < 12
      · have e1 : decide (n < 12) = true := decide_eq_true q1
        have w4 : wrap64 (n + 1) = n + 1 := w64 (by omega)
        have hd : ∃ d', d = d' + 1 := ⟨d - 1, by omega⟩
        obtain ⟨d', rfl⟩ := hd
        by_cases q2 : P2 n.toNat ≤ many
        · have e2 : decide (many ≥ P2 n.toNat) = true := decide_eq_true q2
          have hu : lzUp many d' (n + 1) = fin := by rw [← HU.out, lzUp, if_pos ⟨q1, q2⟩]
          have HU2 := Aside0.mk hu
          clear HU hu
          go_wp2
          go_roundw
          case rel => exact ⟨d', n + 1, by go_num, ⟨by omega, by omega, by omega⟩, HU2, by first | trivial | rfl⟩
          case measure => simp [intOf]; omega
        · have e2 : decide (many ≥ P2 n.toNat) = false := decide_eq_false q2
          have hu : n = fin := by rw [← HU.out, lzUp, if_neg (fun x => q2 x.2)]
          subst hu
          clear HU
          go_wp2
          go_ret
          exact ⟨rfl, HL.out, HB.out⟩
      · have e1 : decide (n < 12) = false := decide_eq_false q1
        have hu : n = fin := by rw [← HU.out]; cases d with
          | zero => rfl
          | succ d' => rw [lzUp, if_neg (fun x => q1 x.1)]
        subst hu
        clear HU
        go_wp2
        go_ret
        exact ⟨rfl, HL.out, HB.out⟩
  · simp only [Bool.false_eq_true, if_false, if_true, Int.add_zero] at hK
    subst hK
    go_enter Try.func35, Try.ntmps35
    go_wp2
    clear z0 z1 z2 z3 z4 z5 z6 z7 y2 y3 w1
    go_loopw [4] (fun v4 wr => ∃ (d : Nat) (n : Int), v4 = .int .i64 n ∧ Aside0 (n + d = bits + 13 ∧ bits + 1 ≤ n ∧ n ≤ 12) ∧ Aside0 (lzUp (many + 1) d n = fin) ∧ wr = W) (fun v4 _ => 12 - (intOf v4).toNat)
    case atStart => exact ⟨12, bits + 1, rfl, ⟨by omega, by omega, by omega⟩, HF, rfl⟩
    case round =>
      obtain ⟨d, n, rfl, HN, HU, rfl⟩ := hrel
      obtain ⟨n0, n1, n2⟩ := HN.out
      have hP := P2_b (n := n.toNat) (m := 12) (by omega)
      have hP12 : P2 12 = 4096 := rfl
      have w3 : wrap64 (2 ^ n.toNat) = P2 n.toNat := by rw [P2_cast, w64 (by omega)]
      by_cases q1 : n < 12
      · have e1 : decide (n < 12) = true := decide_eq_true q1
        have w4 : wrap64 (n + 1) = n + 1 := w64 (by omega)
        have hd : ∃ d', d = d' + 1 := ⟨d - 1, by omega⟩
        obtain ⟨d', rfl⟩ := hd
        by_cases q2 : P2 n.toNat ≤ (many + 1)
        · have e2 : decide ((many + 1) ≥ P2 n.toNat) = true := decide_eq_true q2
          have hu : lzUp (many + 1) d' (n + 1) = fin := by rw [← HU.out, lzUp, if_pos ⟨q1, q2⟩]
          have HU2 := Aside0.mk hu
          clear HU hu
          go_wp2
          go_roundw
          case rel => exact ⟨d', n + 1, by go_num, ⟨by omega, by omega, by omega⟩, HU2, by first | trivial | rfl⟩
          case measure => simp [intOf]; omega
        · have e2 : decide ((many + 1) ≥ P2 n.toNat) = false := decide_eq_false q2
          have hu : n = fin := by rw [← HU.out, lzUp, if_neg (fun x => q2 x.2)]
          subst hu
          clear HU
          go_wp2
          go_ret
          exact ⟨rfl, HL.out, HB.out⟩
      · have e1 : decide (n < 12) = false := decide_eq_false q1
        have hu : n = fin := by rw [← HU.out]; cases d with
          | zero => rfl
          | succ d' => rw [lzUp, if_neg (fun x => q1 x.1)]
        subst hu
        clear HU
        go_wp2
        go_ret
        exact ⟨rfl, HL.out, HB.out⟩
end
section
open Go.Proofs.Ytdebckcphaocmaa.Th
theorem luInfo9 : (Try.prog.info? 9).map (fun i => (i.zero, i.size, i.bytes)) = some (some (.string ByteArray.empty), 1, 16) := by kernel_rfl
set_option maxHeartbeats 8000000 in
set_option maxRecDepth 100000 in
theorem lu_reset {W w0 : World} {base g : Nat} {bits : Int} {wide : Bool} {many : Int} {tlast : Bool} {vl : Value} {list : List ByteArray} {last out : ByteArray} {vc : Value} {codes : List Int}
    (h : US W base g bits wide many tlast vl list last out vc codes) (hB : Below base w0 W) (hb : 2 ≤ bits ∧ bits ≤ 8) :
    Calls Try.prog 34 #[.pointer (some ⟨g, 0, none⟩)] W fun e w' => e = .returned (.tuple #[]) ∧ (∃ v1, US w' base g bits wide (P2 bits.toNat + 2) false v1 (lzStart bits) last out vc codes) ∧ Below base w0 w' := by
  have hc := lu_clear h hB hb
  have HC := Aside0.mk hc
  obtain ⟨A7, c7, rfl⟩ := Kd.R_slice h.rc
  obtain ⟨A4, c4, rfl⟩ := Kd.R_slice h.rl
  clear h hB hc
  go_enter Try.func34, Try.ntmps34
  go_wp2_with (first | (go_at_call 44; refine (HC.out).mono ?_; rintro e w1 ⟨rfl, hl, hb1⟩; obtain ⟨z0, z1, z2, z3, z4, z5, z6, z7⟩ := uz_cells hl.blk; have y4 := blk_frozen hl.blk 4; have HL := Aside0.mk hl; have HB := Aside0.mk hb1; clear hl hb1 HC))
  have hL0 := HL.out.at4 (v1 := .slice none 0 0) (l1 := []) (Kd.R_nil _ _ _ _ _)
  have hB0 := HB.out.setCell (p := ⟨g, 4, none⟩) HL.out.ge (.slice none 0 0)
  have hp := P2_bits hb
  have w1b : wrap64 (2 ^ bits.toNat) = P2 bits.toNat := by rw [P2_cast, w64 (by omega)]
  rw [w1b]
  generalize w1.setCell ⟨g, 4, none⟩ (.slice none 0 0) = w2 at hL0 hB0 ⊢
  clear z0 z1 z2 z3 z4 z5 z6 z7 y4 HL HB
  have HL0 := Aside0.mk hL0
  have HB0 := Aside0.mk hB0
  clear hL0 hB0
  go_loopw [16] (fun v16 wr => ∃ i : Nat, v16 = .int .i64 i ∧ Aside0 ((i : Int) ≤ P2 bits.toNat) ∧ (∃ v1, Aside0 (US wr base g bits wide (P2 bits.toNat + 2) false v1 (lzBytes i) last out (.slice A7 codes.length c7) codes)) ∧ Aside0 (Below base w0 wr)) (fun v16 _ => 256 - (intOf v16).toNat)
  case atStart => exact ⟨0, rfl, ⟨by omega⟩, ⟨_, HL0⟩, HB0⟩
  case round =>
    clear HL0 HB0
    obtain ⟨i, rfl, HI, ⟨v1, HL⟩, HB⟩ := hrel
    obtain ⟨A1, c1, rfl⟩ := Kd.R_slice HL.out.rl
    by_cases q1 : (i : Int) < P2 bits.toNat
    · have d1 : decide ((i : Int) < P2 bits.toNat) = true := decide_eq_true q1
      have hm : (i : Int) % 256 = i := by omega
      have hu8 : IntKind.u8.wrap (i : Int) = i := hm
      have w3 : wrap64 ((i : Int) + 1) = ((i + 1 : Nat) : Int) := by rw [w64 (by omega)]; omega
      go_wp2_with (fail)
      have HL8 := Aside0.mk HL.out.drew
      have HB8 := Aside0.mk (Below.drew HB.out)
      obtain ⟨e0, e1, e2, e3, e4, e5, e6, e7⟩ := uz_cells HL8.out.blk
      clear HL HB
      refine start_ (n := 14) (S := fun w' => w'.cell? ⟨g, 4, none⟩ = some (.slice A1 (lzBytes i).length c1)) (ds := [10, 13]) #[false, false, false, false, false, false, false, false, false, false, false, false, false, false] (by kernel_rfl) rfl rfl (e4) (fun hHeld => ?_)
      generalize wr.drew = w8 at HL8 HB8 e0 e1 e2 e3 e4 e5 e6 e7 hHeld ⊢
      refine pure_ (i := 0) (N := some 19) (v := ?_) (a' := ?_) #[true, false, false, false, false, false, false, false, false, false, false, false, false, false] rfl rfl (by kernel_rfl) (fun _ _ _ h => h) (Or.inl ⟨by rfl, ?_⟩) ?_ ?_
      rotate_left
      · intro w'
        go_simp
        with_reducible rfl
      rotate_left
      · simp only [Act.put, List.setIfInBounds_toArray, List.set_cons_zero, List.set_cons_succ, i64_w, i32_w]
        rfl
      refine pure_ (i := 1) (N := some 20) (v := ?_) (a' := ?_) #[true, true, false, false, false, false, false, false, false, false, false, false, false, false] rfl rfl (by kernel_rfl) (fun _ _ _ h => h) (Or.inl ⟨by rfl, ?_⟩) ?_ ?_
      rotate_left
      · intro w'
        go_simp
        with_reducible rfl
      rotate_left
      · simp only [Act.put, List.setIfInBounds_toArray, List.set_cons_zero, List.set_cons_succ, i64_w, i32_w]
        rfl
      refine pure_ (i := 2) (N := some 21) (v := ?_) (a' := ?_) #[true, true, true, false, false, false, false, false, false, false, false, false, false, false] rfl rfl (by kernel_rfl) (fun _ _ _ h => h) (Or.inl ⟨by rfl, ?_⟩) ?_ ?_
      rotate_left
      · intro w'
        go_simp
        with_reducible rfl
      rotate_left
      · simp only [Act.put, List.setIfInBounds_toArray, List.set_cons_zero, List.set_cons_succ, i64_w, i32_w]
        rfl
      refine pure_ (i := 3) (N := some 22) (v := ?_) (a' := ?_) #[true, true, true, true, false, false, false, false, false, false, false, false, false, false] rfl rfl (by kernel_rfl) (fun _ _ _ h => h) (Or.inl ⟨by rfl, ?_⟩) ?_ ?_
      rotate_left
      · intro w'
        go_simp
        with_reducible rfl
      rotate_left
      · simp only [Act.put, List.setIfInBounds_toArray, List.set_cons_zero, List.set_cons_succ, i64_w, i32_w]
        rfl
      refine pure_ (i := 5) (N := some 24) (v := ?_) (a' := ?_) #[true, true, true, true, false, true, false, false, false, false, false, false, false, false] rfl rfl (by kernel_rfl) (fun _ _ _ h => h) (Or.inl ⟨by rfl, ?_⟩) ?_ ?_
      rotate_left
      · intro w'
        go_simp
        with_reducible rfl
      rotate_left
      · simp only [Act.put, List.setIfInBounds_toArray, List.set_cons_zero, List.set_cons_succ, i64_w, i32_w]
        rfl
      refine pure_ (i := 6) (N := some 25) (v := ?_) (a' := ?_) #[true, true, true, true, false, true, true, false, false, false, false, false, false, false] rfl rfl (by kernel_rfl) (fun _ _ _ h => h) (Or.inl ⟨by rfl, ?_⟩) ?_ ?_
      rotate_left
      · intro w'
        go_simp
        with_reducible rfl
      rotate_left
      · simp only [Act.put, List.setIfInBounds_toArray, List.set_cons_zero, List.set_cons_succ, i64_w, i32_w]
        rfl
      refine take_ (i := 4) (N := some 23) (v := ?_) (a' := ?_) #[true, true, true, true, true, true, true, false, false, false, false, false, false, false] rfl rfl (by kernel_rfl) (fun _ _ _ h => h) (Or.inl ⟨by rfl, ?_⟩) hHeld ?_ ?_
      rotate_left
      · intro w' s0
        go_simp
        with_reducible rfl
      rotate_left
      · simp only [Act.put, List.setIfInBounds_toArray, List.set_cons_zero, List.set_cons_succ, i64_w, i32_w]
        rfl
      refine one_ (i := 7) (N := some 26) #[true, true, true, true, true, true, true, true, false, false, false, false, false, false] rfl rfl (by kernel_rfl) (by decide) (fun K hK => ?_)
      refine Kd.R_lit_step (Kd.int .u8) _ 5 ?hg (N := 26) ?hd (xs := ([(i : Int)] : List Int)) (inner := [.int .u8 (i : Int)]) (ok := fun _ => True) (okp := fun _ => True) ?hr ?hp (fun _ hk => hk) trivial (Below.refl _ _) (Nat.le_refl _) (by simp) ?_
      (case hd => rfl)
      (case hg => rfl)
      (case hr => first | (go_simp; done) | (go_simp; rfl))
      (case hp => exact (Reps.one (show Kd.M (Kd.int .u8) _ _ _ (i : Int) [.int .u8 (i : Int)] from rfl) (Reps.none _ _)))
      intro v9 w9 ho hb9 hg_ hnew_
      clear hg_ hnew_
      have hl9 := HL8.out.below hb9
      have HB9 := Aside0.mk (HB8.out.trans (hb9.mono (Nat.le_of_lt (Nat.lt_of_le_of_lt HL8.out.ge HL8.out.lt))))
      have hcv9 := own_string (P := Try.prog) Try.underlying22 Try.underlying5 Try.underlying9 (Kd.own_of_R ho)
      clear e0 e1 e2 e3 e4 e5 e6 e7
      obtain ⟨e0, e1, e2, e3, e4, e5, e6, e7⟩ := uz_cells hl9.blk
      have HL9 := Aside0.mk hl9
      clear hl9 hb9
      refine hK.out _ _ (e4) (fun hHeld => ?_)
      clear hK K
      refine norm_ (a' := ?_) ?_ ?_
      rotate_left
      · show Act.put _ (some 26) _ = _
        simp only [Act.put, List.setIfInBounds_toArray, List.set_cons_zero, List.set_cons_succ, i64_w, i32_w]
        rfl
      refine one_ (i := 8) (N := some 27) #[true, true, true, true, true, true, true, true, true, false, false, false, false, false] rfl rfl (by kernel_rfl) (by decide) (fun K hK => ?_)
      refine value_ (w1 := ?_) (v := ?_) (by rfl) rfl ?_ ?_
      rotate_left 2
      · go_simp
        constructor
        · rfl
        · rfl
      refine hK.out _ _ (e4) (fun hHeld => ?_)
      clear hK K
      refine norm_ (a' := ?_) ?_ ?_
      rotate_left
      · show Act.put _ (some 27) _ = _
        simp only [Act.put, List.setIfInBounds_toArray, List.set_cons_zero, List.set_cons_succ, i64_w, i32_w]
        rfl
      refine one_ (i := 9) (N := some 28) #[true, true, true, true, true, true, true, true, true, true, false, false, false, false] rfl rfl (by kernel_rfl) (by decide) (fun K hK => ?_)
      refine value_ (w1 := ?_) (v := ?_) (by rfl) rfl ?_ ?_
      rotate_left 2
      · go_simp
        constructor
        · rfl
        · rfl
      refine hK.out _ _ ((((Below.refl _ _).alloc (Nat.le_refl _) _).cell HL9.out.lt).trans e4) (fun hHeld => ?_)
      clear hK K
      refine norm_ (a' := ?_) ?_ ?_
      rotate_left
      · show Act.put _ (some 28) _ = _
        simp only [Act.put, List.setIfInBounds_toArray, List.set_cons_zero, List.set_cons_succ, i64_w, i32_w]
        rfl
      refine last_ (i := 10) (N := some 29) #[true, true, true, true, true, true, true, true, true, true, true, false, false, false] rfl rfl (by kernel_rfl) (by decide) (fun K hK => ?_)
      refine Kd.R_append_step Kd.string (w0 := w0) base (by rfl) (.tmp 23) (.tmp 28) 41 9 (.string ⟨#[]⟩) 16 rfl Try.underlying41 luInfo9 rfl (by decide) (by omega) (.slice A1 (lzBytes i).length c1) (lzBytes i) (strOfNums [(i : Int)]) [.string (strOfNums [(i : Int)])] (fun _ => True) (fun _ => False) rfl rfl ?aP (fun _ hk => hk.elim) ?aF ?aO ?aB ?aS ?aL ?_
      (case aP => exact rfl)
      (case aB => exact HB9.out)
      (case aF => exact fun _ _ => trivial)
      (case aO => exact HL9.out.rl)
      (case aS => exact Nat.le_of_lt (Nat.lt_of_le_of_lt HL9.out.ge HL9.out.lt))
      (case aL => rw [lzBytes_length]; omega)
      intro v5 w5 hr hb5 hg5 hat
      rw [← lzBytes_succ] at hr
      obtain ⟨A10, c10, rfl⟩ := Kd.R_slice hr
      have hl5 := HL9.out.app4 hg5 hr
      have hx5 := HL9.out.mid4 hg5
      have HB10 := Aside0.mk (hb5.setCell (p := ⟨g, 4, none⟩) HL9.out.ge (.slice A10 (lzBytes (i + 1)).length c10))
      obtain ⟨f0, f1, f2, f3, f4, f5, f6, f7⟩ := uz_cells hx5
      have u4 := blk_frozen hx5 4
      have HL10 := Aside0.mk hl5
      clear hl5 hx5 hr hb5 hg5 hat
      refine hK.out _ _ ?_
      clear hK K
      refine norm_ (a' := ?_) ?_ ?_
      rotate_left
      · show Act.put _ (some 29) _ = _
        simp only [Act.put, List.setIfInBounds_toArray, List.set_cons_zero, List.set_cons_succ, i64_w, i32_w]
        rfl
      refine pure_ (i := 11) (N := some 30) (v := ?_) (a' := ?_) #[true, true, true, true, true, true, true, true, true, true, true, true, false, false] rfl rfl (by kernel_rfl) (fun _ _ _ h => h) (Or.inl ⟨by rfl, ?_⟩) ?_ ?_
      rotate_left
      · intro w'
        go_simp
        with_reducible rfl
      rotate_left
      · simp only [Act.put, List.setIfInBounds_toArray, List.set_cons_zero, List.set_cons_succ, i64_w, i32_w]
        rfl
      refine pure_ (i := 12) (N := some 31) (v := ?_) (a' := ?_) #[true, true, true, true, true, true, true, true, true, true, true, true, true, false] rfl rfl (by kernel_rfl) (fun _ _ _ h => h) (Or.inl ⟨by rfl, ?_⟩) ?_ ?_
      rotate_left
      · intro w'
        go_simp
        with_reducible rfl
      rotate_left
      · simp only [Act.put, List.setIfInBounds_toArray, List.set_cons_zero, List.set_cons_succ, i64_w, i32_w]
        rfl
      refine last_ (i := 13) (N := none) #[true, true, true, true, true, true, true, true, true, true, true, true, true, true] rfl rfl (by kernel_rfl) (by decide) (fun K hK => ?_)
      refine skip_ (w1 := ?_) (by rfl) rfl ?_ ?_
      rotate_left
      · go_simp
        rfl
      refine hK.out _ _ ?_
      clear hK K
      refine done_ (by kernel_rfl) ?_
      try go_wp2
      go_roundw
      case rel => exact ⟨i + 1, by go_num, ⟨by omega⟩, ⟨_, HL10⟩, HB10⟩
      case measure => simp [intOf]; omega
    · have d1 : decide ((i : Int) < P2 bits.toNat) = false := decide_eq_false q1
      have he : i = 2 ^ bits.toNat := by have := HI.out; unfold P2 at q1 this; omega
      have HE := Aside0.mk he
      have HI256 := Aside0.mk hp
      clear he
      obtain ⟨e0, e1, e2, e3, e4, e5, e6, e7⟩ := uz_cells HL.out.blk
      have x4 := blk_frozen HL.out.blk 4
      go_wp2_with (first | ((with_reducible refine gate_dst (N := 38) rfl ?_); refine Kd.R_lit Kd.string _ 9 ?hg (N := 38) ?hd (xs := ([(⟨#[]⟩ : ByteArray), (⟨#[]⟩ : ByteArray)] : List ByteArray)) (inner := [.string (⟨#[]⟩ : ByteArray), .string (⟨#[]⟩ : ByteArray)]) (ok := fun _ => True) (okp := fun _ => True) ?hr ?hp (fun _ hk => hk) trivial (Below.refl _ _) (Nat.le_refl _) (by simp) ?_; (case hd => rfl); (case hg => rfl); (case hr => first | (go_simp; done) | (go_simp; rfl)); (case hp => exact (Reps.one (show Kd.M Kd.string _ _ _ (⟨#[]⟩ : ByteArray) [.string (⟨#[]⟩ : ByteArray)] from rfl) (Reps.one (show Kd.M Kd.string _ _ _ (⟨#[]⟩ : ByteArray) [.string (⟨#[]⟩ : ByteArray)] from rfl) (Reps.none _ _)))); intro v9 w9 ho hb9 hg_ hnew_; clear hg_ hnew_; obtain ⟨A9, c9, rfl⟩ := Kd.R_slice ho; have hl9 := HL.out.below hb9; have HB9 := Aside0.mk (HB.out.trans (hb9.mono (Nat.le_of_lt (Nat.lt_of_le_of_lt HL.out.ge HL.out.lt)))); have HO := Aside0.mk ho; clear e0 e1 e2 e3 e4 e5 e6 e7 x4 HL HB; obtain ⟨e0, e1, e2, e3, e4, e5, e6, e7⟩ := uz_cells hl9.blk; have x4 := blk_frozen hl9.blk 4; have HL9 := Aside0.mk hl9; clear hl9 hb9 ho) | ((with_reducible refine gate_builtin (b := .append) (xs := #[.tmp 37, .tmp 38]) rfl ?_); at_builtin; refine Kd.R_append_rows Kd.string (w0 := w0) base rfl (.tmp 37) (.tmp 38) 41 9 (.string ⟨#[]⟩) 16 rfl Try.underlying41 luInfo9 rfl (by decide) (by omega) (.slice A1 (lzBytes i).length c1) (lzBytes i) ([(⟨#[]⟩ : ByteArray), (⟨#[]⟩ : ByteArray)] : List ByteArray) _ _ _ (fun _ => True) (fun _ => False) rfl rfl ?aO ?aR (fun _ _ h => h) (fun _ h => h.elim) (fun _ _ => trivial) ?aB ?aS ?aL ?_; (case aR => exact (Kd.R_reads' HO.out).2.2); (case aO => exact HL9.out.rl); (case aB => exact HB9.out); (case aS => exact Nat.le_of_lt (Nat.lt_of_le_of_lt HL9.out.ge HL9.out.lt)); (case aL => rw [lzBytes_length]; have := HI.out; have := HI256.out; simp only [List.length_cons, List.length_nil]; omega); intro v5 w5 hr hb5 hg5 hat; obtain ⟨y5, hy5⟩ : ∃ y, lzBytes i ++ ([(⟨#[]⟩ : ByteArray), (⟨#[]⟩ : ByteArray)] : List ByteArray) = y := ⟨_, rfl⟩; rw [hy5] at hr; have HY := Aside0.mk hy5; clear hy5; obtain ⟨A10, c10, rfl⟩ := Kd.R_slice hr; have hl5 := HL9.out.app4 hg5 hr; have hx5 := HL9.out.mid4 hg5; have HB10 := Aside0.mk (hb5.setCell (p := ⟨g, 4, none⟩) HL9.out.ge (.slice A10 y5.length c10)); obtain ⟨f0, f1, f2, f3, f4, f5, f6, f7⟩ := uz_cells hx5; have u4 := blk_frozen hx5 4; have HL10 := Aside0.mk hl5; clear hl5 hx5 hr hb5 hg5 hat HL9 HB9 e0 e1 e2 e3 e4 e5 e6 e7))
      refine bodyPost_end (results_none rfl _ _ _) rfl ?_
      have ey : y5 = lzStart bits := by rw [← HY.out, HE.out]; rfl
      rw [← ey]
      exact ⟨rfl, ⟨_, HL10.out⟩, HB10.out⟩
end
section
open Go.Proofs.Ytdebckcphaocmaa.Th
set_option maxHeartbeats 8000000 in
set_option maxRecDepth 100000 in
theorem lu_bad1 {W w0 : World} {base g : Nat} {tx : ByteArray} {bits : Int} {wide : Bool} {limit : Int} {tl : Bool} {ul : ByteArray} {vl vc : Value} {st : LzSt}
    (h : US W base g bits wide st.list.length tl vl st.list ul st.out vc st.codes) (hB : Below base w0 W) (hI : LzI tx bits st) (n : Int) (h0 : 0 ≤ n) (hc : n ≠ P2 bits.toNat) (hc1 : n ≠ P2 bits.toNat + 1) (hlim : limit ≤ 65536) (hlt : n > st.list.length) :
    Calls Try.prog 37 #[.pointer (some ⟨g, 0, none⟩), .int .i64 n, .int .i64 limit] W fun e w' => e = .returned (.int .i64 1) ∧ (∃ v1 v3, US w' base g bits wide st.list.length tl v1 st.list ul st.out v3 st.codes) ∧ Below base w0 w' := by
  have HL := Aside0.mk h
  have HB := Aside0.mk hB
  obtain ⟨A4, c4, rfl⟩ := Kd.R_slice h.rl
  obtain ⟨A7, c7, rfl⟩ := Kd.R_slice h.rc
  obtain ⟨z0, z1, z2, z3, z4, z5, z6, z7⟩ := uz_cells h.blk
  clear h hB
  have d1 : decide (n < (st.list.length : Int)) = false := decide_eq_false (by omega)
  have d2 : (n == (st.list.length : Int)) = false := beq_eq_false_iff_ne.2 (by omega)
  go_enter Try.func37, Try.ntmps37
  go_wp2_with (first | fail)
  go_ret
  exact ⟨rfl, ⟨_, _, HL.out⟩, HB.out⟩
set_option maxHeartbeats 8000000 in
set_option maxRecDepth 100000 in
theorem lu_bad2 {W w0 : World} {base g : Nat} {tx : ByteArray} {bits : Int} {wide : Bool} {limit : Int} {tl : Bool} {ul : ByteArray} {vl vc : Value} {st : LzSt}
    (h : US W base g bits wide st.list.length tl vl st.list ul st.out vc st.codes) (hB : Below base w0 W) (hI : LzI tx bits st) (n : Int) (h0 : 0 ≤ n) (hc : n ≠ P2 bits.toNat) (hc1 : n ≠ P2 bits.toNat + 1) (hlim : limit ≤ 65536) (hlt : n = st.list.length) (htl : tl = false) :
    Calls Try.prog 37 #[.pointer (some ⟨g, 0, none⟩), .int .i64 n, .int .i64 limit] W fun e w' => e = .returned (.int .i64 1) ∧ (∃ v1 v3, US w' base g bits wide st.list.length tl v1 st.list ul st.out v3 st.codes) ∧ Below base w0 w' := by
  have HL := Aside0.mk h
  have HB := Aside0.mk hB
  obtain ⟨A4, c4, rfl⟩ := Kd.R_slice h.rl
  obtain ⟨A7, c7, rfl⟩ := Kd.R_slice h.rc
  obtain ⟨z0, z1, z2, z3, z4, z5, z6, z7⟩ := uz_cells h.blk
  clear h hB
  try (have HUL := Aside0.mk hul; clear hul)
  have d1 : decide (n < (st.list.length : Int)) = false := decide_eq_false (by omega)
  have d2 : (n == (st.list.length : Int)) = true := by rw [hlt]; exact beq_self_eq_true _
  subst htl
  go_enter Try.func37, Try.ntmps37
  go_wp2_with (first | fail)
  go_ret
  exact ⟨rfl, ⟨_, _, HL.out⟩, HB.out⟩
set_option maxHeartbeats 8000000 in
set_option maxRecDepth 100000 in
theorem lu_long1 {W w0 : World} {base g : Nat} {tx : ByteArray} {bits : Int} {wide : Bool} {limit : Int} {tl : Bool} {ul : ByteArray} {vl vc : Value} {st : LzSt}
    (h : US W base g bits wide st.list.length tl vl st.list ul st.out vc st.codes) (hB : Below base w0 W) (hI : LzI tx bits st) (n : Int) (h0 : 0 ≤ n) (hc : n ≠ P2 bits.toNat) (hc1 : n ≠ P2 bits.toNat + 1) (hlim : limit ≤ 65536) (hlt : n < st.list.length) (hc3 : (st.out.size : Int) + (lzText st n).size > limit) :
    Calls Try.prog 37 #[.pointer (some ⟨g, 0, none⟩), .int .i64 n, .int .i64 limit] W fun e w' => e = .returned (.int .i64 3) ∧ (∃ v1 v3, US w' base g bits wide st.list.length tl v1 st.list ul st.out v3 st.codes) ∧ Below base w0 w' := by
  have HL := Aside0.mk h
  have HB := Aside0.mk hB
  obtain ⟨A4, c4, rfl⟩ := Kd.R_slice h.rl
  obtain ⟨A7, c7, rfl⟩ := Kd.R_slice h.rc
  obtain ⟨z0, z1, z2, z3, z4, z5, z6, z7⟩ := uz_cells h.blk
  clear h hB
  have d1 : decide (n < (st.list.length : Int)) = true := decide_eq_true hlt
  have hs : lzText st n = rdOf ByteArray.empty st.list n := by unfold lzText; rw [if_pos hlt]
  have hbad : ¬ lzBad st n := by unfold lzBad; omega
  obtain ⟨ad, ea, hcell⟩ := Kd.at_string (Kd.R_reads' HL.out.rl).2.2 n h0 hlt
  cases ea
  generalize rdOf ByteArray.empty st.list n = s at hcell hs
  have ht := hI.text h0 hc hc1 hbad
  have ho := hI.out
  rw [hs] at ht
  have q1 : ((1 : Int) ≤ (s.size : Int)) = True := eq_true (by omega)
  rw [hs] at hc3
  have wl : wrap64 ((st.out.size : Int) + s.size) = (st.out.size : Int) + s.size := w64 (by omega)
  have d6 : limit < (st.out.size : Int) + s.size := hc3
  go_enter Try.func37, Try.ntmps37
  go_wp2_with (first | fail)
  repeat (go_quiet (fail); try go_wp2)
  go_ret
  first | exact ⟨rfl, ⟨_, _, HL.out⟩, HB.out⟩ | exact ⟨rfl, ⟨_, _, HL.out.drewN _⟩, pw_below_drewN HB.out _⟩
set_option maxHeartbeats 8000000 in
set_option maxRecDepth 100000 in
theorem lu_long2 {W w0 : World} {base g : Nat} {tx : ByteArray} {bits : Int} {wide : Bool} {limit : Int} {tl : Bool} {ul : ByteArray} {vl vc : Value} {st : LzSt}
    (h : US W base g bits wide st.list.length tl vl st.list ul st.out vc st.codes) (hB : Below base w0 W) (hI : LzI tx bits st) (n : Int) (h0 : 0 ≤ n) (hc : n ≠ P2 bits.toNat) (hc1 : n ≠ P2 bits.toNat + 1) (hlim : limit ≤ 65536) (hlt : n = st.list.length) (htl : tl = true) (hul : ul = st.last) (hz : ul.size ≠ 0) (hc3 : (st.out.size : Int) + (lzText st n).size > limit) :
    Calls Try.prog 37 #[.pointer (some ⟨g, 0, none⟩), .int .i64 n, .int .i64 limit] W fun e w' => e = .returned (.int .i64 3) ∧ (∃ v1 v3, US w' base g bits wide st.list.length tl v1 st.list ul st.out v3 st.codes) ∧ Below base w0 w' := by
  have HL := Aside0.mk h
  have HB := Aside0.mk hB
  obtain ⟨A4, c4, rfl⟩ := Kd.R_slice h.rl
  obtain ⟨A7, c7, rfl⟩ := Kd.R_slice h.rc
  obtain ⟨z0, z1, z2, z3, z4, z5, z6, z7⟩ := uz_cells h.blk
  clear h hB
  have hs : lzText st n = ul ++ ul.extract 0 1 := by unfold lzText; rw [if_neg (by omega), hul]
  have hz : st.last.size ≠ 0 := by rw [← hul]; exact hz
  have hbad : ¬ lzBad st n := by unfold lzBad; omega
  have ht := hI.text h0 hc hc1 hbad
  have ho := hI.out
  have hull : ul.size ≤ 65536 := by rw [hul]; exact hI.last
  rw [hs] at ht
  have hsz : (ul ++ ul.extract 0 1).size = ul.size + min 1 ul.size := by rw [ByteArray.size_append, ByteArray.size_extract]; omega
  have q0 : ((1 : Int) ≤ (ul.size : Int)) = True := eq_true (by rw [hul]; omega)
  have q3 : (9223372036854775807 < ul.size + min 1 ul.size) = False := eq_false (by omega)
  have q1 : ((1 : Int) ≤ (ul.size : Int) + ((min 1 ul.size : Nat) : Int)) = True := eq_true (by omega)
  try (have HUL := Aside0.mk hul; clear hul)
  have d1 : decide (n < (st.list.length : Int)) = false := decide_eq_false (by omega)
  have d2 : (n == (st.list.length : Int)) = true := by rw [hlt]; exact beq_self_eq_true _
  subst htl
  rw [hs] at hc3
  have d6b : limit < wrap64 ((st.out.size : Int) + ((ul.size : Int) + ((min 1 ul.size : Nat) : Int))) := by rw [w64 (by omega)]; omega
  go_enter Try.func37, Try.ntmps37
  go_wp2_with (first | fail)
  have HL8 := Aside0.mk HL.out.drew
  have HB8 := Aside0.mk (Below.drew HB.out)
  clear HL HB
  refine start_ (n := 11) (S := fun w' => w'.cell? ⟨g, 5, none⟩ = some (.string ul)) (ds := []) #[false, false, false, false, false, false, false, false, false, false, false] (by kernel_rfl) rfl rfl (z5) (fun hHeld => ?_)
  generalize W.drew = w8 at HL8 HB8 hHeld ⊢
  refine pure_ (i := 0) (N := some 38) (v := ?_) (a' := ?_) #[true, false, false, false, false, false, false, false, false, false, false] rfl rfl (by kernel_rfl) (fun _ _ _ h => h) (Or.inl ⟨by rfl, ?_⟩) ?_ ?_
  rotate_left
  · intro w'
    go_simp
    with_reducible rfl
  rotate_left
  · simp only [Act.put, List.setIfInBounds_toArray, List.set_cons_zero, List.set_cons_succ, i64_w, i32_w]
    rfl
  refine pure_ (i := 1) (N := some 39) (v := ?_) (a' := ?_) #[true, true, false, false, false, false, false, false, false, false, false] rfl rfl (by kernel_rfl) (fun _ _ _ h => h) (Or.inl ⟨by rfl, ?_⟩) ?_ ?_
  rotate_left
  · intro w'
    go_simp
    with_reducible rfl
  rotate_left
  · simp only [Act.put, List.setIfInBounds_toArray, List.set_cons_zero, List.set_cons_succ, i64_w, i32_w]
    rfl
  refine pure_ (i := 2) (N := some 40) (v := ?_) (a' := ?_) #[true, true, true, false, false, false, false, false, false, false, false] rfl rfl (by kernel_rfl) (fun _ _ _ h => h) (Or.inl ⟨by rfl, ?_⟩) ?_ ?_
  rotate_left
  · intro w'
    go_simp
    with_reducible rfl
  rotate_left
  · simp only [Act.put, List.setIfInBounds_toArray, List.set_cons_zero, List.set_cons_succ, i64_w, i32_w]
    rfl
  refine pure_ (i := 4) (N := some 42) (v := ?_) (a' := ?_) #[true, true, true, false, true, false, false, false, false, false, false] rfl rfl (by kernel_rfl) (fun _ _ _ h => h) (Or.inl ⟨by rfl, ?_⟩) ?_ ?_
  rotate_left
  · intro w'
    go_simp
    with_reducible rfl
  rotate_left
  · simp only [Act.put, List.setIfInBounds_toArray, List.set_cons_zero, List.set_cons_succ, i64_w, i32_w]
    rfl
  refine pure_ (i := 5) (N := some 43) (v := ?_) (a' := ?_) #[true, true, true, false, true, true, false, false, false, false, false] rfl rfl (by kernel_rfl) (fun _ _ _ h => h) (Or.inl ⟨by rfl, ?_⟩) ?_ ?_
  rotate_left
  · intro w'
    go_simp
    with_reducible rfl
  rotate_left
  · simp only [Act.put, List.setIfInBounds_toArray, List.set_cons_zero, List.set_cons_succ, i64_w, i32_w]
    rfl
  refine pure_ (i := 6) (N := some 44) (v := ?_) (a' := ?_) #[true, true, true, false, true, true, true, false, false, false, false] rfl rfl (by kernel_rfl) (fun _ _ _ h => h) (Or.inl ⟨by rfl, ?_⟩) ?_ ?_
  rotate_left
  · intro w'
    go_simp
    with_reducible rfl
  rotate_left
  · simp only [Act.put, List.setIfInBounds_toArray, List.set_cons_zero, List.set_cons_succ, i64_w, i32_w]
    rfl
  refine take_ (i := 3) (N := some 41) (v := ?_) (a' := ?_) #[true, true, true, true, true, true, true, false, false, false, false] rfl rfl (by kernel_rfl) (fun _ _ _ h => h) (Or.inl ⟨by rfl, ?_⟩) hHeld ?_ ?_
  rotate_left
  · intro w' s0
    go_simp
    with_reducible rfl
  rotate_left
  · simp only [Act.put, List.setIfInBounds_toArray, List.set_cons_zero, List.set_cons_succ, i64_w, i32_w]
    rfl
  refine take_ (i := 7) (N := some 45) (v := ?_) (a' := ?_) #[true, true, true, true, true, true, true, true, false, false, false] rfl rfl (by kernel_rfl) (fun _ _ _ h => h) (Or.inl ⟨by rfl, ?_⟩) hHeld ?_ ?_
  rotate_left
  · intro w' s0
    go_simp
    with_reducible rfl
  rotate_left
  · simp only [Act.put, List.setIfInBounds_toArray, List.set_cons_zero, List.set_cons_succ, i64_w, i32_w]
    rfl
  refine pure_ (i := 8) (N := some 46) (v := ?_) (a' := ?_) #[true, true, true, true, true, true, true, true, true, false, false] rfl rfl (by kernel_rfl) (fun _ _ _ h => h) (Or.inl ⟨by rfl, ?_⟩) ?_ ?_
  rotate_left
  · intro w'
    go_simp
    with_reducible rfl
  rotate_left
  · simp only [Act.put, List.setIfInBounds_toArray, List.set_cons_zero, List.set_cons_succ, i64_w, i32_w]
    rfl
  refine pure_ (i := 9) (N := some 47) (v := ?_) (a' := ?_) #[true, true, true, true, true, true, true, true, true, true, false] rfl rfl (by kernel_rfl) (fun _ _ _ h => h) (Or.inl ⟨by rfl, ?_⟩) ?_ ?_
  rotate_left
  · intro w'
    go_simp
    with_reducible rfl
  rotate_left
  · simp only [Act.put, List.setIfInBounds_toArray, List.set_cons_zero, List.set_cons_succ, i64_w, i32_w]
    rfl
  refine pure_ (i := 10) (N := some 7) (v := ?_) (a' := ?_) #[true, true, true, true, true, true, true, true, true, true, true] rfl rfl (by kernel_rfl) (fun _ _ _ h => h) (Or.inl ⟨by rfl, ?_⟩) ?_ ?_
  rotate_left
  · intro w'
    go_simp
    with_reducible rfl
  rotate_left
  · simp only [Act.put, List.setIfInBounds_toArray, List.set_cons_zero, List.set_cons_succ, i64_w, i32_w]
    rfl
  refine done_ (by kernel_rfl) ?_
  clear z0 z1 z2 z3 z4 z5 z6 z7
  obtain ⟨z0, z1, z2, z3, z4, z5, z6, z7⟩ := uz_cells HL8.out.blk
  go_wp2_with (fail)
  repeat (go_quiet (fail); try go_wp2)
  go_ret
  first | exact ⟨rfl, ⟨_, _, HL8.out⟩, HB8.out⟩ | exact ⟨rfl, ⟨_, _, HL8.out.drewN _⟩, pw_below_drewN HB8.out _⟩
set_option maxHeartbeats 8000000 in
set_option maxRecDepth 100000 in
theorem lu_new {W w0 : World} {base g : Nat} {tx : ByteArray} {bits : Int} {wide : Bool} {limit : Int} {tl : Bool} {ul : ByteArray} {vl vc : Value} {st : LzSt}
    (h : US W base g bits wide st.list.length tl vl st.list ul st.out vc st.codes) (hB : Below base w0 W) (hI : LzI tx bits st) (n : Int) (h0 : 0 ≤ n) (hc : n ≠ P2 bits.toNat) (hc1 : n ≠ P2 bits.toNat + 1) (hlim : limit ≤ 65536) (hlt : n < st.list.length) (htl : tl = false) (hz : st.last.size = 0) (hc3 : ¬ (st.out.size : Int) + (lzText st n).size > limit)  :
    Calls Try.prog 37 #[.pointer (some ⟨g, 0, none⟩), .int .i64 n, .int .i64 limit] W fun e w' => e = .returned (.int .i64 0) ∧ (∃ v1 v3, US w' base g bits wide (lzPut st n).list.length true v1 (lzPut st n).list (lzPut st n).last (lzPut st n).out v3 (lzPut st n).codes) ∧ Below base w0 w' := by
  have HL := Aside0.mk h
  have HB := Aside0.mk hB
  obtain ⟨A4, c4, rfl⟩ := Kd.R_slice h.rl
  obtain ⟨A7, c7, rfl⟩ := Kd.R_slice h.rc
  obtain ⟨z0, z1, z2, z3, z4, z5, z6, z7⟩ := uz_cells h.blk
  clear h hB
  have d1 : decide (n < (st.list.length : Int)) = true := decide_eq_true hlt
  have hs : lzText st n = rdOf ByteArray.empty st.list n := by unfold lzText; rw [if_pos hlt]
  have hbad : ¬ lzBad st n := by unfold lzBad; omega
  obtain ⟨ad, ea, hcell⟩ := Kd.at_string (Kd.R_reads' HL.out.rl).2.2 n h0 hlt
  cases ea
  generalize rdOf ByteArray.empty st.list n = s at hcell hs
  have ht := hI.text h0 hc hc1 hbad
  have ho := hI.out
  rw [hs] at ht
  have q1 : ((1 : Int) ≤ (s.size : Int)) = True := eq_true (by omega)
  rw [hs] at hc3
  have wl : wrap64 ((st.out.size : Int) + s.size) = (st.out.size : Int) + s.size := w64 (by omega)
  have d6 : ¬ limit < (st.out.size : Int) + s.size := hc3
  have q5 : (9223372036854775807 < st.out.size + s.size) = False := eq_false (by omega)
  have y6 := blk_frozen HL.out.blk 6
  subst htl
  go_enter Try.func37, Try.ntmps37
  go_wp2_with (first | fail | (go_at_call 46; refine (lu_first (HL.out.at6 _) (HB.out.setCell (p := ⟨g, 6, none⟩) HL.out.ge _) rfl).mono ?_; rintro e w9 ⟨rfl, hl, hb9⟩; have HL9 := Aside0.mk hl; have HB9 := Aside0.mk hb9; clear z0 z1 z2 z3 z4 z5 z6 z7; obtain ⟨z0, z1, z2, z3, z4, z5, z6, z7⟩ := uz_cells hl.blk; have x5 := blk_frozen hl.blk 5; clear hl hb9 HL HB))
  repeat (go_quiet (fail); try go_wp2_with (first | fail | (go_at_call 46; refine (lu_first (HL.out.at6 _) (HB.out.setCell (p := ⟨g, 6, none⟩) HL.out.ge _) rfl).mono ?_; rintro e w9 ⟨rfl, hl, hb9⟩; have HL9 := Aside0.mk hl; have HB9 := Aside0.mk hb9; clear z0 z1 z2 z3 z4 z5 z6 z7; obtain ⟨z0, z1, z2, z3, z4, z5, z6, z7⟩ := uz_cells hl.blk; have x5 := blk_frozen hl.blk 5; clear hl hb9 HL HB)))
  go_ret
  have e1 : lzPut st n = ⟨st.pos, st.list, s, st.out ++ s, st.codes⟩ := by unfold lzPut lzMore; rw [hs, if_neg (fun h => h.1 hz)]
  rw [e1]
  exact ⟨rfl, ⟨_, _, HL9.out.at5 _⟩, HB9.out.setCell HL9.out.ge _⟩
set_option maxHeartbeats 8000000 in
set_option maxRecDepth 100000 in
theorem lu_full1 {W w0 : World} {base g : Nat} {tx : ByteArray} {bits : Int} {wide : Bool} {limit : Int} {tl : Bool} {ul : ByteArray} {vl vc : Value} {st : LzSt}
    (h : US W base g bits wide st.list.length tl vl st.list ul st.out vc st.codes) (hB : Below base w0 W) (hI : LzI tx bits st) (n : Int) (h0 : 0 ≤ n) (hc : n ≠ P2 bits.toNat) (hc1 : n ≠ P2 bits.toNat + 1) (hlim : limit ≤ 65536) (hlt : n < st.list.length) (htl : tl = true) (hul : ul = st.last) (hz : ul.size ≠ 0) (hl : ¬ st.list.length < 4096) (hc3 : ¬ (st.out.size : Int) + (lzText st n).size > limit)  :
    Calls Try.prog 37 #[.pointer (some ⟨g, 0, none⟩), .int .i64 n, .int .i64 limit] W fun e w' => e = .returned (.int .i64 0) ∧ (∃ v1 v3, US w' base g bits wide (lzPut st n).list.length true v1 (lzPut st n).list (lzPut st n).last (lzPut st n).out v3 (lzPut st n).codes) ∧ Below base w0 w' := by
  have HL := Aside0.mk h
  have HB := Aside0.mk hB
  obtain ⟨A4, c4, rfl⟩ := Kd.R_slice h.rl
  obtain ⟨A7, c7, rfl⟩ := Kd.R_slice h.rc
  obtain ⟨z0, z1, z2, z3, z4, z5, z6, z7⟩ := uz_cells h.blk
  clear h hB
  have d1 : decide (n < (st.list.length : Int)) = true := decide_eq_true hlt
  have hs : lzText st n = rdOf ByteArray.empty st.list n := by unfold lzText; rw [if_pos hlt]
  have hbad : ¬ lzBad st n := by unfold lzBad; omega
  obtain ⟨ad, ea, hcell⟩ := Kd.at_string (Kd.R_reads' HL.out.rl).2.2 n h0 hlt
  cases ea
  generalize rdOf ByteArray.empty st.list n = s at hcell hs
  have ht := hI.text h0 hc hc1 hbad
  have ho := hI.out
  rw [hs] at ht
  have q1 : ((1 : Int) ≤ (s.size : Int)) = True := eq_true (by omega)
  rw [hs] at hc3
  have wl : wrap64 ((st.out.size : Int) + s.size) = (st.out.size : Int) + s.size := w64 (by omega)
  have d6 : ¬ limit < (st.out.size : Int) + s.size := hc3
  have q5 : (9223372036854775807 < st.out.size + s.size) = False := eq_false (by omega)
  have y6 := blk_frozen HL.out.blk 6
  subst htl
  have HNL := Aside0.mk (show (4096 : Int) ≤ (st.list.length : Int) by omega)
  go_enter Try.func37, Try.ntmps37
  go_wp2_with (first | fail | (go_at_call 46; refine (lu_same (HL.out.at6 _) (HB.out.setCell (p := ⟨g, 6, none⟩) HL.out.ge _) rfl (Int.not_lt.2 HNL.out)).mono ?_; rintro e w9 ⟨rfl, hl, hb9⟩; have HL9 := Aside0.mk hl; have HB9 := Aside0.mk hb9; clear z0 z1 z2 z3 z4 z5 z6 z7; obtain ⟨z0, z1, z2, z3, z4, z5, z6, z7⟩ := uz_cells hl.blk; have x5 := blk_frozen hl.blk 5; clear hl hb9 HL HB))
  repeat (go_quiet (fail); try go_wp2_with (first | fail | (go_at_call 46; refine (lu_same (HL.out.at6 _) (HB.out.setCell (p := ⟨g, 6, none⟩) HL.out.ge _) rfl (Int.not_lt.2 HNL.out)).mono ?_; rintro e w9 ⟨rfl, hl, hb9⟩; have HL9 := Aside0.mk hl; have HB9 := Aside0.mk hb9; clear z0 z1 z2 z3 z4 z5 z6 z7; obtain ⟨z0, z1, z2, z3, z4, z5, z6, z7⟩ := uz_cells hl.blk; have x5 := blk_frozen hl.blk 5; clear hl hb9 HL HB)))
  go_ret
  have e1 : lzPut st n = ⟨st.pos, st.list, s, st.out ++ s, st.codes⟩ := by unfold lzPut lzMore; rw [hs, if_neg (fun h => hl h.2)]
  rw [e1]
  exact ⟨rfl, ⟨_, _, HL9.out.at5 _⟩, HB9.out.setCell HL9.out.ge _⟩
set_option maxHeartbeats 8000000 in
set_option maxRecDepth 100000 in
theorem lu_full2 {W w0 : World} {base g : Nat} {tx : ByteArray} {bits : Int} {wide : Bool} {limit : Int} {tl : Bool} {ul : ByteArray} {vl vc : Value} {st : LzSt}
    (h : US W base g bits wide st.list.length tl vl st.list ul st.out vc st.codes) (hB : Below base w0 W) (hI : LzI tx bits st) (n : Int) (h0 : 0 ≤ n) (hc : n ≠ P2 bits.toNat) (hc1 : n ≠ P2 bits.toNat + 1) (hlim : limit ≤ 65536) (hlt : n = st.list.length) (htl : tl = true) (hul : ul = st.last) (hz : ul.size ≠ 0) (hl : ¬ st.list.length < 4096) (hc3 : ¬ (st.out.size : Int) + (lzText st n).size > limit)  :
    Calls Try.prog 37 #[.pointer (some ⟨g, 0, none⟩), .int .i64 n, .int .i64 limit] W fun e w' => e = .returned (.int .i64 0) ∧ (∃ v1 v3, US w' base g bits wide (lzPut st n).list.length true v1 (lzPut st n).list (lzPut st n).last (lzPut st n).out v3 (lzPut st n).codes) ∧ Below base w0 w' := by
  have HL := Aside0.mk h
  have HB := Aside0.mk hB
  obtain ⟨A4, c4, rfl⟩ := Kd.R_slice h.rl
  obtain ⟨A7, c7, rfl⟩ := Kd.R_slice h.rc
  obtain ⟨z0, z1, z2, z3, z4, z5, z6, z7⟩ := uz_cells h.blk
  clear h hB
  have hs : lzText st n = ul ++ ul.extract 0 1 := by unfold lzText; rw [if_neg (by omega), hul]
  have hz : st.last.size ≠ 0 := by rw [← hul]; exact hz
  have hbad : ¬ lzBad st n := by unfold lzBad; omega
  have ht := hI.text h0 hc hc1 hbad
  have ho := hI.out
  have hull : ul.size ≤ 65536 := by rw [hul]; exact hI.last
  rw [hs] at ht
  have hsz : (ul ++ ul.extract 0 1).size = ul.size + min 1 ul.size := by rw [ByteArray.size_append, ByteArray.size_extract]; omega
  have q0 : ((1 : Int) ≤ (ul.size : Int)) = True := eq_true (by rw [hul]; omega)
  have q3 : (9223372036854775807 < ul.size + min 1 ul.size) = False := eq_false (by omega)
  have q1 : ((1 : Int) ≤ (ul.size : Int) + ((min 1 ul.size : Nat) : Int)) = True := eq_true (by omega)
  try (have HUL := Aside0.mk hul; clear hul)
  have d1 : decide (n < (st.list.length : Int)) = false := decide_eq_false (by omega)
  have d2 : (n == (st.list.length : Int)) = true := by rw [hlt]; exact beq_self_eq_true _
  subst htl
  rw [hs] at hc3
  have d6b : ¬ limit < wrap64 ((st.out.size : Int) + ((ul.size : Int) + ((min 1 ul.size : Nat) : Int))) := by rw [w64 (by omega)]; omega
  have q5 : (9223372036854775807 < st.out.size + (ul.size + min 1 ul.size)) = False := eq_false (by omega)
  have HNL := Aside0.mk (show (4096 : Int) ≤ (st.list.length : Int) by omega)
  go_enter Try.func37, Try.ntmps37
  go_wp2_with (first | fail)
  have HL8 := Aside0.mk HL.out.drew
  have HB8 := Aside0.mk (Below.drew HB.out)
  clear HL HB
  refine start_ (n := 11) (S := fun w' => w'.cell? ⟨g, 5, none⟩ = some (.string ul)) (ds := []) #[false, false, false, false, false, false, false, false, false, false, false] (by kernel_rfl) rfl rfl (z5) (fun hHeld => ?_)
  generalize W.drew = w8 at HL8 HB8 hHeld ⊢
  refine pure_ (i := 0) (N := some 38) (v := ?_) (a' := ?_) #[true, false, false, false, false, false, false, false, false, false, false] rfl rfl (by kernel_rfl) (fun _ _ _ h => h) (Or.inl ⟨by rfl, ?_⟩) ?_ ?_
  rotate_left
  · intro w'
    go_simp
    with_reducible rfl
  rotate_left
  · simp only [Act.put, List.setIfInBounds_toArray, List.set_cons_zero, List.set_cons_succ, i64_w, i32_w]
    rfl
  refine pure_ (i := 1) (N := some 39) (v := ?_) (a' := ?_) #[true, true, false, false, false, false, false, false, false, false, false] rfl rfl (by kernel_rfl) (fun _ _ _ h => h) (Or.inl ⟨by rfl, ?_⟩) ?_ ?_
  rotate_left
  · intro w'
    go_simp
    with_reducible rfl
  rotate_left
  · simp only [Act.put, List.setIfInBounds_toArray, List.set_cons_zero, List.set_cons_succ, i64_w, i32_w]
    rfl
  refine pure_ (i := 2) (N := some 40) (v := ?_) (a' := ?_) #[true, true, true, false, false, false, false, false, false, false, false] rfl rfl (by kernel_rfl) (fun _ _ _ h => h) (Or.inl ⟨by rfl, ?_⟩) ?_ ?_
  rotate_left
  · intro w'
    go_simp
    with_reducible rfl
  rotate_left
  · simp only [Act.put, List.setIfInBounds_toArray, List.set_cons_zero, List.set_cons_succ, i64_w, i32_w]
    rfl
  refine pure_ (i := 4) (N := some 42) (v := ?_) (a' := ?_) #[true, true, true, false, true, false, false, false, false, false, false] rfl rfl (by kernel_rfl) (fun _ _ _ h => h) (Or.inl ⟨by rfl, ?_⟩) ?_ ?_
  rotate_left
  · intro w'
    go_simp
    with_reducible rfl
  rotate_left
  · simp only [Act.put, List.setIfInBounds_toArray, List.set_cons_zero, List.set_cons_succ, i64_w, i32_w]
    rfl
  refine pure_ (i := 5) (N := some 43) (v := ?_) (a' := ?_) #[true, true, true, false, true, true, false, false, false, false, false] rfl rfl (by kernel_rfl) (fun _ _ _ h => h) (Or.inl ⟨by rfl, ?_⟩) ?_ ?_
  rotate_left
  · intro w'
    go_simp
    with_reducible rfl
  rotate_left
  · simp only [Act.put, List.setIfInBounds_toArray, List.set_cons_zero, List.set_cons_succ, i64_w, i32_w]
    rfl
  refine pure_ (i := 6) (N := some 44) (v := ?_) (a' := ?_) #[true, true, true, false, true, true, true, false, false, false, false] rfl rfl (by kernel_rfl) (fun _ _ _ h => h) (Or.inl ⟨by rfl, ?_⟩) ?_ ?_
  rotate_left
  · intro w'
    go_simp
    with_reducible rfl
  rotate_left
  · simp only [Act.put, List.setIfInBounds_toArray, List.set_cons_zero, List.set_cons_succ, i64_w, i32_w]
    rfl
  refine take_ (i := 3) (N := some 41) (v := ?_) (a' := ?_) #[true, true, true, true, true, true, true, false, false, false, false] rfl rfl (by kernel_rfl) (fun _ _ _ h => h) (Or.inl ⟨by rfl, ?_⟩) hHeld ?_ ?_
  rotate_left
  · intro w' s0
    go_simp
    with_reducible rfl
  rotate_left
  · simp only [Act.put, List.setIfInBounds_toArray, List.set_cons_zero, List.set_cons_succ, i64_w, i32_w]
    rfl
  refine take_ (i := 7) (N := some 45) (v := ?_) (a' := ?_) #[true, true, true, true, true, true, true, true, false, false, false] rfl rfl (by kernel_rfl) (fun _ _ _ h => h) (Or.inl ⟨by rfl, ?_⟩) hHeld ?_ ?_
  rotate_left
  · intro w' s0
    go_simp
    with_reducible rfl
  rotate_left
  · simp only [Act.put, List.setIfInBounds_toArray, List.set_cons_zero, List.set_cons_succ, i64_w, i32_w]
    rfl
  refine pure_ (i := 8) (N := some 46) (v := ?_) (a' := ?_) #[true, true, true, true, true, true, true, true, true, false, false] rfl rfl (by kernel_rfl) (fun _ _ _ h => h) (Or.inl ⟨by rfl, ?_⟩) ?_ ?_
  rotate_left
  · intro w'
    go_simp
    with_reducible rfl
  rotate_left
  · simp only [Act.put, List.setIfInBounds_toArray, List.set_cons_zero, List.set_cons_succ, i64_w, i32_w]
    rfl
  refine pure_ (i := 9) (N := some 47) (v := ?_) (a' := ?_) #[true, true, true, true, true, true, true, true, true, true, false] rfl rfl (by kernel_rfl) (fun _ _ _ h => h) (Or.inl ⟨by rfl, ?_⟩) ?_ ?_
  rotate_left
  · intro w'
    go_simp
    with_reducible rfl
  rotate_left
  · simp only [Act.put, List.setIfInBounds_toArray, List.set_cons_zero, List.set_cons_succ, i64_w, i32_w]
    rfl
  refine pure_ (i := 10) (N := some 7) (v := ?_) (a' := ?_) #[true, true, true, true, true, true, true, true, true, true, true] rfl rfl (by kernel_rfl) (fun _ _ _ h => h) (Or.inl ⟨by rfl, ?_⟩) ?_ ?_
  rotate_left
  · intro w'
    go_simp
    with_reducible rfl
  rotate_left
  · simp only [Act.put, List.setIfInBounds_toArray, List.set_cons_zero, List.set_cons_succ, i64_w, i32_w]
    rfl
  refine done_ (by kernel_rfl) ?_
  clear z0 z1 z2 z3 z4 z5 z6 z7
  obtain ⟨z0, z1, z2, z3, z4, z5, z6, z7⟩ := uz_cells HL8.out.blk
  have y6 := blk_frozen HL8.out.blk 6
  go_wp2_with (first | fail | (go_at_call 46; refine (lu_same (HL8.out.at6 _) (HB8.out.setCell (p := ⟨g, 6, none⟩) HL8.out.ge _) rfl (Int.not_lt.2 HNL.out)).mono ?_; rintro e w9 ⟨rfl, hl, hb9⟩; have HL9 := Aside0.mk hl; have HB9 := Aside0.mk hb9; clear z0 z1 z2 z3 z4 z5 z6 z7; obtain ⟨z0, z1, z2, z3, z4, z5, z6, z7⟩ := uz_cells hl.blk; have x5 := blk_frozen hl.blk 5; clear hl hb9 HL8 HB8))
  repeat (go_quiet (fail); try go_wp2_with (first | fail | (go_at_call 46; refine (lu_same (HL8.out.at6 _) (HB8.out.setCell (p := ⟨g, 6, none⟩) HL8.out.ge _) rfl (Int.not_lt.2 HNL.out)).mono ?_; rintro e w9 ⟨rfl, hl, hb9⟩; have HL9 := Aside0.mk hl; have HB9 := Aside0.mk hb9; clear z0 z1 z2 z3 z4 z5 z6 z7; obtain ⟨z0, z1, z2, z3, z4, z5, z6, z7⟩ := uz_cells hl.blk; have x5 := blk_frozen hl.blk 5; clear hl hb9 HL8 HB8)))
  go_ret
  have e1 : lzPut st n = ⟨st.pos, st.list, (ul ++ ul.extract 0 1), st.out ++ (ul ++ ul.extract 0 1), st.codes⟩ := by unfold lzPut lzMore; rw [hs, if_neg (fun h => absurd h.2 (by have := HNL.out; omega))]
  rw [e1]
  exact ⟨rfl, ⟨_, _, HL9.out.at5 _⟩, HB9.out.setCell HL9.out.ge _⟩
set_option maxHeartbeats 8000000 in
set_option maxRecDepth 100000 in
theorem lu_more1 {W w0 : World} {base g : Nat} {tx : ByteArray} {bits : Int} {wide : Bool} {limit : Int} {tl : Bool} {ul : ByteArray} {vl vc : Value} {st : LzSt}
    (h : US W base g bits wide st.list.length tl vl st.list ul st.out vc st.codes) (hB : Below base w0 W) (hI : LzI tx bits st) (n : Int) (h0 : 0 ≤ n) (hc : n ≠ P2 bits.toNat) (hc1 : n ≠ P2 bits.toNat + 1) (hlim : limit ≤ 65536) (hlt : n < st.list.length) (htl : tl = true) (hul : ul = st.last) (hz : ul.size ≠ 0) (hl : st.list.length < 4096) (hc3 : ¬ (st.out.size : Int) + (lzText st n).size > limit)  :
    Calls Try.prog 37 #[.pointer (some ⟨g, 0, none⟩), .int .i64 n, .int .i64 limit] W fun e w' => e = .returned (.int .i64 0) ∧ (∃ v1 v3, US w' base g bits wide (lzPut st n).list.length true v1 (lzPut st n).list (lzPut st n).last (lzPut st n).out v3 (lzPut st n).codes) ∧ Below base w0 w' := by
  have HL := Aside0.mk h
  have HB := Aside0.mk hB
  obtain ⟨A4, c4, rfl⟩ := Kd.R_slice h.rl
  obtain ⟨A7, c7, rfl⟩ := Kd.R_slice h.rc
  obtain ⟨z0, z1, z2, z3, z4, z5, z6, z7⟩ := uz_cells h.blk
  clear h hB
  have d1 : decide (n < (st.list.length : Int)) = true := decide_eq_true hlt
  have hs : lzText st n = rdOf ByteArray.empty st.list n := by unfold lzText; rw [if_pos hlt]
  have hbad : ¬ lzBad st n := by unfold lzBad; omega
  obtain ⟨ad, ea, hcell⟩ := Kd.at_string (Kd.R_reads' HL.out.rl).2.2 n h0 hlt
  cases ea
  generalize rdOf ByteArray.empty st.list n = s at hcell hs
  have ht := hI.text h0 hc hc1 hbad
  have ho := hI.out
  rw [hs] at ht
  have q1 : ((1 : Int) ≤ (s.size : Int)) = True := eq_true (by omega)
  rw [hs] at hc3
  have wl : wrap64 ((st.out.size : Int) + s.size) = (st.out.size : Int) + s.size := w64 (by omega)
  have d6 : ¬ limit < (st.out.size : Int) + s.size := hc3
  have q5 : (9223372036854775807 < st.out.size + s.size) = False := eq_false (by omega)
  have y6 := blk_frozen HL.out.blk 6
  subst htl
  have HNL := Aside0.mk (show 0 ≤ (st.list.length : Int) ∧ (st.list.length : Int) < 4096 by omega)
  have HZ := Aside0.mk (show st.last.size ≠ 0 by first | exact hz | (rw [← hul]; exact hz))
  have q2 : (9223372036854775807 < ul.size + 1) = False := eq_false (by have := hI.last; rw [← hul] at this; omega)
  have HUL := Aside0.mk hul
  clear hul
  go_enter Try.func37, Try.ntmps37
  go_wp2_with (first | fail | (go_at_call 46; refine (lu_more (HL.out.at6 _) (HB.out.setCell (p := ⟨g, 6, none⟩) HL.out.ge _) rfl HNL.out).mono ?_; rintro e w9 ⟨rfl, hl, hb9⟩; have HL9 := Aside0.mk hl; have HB9 := Aside0.mk hb9; clear z0 z1 z2 z3 z4 z5 z6 z7; obtain ⟨z0, z1, z2, z3, z4, z5, z6, z7⟩ := uz_cells hl.blk; have x5 := blk_frozen hl.blk 5; clear hl hb9 HL HB))
  have HL10 := Aside0.mk HL9.out.drew
  have HB10 := Aside0.mk (Below.drew HB9.out)
  obtain ⟨e0, e1, e2, e3, e4, e5, e6, e7⟩ := uz_cells HL10.out.blk
  clear HL9 HB9 z0 z1 z2 z3 z4 z5 z6 z7
  refine start_ (n := 17) (S := fun w' => w'.cell? ⟨g, 4, none⟩ = some (.slice (some ad) st.list.length c4) ∧ w'.cell? ⟨g, 5, none⟩ = some (.string ul)) (ds := [13, 16]) #[false, false, false, false, false, false, false, false, false, false, false, false, false, false, false, false, false] (by kernel_rfl) rfl rfl ⟨e4, e5⟩ (fun hHeld => ?_)
  generalize w9.drew = w10 at HL10 HB10 e0 e1 e2 e3 e4 e5 e6 e7 hHeld ⊢
  refine pure_ (i := 0) (N := some 70) (v := ?_) (a' := ?_) #[true, false, false, false, false, false, false, false, false, false, false, false, false, false, false, false, false] rfl rfl (by kernel_rfl) (fun _ _ _ h => h) (Or.inl ⟨by rfl, ?_⟩) ?_ ?_
  rotate_left
  · intro w'
    go_simp
    with_reducible rfl
  rotate_left
  · simp only [Act.put, List.setIfInBounds_toArray, List.set_cons_zero, List.set_cons_succ, i64_w, i32_w]
    rfl
  refine pure_ (i := 1) (N := some 71) (v := ?_) (a' := ?_) #[true, true, false, false, false, false, false, false, false, false, false, false, false, false, false, false, false] rfl rfl (by kernel_rfl) (fun _ _ _ h => h) (Or.inl ⟨by rfl, ?_⟩) ?_ ?_
  rotate_left
  · intro w'
    go_simp
    with_reducible rfl
  rotate_left
  · simp only [Act.put, List.setIfInBounds_toArray, List.set_cons_zero, List.set_cons_succ, i64_w, i32_w]
    rfl
  refine pure_ (i := 2) (N := some 72) (v := ?_) (a' := ?_) #[true, true, true, false, false, false, false, false, false, false, false, false, false, false, false, false, false] rfl rfl (by kernel_rfl) (fun _ _ _ h => h) (Or.inl ⟨by rfl, ?_⟩) ?_ ?_
  rotate_left
  · intro w'
    go_simp
    with_reducible rfl
  rotate_left
  · simp only [Act.put, List.setIfInBounds_toArray, List.set_cons_zero, List.set_cons_succ, i64_w, i32_w]
    rfl
  refine pure_ (i := 3) (N := some 73) (v := ?_) (a' := ?_) #[true, true, true, true, false, false, false, false, false, false, false, false, false, false, false, false, false] rfl rfl (by kernel_rfl) (fun _ _ _ h => h) (Or.inl ⟨by rfl, ?_⟩) ?_ ?_
  rotate_left
  · intro w'
    go_simp
    with_reducible rfl
  rotate_left
  · simp only [Act.put, List.setIfInBounds_toArray, List.set_cons_zero, List.set_cons_succ, i64_w, i32_w]
    rfl
  refine pure_ (i := 5) (N := some 75) (v := ?_) (a' := ?_) #[true, true, true, true, false, true, false, false, false, false, false, false, false, false, false, false, false] rfl rfl (by kernel_rfl) (fun _ _ _ h => h) (Or.inl ⟨by rfl, ?_⟩) ?_ ?_
  rotate_left
  · intro w'
    go_simp
    with_reducible rfl
  rotate_left
  · simp only [Act.put, List.setIfInBounds_toArray, List.set_cons_zero, List.set_cons_succ, i64_w, i32_w]
    rfl
  refine pure_ (i := 6) (N := some 76) (v := ?_) (a' := ?_) #[true, true, true, true, false, true, true, false, false, false, false, false, false, false, false, false, false] rfl rfl (by kernel_rfl) (fun _ _ _ h => h) (Or.inl ⟨by rfl, ?_⟩) ?_ ?_
  rotate_left
  · intro w'
    go_simp
    with_reducible rfl
  rotate_left
  · simp only [Act.put, List.setIfInBounds_toArray, List.set_cons_zero, List.set_cons_succ, i64_w, i32_w]
    rfl
  refine pure_ (i := 7) (N := some 77) (v := ?_) (a' := ?_) #[true, true, true, true, false, true, true, true, false, false, false, false, false, false, false, false, false] rfl rfl (by kernel_rfl) (fun _ _ _ h => h) (Or.inl ⟨by rfl, ?_⟩) ?_ ?_
  rotate_left
  · intro w'
    go_simp
    with_reducible rfl
  rotate_left
  · simp only [Act.put, List.setIfInBounds_toArray, List.set_cons_zero, List.set_cons_succ, i64_w, i32_w]
    rfl
  refine pure_ (i := 9) (N := some 79) (v := ?_) (a' := ?_) #[true, true, true, true, false, true, true, true, false, true, false, false, false, false, false, false, false] rfl rfl (by kernel_rfl) (fun _ _ _ h => h) (Or.inl ⟨by rfl, ?_⟩) ?_ ?_
  rotate_left
  · intro w'
    go_simp
    with_reducible rfl
  rotate_left
  · simp only [Act.put, List.setIfInBounds_toArray, List.set_cons_zero, List.set_cons_succ, i64_w, i32_w]
    rfl
  refine pure_ (i := 10) (N := some 80) (v := ?_) (a' := ?_) #[true, true, true, true, false, true, true, true, false, true, true, false, false, false, false, false, false] rfl rfl (by kernel_rfl) (fun _ _ _ h => h) (Or.inl ⟨by rfl, ?_⟩) ?_ ?_
  rotate_left
  · intro w'
    go_simp
    with_reducible rfl
  rotate_left
  · simp only [Act.put, List.setIfInBounds_toArray, List.set_cons_zero, List.set_cons_succ, i64_w, i32_w]
    rfl
  refine take_ (i := 4) (N := some 74) (v := ?_) (a' := ?_) #[true, true, true, true, true, true, true, true, false, true, true, false, false, false, false, false, false] rfl rfl (by kernel_rfl) (fun _ _ _ h => h) (Or.inl ⟨by rfl, ?_⟩) hHeld ?_ ?_
  rotate_left
  · rintro w' ⟨s0, s1⟩
    go_simp
    with_reducible rfl
  rotate_left
  · simp only [Act.put, List.setIfInBounds_toArray, List.set_cons_zero, List.set_cons_succ, i64_w, i32_w]
    rfl
  refine take_ (i := 8) (N := some 78) (v := ?_) (a' := ?_) #[true, true, true, true, true, true, true, true, true, true, true, false, false, false, false, false, false] rfl rfl (by kernel_rfl) (fun _ _ _ h => h) (Or.inl ⟨by rfl, ?_⟩) hHeld ?_ ?_
  rotate_left
  · rintro w' ⟨s0, s1⟩
    go_simp
    with_reducible rfl
  rotate_left
  · simp only [Act.put, List.setIfInBounds_toArray, List.set_cons_zero, List.set_cons_succ, i64_w, i32_w]
    rfl
  refine pure_ (i := 11) (N := some 81) (v := ?_) (a' := ?_) #[true, true, true, true, true, true, true, true, true, true, true, true, false, false, false, false, false] rfl rfl (by kernel_rfl) (fun _ _ _ h => h) (Or.inl ⟨by rfl, ?_⟩) ?_ ?_
  rotate_left
  · intro w'
    go_simp
    with_reducible rfl
  rotate_left
  · simp only [Act.put, List.setIfInBounds_toArray, List.set_cons_zero, List.set_cons_succ, i64_w, i32_w]
    rfl
  refine one_ (i := 12) (N := some 82) #[true, true, true, true, true, true, true, true, true, true, true, true, true, false, false, false, false] rfl rfl (by kernel_rfl) (by decide) (fun K hK => ?_)
  refine value_ (w1 := ?_) (v := ?_) (by rfl) rfl ?_ ?_
  rotate_left 2
  · go_simp
    constructor
    · rfl
    · rfl
  refine hK.out _ _ ⟨(((Below.refl _ _).alloc (Nat.le_refl _) _).cell HL10.out.lt).trans e4, (((Below.refl _ _).alloc (Nat.le_refl _) _).cell HL10.out.lt).trans e5⟩ (fun hHeld => ?_)
  clear hK K
  refine norm_ (a' := ?_) ?_ ?_
  rotate_left
  · show Act.put _ (some 82) _ = _
    simp only [Act.put, List.setIfInBounds_toArray, List.set_cons_zero, List.set_cons_succ, i64_w, i32_w]
    rfl
  refine last_ (i := 13) (N := some 83) #[true, true, true, true, true, true, true, true, true, true, true, true, true, true, false, false, false] rfl rfl (by kernel_rfl) (by decide) (fun K hK => ?_)
  refine Kd.R_append_step Kd.string (w0 := w0) base (by rfl) (.tmp 74) (.tmp 82) 41 9 (.string ⟨#[]⟩) 16 rfl Try.underlying41 luInfo9 rfl (by decide) (by omega) (.slice (some ad) st.list.length c4) st.list (ul ++ s.extract 0 1) [.string (ul ++ s.extract 0 1)] (fun _ => True) (fun _ => False) rfl rfl ?aP (fun _ hk => hk.elim) ?aF ?aO ?aB ?aS ?aL ?_
  (case aP => exact rfl)
  (case aB => exact HB10.out)
  (case aF => exact fun _ _ => trivial)
  (case aO => exact HL10.out.rl)
  (case aS => exact Nat.le_of_lt (Nat.lt_of_le_of_lt HL10.out.ge HL10.out.lt))
  (case aL => have := HNL.out; omega)
  intro v5 w5 hr hb5 hg hat
  obtain ⟨b5, hy5⟩ : ∃ y, st.list ++ [(ul ++ s.extract 0 1)] = y := ⟨_, rfl⟩
  rw [hy5] at hr
  have HY5 := Aside0.mk hy5
  clear hy5
  obtain ⟨A10, c10, rfl⟩ := Kd.R_slice hr
  have hl5 := HL10.out.app4 hg hr
  have hx5 := HL10.out.mid4 hg
  have HB11 := Aside0.mk (hb5.setCell (p := ⟨g, 4, none⟩) HL10.out.ge (.slice A10 b5.length c10))
  obtain ⟨f0, f1, f2, f3, f4, f5, f6, f7⟩ := uz_cells hx5
  have u4 := blk_frozen hx5 4
  have u5 := blk_frozen hx5 5
  have HL11 := Aside0.mk hl5
  clear hl5 hx5 hr hb5 hg hat
  refine hK.out _ _ ?_
  clear hK K
  refine norm_ (a' := ?_) ?_ ?_
  rotate_left
  · show Act.put _ (some 83) _ = _
    simp only [Act.put, List.setIfInBounds_toArray, List.set_cons_zero, List.set_cons_succ, i64_w, i32_w]
    rfl
  refine pure_ (i := 14) (N := some 84) (v := ?_) (a' := ?_) #[true, true, true, true, true, true, true, true, true, true, true, true, true, true, true, false, false] rfl rfl (by kernel_rfl) (fun _ _ _ h => h) (Or.inl ⟨by rfl, ?_⟩) ?_ ?_
  rotate_left
  · intro w'
    go_simp
    with_reducible rfl
  rotate_left
  · simp only [Act.put, List.setIfInBounds_toArray, List.set_cons_zero, List.set_cons_succ, i64_w, i32_w]
    rfl
  refine pure_ (i := 15) (N := some 85) (v := ?_) (a' := ?_) #[true, true, true, true, true, true, true, true, true, true, true, true, true, true, true, true, false] rfl rfl (by kernel_rfl) (fun _ _ _ h => h) (Or.inl ⟨by rfl, ?_⟩) ?_ ?_
  rotate_left
  · intro w'
    go_simp
    with_reducible rfl
  rotate_left
  · simp only [Act.put, List.setIfInBounds_toArray, List.set_cons_zero, List.set_cons_succ, i64_w, i32_w]
    rfl
  refine last_ (i := 16) (N := none) #[true, true, true, true, true, true, true, true, true, true, true, true, true, true, true, true, true] rfl rfl (by kernel_rfl) (by decide) (fun K hK => ?_)
  refine skip_ (w1 := ?_) (by rfl) rfl ?_ ?_
  rotate_left
  · go_simp
    rfl
  refine hK.out _ _ ?_
  clear hK K
  refine done_ (by kernel_rfl) ?_
  try go_wp2
  go_ret
  have hul2 : st.last = ul := HUL.out.symm
  have e1 : lzPut st n = ⟨st.pos, (st.list ++ [(ul ++ s.extract 0 1)]), s, st.out ++ s, st.codes⟩ := by unfold lzPut lzMore; rw [hs, if_pos ⟨HZ.out, by have := HNL.out; omega⟩, hul2]
  have e2 : ((st.list ++ [(ul ++ s.extract 0 1)]).length : Int) = (st.list.length : Int) + 1 := by rw [List.length_append, List.length_singleton]; omega
  rw [e1]
  refine ⟨rfl, ⟨?a1, ?a3, ?a4⟩, HB11.out.setCell HL11.out.ge _⟩
  case a4 => show US _ _ _ _ _ ((st.list ++ [(ul ++ s.extract 0 1)]).length : Int) true _ (st.list ++ [(ul ++ s.extract 0 1)]) s (st.out ++ s) _ st.codes; rw [e2, HY5.out]; exact HL11.out.at5 _
set_option maxHeartbeats 8000000 in
set_option maxRecDepth 100000 in
theorem lu_more2 {W w0 : World} {base g : Nat} {tx : ByteArray} {bits : Int} {wide : Bool} {limit : Int} {tl : Bool} {ul : ByteArray} {vl vc : Value} {st : LzSt}
    (h : US W base g bits wide st.list.length tl vl st.list ul st.out vc st.codes) (hB : Below base w0 W) (hI : LzI tx bits st) (n : Int) (h0 : 0 ≤ n) (hc : n ≠ P2 bits.toNat) (hc1 : n ≠ P2 bits.toNat + 1) (hlim : limit ≤ 65536) (hlt : n = st.list.length) (htl : tl = true) (hul : ul = st.last) (hz : ul.size ≠ 0) (hl : st.list.length < 4096) (hc3 : ¬ (st.out.size : Int) + (lzText st n).size > limit)  :
    Calls Try.prog 37 #[.pointer (some ⟨g, 0, none⟩), .int .i64 n, .int .i64 limit] W fun e w' => e = .returned (.int .i64 0) ∧ (∃ v1 v3, US w' base g bits wide (lzPut st n).list.length true v1 (lzPut st n).list (lzPut st n).last (lzPut st n).out v3 (lzPut st n).codes) ∧ Below base w0 w' := by
  have HL := Aside0.mk h
  have HB := Aside0.mk hB
  obtain ⟨A4, c4, rfl⟩ := Kd.R_slice h.rl
  obtain ⟨A7, c7, rfl⟩ := Kd.R_slice h.rc
  obtain ⟨z0, z1, z2, z3, z4, z5, z6, z7⟩ := uz_cells h.blk
  clear h hB
  have hs : lzText st n = ul ++ ul.extract 0 1 := by unfold lzText; rw [if_neg (by omega), hul]
  have hz : st.last.size ≠ 0 := by rw [← hul]; exact hz
  have hbad : ¬ lzBad st n := by unfold lzBad; omega
  have ht := hI.text h0 hc hc1 hbad
  have ho := hI.out
  have hull : ul.size ≤ 65536 := by rw [hul]; exact hI.last
  rw [hs] at ht
  have hsz : (ul ++ ul.extract 0 1).size = ul.size + min 1 ul.size := by rw [ByteArray.size_append, ByteArray.size_extract]; omega
  have q0 : ((1 : Int) ≤ (ul.size : Int)) = True := eq_true (by rw [hul]; omega)
  have q3 : (9223372036854775807 < ul.size + min 1 ul.size) = False := eq_false (by omega)
  have q1 : ((1 : Int) ≤ (ul.size : Int) + ((min 1 ul.size : Nat) : Int)) = True := eq_true (by omega)
  have HZ := Aside0.mk (show st.last.size ≠ 0 by first | exact hz | (rw [← hul]; exact hz))
  have q2 : (9223372036854775807 < ul.size + 1) = False := eq_false (by have := hI.last; rw [← hul] at this; omega)
  try (have HUL := Aside0.mk hul; clear hul)
  have d1 : decide (n < (st.list.length : Int)) = false := decide_eq_false (by omega)
  have d2 : (n == (st.list.length : Int)) = true := by rw [hlt]; exact beq_self_eq_true _
  subst htl
  rw [hs] at hc3
  have d6b : ¬ limit < wrap64 ((st.out.size : Int) + ((ul.size : Int) + ((min 1 ul.size : Nat) : Int))) := by rw [w64 (by omega)]; omega
  have q5 : (9223372036854775807 < st.out.size + (ul.size + min 1 ul.size)) = False := eq_false (by omega)
  have HNL := Aside0.mk (show 0 ≤ (st.list.length : Int) ∧ (st.list.length : Int) < 4096 by omega)
  have q2b : (9223372036854775807 < ul.size + min 1 (ul.size + min 1 ul.size)) = False := eq_false (by omega)
  go_enter Try.func37, Try.ntmps37
  go_wp2_with (first | fail)
  have HL8 := Aside0.mk HL.out.drew
  have HB8 := Aside0.mk (Below.drew HB.out)
  clear HL HB
  refine start_ (n := 11) (S := fun w' => w'.cell? ⟨g, 5, none⟩ = some (.string ul)) (ds := []) #[false, false, false, false, false, false, false, false, false, false, false] (by kernel_rfl) rfl rfl (z5) (fun hHeld => ?_)
  generalize W.drew = w8 at HL8 HB8 hHeld ⊢
  refine pure_ (i := 0) (N := some 38) (v := ?_) (a' := ?_) #[true, false, false, false, false, false, false, false, false, false, false] rfl rfl (by kernel_rfl) (fun _ _ _ h => h) (Or.inl ⟨by rfl, ?_⟩) ?_ ?_
  rotate_left
  · intro w'
    go_simp
    with_reducible rfl
  rotate_left
  · simp only [Act.put, List.setIfInBounds_toArray, List.set_cons_zero, List.set_cons_succ, i64_w, i32_w]
    rfl
  refine pure_ (i := 1) (N := some 39) (v := ?_) (a' := ?_) #[true, true, false, false, false, false, false, false, false, false, false] rfl rfl (by kernel_rfl) (fun _ _ _ h => h) (Or.inl ⟨by rfl, ?_⟩) ?_ ?_
  rotate_left
  · intro w'
    go_simp
    with_reducible rfl
  rotate_left
  · simp only [Act.put, List.setIfInBounds_toArray, List.set_cons_zero, List.set_cons_succ, i64_w, i32_w]
    rfl
  refine pure_ (i := 2) (N := some 40) (v := ?_) (a' := ?_) #[true, true, true, false, false, false, false, false, false, false, false] rfl rfl (by kernel_rfl) (fun _ _ _ h => h) (Or.inl ⟨by rfl, ?_⟩) ?_ ?_
  rotate_left
  · intro w'
    go_simp
    with_reducible rfl
  rotate_left
  · simp only [Act.put, List.setIfInBounds_toArray, List.set_cons_zero, List.set_cons_succ, i64_w, i32_w]
    rfl
  refine pure_ (i := 4) (N := some 42) (v := ?_) (a' := ?_) #[true, true, true, false, true, false, false, false, false, false, false] rfl rfl (by kernel_rfl) (fun _ _ _ h => h) (Or.inl ⟨by rfl, ?_⟩) ?_ ?_
  rotate_left
  · intro w'
    go_simp
    with_reducible rfl
  rotate_left
  · simp only [Act.put, List.setIfInBounds_toArray, List.set_cons_zero, List.set_cons_succ, i64_w, i32_w]
    rfl
  refine pure_ (i := 5) (N := some 43) (v := ?_) (a' := ?_) #[true, true, true, false, true, true, false, false, false, false, false] rfl rfl (by kernel_rfl) (fun _ _ _ h => h) (Or.inl ⟨by rfl, ?_⟩) ?_ ?_
  rotate_left
  · intro w'
    go_simp
    with_reducible rfl
  rotate_left
  · simp only [Act.put, List.setIfInBounds_toArray, List.set_cons_zero, List.set_cons_succ, i64_w, i32_w]
    rfl
  refine pure_ (i := 6) (N := some 44) (v := ?_) (a' := ?_) #[true, true, true, false, true, true, true, false, false, false, false] rfl rfl (by kernel_rfl) (fun _ _ _ h => h) (Or.inl ⟨by rfl, ?_⟩) ?_ ?_
  rotate_left
  · intro w'
    go_simp
    with_reducible rfl
  rotate_left
  · simp only [Act.put, List.setIfInBounds_toArray, List.set_cons_zero, List.set_cons_succ, i64_w, i32_w]
    rfl
  refine take_ (i := 3) (N := some 41) (v := ?_) (a' := ?_) #[true, true, true, true, true, true, true, false, false, false, false] rfl rfl (by kernel_rfl) (fun _ _ _ h => h) (Or.inl ⟨by rfl, ?_⟩) hHeld ?_ ?_
  rotate_left
  · intro w' s0
    go_simp
    with_reducible rfl
  rotate_left
  · simp only [Act.put, List.setIfInBounds_toArray, List.set_cons_zero, List.set_cons_succ, i64_w, i32_w]
    rfl
  refine take_ (i := 7) (N := some 45) (v := ?_) (a' := ?_) #[true, true, true, true, true, true, true, true, false, false, false] rfl rfl (by kernel_rfl) (fun _ _ _ h => h) (Or.inl ⟨by rfl, ?_⟩) hHeld ?_ ?_
  rotate_left
  · intro w' s0
    go_simp
    with_reducible rfl
  rotate_left
  · simp only [Act.put, List.setIfInBounds_toArray, List.set_cons_zero, List.set_cons_succ, i64_w, i32_w]
    rfl
  refine pure_ (i := 8) (N := some 46) (v := ?_) (a' := ?_) #[true, true, true, true, true, true, true, true, true, false, false] rfl rfl (by kernel_rfl) (fun _ _ _ h => h) (Or.inl ⟨by rfl, ?_⟩) ?_ ?_
  rotate_left
  · intro w'
    go_simp
    with_reducible rfl
  rotate_left
  · simp only [Act.put, List.setIfInBounds_toArray, List.set_cons_zero, List.set_cons_succ, i64_w, i32_w]
    rfl
  refine pure_ (i := 9) (N := some 47) (v := ?_) (a' := ?_) #[true, true, true, true, true, true, true, true, true, true, false] rfl rfl (by kernel_rfl) (fun _ _ _ h => h) (Or.inl ⟨by rfl, ?_⟩) ?_ ?_
  rotate_left
  · intro w'
    go_simp
    with_reducible rfl
  rotate_left
  · simp only [Act.put, List.setIfInBounds_toArray, List.set_cons_zero, List.set_cons_succ, i64_w, i32_w]
    rfl
  refine pure_ (i := 10) (N := some 7) (v := ?_) (a' := ?_) #[true, true, true, true, true, true, true, true, true, true, true] rfl rfl (by kernel_rfl) (fun _ _ _ h => h) (Or.inl ⟨by rfl, ?_⟩) ?_ ?_
  rotate_left
  · intro w'
    go_simp
    with_reducible rfl
  rotate_left
  · simp only [Act.put, List.setIfInBounds_toArray, List.set_cons_zero, List.set_cons_succ, i64_w, i32_w]
    rfl
  refine done_ (by kernel_rfl) ?_
  clear z0 z1 z2 z3 z4 z5 z6 z7
  obtain ⟨z0, z1, z2, z3, z4, z5, z6, z7⟩ := uz_cells HL8.out.blk
  have y6 := blk_frozen HL8.out.blk 6
  go_wp2_with (first | fail | (go_at_call 46; refine (lu_more (HL8.out.at6 _) (HB8.out.setCell (p := ⟨g, 6, none⟩) HL8.out.ge _) rfl HNL.out).mono ?_; rintro e w9 ⟨rfl, hl, hb9⟩; have HL9 := Aside0.mk hl; have HB9 := Aside0.mk hb9; clear z0 z1 z2 z3 z4 z5 z6 z7; obtain ⟨z0, z1, z2, z3, z4, z5, z6, z7⟩ := uz_cells hl.blk; have x5 := blk_frozen hl.blk 5; clear hl hb9 HL8 HB8))
  have HL10 := Aside0.mk HL9.out.drew
  have HB10 := Aside0.mk (Below.drew HB9.out)
  obtain ⟨e0, e1, e2, e3, e4, e5, e6, e7⟩ := uz_cells HL10.out.blk
  clear HL9 HB9 z0 z1 z2 z3 z4 z5 z6 z7
  refine start_ (n := 17) (S := fun w' => w'.cell? ⟨g, 4, none⟩ = some (.slice A4 st.list.length c4) ∧ w'.cell? ⟨g, 5, none⟩ = some (.string ul)) (ds := [13, 16]) #[false, false, false, false, false, false, false, false, false, false, false, false, false, false, false, false, false] (by kernel_rfl) rfl rfl ⟨e4, e5⟩ (fun hHeld => ?_)
  generalize w9.drew = w10 at HL10 HB10 e0 e1 e2 e3 e4 e5 e6 e7 hHeld ⊢
  refine pure_ (i := 0) (N := some 70) (v := ?_) (a' := ?_) #[true, false, false, false, false, false, false, false, false, false, false, false, false, false, false, false, false] rfl rfl (by kernel_rfl) (fun _ _ _ h => h) (Or.inl ⟨by rfl, ?_⟩) ?_ ?_
  rotate_left
  · intro w'
    go_simp
    with_reducible rfl
  rotate_left
  · simp only [Act.put, List.setIfInBounds_toArray, List.set_cons_zero, List.set_cons_succ, i64_w, i32_w]
    rfl
  refine pure_ (i := 1) (N := some 71) (v := ?_) (a' := ?_) #[true, true, false, false, false, false, false, false, false, false, false, false, false, false, false, false, false] rfl rfl (by kernel_rfl) (fun _ _ _ h => h) (Or.inl ⟨by rfl, ?_⟩) ?_ ?_
  rotate_left
  · intro w'
    go_simp
    with_reducible rfl
  rotate_left
  · simp only [Act.put, List.setIfInBounds_toArray, List.set_cons_zero, List.set_cons_succ, i64_w, i32_w]
    rfl
  refine pure_ (i := 2) (N := some 72) (v := ?_) (a' := ?_) #[true, true, true, false, false, false, false, false, false, false, false, false, false, false, false, false, false] rfl rfl (by kernel_rfl) (fun _ _ _ h => h) (Or.inl ⟨by rfl, ?_⟩) ?_ ?_
  rotate_left
  · intro w'
    go_simp
    with_reducible rfl
  rotate_left
  · simp only [Act.put, List.setIfInBounds_toArray, List.set_cons_zero, List.set_cons_succ, i64_w, i32_w]
    rfl
  refine pure_ (i := 3) (N := some 73) (v := ?_) (a' := ?_) #[true, true, true, true, false, false, false, false, false, false, false, false, false, false, false, false, false] rfl rfl (by kernel_rfl) (fun _ _ _ h => h) (Or.inl ⟨by rfl, ?_⟩) ?_ ?_
  rotate_left
  · intro w'
    go_simp
    with_reducible rfl
  rotate_left
  · simp only [Act.put, List.setIfInBounds_toArray, List.set_cons_zero, List.set_cons_succ, i64_w, i32_w]
    rfl
  refine pure_ (i := 5) (N := some 75) (v := ?_) (a' := ?_) #[true, true, true, true, false, true, false, false, false, false, false, false, false, false, false, false, false] rfl rfl (by kernel_rfl) (fun _ _ _ h => h) (Or.inl ⟨by rfl, ?_⟩) ?_ ?_
  rotate_left
  · intro w'
    go_simp
    with_reducible rfl
  rotate_left
  · simp only [Act.put, List.setIfInBounds_toArray, List.set_cons_zero, List.set_cons_succ, i64_w, i32_w]
    rfl
  refine pure_ (i := 6) (N := some 76) (v := ?_) (a' := ?_) #[true, true, true, true, false, true, true, false, false, false, false, false, false, false, false, false, false] rfl rfl (by kernel_rfl) (fun _ _ _ h => h) (Or.inl ⟨by rfl, ?_⟩) ?_ ?_
  rotate_left
  · intro w'
    go_simp
    with_reducible rfl
  rotate_left
  · simp only [Act.put, List.setIfInBounds_toArray, List.set_cons_zero, List.set_cons_succ, i64_w, i32_w]
    rfl
  refine pure_ (i := 7) (N := some 77) (v := ?_) (a' := ?_) #[true, true, true, true, false, true, true, true, false, false, false, false, false, false, false, false, false] rfl rfl (by kernel_rfl) (fun _ _ _ h => h) (Or.inl ⟨by rfl, ?_⟩) ?_ ?_
  rotate_left
  · intro w'
    go_simp
    with_reducible rfl
  rotate_left
  · simp only [Act.put, List.setIfInBounds_toArray, List.set_cons_zero, List.set_cons_succ, i64_w, i32_w]
    rfl
  refine pure_ (i := 9) (N := some 79) (v := ?_) (a' := ?_) #[true, true, true, true, false, true, true, true, false, true, false, false, false, false, false, false, false] rfl rfl (by kernel_rfl) (fun _ _ _ h => h) (Or.inl ⟨by rfl, ?_⟩) ?_ ?_
  rotate_left
  · intro w'
    go_simp
    with_reducible rfl
  rotate_left
  · simp only [Act.put, List.setIfInBounds_toArray, List.set_cons_zero, List.set_cons_succ, i64_w, i32_w]
    rfl
  refine pure_ (i := 10) (N := some 80) (v := ?_) (a' := ?_) #[true, true, true, true, false, true, true, true, false, true, true, false, false, false, false, false, false] rfl rfl (by kernel_rfl) (fun _ _ _ h => h) (Or.inl ⟨by rfl, ?_⟩) ?_ ?_
  rotate_left
  · intro w'
    go_simp
    with_reducible rfl
  rotate_left
  · simp only [Act.put, List.setIfInBounds_toArray, List.set_cons_zero, List.set_cons_succ, i64_w, i32_w]
    rfl
  refine take_ (i := 4) (N := some 74) (v := ?_) (a' := ?_) #[true, true, true, true, true, true, true, true, false, true, true, false, false, false, false, false, false] rfl rfl (by kernel_rfl) (fun _ _ _ h => h) (Or.inl ⟨by rfl, ?_⟩) hHeld ?_ ?_
  rotate_left
  · rintro w' ⟨s0, s1⟩
    go_simp
    with_reducible rfl
  rotate_left
  · simp only [Act.put, List.setIfInBounds_toArray, List.set_cons_zero, List.set_cons_succ, i64_w, i32_w]
    rfl
  refine take_ (i := 8) (N := some 78) (v := ?_) (a' := ?_) #[true, true, true, true, true, true, true, true, true, true, true, false, false, false, false, false, false] rfl rfl (by kernel_rfl) (fun _ _ _ h => h) (Or.inl ⟨by rfl, ?_⟩) hHeld ?_ ?_
  rotate_left
  · rintro w' ⟨s0, s1⟩
    go_simp
    with_reducible rfl
  rotate_left
  · simp only [Act.put, List.setIfInBounds_toArray, List.set_cons_zero, List.set_cons_succ, i64_w, i32_w]
    rfl
  refine pure_ (i := 11) (N := some 81) (v := ?_) (a' := ?_) #[true, true, true, true, true, true, true, true, true, true, true, true, false, false, false, false, false] rfl rfl (by kernel_rfl) (fun _ _ _ h => h) (Or.inl ⟨by rfl, ?_⟩) ?_ ?_
  rotate_left
  · intro w'
    go_simp
    with_reducible rfl
  rotate_left
  · simp only [Act.put, List.setIfInBounds_toArray, List.set_cons_zero, List.set_cons_succ, i64_w, i32_w]
    rfl
  refine one_ (i := 12) (N := some 82) #[true, true, true, true, true, true, true, true, true, true, true, true, true, false, false, false, false] rfl rfl (by kernel_rfl) (by decide) (fun K hK => ?_)
  refine value_ (w1 := ?_) (v := ?_) (by rfl) rfl ?_ ?_
  rotate_left 2
  · go_simp
    constructor
    · rfl
    · rfl
  refine hK.out _ _ ⟨(((Below.refl _ _).alloc (Nat.le_refl _) _).cell HL10.out.lt).trans e4, (((Below.refl _ _).alloc (Nat.le_refl _) _).cell HL10.out.lt).trans e5⟩ (fun hHeld => ?_)
  clear hK K
  refine norm_ (a' := ?_) ?_ ?_
  rotate_left
  · show Act.put _ (some 82) _ = _
    simp only [Act.put, List.setIfInBounds_toArray, List.set_cons_zero, List.set_cons_succ, i64_w, i32_w]
    rfl
  refine last_ (i := 13) (N := some 83) #[true, true, true, true, true, true, true, true, true, true, true, true, true, true, false, false, false] rfl rfl (by kernel_rfl) (by decide) (fun K hK => ?_)
  refine Kd.R_append_step Kd.string (w0 := w0) base (by rfl) (.tmp 74) (.tmp 82) 41 9 (.string ⟨#[]⟩) 16 rfl Try.underlying41 luInfo9 rfl (by decide) (by omega) (.slice A4 st.list.length c4) st.list (ul ++ (ul ++ ul.extract 0 1).extract 0 1) [.string (ul ++ (ul ++ ul.extract 0 1).extract 0 1)] (fun _ => True) (fun _ => False) rfl rfl ?aP (fun _ hk => hk.elim) ?aF ?aO ?aB ?aS ?aL ?_
  (case aP => exact rfl)
  (case aB => exact HB10.out)
  (case aF => exact fun _ _ => trivial)
  (case aO => exact HL10.out.rl)
  (case aS => exact Nat.le_of_lt (Nat.lt_of_le_of_lt HL10.out.ge HL10.out.lt))
  (case aL => have := HNL.out; omega)
  intro v5 w5 hr hb5 hg hat
  obtain ⟨b5, hy5⟩ : ∃ y, st.list ++ [(ul ++ (ul ++ ul.extract 0 1).extract 0 1)] = y := ⟨_, rfl⟩
  rw [hy5] at hr
  have HY5 := Aside0.mk hy5
  clear hy5
  obtain ⟨A10, c10, rfl⟩ := Kd.R_slice hr
  have hl5 := HL10.out.app4 hg hr
  have hx5 := HL10.out.mid4 hg
  have HB11 := Aside0.mk (hb5.setCell (p := ⟨g, 4, none⟩) HL10.out.ge (.slice A10 b5.length c10))
  obtain ⟨f0, f1, f2, f3, f4, f5, f6, f7⟩ := uz_cells hx5
  have u4 := blk_frozen hx5 4
  have u5 := blk_frozen hx5 5
  have HL11 := Aside0.mk hl5
  clear hl5 hx5 hr hb5 hg hat
  refine hK.out _ _ ?_
  clear hK K
  refine norm_ (a' := ?_) ?_ ?_
  rotate_left
  · show Act.put _ (some 83) _ = _
    simp only [Act.put, List.setIfInBounds_toArray, List.set_cons_zero, List.set_cons_succ, i64_w, i32_w]
    rfl
  refine pure_ (i := 14) (N := some 84) (v := ?_) (a' := ?_) #[true, true, true, true, true, true, true, true, true, true, true, true, true, true, true, false, false] rfl rfl (by kernel_rfl) (fun _ _ _ h => h) (Or.inl ⟨by rfl, ?_⟩) ?_ ?_
  rotate_left
  · intro w'
    go_simp
    with_reducible rfl
  rotate_left
  · simp only [Act.put, List.setIfInBounds_toArray, List.set_cons_zero, List.set_cons_succ, i64_w, i32_w]
    rfl
  refine pure_ (i := 15) (N := some 85) (v := ?_) (a' := ?_) #[true, true, true, true, true, true, true, true, true, true, true, true, true, true, true, true, false] rfl rfl (by kernel_rfl) (fun _ _ _ h => h) (Or.inl ⟨by rfl, ?_⟩) ?_ ?_
  rotate_left
  · intro w'
    go_simp
    with_reducible rfl
  rotate_left
  · simp only [Act.put, List.setIfInBounds_toArray, List.set_cons_zero, List.set_cons_succ, i64_w, i32_w]
    rfl
  refine last_ (i := 16) (N := none) #[true, true, true, true, true, true, true, true, true, true, true, true, true, true, true, true, true] rfl rfl (by kernel_rfl) (by decide) (fun K hK => ?_)
  refine skip_ (w1 := ?_) (by rfl) rfl ?_ ?_
  rotate_left
  · go_simp
    rfl
  refine hK.out _ _ ?_
  clear hK K
  refine done_ (by kernel_rfl) ?_
  try go_wp2
  go_ret
  have hul2 : st.last = ul := HUL.out.symm
  have e1 : lzPut st n = ⟨st.pos, (st.list ++ [(ul ++ (ul ++ ul.extract 0 1).extract 0 1)]), (ul ++ ul.extract 0 1), st.out ++ (ul ++ ul.extract 0 1), st.codes⟩ := by unfold lzPut lzMore; rw [hs, if_pos ⟨HZ.out, by have := HNL.out; omega⟩, hul2]
  have e2 : ((st.list ++ [(ul ++ (ul ++ ul.extract 0 1).extract 0 1)]).length : Int) = (st.list.length : Int) + 1 := by rw [List.length_append, List.length_singleton]; omega
  rw [e1]
  refine ⟨rfl, ⟨?a1, ?a3, ?a4⟩, HB11.out.setCell HL11.out.ge _⟩
  case a4 => show US _ _ _ _ _ ((st.list ++ [(ul ++ (ul ++ ul.extract 0 1).extract 0 1)]).length : Int) true _ (st.list ++ [(ul ++ (ul ++ ul.extract 0 1).extract 0 1)]) (ul ++ ul.extract 0 1) (st.out ++ (ul ++ ul.extract 0 1)) _ st.codes; rw [e2, HY5.out]; exact HL11.out.at5 _
end
section
open Go.Proofs.Ytdebckcphaocmaa.Th
theorem lzwOk_f (a : Int) (b : Bool) : impl_lzwOk.f a b = some (lzOk a b) := by
  unfold impl_lzwOk.f impl_in.f lzOk
  by_cases h : a ≥ 2
  · rw [if_pos h, Option.bind_some]
    by_cases h2 : a ≤ 8
    · rw [decide_eq_true h2, if_pos rfl, decide_eq_true (show 2 ≤ a ∧ a ≤ 8 from ⟨h, h2⟩)]
      cases b <;> simp
    · rw [decide_eq_false h2, if_neg (by simp), decide_eq_false (by omega)]; rfl
  · rw [if_neg h, Option.bind_some, if_neg (by simp), decide_eq_false (by omega)]; rfl
/-- The program's reader stands where st says. -/
def UV (W : World) (base g : Nat) (bits : Int) (wide : Bool) (st : LzSt) : Prop :=
  ∃ (tl : Bool) (ul : ByteArray) (v1 v3 : Value), US W base g bits wide st.list.length tl v1 st.list ul st.out v3 st.codes ∧ (tl = true → ul = st.last ∧ st.last.size ≠ 0) ∧ (tl = false → st.last.size = 0)
theorem lu_next {W w0 : World} {base g : Nat} {tx : ByteArray} {bits : Int} {wide : Bool} {limit : Int} {st : LzSt}
    (h : UV W base g bits wide st) (hB : Below base w0 W) (hI : LzI tx bits st) (n : Int) (h0 : 0 ≤ n) (hc : n ≠ P2 bits.toNat) (hc1 : n ≠ P2 bits.toNat + 1) (hlim : limit ≤ 65536) :
    Calls Try.prog 37 #[.pointer (some ⟨g, 0, none⟩), .int .i64 n, .int .i64 limit] W fun e w' => e = .returned (.int .i64 ((lzStep bits limit st n).2.getD 0)) ∧ UV w' base g bits wide (lzStep bits limit st n).1 ∧ Below base w0 w' := by
  obtain ⟨tl, ul, v1, v3, hu, ha, hb⟩ := h
  have same : ∀ {code : Int}, (Calls Try.prog 37 #[.pointer (some ⟨g, 0, none⟩), .int .i64 n, .int .i64 limit] W fun e w' => e = .returned (.int .i64 code) ∧ (∃ v1 v3, US w' base g bits wide st.list.length tl v1 st.list ul st.out v3 st.codes) ∧ Below base w0 w') → Calls Try.prog 37 #[.pointer (some ⟨g, 0, none⟩), .int .i64 n, .int .i64 limit] W fun e w' => e = .returned (.int .i64 code) ∧ UV w' base g bits wide st ∧ Below base w0 w' :=
    fun hx => hx.mono (fun e w' ⟨he, ⟨v1, v3, hl⟩, hb1⟩ => ⟨he, ⟨tl, ul, v1, v3, hl, ha, hb⟩, hb1⟩)
  unfold lzStep
  rw [if_neg hc, if_neg hc1]
  by_cases c3 : lzBad st n
  · rw [if_pos c3]
    rcases c3 with c3 | ⟨c3, c4⟩
    · exact same (lu_bad1 hu hB hI n h0 hc hc1 hlim c3)
    · refine same (lu_bad2 hu hB hI n h0 hc hc1 hlim c3 ?_)
      cases tl with
      | false => rfl
      | true => exact absurd c4 (ha rfl).2
  · rw [if_neg c3]
    have c3' : n ≤ st.list.length ∧ (n = st.list.length → st.last.size ≠ 0) := by
      unfold lzBad at c3; exact ⟨by omega, fun a b => c3 (Or.inr ⟨a, b⟩)⟩
    have ht := hI.text h0 hc hc1 c3
    have ptr : ∀ {code : Int}, (Calls Try.prog 37 #[.pointer (some ⟨g, 0, none⟩), .int .i64 n, .int .i64 limit] W fun e w' => e = .returned (.int .i64 code) ∧ (∃ v1 v3, US w' base g bits wide (lzPut st n).list.length true v1 (lzPut st n).list (lzPut st n).last (lzPut st n).out v3 (lzPut st n).codes) ∧ Below base w0 w') → Calls Try.prog 37 #[.pointer (some ⟨g, 0, none⟩), .int .i64 n, .int .i64 limit] W fun e w' => e = .returned (.int .i64 code) ∧ UV w' base g bits wide (lzPut st n) ∧ Below base w0 w' :=
      fun hx => hx.mono (fun e w' ⟨he, ⟨v1, v3, hl⟩, hb1⟩ => ⟨he, ⟨true, _, v1, v3, hl, fun _ => ⟨rfl, by show (lzText st n).size ≠ 0; omega⟩, fun hx => absurd hx (by decide)⟩, hb1⟩)
    have htl : st.last.size ≠ 0 → tl = true := by
      intro hz
      cases tl with
      | true => rfl
      | false => exact absurd (hb rfl) hz
    by_cases c4 : (st.out.size : Int) + (lzText st n).size > limit
    · rw [if_pos c4]
      by_cases c5 : n < st.list.length
      · exact same (lu_long1 hu hB hI n h0 hc hc1 hlim c5 c4)
      · have hz := c3'.2 (by omega)
        have hul := (ha (htl hz)).1
        exact same (lu_long2 hu hB hI n h0 hc hc1 hlim (by omega) (htl hz) hul (by rw [hul]; exact hz) c4)
    · rw [if_neg c4]
      by_cases c5 : n < st.list.length
      · by_cases c6 : st.last.size = 0
        · refine ptr (lu_new hu hB hI n h0 hc hc1 hlim c5 ?_ c6 c4)
          cases tl with
          | false => rfl
          | true => exact absurd c6 (ha rfl).2
        · have hul := (ha (htl c6)).1
          by_cases c7 : st.list.length < 4096
          · exact ptr (lu_more1 hu hB hI n h0 hc hc1 hlim c5 (htl c6) hul (by rw [hul]; exact c6) c7 c4)
          · exact ptr (lu_full1 hu hB hI n h0 hc hc1 hlim c5 (htl c6) hul (by rw [hul]; exact c6) c7 c4)
      · have hz := c3'.2 (by omega)
        have hul := (ha (htl hz)).1
        by_cases c7 : st.list.length < 4096
        · exact ptr (lu_more2 hu hB hI n h0 hc hc1 hlim (by omega) (htl hz) hul (by rw [hul]; exact hz) c7 c4)
        · exact ptr (lu_full2 hu hB hI n h0 hc hc1 hlim (by omega) (htl hz) hul (by rw [hul]; exact hz) c7 c4)
theorem lu_resetV {W w0 : World} {base g : Nat} {bits : Int} {wide : Bool} {st : LzSt}
    (h : UV W base g bits wide st) (hB : Below base w0 W) (hb : 2 ≤ bits ∧ bits ≤ 8) :
    Calls Try.prog 34 #[.pointer (some ⟨g, 0, none⟩)] W fun e w' => e = .returned (.tuple #[]) ∧ UV w' base g bits wide (lzClear bits st) ∧ Below base w0 w' := by
  obtain ⟨tl, ul, v1, v3, hu, ha, hb2⟩ := h
  refine (lu_reset hu hB hb).mono (fun e w' ⟨he, ⟨v1, hl⟩, hb1⟩ => ⟨he, ⟨false, ul, v1, v3, ?_, fun hx => absurd hx (by decide), fun _ => rfl⟩, hb1⟩)
  show US w' base g bits wide ((lzStart bits).length : Int) false v1 (lzStart bits) ul st.out v3 st.codes
  rw [lzStart_length]
  exact hl
theorem lzStep_code (bits limit : Int) (st : LzSt) (n : Int) (h1 : n ≠ P2 bits.toNat) (h2 : n ≠ P2 bits.toNat + 1) : (lzStep bits limit st n).2 = none ∨ ∃ c, (lzStep bits limit st n).2 = some c ∧ c ≠ 0 := by
  unfold lzStep
  rw [if_neg h1, if_neg h2]
  split
  · exact Or.inr ⟨1, rfl, by decide⟩
  · split
    · exact Or.inr ⟨3, rfl, by decide⟩
    · exact Or.inl rfl
theorem luInfo3 : (Try.prog.info? 3).map (fun i => (i.zero, i.size, i.bytes)) = some (some (.int .i64 0), 1, 8) := by kernel_rfl
set_option maxHeartbeats 8000000 in
set_option maxRecDepth 100000 in
theorem lu_all (k : Nat) (w : World) (tx : ByteArray) (bits : Int) (wide : Bool) (limit : Int) (hok : lzOk bits wide = true) (hs : tx.size ≤ 9000) (hlim : 0 ≤ limit ∧ limit ≤ 5000)
    (hg : ∀ a n : Int, 0 ≤ a → a ≤ 8 * (tx.size : Int) → 0 ≤ n → n ≤ 12 → impl_BitsGet.f k tx a n wide = some (if a + n ≤ 8 * (tx.size : Int) then (bitsM tx a wide n.toNat, true) else (0, false))) :
    Calls Try.prog 22 #[.string tx, .int .i64 bits, .bool wide, .int .i64 limit] w fun e w' => ∃ g, e = .returned (.tuple #[.pointer (some ⟨g, 0, none⟩), .int .i64 (lzAll tx bits wide limit).2]) ∧ UV w' w.heap.size g bits wide (lzAll tx bits wide limit).1 ∧ Below w.heap.size w w' := by
  have HG := Aside0.mk hg
  have hr := lzOk_b hok
  have HR := Aside0.mk hr
  have hlz : impl_lzwOk.f bits wide = some true := by rw [lzwOk_f, hok]
  have HOK := Aside0.mk hlz
  have hin : impl_in.f limit 0 5000 = some true := by unfold impl_in.f; rw [if_pos hlim.1, decide_eq_true hlim.2]
  have HIN := Aside0.mk hin
  have HLIM := Aside0.mk hlim
  have d1 : decide ((tx.size : Int) > 9000) = false := decide_eq_false (by omega)
  clear hg hlz hin hok hr
  obtain ⟨fin, hfin⟩ : ∃ f, lzAll tx bits wide limit = f := ⟨_, rfl⟩
  rw [hfin]
  have HF := Aside0.mk hfin
  clear hfin
  have HU0 := Aside0.mk (fun m : Nat => US.drewN (W := w.alloc (Obj.cells #[.int .i64 bits, .bool wide, .int .i64 0, .bool false, .slice none 0 0, .string ⟨#[]⟩, .string ⟨#[]⟩, .slice none 0 0] 50)) (base := w.heap.size) (g := w.heap.size) (bits := bits) (wide := wide) (many := 0) (tlast := false) (vl := .slice none 0 0) (list := []) (last := ⟨#[]⟩) (out := ⟨#[]⟩) (vc := .slice none 0 0) (codes := []) ⟨blk_new _ _, Nat.le_refl _, Kd.R_nil _ _ _ _ _, Kd.R_nil _ _ _ _ _⟩ m)
  have HB0 := Aside0.mk (fun m : Nat => pw_below_drewN (below_alloc (Below.refl w.heap.size w) (Obj.cells #[.int .i64 bits, .bool wide, .int .i64 0, .bool false, .slice none 0 0, .string ⟨#[]⟩, .string ⟨#[]⟩, .slice none 0 0] 50)) m)
  go_enter Try.func22, Try.ntmps22
  go_wp2_with (first | (go_at_call 32; refine (impl_lzwOk.calls bits wide _ _ HOK.out).mono ?_; rintro e w' ⟨rfl, hd⟩; obtain ⟨⟨m, rfl⟩⟩ := hd) | (go_at_call 33; refine (impl_in.calls limit 0 5000 _ _ HIN.out).mono ?_; rintro e w' ⟨rfl, hd⟩; obtain ⟨⟨m2, rfl⟩⟩ := hd) | (go_at_call 34; refine (lu_reset (HU0.out _) (HB0.out _) HR.out).mono ?_; rintro e w1 ⟨rfl, ⟨v1, hl⟩, hb⟩; have HV := Aside0.mk (show UV w1 w.heap.size w.heap.size bits wide (lzInit bits) from ⟨false, _, v1, _, (by rw [← lzStart_length] at hl; exact hl), fun hx => absurd hx (by decide), fun _ => rfl⟩); have HB := Aside0.mk hb; clear hl hb HU0 HB0))
  go_loopg [11] (8 * tx.size + 1) (fun kq v11 wr => ∃ (st : LzSt), v11 = .int .i64 st.pos ∧ Aside0 (UV wr w.heap.size w.heap.size bits wide st) ∧ Aside0 (LzI tx bits st) ∧ Aside0 (lzRun tx bits wide limit kq st = fin) ∧ Aside0 (8 * (tx.size : Int) + 1 ≤ (kq : Int) + st.pos) ∧ Aside0 (Below w.heap.size w wr))
  case atStart => exact ⟨lzInit bits, rfl, HV, ⟨LzI.init tx HR.out⟩, HF, ⟨by show _ ≤ _ + (0 : Int); omega⟩, HB⟩
  case round =>
    clear HV HB HF
    obtain ⟨st, rfl, HL, HI, HRUN, HK, HB⟩ := hrel
    cases gk with
    | zero => exact absurd HK.out (by have := HI.out.pos; omega)
    | succ k1 =>
      have hlen := HI.out.len
      have hwd := lzWid_b HR.out st.list.length wide
      have hpos := HI.out.pos
      obtain ⟨tl, ul, v1, v3, hu, ha, hb⟩ := HL.out
      have HA := Aside0.mk (And.intro ha hb)
      have HS := Aside0.mk (lu_size hu HB.out HR.out ⟨by omega, by omega⟩)
      have hg := HG.out st.pos (lzWid st.list.length bits wide) hpos.1 hpos.2 (by omega) (by omega)
      clear hu ha hb
      by_cases hc : st.pos + lzWid st.list.length bits wide > 8 * (tx.size : Int)
      · rw [if_neg (by omega)] at hg
        have HGG := Aside0.mk hg
        have hf : (st, (2 : Int)) = fin := (lzRun_short hc).symm.trans HRUN.out
        subst hf
        clear hg HRUN HL
        go_wp2_with (first | (go_at_call 35; refine (HS.out).mono ?_; rintro e w2 ⟨rfl, hl, hb⟩; have HL1 := Aside0.mk hl; have HB1 := Aside0.mk hb; clear hl hb HS HB) | (go_at_call 36; refine (impl_BitsGet.calls k tx st.pos (lzWid st.list.length bits wide) wide _ _ _ HGG.out).mono ?_; rintro e w' ⟨rfl, hd⟩; obtain ⟨⟨m3, rfl⟩⟩ := hd; have HL2 := Aside0.mk (HL1.out.drewN m3); have HB2 := Aside0.mk (pw_below_drewN HB1.out m3); obtain ⟨A4, c4, rfl⟩ := Kd.R_slice HL2.out.rl; obtain ⟨A7, c7, rfl⟩ := Kd.R_slice HL2.out.rc; obtain ⟨z0, z1, z2, z3, z4, z5, z6, z7⟩ := uz_cells HL2.out.blk; have y7 := blk_frozen HL2.out.blk 7; clear HL1 HB1))
        go_ret2
        exact ⟨_, rfl, ⟨tl, ul, _, _, HL2.out, HA.out⟩, HB2.out⟩
      · rw [if_pos (by omega)] at hg
        change impl_BitsGet.f k tx st.pos (lzWid st.list.length bits wide) wide = some (lzNum tx bits wide st, true) at hg
        obtain ⟨n, HN⟩ : ∃ n, Aside0 (lzNum tx bits wide st = n) := ⟨_, ⟨rfl⟩⟩
        obtain ⟨p, HP⟩ : ∃ p, Aside0 (P2 bits.toNat = p) := ⟨_, ⟨rfl⟩⟩
        rw [HN.out] at hg
        have HGG := Aside0.mk hg
        have h0 := lzNum_b tx bits wide st
        have HH0 := Aside0.mk h0
        have HIA := Aside0.mk (HI.out.adv (wide := wide) hc)
        have HCL := Aside0.mk (show (st.codes.length + 1) * 8 ≤ 140737488355328 by have := HI.out.codes; omega)
        have hP := P2_bits HR.out
        have wa : IntKind.i64.wrap (st.pos + lzWid st.list.length bits wide) = st.pos + lzWid st.list.length bits wide := by rw [i64_w', w64 (by omega)]
        have wb : wrap64 (st.pos + lzWid st.list.length bits wide) = st.pos + lzWid st.list.length bits wide := by rw [w64 (by omega)]
        have wp1 : wrap64 (2 ^ bits.toNat) = p := by rw [← HP.out, P2_cast, w64 (by omega)]
        have wp2 : wrap64 (p + 1) = p + 1 := by rw [← HP.out, w64 (by omega)]
        have hC := HI.out.rng
        clear hg HL
        by_cases c1 : lzNum tx bits wide st = P2 bits.toNat
        · have d2 : (n == p) = true := by rw [← HN.out, c1, HP.out]; exact beq_self_eq_true _
          have HC1 := Aside0.mk c1
          clear c1
          go_wp2_with (first | (go_at_call 35; refine (HS.out).mono ?_; rintro e w2 ⟨rfl, hl, hb⟩; have HL1 := Aside0.mk hl; have HB1 := Aside0.mk hb; clear hl hb HS HB) | (go_at_call 36; refine (impl_BitsGet.calls k tx st.pos (lzWid st.list.length bits wide) wide _ _ _ HGG.out).mono ?_; rintro e w' ⟨rfl, hd⟩; obtain ⟨⟨m3, rfl⟩⟩ := hd; have HL2 := Aside0.mk (HL1.out.drewN m3); have HB2 := Aside0.mk (pw_below_drewN HB1.out m3); obtain ⟨A4, c4, rfl⟩ := Kd.R_slice HL2.out.rl; obtain ⟨A7, c7, rfl⟩ := Kd.R_slice HL2.out.rc; obtain ⟨z0, z1, z2, z3, z4, z5, z6, z7⟩ := uz_cells HL2.out.blk; have y7 := blk_frozen HL2.out.blk 7; clear HL1 HB1) | ((with_reducible refine gate_builtin (b := .append) (xs := #[.tmp 60, .tmp 62]) rfl ?_); at_builtin; refine Kd.R_append (Kd.int .i64) (w0 := w) w.heap.size rfl (.tmp 60) (.tmp 62) 29 3 (.int .i64 0) 8 rfl Try.underlying29 luInfo3 rfl (by decide) (by omega) (.slice A7 st.codes.length c7) st.codes n [.int .i64 n] (fun _ => True) (fun _ => False) rfl rfl ?aP (fun _ hk => hk.elim) ?aF ?aO ?aB ?aS ?aL ?_; (case aP => exact rfl); (case aB => exact HB2.out); (case aF => exact (fun _ _ => trivial)); (case aO => exact HL2.out.rc); (case aS => exact HB2.out.size); (case aL => exact HCL.out); intro v8 w8 hr hb hg hat; obtain ⟨b8, hy8⟩ : ∃ y, st.codes ++ [n] = y := ⟨_, rfl⟩; rw [hy8] at hr; obtain ⟨A9, c9, rfl⟩ := Kd.R_slice hr; have hl8 := HL2.out.app7 hg hr; have hb8 := HL2.out.mid7 hg; have HB8 := Aside0.mk (hb.setCell (p := ⟨w.heap.size, 7, none⟩) HL2.out.ge (.slice A9 b8.length c9)); have HV8 := Aside0.mk (show UV _ w.heap.size w.heap.size bits wide (lzAdv tx bits wide st) from ⟨tl, ul, .slice A4 st.list.length c4, .slice A9 b8.length c9, (by show US _ _ _ _ _ _ _ _ _ _ _ _ (st.codes ++ [lzNum tx bits wide st]); rw [HN.out, hy8]; exact hl8), HA.out⟩); obtain ⟨e0, e1, e2, e3, e4, e5, e6, e7⟩ := uz_cells hb8; have x7 := blk_frozen hb8 7; clear hl8 hb8 hr hb hg hat hy8 z0 z1 z2 z3 z4 z5 z6 z7 y7 HL2 HB2) | (go_at_call 34; refine (lu_resetV HV8.out HB8.out HR.out).mono ?_; rintro e w9 ⟨rfl, hl, hb⟩; have HL9 := Aside0.mk hl; have HB9 := Aside0.mk hb; clear hl hb HV8 HB8))
          go_roundg k1
          case measure => omega
          case rel =>
            have hs2 : lzStep bits limit (lzAdv tx bits wide st) (lzNum tx bits wide st) = (lzClear bits (lzAdv tx bits wide st), none) := by unfold lzStep; rw [if_pos HC1.out]
            have hr := lzRun_go (limit := limit) (r := k1) (Int.not_lt.2 hc) (by rw [hs2])
            rw [hs2] at hr
            exact ⟨lzClear bits (lzAdv tx bits wide st), rfl, HL9, ⟨HIA.out.clear⟩, ⟨hr.symm.trans HRUN.out⟩, ⟨by show _ ≤ _ + (st.pos + lzWid st.list.length bits wide); have := HK.out; omega⟩, HB9⟩
        · have d2 : (n == p) = false := beq_eq_false_iff_ne.2 (by rw [← HN.out, ← HP.out]; exact c1)
          have HC1 := Aside0.mk c1
          clear c1
          by_cases c2 : lzNum tx bits wide st = P2 bits.toNat + 1
          · have d3 : (n == p + 1) = true := by rw [← HN.out, c2, HP.out]; exact beq_self_eq_true _
            have hs2 : lzStep bits limit (lzAdv tx bits wide st) (lzNum tx bits wide st) = (lzAdv tx bits wide st, some 0) := by unfold lzStep; rw [if_neg HC1.out, if_pos c2]
            clear c2
            have hr := (lzRun_end (limit := limit) (r := k1) (c := 0) hc (by rw [hs2])).symm.trans HRUN.out
            rw [hs2] at hr
            have HFIN := Aside0.mk hr
            clear hs2 HRUN hr
            go_wp2_with (first | (go_at_call 35; refine (HS.out).mono ?_; rintro e w2 ⟨rfl, hl, hb⟩; have HL1 := Aside0.mk hl; have HB1 := Aside0.mk hb; clear hl hb HS HB) | (go_at_call 36; refine (impl_BitsGet.calls k tx st.pos (lzWid st.list.length bits wide) wide _ _ _ HGG.out).mono ?_; rintro e w' ⟨rfl, hd⟩; obtain ⟨⟨m3, rfl⟩⟩ := hd; have HL2 := Aside0.mk (HL1.out.drewN m3); have HB2 := Aside0.mk (pw_below_drewN HB1.out m3); obtain ⟨A4, c4, rfl⟩ := Kd.R_slice HL2.out.rl; obtain ⟨A7, c7, rfl⟩ := Kd.R_slice HL2.out.rc; obtain ⟨z0, z1, z2, z3, z4, z5, z6, z7⟩ := uz_cells HL2.out.blk; have y7 := blk_frozen HL2.out.blk 7; clear HL1 HB1) | ((with_reducible refine gate_builtin (b := .append) (xs := #[.tmp 60, .tmp 62]) rfl ?_); at_builtin; refine Kd.R_append (Kd.int .i64) (w0 := w) w.heap.size rfl (.tmp 60) (.tmp 62) 29 3 (.int .i64 0) 8 rfl Try.underlying29 luInfo3 rfl (by decide) (by omega) (.slice A7 st.codes.length c7) st.codes n [.int .i64 n] (fun _ => True) (fun _ => False) rfl rfl ?aP (fun _ hk => hk.elim) ?aF ?aO ?aB ?aS ?aL ?_; (case aP => exact rfl); (case aB => exact HB2.out); (case aF => exact (fun _ _ => trivial)); (case aO => exact HL2.out.rc); (case aS => exact HB2.out.size); (case aL => exact HCL.out); intro v8 w8 hr hb hg hat; obtain ⟨b8, hy8⟩ : ∃ y, st.codes ++ [n] = y := ⟨_, rfl⟩; rw [hy8] at hr; obtain ⟨A9, c9, rfl⟩ := Kd.R_slice hr; have hl8 := HL2.out.app7 hg hr; have hb8 := HL2.out.mid7 hg; have HB8 := Aside0.mk (hb.setCell (p := ⟨w.heap.size, 7, none⟩) HL2.out.ge (.slice A9 b8.length c9)); have HV8 := Aside0.mk (show UV _ w.heap.size w.heap.size bits wide (lzAdv tx bits wide st) from ⟨tl, ul, .slice A4 st.list.length c4, .slice A9 b8.length c9, (by show US _ _ _ _ _ _ _ _ _ _ _ _ (st.codes ++ [lzNum tx bits wide st]); rw [HN.out, hy8]; exact hl8), HA.out⟩); obtain ⟨e0, e1, e2, e3, e4, e5, e6, e7⟩ := uz_cells hb8; have x7 := blk_frozen hb8 7; clear hl8 hb8 hr hb hg hat hy8 z0 z1 z2 z3 z4 z5 z6 z7 y7 HL2 HB2))
            go_ret2
            rw [← HFIN.out]
            exact ⟨_, rfl, HV8.out, HB8.out⟩
          · have d3 : (n == p + 1) = false := beq_eq_false_iff_ne.2 (by rw [← HN.out, ← HP.out]; exact c2)
            have HC2 := Aside0.mk c2
            clear c2
            have hnx := fun (W : World) (hV : UV W w.heap.size w.heap.size bits wide (lzAdv tx bits wide st)) (hB : Below w.heap.size w W) => lu_next hV hB HIA.out (lzNum tx bits wide st) HH0.out HC1.out HC2.out (show limit ≤ 65536 by have := HLIM.out; omega)
            rw [HN.out] at hnx
            have HNX := Aside0.mk hnx
            clear hnx
            rcases lzStep_code bits limit (lzAdv tx bits wide st) (lzNum tx bits wide st) HC1.out HC2.out with hs2 | ⟨cd, hs2, hcd⟩
            · have hr := lzRun_go (limit := limit) (r := k1) hc hs2
              have HRR := Aside0.mk (hr.symm.trans HRUN.out)
              have HS2 := Aside0.mk hs2
              clear hr hs2
              go_wp2_with (first | (go_at_call 35; refine (HS.out).mono ?_; rintro e w2 ⟨rfl, hl, hb⟩; have HL1 := Aside0.mk hl; have HB1 := Aside0.mk hb; clear hl hb HS HB) | (go_at_call 36; refine (impl_BitsGet.calls k tx st.pos (lzWid st.list.length bits wide) wide _ _ _ HGG.out).mono ?_; rintro e w' ⟨rfl, hd⟩; obtain ⟨⟨m3, rfl⟩⟩ := hd; have HL2 := Aside0.mk (HL1.out.drewN m3); have HB2 := Aside0.mk (pw_below_drewN HB1.out m3); obtain ⟨A4, c4, rfl⟩ := Kd.R_slice HL2.out.rl; obtain ⟨A7, c7, rfl⟩ := Kd.R_slice HL2.out.rc; obtain ⟨z0, z1, z2, z3, z4, z5, z6, z7⟩ := uz_cells HL2.out.blk; have y7 := blk_frozen HL2.out.blk 7; clear HL1 HB1) | ((with_reducible refine gate_builtin (b := .append) (xs := #[.tmp 60, .tmp 62]) rfl ?_); at_builtin; refine Kd.R_append (Kd.int .i64) (w0 := w) w.heap.size rfl (.tmp 60) (.tmp 62) 29 3 (.int .i64 0) 8 rfl Try.underlying29 luInfo3 rfl (by decide) (by omega) (.slice A7 st.codes.length c7) st.codes n [.int .i64 n] (fun _ => True) (fun _ => False) rfl rfl ?aP (fun _ hk => hk.elim) ?aF ?aO ?aB ?aS ?aL ?_; (case aP => exact rfl); (case aB => exact HB2.out); (case aF => exact (fun _ _ => trivial)); (case aO => exact HL2.out.rc); (case aS => exact HB2.out.size); (case aL => exact HCL.out); intro v8 w8 hr hb hg hat; obtain ⟨b8, hy8⟩ : ∃ y, st.codes ++ [n] = y := ⟨_, rfl⟩; rw [hy8] at hr; obtain ⟨A9, c9, rfl⟩ := Kd.R_slice hr; have hl8 := HL2.out.app7 hg hr; have hb8 := HL2.out.mid7 hg; have HB8 := Aside0.mk (hb.setCell (p := ⟨w.heap.size, 7, none⟩) HL2.out.ge (.slice A9 b8.length c9)); have HV8 := Aside0.mk (show UV _ w.heap.size w.heap.size bits wide (lzAdv tx bits wide st) from ⟨tl, ul, .slice A4 st.list.length c4, .slice A9 b8.length c9, (by show US _ _ _ _ _ _ _ _ _ _ _ _ (st.codes ++ [lzNum tx bits wide st]); rw [HN.out, hy8]; exact hl8), HA.out⟩); obtain ⟨e0, e1, e2, e3, e4, e5, e6, e7⟩ := uz_cells hb8; have x7 := blk_frozen hb8 7; clear hl8 hb8 hr hb hg hat hy8 z0 z1 z2 z3 z4 z5 z6 z7 y7 HL2 HB2) | (go_at_call 37; refine (HNX.out _ HV8.out HB8.out).mono ?_; rintro e w9 ⟨rfl, hl, hb⟩; rw [← HN.out, HS2.out]; rw [← HN.out] at hl; have HL9 := Aside0.mk hl; have HB9 := Aside0.mk hb; clear hl hb HV8 HB8))
              go_roundg k1
              case measure => omega
              case rel =>
                have hp2 : (lzStep bits limit (lzAdv tx bits wide st) (lzNum tx bits wide st)).1.pos = st.pos + lzWid st.list.length bits wide := lzStep_pos _ _ _ _
                exact ⟨_, by rw [hp2], HL9, ⟨HIA.out.step HH0.out (by have := HLIM.out; omega)⟩, HRR, ⟨by rw [hp2]; have := HK.out; omega⟩, HB9⟩
            · have hr := (lzRun_end (limit := limit) (r := k1) hc hs2).symm.trans HRUN.out
              have HFIN := Aside0.mk hr
              have HS2 := Aside0.mk hs2
              have d4 : (cd != 0) = true := by rw [bne_iff_ne]; exact hcd
              have d5 : (cd == 0) = false := beq_eq_false_iff_ne.2 hcd
              clear hs2 HRUN hcd hr
              go_wp2_with (first | (go_at_call 35; refine (HS.out).mono ?_; rintro e w2 ⟨rfl, hl, hb⟩; have HL1 := Aside0.mk hl; have HB1 := Aside0.mk hb; clear hl hb HS HB) | (go_at_call 36; refine (impl_BitsGet.calls k tx st.pos (lzWid st.list.length bits wide) wide _ _ _ HGG.out).mono ?_; rintro e w' ⟨rfl, hd⟩; obtain ⟨⟨m3, rfl⟩⟩ := hd; have HL2 := Aside0.mk (HL1.out.drewN m3); have HB2 := Aside0.mk (pw_below_drewN HB1.out m3); obtain ⟨A4, c4, rfl⟩ := Kd.R_slice HL2.out.rl; obtain ⟨A7, c7, rfl⟩ := Kd.R_slice HL2.out.rc; obtain ⟨z0, z1, z2, z3, z4, z5, z6, z7⟩ := uz_cells HL2.out.blk; have y7 := blk_frozen HL2.out.blk 7; clear HL1 HB1) | ((with_reducible refine gate_builtin (b := .append) (xs := #[.tmp 60, .tmp 62]) rfl ?_); at_builtin; refine Kd.R_append (Kd.int .i64) (w0 := w) w.heap.size rfl (.tmp 60) (.tmp 62) 29 3 (.int .i64 0) 8 rfl Try.underlying29 luInfo3 rfl (by decide) (by omega) (.slice A7 st.codes.length c7) st.codes n [.int .i64 n] (fun _ => True) (fun _ => False) rfl rfl ?aP (fun _ hk => hk.elim) ?aF ?aO ?aB ?aS ?aL ?_; (case aP => exact rfl); (case aB => exact HB2.out); (case aF => exact (fun _ _ => trivial)); (case aO => exact HL2.out.rc); (case aS => exact HB2.out.size); (case aL => exact HCL.out); intro v8 w8 hr hb hg hat; obtain ⟨b8, hy8⟩ : ∃ y, st.codes ++ [n] = y := ⟨_, rfl⟩; rw [hy8] at hr; obtain ⟨A9, c9, rfl⟩ := Kd.R_slice hr; have hl8 := HL2.out.app7 hg hr; have hb8 := HL2.out.mid7 hg; have HB8 := Aside0.mk (hb.setCell (p := ⟨w.heap.size, 7, none⟩) HL2.out.ge (.slice A9 b8.length c9)); have HV8 := Aside0.mk (show UV _ w.heap.size w.heap.size bits wide (lzAdv tx bits wide st) from ⟨tl, ul, .slice A4 st.list.length c4, .slice A9 b8.length c9, (by show US _ _ _ _ _ _ _ _ _ _ _ _ (st.codes ++ [lzNum tx bits wide st]); rw [HN.out, hy8]; exact hl8), HA.out⟩); obtain ⟨e0, e1, e2, e3, e4, e5, e6, e7⟩ := uz_cells hb8; have x7 := blk_frozen hb8 7; clear hl8 hb8 hr hb hg hat hy8 z0 z1 z2 z3 z4 z5 z6 z7 y7 HL2 HB2) | (go_at_call 37; refine (HNX.out _ HV8.out HB8.out).mono ?_; rintro e w9 ⟨rfl, hl, hb⟩; rw [← HN.out, HS2.out]; rw [← HN.out] at hl; have HL9 := Aside0.mk hl; have HB9 := Aside0.mk hb; clear hl hb HV8 HB8))
              go_ret2
              rw [← HFIN.out]
              exact ⟨_, rfl, HL9.out, HB9.out⟩
end
section
open Go.Proofs.Ytdebckcphaocmaa.Th
set_option maxHeartbeats 8000000 in
set_option maxRecDepth 100000 in
/-- What can't be read at all: a code, and nothing else. -/
theorem lu_bad (w : World) (tx : ByteArray) (bits : Int) (wide : Bool) (limit : Int) (hbad : ¬ (lzOk bits wide = true ∧ tx.size ≤ 9000 ∧ 0 ≤ limit ∧ limit ≤ 5000)) :
    Calls Try.prog 22 #[.string tx, .int .i64 bits, .bool wide, .int .i64 limit] w fun e w' => ∃ g, e = .returned (.tuple #[.pointer (some ⟨g, 0, none⟩), .int .i64 1]) ∧ Below w.heap.size w w' := by
  have HB0 := Aside0.mk (fun m : Nat => pw_below_drewN (below_alloc (Below.refl w.heap.size w) (Obj.cells #[.int .i64 bits, .bool wide, .int .i64 0, .bool false, .slice none 0 0, .string ⟨#[]⟩, .string ⟨#[]⟩, .slice none 0 0] 50)) m)
  by_cases h1 : lzOk bits wide = true
  · have hlz : impl_lzwOk.f bits wide = some true := by rw [lzwOk_f, h1]
    have HOK := Aside0.mk hlz
    clear hlz
    by_cases h2 : tx.size ≤ 9000
    · have h3 : ¬ (0 ≤ limit ∧ limit ≤ 5000) := fun h => hbad ⟨h1, h2, h.1, h.2⟩
      have d1 : decide ((tx.size : Int) > 9000) = false := decide_eq_false (by omega)
      have hin : impl_in.f limit 0 5000 = some false := by
        unfold impl_in.f
        by_cases c : limit ≥ 0
        · rw [if_pos c, decide_eq_false (by omega)]
        · rw [if_neg c]
      have HIN := Aside0.mk hin
      clear hin hbad h3 h1
      go_enter Try.func22, Try.ntmps22
      go_wp2_with (first | (go_at_call 32; refine (impl_lzwOk.calls bits wide _ _ HOK.out).mono ?_; rintro e w' ⟨rfl, hd⟩; obtain ⟨⟨m, rfl⟩⟩ := hd) | (go_at_call 33; refine (impl_in.calls limit 0 5000 _ _ HIN.out).mono ?_; rintro e w' ⟨rfl, hd⟩; obtain ⟨⟨m2, rfl⟩⟩ := hd))
      go_ret2
      exact ⟨_, rfl, by first | exact HB0.out _ | exact pw_below_drewN (HB0.out _) _⟩
    · have d1 : decide ((tx.size : Int) > 9000) = true := decide_eq_true (by omega)
      clear hbad h1 h2
      go_enter Try.func22, Try.ntmps22
      go_wp2_with (first | (go_at_call 32; refine (impl_lzwOk.calls bits wide _ _ HOK.out).mono ?_; rintro e w' ⟨rfl, hd⟩; obtain ⟨⟨m, rfl⟩⟩ := hd))
      go_ret2
      exact ⟨_, rfl, HB0.out _⟩
  · have h1' : lzOk bits wide = false := by simpa using h1
    have hlz : impl_lzwOk.f bits wide = some false := by rw [lzwOk_f, h1']
    have HOK := Aside0.mk hlz
    clear hlz hbad h1 h1'
    go_enter Try.func22, Try.ntmps22
    go_wp2_with (first | (go_at_call 32; refine (impl_lzwOk.calls bits wide _ _ HOK.out).mono ?_; rintro e w' ⟨rfl, hd⟩; obtain ⟨⟨m, rfl⟩⟩ := hd))
    go_ret2
    exact ⟨_, rfl, HB0.out _⟩
/-- The reader's helper tells what it should, at so many rounds. -/
def luReady (k : Nat) (tx : ByteArray) (wide : Bool) : Bool :=
  (List.range (8 * tx.size + 1)).all (fun a => (List.range 13).all (fun n => decide (impl_BitsGet.f k tx (a : Int) (n : Int) wide = some (if (a : Int) + n ≤ 8 * (tx.size : Int) then (bitsM tx (a : Int) wide n, true) else (0, false)))))
theorem luReady_iff (k : Nat) (tx : ByteArray) (wide : Bool) : luReady k tx wide = true ↔
    (∀ a n : Int, 0 ≤ a → a ≤ 8 * (tx.size : Int) → 0 ≤ n → n ≤ 12 → impl_BitsGet.f k tx a n wide = some (if a + n ≤ 8 * (tx.size : Int) then (bitsM tx a wide n.toNat, true) else (0, false))) := by
  unfold luReady
  simp only [List.all_eq_true, List.mem_range, decide_eq_true_eq]
  constructor
  · intro h a n ha ha2 hn hn2
    have hx := h a.toNat (by omega) n.toNat (by omega)
    rw [Int.toNat_of_nonneg ha, Int.toNat_of_nonneg hn] at hx
    exact hx
  · intro h a ha n hn
    have hx := h (a : Int) (n : Int) (by omega) (by omega) (by omega) (by omega)
    rw [Int.toNat_natCast] at hx
    exact hx
theorem luReady_mono (k : Nat) (tx : ByteArray) (wide : Bool) (h : luReady k tx wide = true) : luReady (k + 1) tx wide = true := by
  rw [luReady_iff] at h ⊢
  exact fun a n ha ha2 hn hn2 => impl_BitsGet.mono _ _ _ _ k _ (h a n ha ha2 hn hn2)
/-- What is read, whatever is asked for. -/
theorem lu_any (k : Nat) (w : World) (tx : ByteArray) (bits : Int) (wide : Bool) (limit : Int) (h : (lzOk bits wide = true ∧ tx.size ≤ 9000 ∧ 0 ≤ limit ∧ limit ≤ 5000) → luReady k tx wide = true) :
    Calls Try.prog 22 #[.string tx, .int .i64 bits, .bool wide, .int .i64 limit] w fun e w' => ∃ (g : Nat) (c : Int), e = .returned (.tuple #[.pointer (some ⟨g, 0, none⟩), .int .i64 c]) ∧ c = lzCode tx bits wide limit ∧ (c = 0 → UV w' w.heap.size g bits wide (lzAll tx bits wide limit).1) ∧ Below w.heap.size w w' := by
  by_cases c : lzOk bits wide = true ∧ tx.size ≤ 9000 ∧ 0 ≤ limit ∧ limit ≤ 5000
  · refine (lu_all k w tx bits wide limit c.1 c.2.1 c.2.2 ((luReady_iff _ _ _).1 (h c))).mono ?_
    rintro e w' ⟨g, rfl, hv, hb⟩
    exact ⟨g, _, rfl, by unfold lzCode; rw [if_pos c], fun _ => hv, hb⟩
  · refine (lu_bad w tx bits wide limit c).mono ?_
    rintro e w' ⟨g, rfl, hb⟩
    exact ⟨g, _, rfl, by unfold lzCode; rw [if_neg c], fun h => absurd h (by decide), hb⟩
end
section
open Go.Proofs.Ytdebckcphaocmaa.Th
def impl_LzwGet.f (k : Nat) (a0 : ByteArray) (a1 : Int) (a2 : Bool) (a3 : Int) : Option (ByteArray × Int) := if luReady k a0 a2 = true ∨ ¬ (lzOk a1 a2 = true ∧ a0.size ≤ 9000) then some (lzGetM a0 a1 a2 a3) else none
theorem impl_LzwGet.mono : ∀ a0 a1 a2 a3 k, LeO (impl_LzwGet.f k a0 a1 a2 a3) (impl_LzwGet.f (k + 1) a0 a1 a2 a3) := by
  intro a0 a1 a2 a3 k r h
  unfold impl_LzwGet.f at h ⊢
  by_cases c : luReady k a0 a2 = true ∨ ¬ (lzOk a1 a2 = true ∧ a0.size ≤ 9000)
  · rw [if_pos c] at h; rw [if_pos (c.imp (luReady_mono _ _ _) id)]; exact h
  · rw [if_neg c] at h; cases h
set_option maxHeartbeats 8000000 in
set_option maxRecDepth 100000 in
theorem impl_LzwGet.calls (k : Nat) (a0 : ByteArray) (a1 : Int) (a2 : Bool) (a3 : Int) (r1 : ByteArray) (r2 : Int) (w : World) (h : impl_LzwGet.f k a0 a1 a2 a3 = some (r1, r2)) :
    Calls Try.prog 6 #[.string a0, .int .i64 a1, .bool a2, .int .i64 a3] w fun e w' => e = .returned (.tuple #[.string r1, .int .i64 r2]) ∧ Below w.heap.size w w' := by
  unfold impl_LzwGet.f at h
  by_cases c : luReady k a0 a2 = true ∨ ¬ (lzOk a1 a2 = true ∧ a0.size ≤ 9000)
  · rw [if_pos c] at h
    unfold lzGetM at h
    have hu := lu_any k w a0 a1 a2 a3 (fun x => c.resolve_right (fun y => y ⟨x.1, x.2.1⟩))
    generalize lzCode a0 a1 a2 a3 = cd at h hu
    generalize (lzAll a0 a1 a2 a3).1 = st at h hu
    have HU := Aside0.mk hu
    clear hu c
    by_cases c0 : cd = 0
    · subst c0
      rw [if_pos rfl] at h
      obtain ⟨rfl, rfl⟩ := Prod.mk.inj (Option.some.inj h)
      clear h
      go_enter Try.func6, Try.ntmps6
      go_wp2_with (first | (go_at_call 22; refine (HU.out).mono ?_; rintro e w' ⟨g, cx, rfl, rfl, hv, hb⟩; obtain ⟨tl, ul, v1, v3, hl, ha, hb2⟩ := hv rfl; obtain ⟨A4, c4, rfl⟩ := Kd.R_slice hl.rl; obtain ⟨A7, c7, rfl⟩ := Kd.R_slice hl.rc; obtain ⟨z0, z1, z2, z3, z4, z5, z6, z7⟩ := uz_cells hl.blk; have HB := Aside0.mk hb; clear hl hb hv ha hb2))
      go_ret2
      exact ⟨rfl, HB.out⟩
    · rw [if_neg c0] at h
      obtain ⟨rfl, rfl⟩ := Prod.mk.inj (Option.some.inj h)
      have d1 : (cd != 0) = true := by rw [bne_iff_ne]; exact c0
      have d2 : (cd == 0) = false := beq_eq_false_iff_ne.2 c0
      clear h c0
      go_enter Try.func6, Try.ntmps6
      go_wp2_with (first | (go_at_call 22; refine (HU.out).mono ?_; rintro e w' ⟨g, cx, rfl, rfl, hv, hb⟩; have HB := Aside0.mk hb; clear hv hb))
      go_ret2
      exact ⟨rfl, HB.out⟩
  · rw [if_neg c] at h
    cases h
end

end Go.Proofs.Ytdebckcphaocmaa.PFnLzwGet
