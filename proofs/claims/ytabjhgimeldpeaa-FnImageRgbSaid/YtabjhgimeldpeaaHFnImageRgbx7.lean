/- What the functions that the law comes to compute, as plain functions, and that the machine's calls come to just that: written by a program for this claim, and turned where Lean did not take it. No condition. -/
import Derived.Test.YtabjhgimeldpeaaHFnImageRgbx0
import Derived.Test.YtabjhgimeldpeaaHFnImageRgbx2
import Derived.Test.YtabjhgimeldpeaaHFnImageRgbx3
import Derived.Test.YtabjhgimeldpeaaHFnImageRgbx4
import Derived.Test.YtabjhgimeldpeaaHFnImageRgbx6
namespace Go.Proofs.Ytabjhgimeldpeaa.PFnImageRgb
open Go.RowKit Go.Proofs.YtabjhgimeldpeaaW.PrintWords Go.Proofs.YtabjhgimeldpeaaW.PrintLast Go.Proofs.YtabjhgimeldpeaaW.PrintMore
attribute [local go_sem] max2_int min2_int max_two min_two max_three min_three max_four min_four   -- for this text's walks alone
set_option linter.unusedVariables false
set_option linter.unusedSimpArgs false

/-! ### spec_l14Any: function 66 -/
def spec_l14Any.f (k : Nat) (s0_0 : List Int) (s0_1 : Int) : Option (Int × Int × Int × Int × List Int × List Int × Int) := (spec_l14Image.f k s0_0 s0_1).bind fun bt252 => ((spec_l1Rd_pick.f k s0_0 bt252.2.2.2.2.2.2 14).bind fun bt264 => (if bt264.1 = 0 then ((spec_l14Spoil.f k s0_0 bt264.2 bt252.1 bt252.2.1 bt252.2.2.1 bt252.2.2.2.1 bt252.2.2.2.2.1 bt252.2.2.2.2.2.1).bind fun bt266 => (some (bt266.1, bt266.2.1, bt266.2.2.1, bt266.2.2.2.1, bt266.2.2.2.2.1, bt266.2.2.2.2.2.1, bt266.2.2.2.2.2.2))) else (some (bt252.1, bt252.2.1, bt252.2.2.1, bt252.2.2.2.1, bt252.2.2.2.2.1, bt252.2.2.2.2.2.1, bt264.2))))
theorem spec_l14Any.mono : ∀ a0 a1 k, LeO (spec_l14Any.f k a0 a1) (spec_l14Any.f (k + 1) a0 a1) := by
 intro a0 a1 k
 unfold spec_l14Any.f
 repeat' first
   | (with_reducible exact spec_l14Image.mono _ _ _)
   | (with_reducible exact spec_l14Spoil.mono _ _ _ _ _ _ _ _ _)
   | (with_reducible exact spec_l1Rd_pick.mono _ _ _ _)
   | (with_reducible exact LeO.refl _)
   | (with_reducible exact LeO.none _)
   | (with_reducible refine LeO.ite ?_ ?_)
   | (with_reducible refine LeO.bind ?_ (fun _ => ?_))
set_option maxHeartbeats 8000000 in
set_option maxRecDepth 100000 in
theorem spec_l14Any.calls (k : Nat) (g : Nat) (s0_0 : List Int) (s0_1 : Int) (r1 : Int) (r2 : Int) (r3 : Int) (r4 : Int) (r5 : List Int) (r6 : List Int) (r7 : Int) (w0 w : World) (hI : IsS111 w0 w g s0_0 s0_1) (hB : Below w0.heap.size w0 w) (h : spec_l14Any.f k s0_0 s0_1 = some (r1, r2, r3, r4, r5, r6, r7)) :
  Calls Try.prog 66 #[.pointer (some ⟨g, 0, none⟩)] w fun e w' => ∃ v4_ v5_ : Value, e = .returned (.agg #[.int .i64 r1, .int .i64 r2, .int .i64 r3, .int .i64 r4, v4_, v5_]) ∧ Kd.R (Kd.int .i64) 3 w' w.heap.size (fun k_ => some k_ ≠ (v5_ : Value).ownBlock) v4_ r5 ∧ Kd.Q (Kd.int .i64) 3 w' w.heap.size (fun k_ => some k_ ≠ (v4_ : Value).ownBlock) v5_ r6 ∧ IsS111 w0 w' g s0_0 r7 ∧ Below w0.heap.size w0 w' ∧ KeepBut w w' g none := by
 have hu25 := Try.underlying25
 have HI0 := aM_ hI
 have HK := aM_ (KeepBut.refl w g none)
 have HL := aM_ hB.size
 clear hI
 have HW0 := aM_ hB.size
 have HB := aM_ hB
 clear hB
 have H : ((spec_l14Image.f k s0_0 s0_1).bind fun bt252 => ((spec_l1Rd_pick.f k s0_0 bt252.2.2.2.2.2.2 14).bind fun bt264 => (if bt264.1 = 0 then ((spec_l14Spoil.f k s0_0 bt264.2 bt252.1 bt252.2.1 bt252.2.2.1 bt252.2.2.2.1 bt252.2.2.2.2.1 bt252.2.2.2.2.2.1).bind fun bt266 => (some (bt266.1, bt266.2.1, bt266.2.2.1, bt266.2.2.2.1, bt266.2.2.2.2.1, bt266.2.2.2.2.2.1, bt266.2.2.2.2.2.2))) else (some (bt252.1, bt252.2.1, bt252.2.2.1, bt252.2.2.2.1, bt252.2.2.2.2.1, bt252.2.2.2.2.2.1, bt264.2))))) = some (r1, r2, r3, r4, r5, r6, r7) := h
 clear h
 replace H := Option.bind_eq_some_iff.mp H
 obtain ⟨⟨t252, t253, t254, t255, t256, t259, t262⟩, A20, H⟩ := H
 replace H : ((spec_l1Rd_pick.f k s0_0 t262 14).bind fun bt264 => (if bt264.1 = 0 then ((spec_l14Spoil.f k s0_0 bt264.2 t252 t253 t254 t255 t256 t259).bind fun bt266 => (some (bt266.1, bt266.2.1, bt266.2.2.1, bt266.2.2.2.1, bt266.2.2.2.2.1, bt266.2.2.2.2.2.1, bt266.2.2.2.2.2.2))) else (some (t252, t253, t254, t255, t256, t259, bt264.2)))) = some (r1, r2, r3, r4, r5, r6, r7) := H
 have A2 := aM_ A20
 clear A20
 replace H := Option.bind_eq_some_iff.mp H
 obtain ⟨⟨t264, t265⟩, A30, H⟩ := H
 replace H : (if t264 = 0 then ((spec_l14Spoil.f k s0_0 t265 t252 t253 t254 t255 t256 t259).bind fun bt266 => (some (bt266.1, bt266.2.1, bt266.2.2.1, bt266.2.2.2.1, bt266.2.2.2.2.1, bt266.2.2.2.2.2.1, bt266.2.2.2.2.2.2))) else (some (t252, t253, t254, t255, t256, t259, t265))) = some (r1, r2, r3, r4, r5, r6, r7) := H
 have A3 := aM_ A30
 clear A30
 by_cases c4 : t264 = 0
 ·rw [if_pos c4] at H
  have c4b0 : (t264 == 0) = true := beq_iff_eq.mpr c4
  have c4b1 : (t264 != 0) = false := bne_eq_false_iff_eq.mpr c4
  clear c4
  replace H := Option.bind_eq_some_iff.mp H
  obtain ⟨⟨t266, t267, t268, t269, t270, t273, t276⟩, A50, H⟩ := H
  replace H : (some (t266, t267, t268, t269, t270, t273, t276)) = some (r1, r2, r3, r4, r5, r6, r7) := H
  have A5 := aM_ A50
  clear A50
  simp only [Option.some.injEq, Prod.mk.injEq] at H
  obtain ⟨rfl, rfl, rfl, rfl, rfl, rfl, rfl⟩ := H
  go_enter Try.func66, Try.ntmps66
  go_wp2_with (first | ((with_reducible refine gate_dst (N := 2) rfl ?_); refine box_event ?hg (N := 2) ?hd (cs := #[.int .i64 0, .int .i64 0, .int .i64 0, .int .i64 0, .slice none 0 0, .slice none 0 0]) (t := 25) ?hr ?_; (case hd => rfl); (case hg => rfl); (case hr => first | (go_simp; done) | (go_simp; rfl)); intro gb251 hg w6 hbox hb; have n0_ := aM_ (IsS111.below (by repeat (first | (with_reducible first | exact HI0.out | apply IsS111.alloc | apply IsS111.drewN | apply IsS111.drew | apply IsS111.set_1) | exact HI0.out)) hb); have n1_ := aM_ (KeepBut.trans (by repeat (first | (with_reducible first | exact HK.out | apply pS_ | apply pN_ | apply pD_ | apply pA_) | exact HK.out)) (KeepBut.of_below hb g none) (.inl rfl)); have n2_ := aM_ (below_step (by repeat (first | (with_reducible first | exact HB.out | apply wA_ | apply wN_ | apply wD_ | refine below_set ?_ (IsS111.ge HI0.out)) | exact HB.out)) hb); have n3_ := aM_ (hbox); have n4_ := aM_ ((by rw [hg]; exact (keep_size (w := w) (g := g) (row := none) (by repeat (first | (with_reducible first | exact HK.out | apply pS_ | apply pN_ | apply pD_ | apply pA_) | exact HK.out))) : w.heap.size ≤ gb251)); have n5_ := aM_ ((Nat.le_trans HW0.out (by rw [hg]; exact (keep_size (w := w) (g := g) (row := none) (by repeat (first | (with_reducible first | exact HK.out | apply pS_ | apply pN_ | apply pD_ | apply pA_) | exact HK.out))) : w.heap.size ≤ gb251) : w0.heap.size ≤ gb251)); have n6_ := aM_ ((by rw [hg]; exact Nat.ne_of_lt (IsS111.lt (show IsS111 w0 _ g s0_0 s0_1 from by repeat (first | (with_reducible first | exact HI0.out | apply IsS111.alloc | apply IsS111.drewN | apply IsS111.drew | apply IsS111.set_1) | exact HI0.out))) : g ≠ gb251)); have n7_ := aM_ n6_.out.symm; clear HI0; clear HK; clear HB; have HI0 := n0_; have HK := n1_; have HB := n2_; have BK251 := n3_; have GW251 := n4_; have GE251 := n5_; have NB0_251 := n6_; have NB251_0 := n7_; clear n0_ n1_ n2_ n3_ n4_ n5_ n6_ n7_; clear hb hbox hg) | ((with_reducible refine gate_callee (f := 107) rfl ?_); refine goesL_ (some 5) rfl rfl Try.func107 (by kernel_rfl) rfl #[.pointer (some ⟨g, 0, none⟩)] rfl (by (try simp only [List.map_toArray, List.map_cons, List.map_nil]); first | done | rfl | (simp only [List.length_drop, List.length_take]; rfl)) ?_; (with_reducible refine (spec_l14Image.calls k g s0_0 s0_1 t252 t253 t254 t255 t256 t259 t262 w0 _ ?side1 ?side2 A2.out).mono ?_); (case side1 => repeat (first | (with_reducible first | exact HI0.out | apply IsS111.alloc | apply IsS111.drewN | apply IsS111.drew | apply IsS111.set_1 | refine IsS111.far ?_ NB0_251.out _) | exact HI0.out)); (case side2 => repeat (first | (with_reducible first | exact HB.out | apply wA_ | apply wN_ | apply wD_ | refine below_set ?_ (IsS111.ge HI0.out) | refine below_set ?_ GE251.out) | exact HB.out)); rintro e w7 ⟨v257, v260, rfl, ho0, ho1, hi, hb, hk⟩; refine ⟨_, rfl, ?_⟩; have n0_ := aM_ (KeepBut.blk hk (g' := gb251) (o := .cells #[.int .i64 0, .int .i64 0, .int .i64 0, .int .i64 0, .slice none 0 0, .slice none 0 0] 25 (0, 0)) (by (with_reducible repeat (first | apply kN_ | apply kD_ | apply kA_)); exact BK251.out) NB251_0.out (by simp)); have n1_ := aM_ (Kd.R_lower ho0 (keep_size (w := w) (g := g) (row := none) (by repeat (first | (with_reducible first | exact HK.out | apply pS_ | apply pN_ | apply pD_ | apply pA_ | refine keep_far ?_ GW251.out _) | exact HK.out)))); have n2_ := aM_ (Kd.R_lower ho1 (keep_size (w := w) (g := g) (row := none) (by repeat (first | (with_reducible first | exact HK.out | apply pS_ | apply pN_ | apply pD_ | apply pA_ | refine keep_far ?_ GW251.out _) | exact HK.out)))); have n3_ := aM_ (KeepBut.trans (by repeat (first | (with_reducible first | exact HK.out | apply pS_ | apply pN_ | apply pD_ | apply pA_ | refine keep_far ?_ GW251.out _) | exact HK.out)) hk (.inl rfl)); have n4_ := aM_ (hb); have n5_ := aM_ (hi); clear BK251; clear HK; clear HB; clear HI0; have BK251 := n0_; have HO258 := n1_; have HO261 := n2_; have HK := n3_; have HB := n4_; have HI0 := n5_; clear n0_ n1_ n2_ n3_ n4_ n5_; (try clear hb); (try clear hb2); (try clear hk); (try clear hi); (try clear ho0); (try clear ho1)) | ((with_reducible refine gate_dst (N := 3) rfl ?_); refine box_event ?hg (N := 3) ?hd (cs := #[.int .i64 0, .int .i64 0, .int .i64 0, .int .i64 0, .slice none 0 0, .slice none 0 0]) (t := 25) ?hr ?_; (case hd => rfl); (case hg => rfl); (case hr => first | (go_simp; done) | (go_simp; rfl)); intro gb263 hg w8 hbox hb; have n0_ := aM_ (Kd.R_below (by (with_reducible repeat (first | apply rA_ | apply rN_ | apply rD_)); exact HO258.out) hb); have n1_ := aM_ (Kd.R_below (by (with_reducible repeat (first | apply rA_ | apply rN_ | apply rD_)); exact HO261.out) hb); have n2_ := aM_ (IsS111.below (by repeat (first | (with_reducible first | exact HI0.out | apply IsS111.alloc | apply IsS111.drewN | apply IsS111.drew | apply IsS111.set_1 | refine IsS111.far ?_ NB0_251.out _) | exact HI0.out)) hb); have n3_ := aM_ (blk_below (g := gb251) (by (with_reducible repeat (first | apply kN_ | apply kD_ | apply kA_)); exact BK251.out) hb); have n4_ := aM_ (KeepBut.trans (by repeat (first | (with_reducible first | exact HK.out | apply pS_ | apply pN_ | apply pD_ | apply pA_ | refine keep_far ?_ GW251.out _) | exact HK.out)) (KeepBut.of_below hb g none) (.inl rfl)); have n5_ := aM_ (below_step (by repeat (first | (with_reducible first | exact HB.out | apply wA_ | apply wN_ | apply wD_ | refine below_set ?_ (IsS111.ge HI0.out) | refine below_set ?_ GE251.out) | exact HB.out)) hb); have n6_ := aM_ (hbox); have n7_ := aM_ ((by rw [hg]; exact (keep_size (w := w) (g := g) (row := none) (by repeat (first | (with_reducible first | exact HK.out | apply pS_ | apply pN_ | apply pD_ | apply pA_ | refine keep_far ?_ GW251.out _) | exact HK.out))) : w.heap.size ≤ gb263)); have n8_ := aM_ ((Nat.le_trans HW0.out (by rw [hg]; exact (keep_size (w := w) (g := g) (row := none) (by repeat (first | (with_reducible first | exact HK.out | apply pS_ | apply pN_ | apply pD_ | apply pA_ | refine keep_far ?_ GW251.out _) | exact HK.out))) : w.heap.size ≤ gb263) : w0.heap.size ≤ gb263)); have n9_ := aM_ ((by rw [hg]; exact Nat.ne_of_lt (blk_lt (g := gb251) (by (with_reducible repeat (first | apply kN_ | apply kD_ | apply kA_)); exact BK251.out)) : gb251 ≠ gb263)); have n10_ := aM_ n9_.out.symm; have n11_ := aM_ ((by rw [hg]; exact Nat.ne_of_lt (IsS111.lt (show IsS111 w0 _ g s0_0 t262 from by repeat (first | (with_reducible first | exact HI0.out | apply IsS111.alloc | apply IsS111.drewN | apply IsS111.drew | apply IsS111.set_1 | refine IsS111.far ?_ NB0_251.out _) | exact HI0.out))) : g ≠ gb263)); have n12_ := aM_ n11_.out.symm; clear HO258; clear HO261; clear HI0; clear BK251; clear HK; clear HB; have HO258 := n0_; have HO261 := n1_; have HI0 := n2_; have BK251 := n3_; have HK := n4_; have HB := n5_; have BK263 := n6_; have GW263 := n7_; have GE263 := n8_; have NB251_263 := n9_; have NB263_251 := n10_; have NB0_263 := n11_; have NB263_0 := n12_; clear n0_ n1_ n2_ n3_ n4_ n5_ n6_ n7_ n8_ n9_ n10_ n11_ n12_; clear hb hbox hg; have hnb9 := NB263_251.out; have hnc9 := NB251_263.out; have hnb10 := NB263_0.out; have hnc10 := NB0_263.out; obtain ⟨hcz11_0, hcz11_1, hcz11_2, hcz11_3, hcz11_4, hcz11_5⟩ := bc6 BK263.out; obtain ⟨hfz11_0, hfz11_1, hfz11_2, hfz11_3, hfz11_4, hfz11_5⟩ := bf6 BK263.out; obtain ⟨Ao12, co12, eo12⟩ := Kd.R_slice HO258.out; subst eo12; obtain ⟨Ao13, co13, eo13⟩ := Kd.R_slice HO261.out; subst eo13) | ((with_reducible refine gate_callee (f := 80) rfl ?_); refine goesL_ (some 7) rfl rfl Try.func80 (by kernel_rfl) rfl #[.pointer (some ⟨g, 0, none⟩), .int .i64 14] rfl (by (try simp only [List.map_toArray, List.map_cons, List.map_nil]); first | done | rfl | (simp only [List.length_drop, List.length_take]; rfl)) ?_; (with_reducible refine (spec_l1Rd_pick.calls k g s0_0 t262 14 t264 t265 w0 _ ?side1 ?side2 A3.out).mono ?_); (case side1 => repeat (first | (with_reducible first | exact HI0.out | apply IsS111.alloc | apply IsS111.drewN | apply IsS111.drew | apply IsS111.set_1 | refine IsS111.far ?_ NB0_251.out _ | refine IsS111.far ?_ NB0_263.out _) | exact HI0.out)); (case side2 => repeat (first | (with_reducible first | exact HB.out | apply wA_ | apply wN_ | apply wD_ | refine below_set ?_ (IsS111.ge HI0.out) | refine below_set ?_ GE251.out | refine below_set ?_ GE263.out) | exact HB.out)); rintro e w14 ⟨rfl, hi, hb, hk⟩; refine ⟨_, rfl, ?_⟩; have n0_ := aM_ (KeepBut.blk hk (g' := gb251) (o := .cells #[.int .i64 0, .int .i64 0, .int .i64 0, .int .i64 0, .slice none 0 0, .slice none 0 0] 25 (0, 0)) (by (with_reducible repeat (first | apply kN_ | apply kD_ | apply kA_)); refine blk_far ?_ NB251_263.out _; (with_reducible repeat (first | apply kN_ | apply kD_ | apply kA_)); refine blk_far ?_ NB251_263.out _; (with_reducible repeat (first | apply kN_ | apply kD_ | apply kA_)); refine blk_far ?_ NB251_263.out _; (with_reducible repeat (first | apply kN_ | apply kD_ | apply kA_)); refine blk_far ?_ NB251_263.out _; (with_reducible repeat (first | apply kN_ | apply kD_ | apply kA_)); refine blk_far ?_ NB251_263.out _; (with_reducible repeat (first | apply kN_ | apply kD_ | apply kA_)); refine blk_far ?_ NB251_263.out _; (with_reducible repeat (first | apply kN_ | apply kD_ | apply kA_)); exact BK251.out) NB251_0.out (by simp)); have n1_ := aM_ (Kd.R_mono (Kd.R_keep (IsS111.apart (show IsS111 w0 _ g s0_0 t262 from by repeat (first | (with_reducible first | exact HI0.out | apply IsS111.alloc | apply IsS111.drewN | apply IsS111.drew | apply IsS111.set_1 | refine IsS111.far ?_ NB0_251.out _ | refine IsS111.far ?_ NB0_263.out _) | exact HI0.out)) (by (with_reducible repeat (first | apply rA_ | apply rN_ | apply rD_)); exact (Kd.R_mono (Kd.R_far (Kd.R_far (Kd.R_far (Kd.R_far (Kd.R_far (Kd.R_far (Kd.R_types HO258.out BK263.out (by decide)) (fun _ hk => hk.2) (.int .i64 t252)) (fun _ hk => hk.2) (.int .i64 t253)) (fun _ hk => hk.2) (.int .i64 t254)) (fun _ hk => hk.2) (.int .i64 t255)) (fun _ hk => hk.2) (.slice Ao12 t256.length co12)) (fun _ hk => hk.2) (.slice Ao13 t259.length co13)) (fun _ h_ => h_.1))) (by decide)) hk (fun _ h => h.2)) (fun _ h => h.1)); have n2_ := aM_ (Kd.R_mono (Kd.R_keep (IsS111.apart (show IsS111 w0 _ g s0_0 t262 from by repeat (first | (with_reducible first | exact HI0.out | apply IsS111.alloc | apply IsS111.drewN | apply IsS111.drew | apply IsS111.set_1 | refine IsS111.far ?_ NB0_251.out _ | refine IsS111.far ?_ NB0_263.out _) | exact HI0.out)) (by (with_reducible repeat (first | apply rA_ | apply rN_ | apply rD_)); exact (Kd.R_mono (Kd.R_far (Kd.R_far (Kd.R_far (Kd.R_far (Kd.R_far (Kd.R_far (Kd.R_types HO261.out BK263.out (by decide)) (fun _ hk => hk.2) (.int .i64 t252)) (fun _ hk => hk.2) (.int .i64 t253)) (fun _ hk => hk.2) (.int .i64 t254)) (fun _ hk => hk.2) (.int .i64 t255)) (fun _ hk => hk.2) (.slice Ao12 t256.length co12)) (fun _ hk => hk.2) (.slice Ao13 t259.length co13)) (fun _ h_ => h_.1))) (by decide)) hk (fun _ h => h.2)) (fun _ h => h.1)); have n3_ := aM_ (KeepBut.blk hk (g' := gb263) (o := .cells #[.int .i64 t252, .int .i64 t253, .int .i64 t254, .int .i64 t255, .slice Ao12 t256.length co12, .slice Ao13 t259.length co13] 25 (0, 0)) (by (with_reducible repeat (first | apply kN_ | apply kD_ | apply kA_)); refine blk_put (cs := #[.int .i64 t252, .int .i64 t253, .int .i64 t254, .int .i64 t255, .slice Ao12 t256.length co12, .slice none 0 0]) ?_ 5 _ rfl; (with_reducible repeat (first | apply kN_ | apply kD_ | apply kA_)); refine blk_put (cs := #[.int .i64 t252, .int .i64 t253, .int .i64 t254, .int .i64 t255, .slice none 0 0, .slice none 0 0]) ?_ 4 _ rfl; (with_reducible repeat (first | apply kN_ | apply kD_ | apply kA_)); refine blk_put (cs := #[.int .i64 t252, .int .i64 t253, .int .i64 t254, .int .i64 0, .slice none 0 0, .slice none 0 0]) ?_ 3 _ rfl; (with_reducible repeat (first | apply kN_ | apply kD_ | apply kA_)); refine blk_put (cs := #[.int .i64 t252, .int .i64 t253, .int .i64 0, .int .i64 0, .slice none 0 0, .slice none 0 0]) ?_ 2 _ rfl; (with_reducible repeat (first | apply kN_ | apply kD_ | apply kA_)); refine blk_put (cs := #[.int .i64 t252, .int .i64 0, .int .i64 0, .int .i64 0, .slice none 0 0, .slice none 0 0]) ?_ 1 _ rfl; (with_reducible repeat (first | apply kN_ | apply kD_ | apply kA_)); refine blk_put (cs := #[.int .i64 0, .int .i64 0, .int .i64 0, .int .i64 0, .slice none 0 0, .slice none 0 0]) ?_ 0 _ rfl; (with_reducible repeat (first | apply kN_ | apply kD_ | apply kA_)); exact BK263.out) NB263_0.out (by simp)); have n4_ := aM_ (KeepBut.trans (by repeat (first | (with_reducible first | exact HK.out | apply pS_ | apply pN_ | apply pD_ | apply pA_ | refine keep_far ?_ GW251.out _ | refine keep_far ?_ GW263.out _) | exact HK.out)) hk (.inl rfl)); have n5_ := aM_ (hb); have n6_ := aM_ (hi); clear BK251; clear HO258; clear HO261; clear BK263; clear HK; clear HB; clear HI0; have BK251 := n0_; have HO258 := n1_; have HO261 := n2_; have BK263 := n3_; have HK := n4_; have HB := n5_; have HI0 := n6_; clear n0_ n1_ n2_ n3_ n4_ n5_ n6_; (try clear hb); (try clear hb2); (try clear hk); (try clear hi); obtain ⟨hcz15_0, hcz15_1, hcz15_2, hcz15_3, hcz15_4, hcz15_5⟩ := bc6 BK263.out; obtain ⟨hfz15_0, hfz15_1, hfz15_2, hfz15_3, hfz15_4, hfz15_5⟩ := bf6 BK263.out) | ((with_reducible refine gate_callee (f := 108) rfl ?_); refine goesL_ (some 11) rfl rfl Try.func108 (by kernel_rfl) rfl #[.pointer (some ⟨g, 0, none⟩), .agg #[.int .i64 t252, .int .i64 t253, .int .i64 t254, .int .i64 t255, .slice Ao12 t256.length co12, .slice Ao13 t259.length co13]] rfl (by (try simp only [List.map_toArray, List.map_cons, List.map_nil]); first | done | rfl | (simp only [List.length_drop, List.length_take]; rfl)) ?_; (with_reducible refine (spec_l14Spoil.calls k g s0_0 t265 t252 t253 t254 t255 _ _ t256 _ _ t259 t266 t267 t268 t269 t270 t273 t276 w0 _ ?side1 ?side2 ?side3 ?side4 ?side5 ?side6 ?side7 ?side8 A5.out).mono ?_); (case side1 => repeat (first | (with_reducible first | exact HI0.out | apply IsS111.alloc | apply IsS111.drewN | apply IsS111.drew | apply IsS111.set_1 | refine IsS111.far ?_ NB0_251.out _ | refine IsS111.far ?_ NB0_263.out _) | exact HI0.out)); (case side2 => repeat (first | (with_reducible first | exact HB.out | apply wA_ | apply wN_ | apply wD_ | refine below_set ?_ (IsS111.ge HI0.out) | refine below_set ?_ GE251.out | refine below_set ?_ GE263.out) | exact HB.out)); (case side3 => repeat (first | exact (Kd.R_reads' HO258.out).2.2 | (with_reducible refine Kd.C_alloc ?_ _) | (with_reducible refine Kd.C_drewN ?_ _) | (with_reducible refine Kd.C_drew ?_))); (case side4 => exact (Kd.R_reads' HO258.out).2.1); (case side5 => exact far_slice (IsS111.own_ne HI0.out HO258.out (by decide))); (case side6 => repeat (first | exact (Kd.R_reads' HO261.out).2.2 | (with_reducible refine Kd.C_alloc ?_ _) | (with_reducible refine Kd.C_drewN ?_ _) | (with_reducible refine Kd.C_drew ?_))); (case side7 => exact (Kd.R_reads' HO261.out).2.1); (case side8 => exact far_slice (IsS111.own_ne HI0.out HO261.out (by decide))); rintro e w16 ⟨v271, v274, rfl, ho0, ho1, hi, hb, hk⟩; refine ⟨_, rfl, ?_⟩; have n0_ := aM_ (KeepBut.blk hk (g' := gb251) (o := .cells #[.int .i64 0, .int .i64 0, .int .i64 0, .int .i64 0, .slice none 0 0, .slice none 0 0] 25 (0, 0)) (by (with_reducible repeat (first | apply kN_ | apply kD_ | apply kA_)); exact BK251.out) NB251_0.out (by simp)); have n1_ := aM_ (Kd.R_mono (Kd.R_told (Kd.R_told (Kd.R_oldK (IsS111.apart (show IsS111 w0 _ g s0_0 t265 from by repeat (first | (with_reducible first | exact HI0.out | apply IsS111.alloc | apply IsS111.drewN | apply IsS111.drew | apply IsS111.set_1 | refine IsS111.far ?_ NB0_251.out _ | refine IsS111.far ?_ NB0_263.out _) | exact HI0.out)) (by (with_reducible repeat (first | apply rA_ | apply rN_ | apply rD_)); exact HO258.out) (by decide)) hk) (Kd.R_base ho0)) (Kd.Q_base ho1)) (fun _ h_ => h_.1)); have n2_ := aM_ (Kd.R_mono (Kd.R_told (Kd.R_told (Kd.R_oldK (IsS111.apart (show IsS111 w0 _ g s0_0 t265 from by repeat (first | (with_reducible first | exact HI0.out | apply IsS111.alloc | apply IsS111.drewN | apply IsS111.drew | apply IsS111.set_1 | refine IsS111.far ?_ NB0_251.out _ | refine IsS111.far ?_ NB0_263.out _) | exact HI0.out)) (by (with_reducible repeat (first | apply rA_ | apply rN_ | apply rD_)); exact HO261.out) (by decide)) hk) (Kd.R_base ho0)) (Kd.Q_base ho1)) (fun _ h_ => h_.1)); have n3_ := aM_ (KeepBut.blk hk (g' := gb263) (o := .cells #[.int .i64 t252, .int .i64 t253, .int .i64 t254, .int .i64 t255, .slice Ao12 t256.length co12, .slice Ao13 t259.length co13] 25 (0, 0)) (by (with_reducible repeat (first | apply kN_ | apply kD_ | apply kA_)); exact BK263.out) NB263_0.out (by simp)); have n4_ := aM_ (Kd.R_lower (Kd.R_new' (Kd.R_new' ho0 (Kd.R_lt (by (with_reducible repeat (first | apply rA_ | apply rN_ | apply rD_)); exact HO258.out))) (Kd.R_lt (by (with_reducible repeat (first | apply rA_ | apply rN_ | apply rD_)); exact HO261.out))) (keep_size (w := w) (g := g) (row := none) (by repeat (first | (with_reducible first | exact HK.out | apply pS_ | apply pN_ | apply pD_ | apply pA_ | refine keep_far ?_ GW251.out _ | refine keep_far ?_ GW263.out _) | exact HK.out)))); have n5_ := aM_ (Kd.Q_lower (Kd.Q_new' (Kd.Q_new' ho1 (Kd.R_lt (by (with_reducible repeat (first | apply rA_ | apply rN_ | apply rD_)); exact HO258.out))) (Kd.R_lt (by (with_reducible repeat (first | apply rA_ | apply rN_ | apply rD_)); exact HO261.out))) (keep_size (w := w) (g := g) (row := none) (by repeat (first | (with_reducible first | exact HK.out | apply pS_ | apply pN_ | apply pD_ | apply pA_ | refine keep_far ?_ GW251.out _ | refine keep_far ?_ GW263.out _) | exact HK.out)))); have n6_ := aM_ (KeepBut.trans (by repeat (first | (with_reducible first | exact HK.out | apply pS_ | apply pN_ | apply pD_ | apply pA_ | refine keep_far ?_ GW251.out _ | refine keep_far ?_ GW263.out _) | exact HK.out)) hk (.inl rfl)); have n7_ := aM_ (hb); have n8_ := aM_ (hi); clear BK251; clear HO258; clear HO261; clear BK263; clear HK; clear HB; clear HI0; have BK251 := n0_; have HO258 := n1_; have HO261 := n2_; have BK263 := n3_; have HO272 := n4_; have HO275 := n5_; have HK := n6_; have HB := n7_; have HI0 := n8_; clear n0_ n1_ n2_ n3_ n4_ n5_ n6_ n7_ n8_; (try clear hb); (try clear hb2); (try clear hk); (try clear hi); (try clear ho0); (try clear ho1); have hnb17 := NB251_0.out; have hnc17 := NB0_251.out; obtain ⟨hcz18_0, hcz18_1, hcz18_2, hcz18_3, hcz18_4, hcz18_5⟩ := bc6 BK251.out; obtain ⟨hfz18_0, hfz18_1, hfz18_2, hfz18_3, hfz18_4, hfz18_5⟩ := bf6 BK251.out; obtain ⟨Ao19, co19, eo19⟩ := Kd.R_slice HO272.out; subst eo19; obtain ⟨Ao20, co20, eo20, _⟩ := Kd.Q_slice HO275.out; subst eo20))
  refine bodyPost_ret (results_cell_row rfl _ _ gb251 25 #[.int .i64 t266, .int .i64 t267, .int .i64 t268, .int .i64 t269, .slice Ao19 t270.length co19, .slice Ao20 t273.length co20] (0, 0) _ rfl (by (with_reducible repeat (first | apply kN_ | apply kD_ | apply kA_)); refine blk_put (cs := #[.int .i64 t266, .int .i64 t267, .int .i64 t268, .int .i64 t269, .slice Ao19 t270.length co19, .slice none 0 0]) ?_ 5 _ rfl; (with_reducible repeat (first | apply kN_ | apply kD_ | apply kA_)); refine blk_put (cs := #[.int .i64 t266, .int .i64 t267, .int .i64 t268, .int .i64 t269, .slice none 0 0, .slice none 0 0]) ?_ 4 _ rfl; (with_reducible repeat (first | apply kN_ | apply kD_ | apply kA_)); refine blk_put (cs := #[.int .i64 t266, .int .i64 t267, .int .i64 t268, .int .i64 0, .slice none 0 0, .slice none 0 0]) ?_ 3 _ rfl; (with_reducible repeat (first | apply kN_ | apply kD_ | apply kA_)); refine blk_put (cs := #[.int .i64 t266, .int .i64 t267, .int .i64 0, .int .i64 0, .slice none 0 0, .slice none 0 0]) ?_ 2 _ rfl; (with_reducible repeat (first | apply kN_ | apply kD_ | apply kA_)); refine blk_put (cs := #[.int .i64 t266, .int .i64 0, .int .i64 0, .int .i64 0, .slice none 0 0, .slice none 0 0]) ?_ 1 _ rfl; (with_reducible repeat (first | apply kN_ | apply kD_ | apply kA_)); refine blk_put (cs := #[.int .i64 0, .int .i64 0, .int .i64 0, .int .i64 0, .slice none 0 0, .slice none 0 0]) ?_ 0 _ rfl; (with_reducible repeat (first | apply kN_ | apply kD_ | apply kA_)); exact BK251.out) Try.underlying25 rfl (by kernel_rfl)) rfl ?_
  exact ⟨_, _, by first | rfl | (simp [errW_none, errW_some] <;> rfl) | (simp [*, errW_none, errW_some] <;> rfl), by (with_reducible repeat (first | apply rA_ | apply rN_ | apply rD_)); exact Kd.R_mono (Kd.R_far (Kd.R_far (Kd.R_far (Kd.R_far (Kd.R_far (Kd.R_far (Kd.R_types HO272.out BK251.out (by decide)) (fun _ hk => hk.2) (.int .i64 t266)) (fun _ hk => hk.2) (.int .i64 t267)) (fun _ hk => hk.2) (.int .i64 t268)) (fun _ hk => hk.2) (.int .i64 t269)) (fun _ hk => hk.2) (.slice Ao19 t270.length co19)) (fun _ hk => hk.2) (.slice Ao20 t273.length co20)) (fun _ hk => hk.1.1.1), by (with_reducible repeat (first | apply Kd.Q_alloc | apply Kd.Q_drewN | apply Kd.Q_drew)); exact Kd.Q_mono (Kd.Q_far (Kd.Q_far (Kd.Q_far (Kd.Q_far (Kd.Q_far (Kd.Q_far (Kd.Q_types HO275.out BK251.out (by decide)) (fun _ hk => hk.2) (.int .i64 t266)) (fun _ hk => hk.2) (.int .i64 t267)) (fun _ hk => hk.2) (.int .i64 t268)) (fun _ hk => hk.2) (.int .i64 t269)) (fun _ hk => hk.2) (.slice Ao19 t270.length co19)) (fun _ hk => hk.2) (.slice Ao20 t273.length co20)) (fun _ hk => hk.1.1.1), by repeat (first | (with_reducible first | exact HI0.out | apply IsS111.alloc | apply IsS111.drewN | apply IsS111.drew | apply IsS111.set_1 | refine IsS111.far ?_ NB0_251.out _ | refine IsS111.far ?_ NB0_263.out _) | exact HI0.out), by repeat (first | (with_reducible first | exact HB.out | apply wA_ | apply wN_ | apply wD_ | refine below_set ?_ (IsS111.ge HI0.out) | refine below_set ?_ GE251.out | refine below_set ?_ GE263.out) | exact HB.out), by repeat (first | (with_reducible first | exact HK.out | apply pS_ | apply pN_ | apply pD_ | apply pA_ | refine keep_far ?_ GW251.out _ | refine keep_far ?_ GW263.out _) | exact HK.out)⟩
 ·rw [if_neg c4] at H
  have c4b0 : (t264 == 0) = false := beq_eq_false_iff_ne.mpr c4
  have c4b1 : (t264 != 0) = true := bne_iff_ne.mpr c4
  simp only [Option.some.injEq, Prod.mk.injEq] at H
  obtain ⟨rfl, rfl, rfl, rfl, rfl, rfl, rfl⟩ := H
  go_enter Try.func66, Try.ntmps66
  go_wp2_with (first | ((with_reducible refine gate_dst (N := 2) rfl ?_); refine box_event ?hg (N := 2) ?hd (cs := #[.int .i64 0, .int .i64 0, .int .i64 0, .int .i64 0, .slice none 0 0, .slice none 0 0]) (t := 25) ?hr ?_; (case hd => rfl); (case hg => rfl); (case hr => first | (go_simp; done) | (go_simp; rfl)); intro gb251 hg w21 hbox hb; have n0_ := aM_ (IsS111.below (by repeat (first | (with_reducible first | exact HI0.out | apply IsS111.alloc | apply IsS111.drewN | apply IsS111.drew | apply IsS111.set_1) | exact HI0.out)) hb); have n1_ := aM_ (KeepBut.trans (by repeat (first | (with_reducible first | exact HK.out | apply pS_ | apply pN_ | apply pD_ | apply pA_) | exact HK.out)) (KeepBut.of_below hb g none) (.inl rfl)); have n2_ := aM_ (below_step (by repeat (first | (with_reducible first | exact HB.out | apply wA_ | apply wN_ | apply wD_ | refine below_set ?_ (IsS111.ge HI0.out)) | exact HB.out)) hb); have n3_ := aM_ (hbox); have n4_ := aM_ ((by rw [hg]; exact (keep_size (w := w) (g := g) (row := none) (by repeat (first | (with_reducible first | exact HK.out | apply pS_ | apply pN_ | apply pD_ | apply pA_) | exact HK.out))) : w.heap.size ≤ gb251)); have n5_ := aM_ ((Nat.le_trans HW0.out (by rw [hg]; exact (keep_size (w := w) (g := g) (row := none) (by repeat (first | (with_reducible first | exact HK.out | apply pS_ | apply pN_ | apply pD_ | apply pA_) | exact HK.out))) : w.heap.size ≤ gb251) : w0.heap.size ≤ gb251)); have n6_ := aM_ ((by rw [hg]; exact Nat.ne_of_lt (IsS111.lt (show IsS111 w0 _ g s0_0 s0_1 from by repeat (first | (with_reducible first | exact HI0.out | apply IsS111.alloc | apply IsS111.drewN | apply IsS111.drew | apply IsS111.set_1) | exact HI0.out))) : g ≠ gb251)); have n7_ := aM_ n6_.out.symm; clear HI0; clear HK; clear HB; have HI0 := n0_; have HK := n1_; have HB := n2_; have BK251 := n3_; have GW251 := n4_; have GE251 := n5_; have NB0_251 := n6_; have NB251_0 := n7_; clear n0_ n1_ n2_ n3_ n4_ n5_ n6_ n7_; clear hb hbox hg) | ((with_reducible refine gate_callee (f := 107) rfl ?_); refine goesL_ (some 5) rfl rfl Try.func107 (by kernel_rfl) rfl #[.pointer (some ⟨g, 0, none⟩)] rfl (by (try simp only [List.map_toArray, List.map_cons, List.map_nil]); first | done | rfl | (simp only [List.length_drop, List.length_take]; rfl)) ?_; (with_reducible refine (spec_l14Image.calls k g s0_0 s0_1 t252 t253 t254 t255 t256 t259 t262 w0 _ ?side1 ?side2 A2.out).mono ?_); (case side1 => repeat (first | (with_reducible first | exact HI0.out | apply IsS111.alloc | apply IsS111.drewN | apply IsS111.drew | apply IsS111.set_1 | refine IsS111.far ?_ NB0_251.out _) | exact HI0.out)); (case side2 => repeat (first | (with_reducible first | exact HB.out | apply wA_ | apply wN_ | apply wD_ | refine below_set ?_ (IsS111.ge HI0.out) | refine below_set ?_ GE251.out) | exact HB.out)); rintro e w22 ⟨v257, v260, rfl, ho0, ho1, hi, hb, hk⟩; refine ⟨_, rfl, ?_⟩; have n0_ := aM_ (KeepBut.blk hk (g' := gb251) (o := .cells #[.int .i64 0, .int .i64 0, .int .i64 0, .int .i64 0, .slice none 0 0, .slice none 0 0] 25 (0, 0)) (by (with_reducible repeat (first | apply kN_ | apply kD_ | apply kA_)); exact BK251.out) NB251_0.out (by simp)); have n1_ := aM_ (Kd.R_lower ho0 (keep_size (w := w) (g := g) (row := none) (by repeat (first | (with_reducible first | exact HK.out | apply pS_ | apply pN_ | apply pD_ | apply pA_ | refine keep_far ?_ GW251.out _) | exact HK.out)))); have n2_ := aM_ (Kd.R_lower ho1 (keep_size (w := w) (g := g) (row := none) (by repeat (first | (with_reducible first | exact HK.out | apply pS_ | apply pN_ | apply pD_ | apply pA_ | refine keep_far ?_ GW251.out _) | exact HK.out)))); have n3_ := aM_ (KeepBut.trans (by repeat (first | (with_reducible first | exact HK.out | apply pS_ | apply pN_ | apply pD_ | apply pA_ | refine keep_far ?_ GW251.out _) | exact HK.out)) hk (.inl rfl)); have n4_ := aM_ (hb); have n5_ := aM_ (hi); clear BK251; clear HK; clear HB; clear HI0; have BK251 := n0_; have HO258 := n1_; have HO261 := n2_; have HK := n3_; have HB := n4_; have HI0 := n5_; clear n0_ n1_ n2_ n3_ n4_ n5_; (try clear hb); (try clear hb2); (try clear hk); (try clear hi); (try clear ho0); (try clear ho1)) | ((with_reducible refine gate_dst (N := 3) rfl ?_); refine box_event ?hg (N := 3) ?hd (cs := #[.int .i64 0, .int .i64 0, .int .i64 0, .int .i64 0, .slice none 0 0, .slice none 0 0]) (t := 25) ?hr ?_; (case hd => rfl); (case hg => rfl); (case hr => first | (go_simp; done) | (go_simp; rfl)); intro gb263 hg w23 hbox hb; have n0_ := aM_ (Kd.R_below (by (with_reducible repeat (first | apply rA_ | apply rN_ | apply rD_)); exact HO258.out) hb); have n1_ := aM_ (Kd.R_below (by (with_reducible repeat (first | apply rA_ | apply rN_ | apply rD_)); exact HO261.out) hb); have n2_ := aM_ (IsS111.below (by repeat (first | (with_reducible first | exact HI0.out | apply IsS111.alloc | apply IsS111.drewN | apply IsS111.drew | apply IsS111.set_1 | refine IsS111.far ?_ NB0_251.out _) | exact HI0.out)) hb); have n3_ := aM_ (blk_below (g := gb251) (by (with_reducible repeat (first | apply kN_ | apply kD_ | apply kA_)); exact BK251.out) hb); have n4_ := aM_ (KeepBut.trans (by repeat (first | (with_reducible first | exact HK.out | apply pS_ | apply pN_ | apply pD_ | apply pA_ | refine keep_far ?_ GW251.out _) | exact HK.out)) (KeepBut.of_below hb g none) (.inl rfl)); have n5_ := aM_ (below_step (by repeat (first | (with_reducible first | exact HB.out | apply wA_ | apply wN_ | apply wD_ | refine below_set ?_ (IsS111.ge HI0.out) | refine below_set ?_ GE251.out) | exact HB.out)) hb); have n6_ := aM_ (hbox); have n7_ := aM_ ((by rw [hg]; exact (keep_size (w := w) (g := g) (row := none) (by repeat (first | (with_reducible first | exact HK.out | apply pS_ | apply pN_ | apply pD_ | apply pA_ | refine keep_far ?_ GW251.out _) | exact HK.out))) : w.heap.size ≤ gb263)); have n8_ := aM_ ((Nat.le_trans HW0.out (by rw [hg]; exact (keep_size (w := w) (g := g) (row := none) (by repeat (first | (with_reducible first | exact HK.out | apply pS_ | apply pN_ | apply pD_ | apply pA_ | refine keep_far ?_ GW251.out _) | exact HK.out))) : w.heap.size ≤ gb263) : w0.heap.size ≤ gb263)); have n9_ := aM_ ((by rw [hg]; exact Nat.ne_of_lt (blk_lt (g := gb251) (by (with_reducible repeat (first | apply kN_ | apply kD_ | apply kA_)); exact BK251.out)) : gb251 ≠ gb263)); have n10_ := aM_ n9_.out.symm; have n11_ := aM_ ((by rw [hg]; exact Nat.ne_of_lt (IsS111.lt (show IsS111 w0 _ g s0_0 t262 from by repeat (first | (with_reducible first | exact HI0.out | apply IsS111.alloc | apply IsS111.drewN | apply IsS111.drew | apply IsS111.set_1 | refine IsS111.far ?_ NB0_251.out _) | exact HI0.out))) : g ≠ gb263)); have n12_ := aM_ n11_.out.symm; clear HO258; clear HO261; clear HI0; clear BK251; clear HK; clear HB; have HO258 := n0_; have HO261 := n1_; have HI0 := n2_; have BK251 := n3_; have HK := n4_; have HB := n5_; have BK263 := n6_; have GW263 := n7_; have GE263 := n8_; have NB251_263 := n9_; have NB263_251 := n10_; have NB0_263 := n11_; have NB263_0 := n12_; clear n0_ n1_ n2_ n3_ n4_ n5_ n6_ n7_ n8_ n9_ n10_ n11_ n12_; clear hb hbox hg; have hnb24 := NB263_251.out; have hnc24 := NB251_263.out; have hnb25 := NB263_0.out; have hnc25 := NB0_263.out; obtain ⟨hcz26_0, hcz26_1, hcz26_2, hcz26_3, hcz26_4, hcz26_5⟩ := bc6 BK263.out; obtain ⟨hfz26_0, hfz26_1, hfz26_2, hfz26_3, hfz26_4, hfz26_5⟩ := bf6 BK263.out; obtain ⟨Ao27, co27, eo27⟩ := Kd.R_slice HO258.out; subst eo27; obtain ⟨Ao28, co28, eo28⟩ := Kd.R_slice HO261.out; subst eo28) | ((with_reducible refine gate_callee (f := 80) rfl ?_); refine goesL_ (some 7) rfl rfl Try.func80 (by kernel_rfl) rfl #[.pointer (some ⟨g, 0, none⟩), .int .i64 14] rfl (by (try simp only [List.map_toArray, List.map_cons, List.map_nil]); first | done | rfl | (simp only [List.length_drop, List.length_take]; rfl)) ?_; (with_reducible refine (spec_l1Rd_pick.calls k g s0_0 t262 14 t264 t265 w0 _ ?side1 ?side2 A3.out).mono ?_); (case side1 => repeat (first | (with_reducible first | exact HI0.out | apply IsS111.alloc | apply IsS111.drewN | apply IsS111.drew | apply IsS111.set_1 | refine IsS111.far ?_ NB0_251.out _ | refine IsS111.far ?_ NB0_263.out _) | exact HI0.out)); (case side2 => repeat (first | (with_reducible first | exact HB.out | apply wA_ | apply wN_ | apply wD_ | refine below_set ?_ (IsS111.ge HI0.out) | refine below_set ?_ GE251.out | refine below_set ?_ GE263.out) | exact HB.out)); rintro e w29 ⟨rfl, hi, hb, hk⟩; refine ⟨_, rfl, ?_⟩; have n0_ := aM_ (KeepBut.blk hk (g' := gb251) (o := .cells #[.int .i64 0, .int .i64 0, .int .i64 0, .int .i64 0, .slice none 0 0, .slice none 0 0] 25 (0, 0)) (by (with_reducible repeat (first | apply kN_ | apply kD_ | apply kA_)); refine blk_far ?_ NB251_263.out _; (with_reducible repeat (first | apply kN_ | apply kD_ | apply kA_)); refine blk_far ?_ NB251_263.out _; (with_reducible repeat (first | apply kN_ | apply kD_ | apply kA_)); refine blk_far ?_ NB251_263.out _; (with_reducible repeat (first | apply kN_ | apply kD_ | apply kA_)); refine blk_far ?_ NB251_263.out _; (with_reducible repeat (first | apply kN_ | apply kD_ | apply kA_)); refine blk_far ?_ NB251_263.out _; (with_reducible repeat (first | apply kN_ | apply kD_ | apply kA_)); refine blk_far ?_ NB251_263.out _; (with_reducible repeat (first | apply kN_ | apply kD_ | apply kA_)); exact BK251.out) NB251_0.out (by simp)); have n1_ := aM_ (Kd.R_mono (Kd.R_keep (IsS111.apart (show IsS111 w0 _ g s0_0 t262 from by repeat (first | (with_reducible first | exact HI0.out | apply IsS111.alloc | apply IsS111.drewN | apply IsS111.drew | apply IsS111.set_1 | refine IsS111.far ?_ NB0_251.out _ | refine IsS111.far ?_ NB0_263.out _) | exact HI0.out)) (by (with_reducible repeat (first | apply rA_ | apply rN_ | apply rD_)); exact (Kd.R_mono (Kd.R_far (Kd.R_far (Kd.R_far (Kd.R_far (Kd.R_far (Kd.R_far (Kd.R_types HO258.out BK263.out (by decide)) (fun _ hk => hk.2) (.int .i64 t252)) (fun _ hk => hk.2) (.int .i64 t253)) (fun _ hk => hk.2) (.int .i64 t254)) (fun _ hk => hk.2) (.int .i64 t255)) (fun _ hk => hk.2) (.slice Ao27 t256.length co27)) (fun _ hk => hk.2) (.slice Ao28 t259.length co28)) (fun _ h_ => h_.1))) (by decide)) hk (fun _ h => h.2)) (fun _ h => h.1)); have n2_ := aM_ (Kd.R_mono (Kd.R_keep (IsS111.apart (show IsS111 w0 _ g s0_0 t262 from by repeat (first | (with_reducible first | exact HI0.out | apply IsS111.alloc | apply IsS111.drewN | apply IsS111.drew | apply IsS111.set_1 | refine IsS111.far ?_ NB0_251.out _ | refine IsS111.far ?_ NB0_263.out _) | exact HI0.out)) (by (with_reducible repeat (first | apply rA_ | apply rN_ | apply rD_)); exact (Kd.R_mono (Kd.R_far (Kd.R_far (Kd.R_far (Kd.R_far (Kd.R_far (Kd.R_far (Kd.R_types HO261.out BK263.out (by decide)) (fun _ hk => hk.2) (.int .i64 t252)) (fun _ hk => hk.2) (.int .i64 t253)) (fun _ hk => hk.2) (.int .i64 t254)) (fun _ hk => hk.2) (.int .i64 t255)) (fun _ hk => hk.2) (.slice Ao27 t256.length co27)) (fun _ hk => hk.2) (.slice Ao28 t259.length co28)) (fun _ h_ => h_.1))) (by decide)) hk (fun _ h => h.2)) (fun _ h => h.1)); have n3_ := aM_ (KeepBut.blk hk (g' := gb263) (o := .cells #[.int .i64 t252, .int .i64 t253, .int .i64 t254, .int .i64 t255, .slice Ao27 t256.length co27, .slice Ao28 t259.length co28] 25 (0, 0)) (by (with_reducible repeat (first | apply kN_ | apply kD_ | apply kA_)); refine blk_put (cs := #[.int .i64 t252, .int .i64 t253, .int .i64 t254, .int .i64 t255, .slice Ao27 t256.length co27, .slice none 0 0]) ?_ 5 _ rfl; (with_reducible repeat (first | apply kN_ | apply kD_ | apply kA_)); refine blk_put (cs := #[.int .i64 t252, .int .i64 t253, .int .i64 t254, .int .i64 t255, .slice none 0 0, .slice none 0 0]) ?_ 4 _ rfl; (with_reducible repeat (first | apply kN_ | apply kD_ | apply kA_)); refine blk_put (cs := #[.int .i64 t252, .int .i64 t253, .int .i64 t254, .int .i64 0, .slice none 0 0, .slice none 0 0]) ?_ 3 _ rfl; (with_reducible repeat (first | apply kN_ | apply kD_ | apply kA_)); refine blk_put (cs := #[.int .i64 t252, .int .i64 t253, .int .i64 0, .int .i64 0, .slice none 0 0, .slice none 0 0]) ?_ 2 _ rfl; (with_reducible repeat (first | apply kN_ | apply kD_ | apply kA_)); refine blk_put (cs := #[.int .i64 t252, .int .i64 0, .int .i64 0, .int .i64 0, .slice none 0 0, .slice none 0 0]) ?_ 1 _ rfl; (with_reducible repeat (first | apply kN_ | apply kD_ | apply kA_)); refine blk_put (cs := #[.int .i64 0, .int .i64 0, .int .i64 0, .int .i64 0, .slice none 0 0, .slice none 0 0]) ?_ 0 _ rfl; (with_reducible repeat (first | apply kN_ | apply kD_ | apply kA_)); exact BK263.out) NB263_0.out (by simp)); have n4_ := aM_ (KeepBut.trans (by repeat (first | (with_reducible first | exact HK.out | apply pS_ | apply pN_ | apply pD_ | apply pA_ | refine keep_far ?_ GW251.out _ | refine keep_far ?_ GW263.out _) | exact HK.out)) hk (.inl rfl)); have n5_ := aM_ (hb); have n6_ := aM_ (hi); clear BK251; clear HO258; clear HO261; clear BK263; clear HK; clear HB; clear HI0; have BK251 := n0_; have HO258 := n1_; have HO261 := n2_; have BK263 := n3_; have HK := n4_; have HB := n5_; have HI0 := n6_; clear n0_ n1_ n2_ n3_ n4_ n5_ n6_; (try clear hb); (try clear hb2); (try clear hk); (try clear hi); obtain ⟨hcz30_0, hcz30_1, hcz30_2, hcz30_3, hcz30_4, hcz30_5⟩ := bc6 BK263.out; obtain ⟨hfz30_0, hfz30_1, hfz30_2, hfz30_3, hfz30_4, hfz30_5⟩ := bf6 BK263.out; have hnb31 := NB251_0.out; have hnc31 := NB0_251.out; obtain ⟨hcz32_0, hcz32_1, hcz32_2, hcz32_3, hcz32_4, hcz32_5⟩ := bc6 BK251.out; obtain ⟨hfz32_0, hfz32_1, hfz32_2, hfz32_3, hfz32_4, hfz32_5⟩ := bf6 BK251.out))
  refine bodyPost_ret (results_cell_row rfl _ _ gb251 25 #[.int .i64 t252, .int .i64 t253, .int .i64 t254, .int .i64 t255, .slice Ao27 t256.length co27, .slice Ao28 t259.length co28] (0, 0) _ rfl (by (with_reducible repeat (first | apply kN_ | apply kD_ | apply kA_)); refine blk_put (cs := #[.int .i64 t252, .int .i64 t253, .int .i64 t254, .int .i64 t255, .slice Ao27 t256.length co27, .slice none 0 0]) ?_ 5 _ rfl; (with_reducible repeat (first | apply kN_ | apply kD_ | apply kA_)); refine blk_put (cs := #[.int .i64 t252, .int .i64 t253, .int .i64 t254, .int .i64 t255, .slice none 0 0, .slice none 0 0]) ?_ 4 _ rfl; (with_reducible repeat (first | apply kN_ | apply kD_ | apply kA_)); refine blk_put (cs := #[.int .i64 t252, .int .i64 t253, .int .i64 t254, .int .i64 0, .slice none 0 0, .slice none 0 0]) ?_ 3 _ rfl; (with_reducible repeat (first | apply kN_ | apply kD_ | apply kA_)); refine blk_put (cs := #[.int .i64 t252, .int .i64 t253, .int .i64 0, .int .i64 0, .slice none 0 0, .slice none 0 0]) ?_ 2 _ rfl; (with_reducible repeat (first | apply kN_ | apply kD_ | apply kA_)); refine blk_put (cs := #[.int .i64 t252, .int .i64 0, .int .i64 0, .int .i64 0, .slice none 0 0, .slice none 0 0]) ?_ 1 _ rfl; (with_reducible repeat (first | apply kN_ | apply kD_ | apply kA_)); refine blk_put (cs := #[.int .i64 0, .int .i64 0, .int .i64 0, .int .i64 0, .slice none 0 0, .slice none 0 0]) ?_ 0 _ rfl; (with_reducible repeat (first | apply kN_ | apply kD_ | apply kA_)); exact BK251.out) Try.underlying25 rfl (by kernel_rfl)) rfl ?_
  exact ⟨_, _, by first | rfl | (simp [errW_none, errW_some] <;> rfl) | (simp [*, errW_none, errW_some] <;> rfl), by (with_reducible repeat (first | apply rA_ | apply rN_ | apply rD_)); exact Kd.R_mono (Kd.R_far (Kd.R_far (Kd.R_far (Kd.R_far (Kd.R_far (Kd.R_far (Kd.R_types HO258.out BK251.out (by decide)) (fun _ hk => hk.2) (.int .i64 t252)) (fun _ hk => hk.2) (.int .i64 t253)) (fun _ hk => hk.2) (.int .i64 t254)) (fun _ hk => hk.2) (.int .i64 t255)) (fun _ hk => hk.2) (.slice Ao27 t256.length co27)) (fun _ hk => hk.2) (.slice Ao28 t259.length co28)) (fun _ hk => hk.1), Kd.Q_of_R (by (with_reducible repeat (first | apply rA_ | apply rN_ | apply rD_)); exact Kd.R_mono (Kd.R_far (Kd.R_far (Kd.R_far (Kd.R_far (Kd.R_far (Kd.R_far (Kd.R_types HO261.out BK251.out (by decide)) (fun _ hk => hk.2) (.int .i64 t252)) (fun _ hk => hk.2) (.int .i64 t253)) (fun _ hk => hk.2) (.int .i64 t254)) (fun _ hk => hk.2) (.int .i64 t255)) (fun _ hk => hk.2) (.slice Ao27 t256.length co27)) (fun _ hk => hk.2) (.slice Ao28 t259.length co28)) (fun _ hk => hk.1)), by repeat (first | (with_reducible first | exact HI0.out | apply IsS111.alloc | apply IsS111.drewN | apply IsS111.drew | apply IsS111.set_1 | refine IsS111.far ?_ NB0_251.out _ | refine IsS111.far ?_ NB0_263.out _) | exact HI0.out), by repeat (first | (with_reducible first | exact HB.out | apply wA_ | apply wN_ | apply wD_ | refine below_set ?_ (IsS111.ge HI0.out) | refine below_set ?_ GE251.out | refine below_set ?_ GE263.out) | exact HB.out), by repeat (first | (with_reducible first | exact HK.out | apply pS_ | apply pN_ | apply pD_ | apply pA_ | refine keep_far ?_ GW251.out _ | refine keep_far ?_ GW263.out _) | exact HK.out)⟩

/-! ### spec_l1Open: function 67 -/
def spec_l1Open.f (l0 : List Int) : Option (List Int × Int) := if (l0.length : Int) > 2000 then (if 2000 ≤ (l0.length : Int) then (some (l0.take 2000, 0)) else (none)) else (some (l0, 0))
set_option maxHeartbeats 8000000 in
set_option maxRecDepth 100000 in
theorem spec_l1Open.calls (A0 : Option Addr) (c0 : Nat) (l0 : List Int) (r1 : List Int) (r2 : Int) (w0 w : World) (hB : Below w0.heap.size w0 w) (hr0 : Kd.C (Kd.int .u8) w0 A0 l0.length l0) (hc0 : l0.length ≤ c0) (h : spec_l1Open.f l0 = some (r1, r2)) :
  Calls Try.prog 67 #[.slice A0 l0.length c0] w fun e w' => ∃ g_ : Nat, e = .returned (.pointer (some ⟨g_, 0, none⟩)) ∧ IsS111 w0 w' g_ r1 r2 ∧ Below w0.heap.size w0 w' ∧ Below w.heap.size w w' := by
 have hu111 := Try.underlying111
 have HR0 := aM_ hr0
 have HC0 := aM_ hc0
 clear hr0 hc0
 have HBW := aM_ (Below.refl w.heap.size w)
 have HW0 := aM_ hB.size
 have HB := aM_ hB
 clear hB
 have H : (if (l0.length : Int) > 2000 then (if 2000 ≤ (l0.length : Int) then (some (l0.take 2000, 0)) else (none)) else (some (l0, 0))) = some (r1, r2) := h
 clear h
 by_cases c2 : (l0.length : Int) > 2000
 ·rw [if_pos c2] at H
  have c2b0 : decide (2000 < (l0.length : Int)) = true := decide_eq_true c2
  have c2b1 : decide (2000 < l0.length) = true := decide_eq_true (by omega)
  clear c2
  by_cases c3 : 2000 ≤ (l0.length : Int)
  ·rw [if_pos c3] at H
   have c3b0 := eq_true c3
   have c3b1 : decide (2000 ≤ (l0.length : Int)) = true := decide_eq_true c3
   clear c3
   simp only [Option.some.injEq, Prod.mk.injEq] at H
   obtain ⟨rfl, rfl⟩ := H
   obtain ⟨i04, hi04, _, hsz4, _⟩ := info_parts info5
   obtain ⟨hcut4, hA4, hC4⟩ := print_take_of (P := Try.prog) (Value.int .u8) 0 22 5 .i64 Try.underlying22 hi04 hsz4 A0 c0 l0 2000 (by omega) (of_decide_eq_true (by first | (with_reducible assumption) | assumption)) HC0.out
   have HR277 := aM_ (Kd.C_of_reads (h1 := fun _ => rfl) (hA4 _ (Kd.reads_of_C HR0.out)))
   have HC277 := aM_ hC4
   clear hA4 hC4 hi04 hsz4
   go_enter Try.func67, Try.ntmps67
   go_wp2_with (first | ((with_reducible refine gate_dst (N := 10) rfl ?_); refine box_event ?hg (N := 10) ?hd (cs := #[.slice A0 (l0.take 2000).length c0, .int .i64 0]) (t := 111) ?hr ?_; (case hd => rfl); (case hg => rfl); (case hr => first | (go_simp; done) | (go_simp; rfl)); intro gb278 hg w5 hbox hb; have n0_ := aM_ (below_step HBW.out hb); have n1_ := aM_ (below_step (by repeat (first | (with_reducible first | exact HB.out | apply wA_ | apply wN_ | apply wD_) | exact HB.out)) hb); have n2_ := aM_ (hbox); have n3_ := aM_ ((by rw [hg]; exact (below_size (by repeat (first | (with_reducible first | exact HBW.out | apply wA_ | apply wN_ | apply wD_) | exact HBW.out))) : w.heap.size ≤ gb278)); have n4_ := aM_ ((Nat.le_trans HW0.out (by rw [hg]; exact (below_size (by repeat (first | (with_reducible first | exact HBW.out | apply wA_ | apply wN_ | apply wD_) | exact HBW.out))) : w.heap.size ≤ gb278) : w0.heap.size ≤ gb278)); clear HBW; clear HB; have HBW := n0_; have HB := n1_; have BK278 := n2_; have GW278 := n3_; have GE278 := n4_; clear n0_ n1_ n2_ n3_ n4_; clear hb hbox hg))
   go_ret
   exact ⟨_, rfl, (show IsS111 w0 _ gb278 (l0.take 2000) 0 from ⟨_, _, by (with_reducible repeat (first | apply kN_ | apply kD_ | apply kA_)); exact BK278.out, GE278.out, HR277.out⟩), by repeat (first | (with_reducible first | exact HB.out | apply wA_ | apply wN_ | apply wD_ | refine below_set ?_ GE278.out) | exact HB.out), by repeat (first | (with_reducible first | exact HBW.out | apply wA_ | apply wN_ | apply wD_ | refine below_set ?_ GW278.out) | exact HBW.out)⟩
  ·rw [if_neg c3] at H
   exact absurd H (by simp)
 ·rw [if_neg c2] at H
  have c2b0 : decide (2000 < (l0.length : Int)) = false := decide_eq_false c2
  have c2b1 : decide (2000 < l0.length) = false := decide_eq_false (by omega)
  clear c2
  simp only [Option.some.injEq, Prod.mk.injEq] at H
  obtain ⟨rfl, rfl⟩ := H
  go_enter Try.func67, Try.ntmps67
  go_wp2_with (first | ((with_reducible refine gate_dst (N := 10) rfl ?_); refine box_event ?hg (N := 10) ?hd (cs := #[.slice A0 l0.length c0, .int .i64 0]) (t := 111) ?hr ?_; (case hd => rfl); (case hg => rfl); (case hr => first | (go_simp; done) | (go_simp; rfl)); intro gb279 hg w6 hbox hb; have n0_ := aM_ (below_step HBW.out hb); have n1_ := aM_ (below_step (by repeat (first | (with_reducible first | exact HB.out | apply wA_ | apply wN_ | apply wD_) | exact HB.out)) hb); have n2_ := aM_ (hbox); have n3_ := aM_ ((by rw [hg]; exact (below_size (by repeat (first | (with_reducible first | exact HBW.out | apply wA_ | apply wN_ | apply wD_) | exact HBW.out))) : w.heap.size ≤ gb279)); have n4_ := aM_ ((Nat.le_trans HW0.out (by rw [hg]; exact (below_size (by repeat (first | (with_reducible first | exact HBW.out | apply wA_ | apply wN_ | apply wD_) | exact HBW.out))) : w.heap.size ≤ gb279) : w0.heap.size ≤ gb279)); clear HBW; clear HB; have HBW := n0_; have HB := n1_; have BK279 := n2_; have GW279 := n3_; have GE279 := n4_; clear n0_ n1_ n2_ n3_ n4_; clear hb hbox hg))
  go_ret
  exact ⟨_, rfl, (show IsS111 w0 _ gb279 l0 0 from ⟨_, _, by (with_reducible repeat (first | apply kN_ | apply kD_ | apply kA_)); exact BK279.out, GE279.out, HR0.out⟩), by repeat (first | (with_reducible first | exact HB.out | apply wA_ | apply wN_ | apply wD_ | refine below_set ?_ GE279.out) | exact HB.out), by repeat (first | (with_reducible first | exact HBW.out | apply wA_ | apply wN_ | apply wD_ | refine below_set ?_ GW279.out) | exact HBW.out)⟩

/-! ### spec_DrawImageRgb: function 20 -/
def spec_DrawImageRgb.f (k : Nat) (l0 : List Int) : Option (Int × Int × Int × Int × List Int × List Int) := (spec_l1Open.f l0).bind fun bt281 => ((spec_l14Any.f k bt281.1 bt281.2).bind fun bt284 => (some (bt284.1, bt284.2.1, bt284.2.2.1, bt284.2.2.2.1, bt284.2.2.2.2.1, bt284.2.2.2.2.2.1)))
theorem spec_DrawImageRgb.mono : ∀ a0 k, LeO (spec_DrawImageRgb.f k a0) (spec_DrawImageRgb.f (k + 1) a0) := by
 intro a0 k
 unfold spec_DrawImageRgb.f
 repeat' first
   | (with_reducible exact spec_l14Any.mono _ _ _)
   | (with_reducible exact LeO.refl _)
   | (with_reducible exact LeO.none _)
   | (with_reducible refine LeO.ite ?_ ?_)
   | (with_reducible refine LeO.bind ?_ (fun _ => ?_))
set_option maxHeartbeats 8000000 in
set_option maxRecDepth 100000 in
theorem spec_DrawImageRgb.calls (k : Nat) (A0 : Option Addr) (c0 : Nat) (l0 : List Int) (r1 : Int) (r2 : Int) (r3 : Int) (r4 : Int) (r5 : List Int) (r6 : List Int) (w : World) (hr0 : Kd.C (Kd.int .u8) w A0 l0.length l0) (hc0 : l0.length ≤ c0) (h : spec_DrawImageRgb.f k l0 = some (r1, r2, r3, r4, r5, r6)) :
  Calls Try.prog 20 #[.slice A0 l0.length c0] w fun e w' => ∃ v4_ v5_ : Value, e = .returned (.agg #[.int .i64 r1, .int .i64 r2, .int .i64 r3, .int .i64 r4, v4_, v5_]) ∧ Kd.R (Kd.int .i64) 3 w' w.heap.size (fun k_ => some k_ ≠ (v5_ : Value).ownBlock) v4_ r5 ∧ Kd.Q (Kd.int .i64) 3 w' w.heap.size (fun k_ => some k_ ≠ (v4_ : Value).ownBlock) v5_ r6 ∧ Below w.heap.size w w' := by
 have hu25 := Try.underlying25
 have HR0 := aM_ hr0
 have HC0 := aM_ hc0
 clear hr0 hc0
 have HB := aM_ (Below.refl w.heap.size w)
 have H : ((spec_l1Open.f l0).bind fun bt281 => ((spec_l14Any.f k bt281.1 bt281.2).bind fun bt284 => (some (bt284.1, bt284.2.1, bt284.2.2.1, bt284.2.2.2.1, bt284.2.2.2.2.1, bt284.2.2.2.2.2.1)))) = some (r1, r2, r3, r4, r5, r6) := h
 clear h
 replace H := Option.bind_eq_some_iff.mp H
 obtain ⟨⟨t281, t282⟩, A20, H⟩ := H
 replace H : ((spec_l14Any.f k t281 t282).bind fun bt284 => (some (bt284.1, bt284.2.1, bt284.2.2.1, bt284.2.2.2.1, bt284.2.2.2.2.1, bt284.2.2.2.2.2.1))) = some (r1, r2, r3, r4, r5, r6) := H
 have A2 := aM_ A20
 clear A20
 replace H := Option.bind_eq_some_iff.mp H
 obtain ⟨⟨t284, t285, t286, t287, t288, t291, t294⟩, A30, H⟩ := H
 replace H : (some (t284, t285, t286, t287, t288, t291)) = some (r1, r2, r3, r4, r5, r6) := H
 have A3 := aM_ A30
 clear A30
 simp only [Option.some.injEq, Prod.mk.injEq] at H
 obtain ⟨rfl, rfl, rfl, rfl, rfl, rfl⟩ := H
 go_enter Try.func20, Try.ntmps20
 go_wp2_with (first | ((with_reducible refine gate_dst (N := 2) rfl ?_); refine box_event ?hg (N := 2) ?hd (cs := #[.int .i64 0, .int .i64 0, .int .i64 0, .int .i64 0, .slice none 0 0, .slice none 0 0]) (t := 25) ?hr ?_; (case hd => rfl); (case hg => rfl); (case hr => first | (go_simp; done) | (go_simp; rfl)); intro gb280 hg w4 hbox hb; have n0_ := aM_ (below_step (by repeat (first | (with_reducible first | exact HB.out | apply wA_ | apply wN_ | apply wD_) | exact HB.out)) hb); have n1_ := aM_ (hbox); have n2_ := aM_ ((by rw [hg]; exact (below_size (by repeat (first | (with_reducible first | exact HB.out | apply wA_ | apply wN_ | apply wD_) | exact HB.out))) : w.heap.size ≤ gb280)); have n3_ := aM_ ((by rw [hg]; exact (below_size (by repeat (first | (with_reducible first | exact HB.out | apply wA_ | apply wN_ | apply wD_) | exact HB.out))) : w.heap.size ≤ gb280)); clear HB; have HB := n0_; have BK280 := n1_; have GW280 := n2_; have GE280 := n3_; clear n0_ n1_ n2_ n3_; clear hb hbox hg) | ((with_reducible refine gate_callee (f := 67) rfl ?_); refine goesL_ (some 4) rfl rfl Try.func67 (by kernel_rfl) rfl #[.slice A0 l0.length c0] rfl (by (try simp only [List.map_toArray, List.map_cons, List.map_nil]); first | done | rfl | (simp only [List.length_drop, List.length_take]; rfl)) ?_; (with_reducible refine (spec_l1Open.calls _ _ l0 t281 t282 w _ ?side1 ?side2 ?side3 A2.out).mono ?_); (case side1 => repeat (first | (with_reducible first | exact HB.out | apply wA_ | apply wN_ | apply wD_ | refine below_set ?_ GE280.out) | exact HB.out)); (case side2 => exact HR0.out); (case side3 => exact HC0.out); rintro e w5 ⟨g283, rfl, hi, hb, hb2⟩; refine ⟨_, rfl, ?_⟩; have n0_ := aM_ (blk_below (g := gb280) (by (with_reducible repeat (first | apply kN_ | apply kD_ | apply kA_)); exact BK280.out) hb2); have n1_ := aM_ (hb); have n2_ := aM_ (hi); have n3_ := aM_ (IsS111.ne_blk hi (blk_below (g := gb280) (by (with_reducible repeat (first | apply kN_ | apply kD_ | apply kA_)); exact BK280.out) hb2) (by decide)); have n4_ := aM_ (Ne.symm (IsS111.ne_blk hi (blk_below (g := gb280) (by (with_reducible repeat (first | apply kN_ | apply kD_ | apply kA_)); exact BK280.out) hb2) (by decide))); clear BK280; clear HB; have BK280 := n0_; have HB := n1_; have HI283 := n2_; have NB283_280 := n3_; have NB280_283 := n4_; clear n0_ n1_ n2_ n3_ n4_; (try clear hb); (try clear hb2); (try clear hk); (try clear hi)) | ((with_reducible refine gate_callee (f := 66) rfl ?_); refine goesL_ (some 5) rfl rfl Try.func66 (by kernel_rfl) rfl #[.pointer (some ⟨g283, 0, none⟩)] rfl (by (try simp only [List.map_toArray, List.map_cons, List.map_nil]); first | done | rfl | (simp only [List.length_drop, List.length_take]; rfl)) ?_; (with_reducible refine (spec_l14Any.calls k g283 t281 t282 t284 t285 t286 t287 t288 t291 t294 w _ ?side1 ?side2 A3.out).mono ?_); (case side1 => repeat (first | (with_reducible first | exact HI283.out | apply IsS111.alloc | apply IsS111.drewN | apply IsS111.drew | apply IsS111.set_1 | refine IsS111.far ?_ NB283_280.out _) | exact HI283.out)); (case side2 => repeat (first | (with_reducible first | exact HB.out | apply wA_ | apply wN_ | apply wD_ | refine below_set ?_ (IsS111.ge HI283.out) | refine below_set ?_ GE280.out) | exact HB.out)); rintro e w6 ⟨v289, v292, rfl, ho0, ho1, hi, hb, hk⟩; refine ⟨_, rfl, ?_⟩; have n0_ := aM_ (KeepBut.blk hk (g' := gb280) (o := .cells #[.int .i64 0, .int .i64 0, .int .i64 0, .int .i64 0, .slice none 0 0, .slice none 0 0] 25 (0, 0)) (by (with_reducible repeat (first | apply kN_ | apply kD_ | apply kA_)); exact BK280.out) NB280_283.out (by simp)); have n1_ := aM_ (Kd.R_lower ho0 (below_size (by repeat (first | (with_reducible first | exact HB.out | apply wA_ | apply wN_ | apply wD_ | refine below_set ?_ (IsS111.ge HI283.out) | refine below_set ?_ GE280.out) | exact HB.out)))); have n2_ := aM_ (Kd.Q_lower ho1 (below_size (by repeat (first | (with_reducible first | exact HB.out | apply wA_ | apply wN_ | apply wD_ | refine below_set ?_ (IsS111.ge HI283.out) | refine below_set ?_ GE280.out) | exact HB.out)))); have n3_ := aM_ (hb); have n4_ := aM_ (hi); clear BK280; clear HB; clear HI283; have BK280 := n0_; have HO290 := n1_; have HO293 := n2_; have HB := n3_; have HI283 := n4_; clear n0_ n1_ n2_ n3_ n4_; (try clear hb); (try clear hb2); (try clear hk); (try clear hi); (try clear ho0); (try clear ho1); have hnb7 := NB280_283.out; have hnc7 := NB283_280.out; obtain ⟨hcz8_0, hcz8_1, hcz8_2, hcz8_3, hcz8_4, hcz8_5⟩ := bc6 BK280.out; obtain ⟨hfz8_0, hfz8_1, hfz8_2, hfz8_3, hfz8_4, hfz8_5⟩ := bf6 BK280.out; obtain ⟨Ao9, co9, eo9⟩ := Kd.R_slice HO290.out; subst eo9; obtain ⟨Ao10, co10, eo10, _⟩ := Kd.Q_slice HO293.out; subst eo10))
 refine bodyPost_ret (results_cell_row rfl _ _ gb280 25 #[.int .i64 t284, .int .i64 t285, .int .i64 t286, .int .i64 t287, .slice Ao9 t288.length co9, .slice Ao10 t291.length co10] (0, 0) _ rfl (by (with_reducible repeat (first | apply kN_ | apply kD_ | apply kA_)); refine blk_put (cs := #[.int .i64 t284, .int .i64 t285, .int .i64 t286, .int .i64 t287, .slice Ao9 t288.length co9, .slice none 0 0]) ?_ 5 _ rfl; (with_reducible repeat (first | apply kN_ | apply kD_ | apply kA_)); refine blk_put (cs := #[.int .i64 t284, .int .i64 t285, .int .i64 t286, .int .i64 t287, .slice none 0 0, .slice none 0 0]) ?_ 4 _ rfl; (with_reducible repeat (first | apply kN_ | apply kD_ | apply kA_)); refine blk_put (cs := #[.int .i64 t284, .int .i64 t285, .int .i64 t286, .int .i64 0, .slice none 0 0, .slice none 0 0]) ?_ 3 _ rfl; (with_reducible repeat (first | apply kN_ | apply kD_ | apply kA_)); refine blk_put (cs := #[.int .i64 t284, .int .i64 t285, .int .i64 0, .int .i64 0, .slice none 0 0, .slice none 0 0]) ?_ 2 _ rfl; (with_reducible repeat (first | apply kN_ | apply kD_ | apply kA_)); refine blk_put (cs := #[.int .i64 t284, .int .i64 0, .int .i64 0, .int .i64 0, .slice none 0 0, .slice none 0 0]) ?_ 1 _ rfl; (with_reducible repeat (first | apply kN_ | apply kD_ | apply kA_)); refine blk_put (cs := #[.int .i64 0, .int .i64 0, .int .i64 0, .int .i64 0, .slice none 0 0, .slice none 0 0]) ?_ 0 _ rfl; (with_reducible repeat (first | apply kN_ | apply kD_ | apply kA_)); exact BK280.out) Try.underlying25 rfl (by kernel_rfl)) rfl ?_
 exact ⟨_, _, by first | rfl | (simp [errW_none, errW_some] <;> rfl) | (simp [*, errW_none, errW_some] <;> rfl), by (with_reducible repeat (first | apply rA_ | apply rN_ | apply rD_)); exact Kd.R_mono (Kd.R_far (Kd.R_far (Kd.R_far (Kd.R_far (Kd.R_far (Kd.R_far (Kd.R_types HO290.out BK280.out (by decide)) (fun _ hk => hk.2) (.int .i64 t284)) (fun _ hk => hk.2) (.int .i64 t285)) (fun _ hk => hk.2) (.int .i64 t286)) (fun _ hk => hk.2) (.int .i64 t287)) (fun _ hk => hk.2) (.slice Ao9 t288.length co9)) (fun _ hk => hk.2) (.slice Ao10 t291.length co10)) (fun _ hk => hk.1), by (with_reducible repeat (first | apply Kd.Q_alloc | apply Kd.Q_drewN | apply Kd.Q_drew)); exact Kd.Q_mono (Kd.Q_far (Kd.Q_far (Kd.Q_far (Kd.Q_far (Kd.Q_far (Kd.Q_far (Kd.Q_types HO293.out BK280.out (by decide)) (fun _ hk => hk.2) (.int .i64 t284)) (fun _ hk => hk.2) (.int .i64 t285)) (fun _ hk => hk.2) (.int .i64 t286)) (fun _ hk => hk.2) (.int .i64 t287)) (fun _ hk => hk.2) (.slice Ao9 t288.length co9)) (fun _ hk => hk.2) (.slice Ao10 t291.length co10)) (fun _ hk => hk.1), by repeat (first | (with_reducible first | exact HB.out | apply wA_ | apply wN_ | apply wD_ | refine below_set ?_ (IsS111.ge HI283.out) | refine below_set ?_ GE280.out) | exact HB.out)⟩

/-! ### impl_ImageRgb: function 21 -/
def impl_ImageRgb.l0 : Nat → List Int → Int → Int → Int → Int → Int → Int → List Int → List Int → Int → Int → Int → Int → List Int → Option (Int × Int × Int × Int × List Int × List Int × Bool)
 | 0, _, _, _, _, _, _, _, _, _, _, _, _, _, _ => none
 | k + 1, x18, x19, x20, x296000, x296001, x296002, x296003, x296004, x296005, x299000, x299001, x299002, x299003, x299005 => if x20 < x19 then (if 0 ≤ x20 then (if x20 < (x18.length : Int) then ((impl_Image_color.f x296000 x296001 x296002 x296003 x296004 x296005 (rd x18 x20)).bind fun t300 => (if (Int.tmod t300 256) = 255 then (if x299005.length < 17592186044416 then (impl_ImageRgb.l0 k x18 x19 (wrap64 (x20 + 1)) x296000 x296001 x296002 x296003 x296004 x296005 x299000 x299001 x299002 x299003 (x299005 ++ [wrap64 (Int.tdiv t300 256)])) else (none)) else (some (0, 0, 0, 0, ([] : List Int), ([] : List Int), false)))) else (none)) else (none)) else (some (x299000, x299001, x299002, x299003, ([] : List Int), x299005, true))
def impl_ImageRgb.f (k : Nat) (a0_0 : Int) (a0_1 : Int) (a0_2 : Int) (a0_3 : Int) (l0_4 : List Int) (l0_5 : List Int) : Option (Int × Int × Int × Int × List Int × List Int × Bool) := (impl_ImageOk.f k a0_0 a0_1 a0_2 a0_3 l0_4 l0_5).bind fun t297 => (if t297 = true then (impl_ImageRgb.l0 k l0_5 (l0_5.length : Int) 0 a0_0 a0_1 a0_2 a0_3 l0_4 l0_5 2 24 a0_2 a0_3 ([] : List Int)) else (some (0, 0, 0, 0, ([] : List Int), ([] : List Int), false)))
theorem impl_ImageRgb.mono_l : ∀ k, (∀ y0 y1 y2 y3 y4 y5 y6 y7 y8 y9 y10 y11 y12 y13, LeO (impl_ImageRgb.l0 k y0 y1 y2 y3 y4 y5 y6 y7 y8 y9 y10 y11 y12 y13) (impl_ImageRgb.l0 (k + 1) y0 y1 y2 y3 y4 y5 y6 y7 y8 y9 y10 y11 y12 y13))
 | 0 => fun _ _ _ _ _ _ _ _ _ _ _ _ _ _ r h => by simp [impl_ImageRgb.l0] at h
 | k + 1 => by
  have ih0 := impl_ImageRgb.mono_l k
  ·intro y0 y1 y2 y3 y4 y5 y6 y7 y8 y9 y10 y11 y12 y13
   unfold impl_ImageRgb.l0
   repeat' first
   | (with_reducible exact ih0 _ _ _ _ _ _ _ _ _ _ _ _ _ _)
   | (with_reducible exact impl_ImageOk.mono _ _ _ _ _ _ _)
   | (with_reducible exact LeO.refl _)
   | (with_reducible exact LeO.none _)
   | (with_reducible refine LeO.ite ?_ ?_)
   | (with_reducible refine LeO.bind ?_ (fun _ => ?_))
theorem impl_ImageRgb.mono : ∀ a0 a1 a2 a3 a4 a5 k, LeO (impl_ImageRgb.f k a0 a1 a2 a3 a4 a5) (impl_ImageRgb.f (k + 1) a0 a1 a2 a3 a4 a5) := by
 intro a0 a1 a2 a3 a4 a5 k
 have ih0 := impl_ImageRgb.mono_l k
 unfold impl_ImageRgb.f
 repeat' first
   | (with_reducible exact ih0 _ _ _ _ _ _ _ _ _ _ _ _ _ _)
   | (with_reducible exact impl_ImageOk.mono _ _ _ _ _ _ _)
   | (with_reducible exact LeO.refl _)
   | (with_reducible exact LeO.none _)
   | (with_reducible refine LeO.ite ?_ ?_)
   | (with_reducible refine LeO.bind ?_ (fun _ => ?_))
set_option maxHeartbeats 8000000 in
set_option maxRecDepth 100000 in
theorem impl_ImageRgb.calls (k : Nat) (a0_0 : Int) (a0_1 : Int) (a0_2 : Int) (a0_3 : Int) (A0_4 : Option Addr) (c0_4 : Nat) (l0_4 : List Int) (A0_5 : Option Addr) (c0_5 : Nat) (l0_5 : List Int) (r1 : Int) (r2 : Int) (r3 : Int) (r4 : Int) (r5 : List Int) (r6 : List Int) (r7 : Bool) (w : World) (hr0_4 : Kd.C (Kd.int .i64) w A0_4 l0_4.length l0_4) (hc0_4 : l0_4.length ≤ c0_4) (hr0_5 : Kd.C (Kd.int .i64) w A0_5 l0_5.length l0_5) (hc0_5 : l0_5.length ≤ c0_5) (h : impl_ImageRgb.f k a0_0 a0_1 a0_2 a0_3 l0_4 l0_5 = some (r1, r2, r3, r4, r5, r6, r7)) :
  Calls Try.prog 21 #[.agg #[.int .i64 a0_0, .int .i64 a0_1, .int .i64 a0_2, .int .i64 a0_3, .slice A0_4 l0_4.length c0_4, .slice A0_5 l0_5.length c0_5]] w fun e w' => ∃ v4_ v5_ : Value, e = .returned (.tuple #[.agg #[.int .i64 r1, .int .i64 r2, .int .i64 r3, .int .i64 r4, v4_, v5_], .bool r7]) ∧ Kd.R (Kd.int .i64) 3 w' w.heap.size (fun k_ => some k_ ≠ (v5_ : Value).ownBlock) v4_ r5 ∧ Kd.R (Kd.int .i64) 3 w' w.heap.size (fun k_ => some k_ ≠ (v4_ : Value).ownBlock) v5_ r6 ∧ Below w.heap.size w w' := by
 have hu25 := Try.underlying25
 have HR0_4 := aM_ hr0_4
 have HC0_4 := aM_ hc0_4
 clear hr0_4 hc0_4
 have HR0_5 := aM_ hr0_5
 have HC0_5 := aM_ hc0_5
 clear hr0_5 hc0_5
 have HB := aM_ (Below.refl w.heap.size w)
 have H : ((impl_ImageOk.f k a0_0 a0_1 a0_2 a0_3 l0_4 l0_5).bind fun t297 => (if t297 = true then (impl_ImageRgb.l0 k l0_5 (l0_5.length : Int) 0 a0_0 a0_1 a0_2 a0_3 l0_4 l0_5 2 24 a0_2 a0_3 ([] : List Int)) else (some (0, 0, 0, 0, ([] : List Int), ([] : List Int), false)))) = some (r1, r2, r3, r4, r5, r6, r7) := h
 clear h
 replace H := Option.bind_eq_some_iff.mp H
 obtain ⟨t297, A20, H⟩ := H
 replace H : (if t297 = true then (impl_ImageRgb.l0 k l0_5 (l0_5.length : Int) 0 a0_0 a0_1 a0_2 a0_3 l0_4 l0_5 2 24 a0_2 a0_3 ([] : List Int)) else (some (0, 0, 0, 0, ([] : List Int), ([] : List Int), false))) = some (r1, r2, r3, r4, r5, r6, r7) := H
 have A2 := aM_ A20
 clear A20
 by_cases c3 : t297 = true
 ·subst c3
  have H1 : (impl_ImageRgb.l0 k l0_5 (l0_5.length : Int) 0 a0_0 a0_1 a0_2 a0_3 l0_4 l0_5 2 24 a0_2 a0_3 ([] : List Int)) = some (r1, r2, r3, r4, r5, r6, r7) := by first | (rw [if_pos rfl] at H; exact H) | rfl
  clear H
  have H := H1
  clear H1
  have H' := aM_ H
  clear H
  go_enter Try.func21, Try.ntmps21
  go_wp2_with (first | ((with_reducible refine gate_dst (N := 1) rfl ?_); refine box_event ?hg (N := 1) ?hd (cs := #[.int .i64 a0_0, .int .i64 a0_1, .int .i64 a0_2, .int .i64 a0_3, .slice A0_4 l0_4.length c0_4, .slice A0_5 l0_5.length c0_5]) (t := 25) ?hr ?_; (case hd => rfl); (case hg => rfl); (case hr => first | (go_simp; done) | (go_simp; rfl)); intro gb295 hg w4 hbox hb; have n0_ := aM_ (below_step (by repeat (first | (with_reducible first | exact HB.out | apply wA_ | apply wN_ | apply wD_) | exact HB.out)) hb); have n1_ := aM_ (hbox); have n2_ := aM_ ((by rw [hg]; exact (below_size (by repeat (first | (with_reducible first | exact HB.out | apply wA_ | apply wN_ | apply wD_) | exact HB.out))) : w.heap.size ≤ gb295)); have n3_ := aM_ ((by rw [hg]; exact (below_size (by repeat (first | (with_reducible first | exact HB.out | apply wA_ | apply wN_ | apply wD_) | exact HB.out))) : w.heap.size ≤ gb295)); clear HB; have HB := n0_; have BK295 := n1_; have GW295 := n2_; have GE295 := n3_; clear n0_ n1_ n2_ n3_; clear hb hbox hg) | ((with_reducible refine gate_dst (N := 2) rfl ?_); refine box_event ?hg (N := 2) ?hd (cs := #[.int .i64 0, .int .i64 0, .int .i64 0, .int .i64 0, .slice none 0 0, .slice none 0 0]) (t := 25) ?hr ?_; (case hd => rfl); (case hg => rfl); (case hr => first | (go_simp; done) | (go_simp; rfl)); intro gb296 hg w5 hbox hb; have n0_ := aM_ (blk_below (g := gb295) (by (with_reducible repeat (first | apply kN_ | apply kD_ | apply kA_)); exact BK295.out) hb); have n1_ := aM_ (below_step (by repeat (first | (with_reducible first | exact HB.out | apply wA_ | apply wN_ | apply wD_ | refine below_set ?_ GE295.out) | exact HB.out)) hb); have n2_ := aM_ (hbox); have n3_ := aM_ ((by rw [hg]; exact (below_size (by repeat (first | (with_reducible first | exact HB.out | apply wA_ | apply wN_ | apply wD_ | refine below_set ?_ GE295.out) | exact HB.out))) : w.heap.size ≤ gb296)); have n4_ := aM_ ((by rw [hg]; exact (below_size (by repeat (first | (with_reducible first | exact HB.out | apply wA_ | apply wN_ | apply wD_ | refine below_set ?_ GE295.out) | exact HB.out))) : w.heap.size ≤ gb296)); have n5_ := aM_ ((by rw [hg]; exact Nat.ne_of_lt (blk_lt (g := gb295) (by (with_reducible repeat (first | apply kN_ | apply kD_ | apply kA_)); exact BK295.out)) : gb295 ≠ gb296)); have n6_ := aM_ n5_.out.symm; clear BK295; clear HB; have BK295 := n0_; have HB := n1_; have BK296 := n2_; have GW296 := n3_; have GE296 := n4_; have NB295_296 := n5_; have NB296_295 := n6_; clear n0_ n1_ n2_ n3_ n4_ n5_ n6_; clear hb hbox hg; have hnb6 := NB295_296.out; have hnc6 := NB296_295.out; obtain ⟨hcz7_0, hcz7_1, hcz7_2, hcz7_3, hcz7_4, hcz7_5⟩ := bc6 BK295.out; obtain ⟨hfz7_0, hfz7_1, hfz7_2, hfz7_3, hfz7_4, hfz7_5⟩ := bf6 BK295.out) | ((with_reducible refine gate_callee (f := 24) rfl ?_); refine goesL_ (some 9) rfl rfl Try.func24 (by kernel_rfl) rfl #[.agg #[.int .i64 a0_0, .int .i64 a0_1, .int .i64 a0_2, .int .i64 a0_3, .slice A0_4 l0_4.length c0_4, .slice A0_5 l0_5.length c0_5]] rfl (by (try simp only [List.map_toArray, List.map_cons, List.map_nil]); first | done | rfl | (simp only [List.length_drop, List.length_take]; rfl)) ?_; (with_reducible refine (impl_ImageOk.calls k a0_0 a0_1 a0_2 a0_3 _ _ l0_4 _ _ l0_5 true _ ?side1 ?side2 ?side3 ?side4 A2.out).mono ?_); (case side1 => repeat (first | exact (Kd.C_below HR0_4.out HB.out) | (with_reducible refine Kd.C_alloc ?_ _) | (with_reducible refine Kd.C_drewN ?_ _) | (with_reducible refine Kd.C_drew ?_))); (case side2 => exact HC0_4.out); (case side3 => repeat (first | exact (Kd.C_below HR0_5.out HB.out) | (with_reducible refine Kd.C_alloc ?_ _) | (with_reducible refine Kd.C_drewN ?_ _) | (with_reducible refine Kd.C_drew ?_))); (case side4 => exact HC0_5.out); rintro e w8 ⟨rfl, hb⟩; refine ⟨_, rfl, ?_⟩; have n0_ := aM_ (blk_below (g := gb295) (by (with_reducible repeat (first | apply kN_ | apply kD_ | apply kA_)); exact BK295.out) hb); have n1_ := aM_ (blk_below (g := gb296) (by (with_reducible repeat (first | apply kN_ | apply kD_ | apply kA_)); exact BK296.out) hb); have n2_ := aM_ (below_step (by repeat (first | (with_reducible first | exact HB.out | apply wA_ | apply wN_ | apply wD_ | refine below_set ?_ GE295.out | refine below_set ?_ GE296.out) | exact HB.out)) hb); clear BK295; clear BK296; clear HB; have BK295 := n0_; have BK296 := n1_; have HB := n2_; clear n0_ n1_ n2_; (try clear hb); (try clear hb2); (try clear hk); (try clear hi); obtain ⟨hcz9_0, hcz9_1, hcz9_2, hcz9_3, hcz9_4, hcz9_5⟩ := bc6 BK295.out; obtain ⟨hfz9_0, hfz9_1, hfz9_2, hfz9_3, hfz9_4, hfz9_5⟩ := bf6 BK295.out) | ((with_reducible refine gate_dst (N := 4) rfl ?_); refine box_event ?hg (N := 4) ?hd (cs := #[.int .i64 0, .int .i64 0, .int .i64 0, .int .i64 0, .slice none 0 0, .slice none 0 0]) (t := 25) ?hr ?_; (case hd => rfl); (case hg => rfl); (case hr => first | (go_simp; done) | (go_simp; rfl)); intro gb298 hg w10 hbox hb; have n0_ := aM_ (blk_below (g := gb295) (by (with_reducible repeat (first | apply kN_ | apply kD_ | apply kA_)); exact BK295.out) hb); have n1_ := aM_ (blk_below (g := gb296) (by (with_reducible repeat (first | apply kN_ | apply kD_ | apply kA_)); exact BK296.out) hb); have n2_ := aM_ (below_step (by repeat (first | (with_reducible first | exact HB.out | apply wA_ | apply wN_ | apply wD_ | refine below_set ?_ GE295.out | refine below_set ?_ GE296.out) | exact HB.out)) hb); have n3_ := aM_ (hbox); have n4_ := aM_ ((by rw [hg]; exact (below_size (by repeat (first | (with_reducible first | exact HB.out | apply wA_ | apply wN_ | apply wD_ | refine below_set ?_ GE295.out | refine below_set ?_ GE296.out) | exact HB.out))) : w.heap.size ≤ gb298)); have n5_ := aM_ ((by rw [hg]; exact (below_size (by repeat (first | (with_reducible first | exact HB.out | apply wA_ | apply wN_ | apply wD_ | refine below_set ?_ GE295.out | refine below_set ?_ GE296.out) | exact HB.out))) : w.heap.size ≤ gb298)); have n6_ := aM_ ((by rw [hg]; exact Nat.ne_of_lt (blk_lt (g := gb295) (by (with_reducible repeat (first | apply kN_ | apply kD_ | apply kA_)); exact BK295.out)) : gb295 ≠ gb298)); have n7_ := aM_ n6_.out.symm; have n8_ := aM_ ((by rw [hg]; exact Nat.ne_of_lt (blk_lt (g := gb296) (by (with_reducible repeat (first | apply kN_ | apply kD_ | apply kA_)); exact BK296.out)) : gb296 ≠ gb298)); have n9_ := aM_ n8_.out.symm; clear BK295; clear BK296; clear HB; have BK295 := n0_; have BK296 := n1_; have HB := n2_; have BK298 := n3_; have GW298 := n4_; have GE298 := n5_; have NB295_298 := n6_; have NB298_295 := n7_; have NB296_298 := n8_; have NB298_296 := n9_; clear n0_ n1_ n2_ n3_ n4_ n5_ n6_ n7_ n8_ n9_; clear hb hbox hg; have hnb11 := NB298_295.out; have hnc11 := NB295_298.out; have hnb12 := NB298_296.out; have hnc12 := NB296_298.out; obtain ⟨hcz13_0, hcz13_1, hcz13_2, hcz13_3, hcz13_4, hcz13_5⟩ := bc6 BK298.out; obtain ⟨hfz13_0, hfz13_1, hfz13_2, hfz13_3, hfz13_4, hfz13_5⟩ := bf6 BK298.out; obtain ⟨hcz14_0, hcz14_1, hcz14_2, hcz14_3, hcz14_4, hcz14_5⟩ := bc6 BK295.out; obtain ⟨hfz14_0, hfz14_1, hfz14_2, hfz14_3, hfz14_4, hfz14_5⟩ := bf6 BK295.out))
  go_loopg [20] k (fun kq v20 w' => ∃ (x20_1 : Int) (x297000_1 : Int) (x297001_1 : Int) (x297002_1 : Int) (x297003_1 : Int) (x299005_1 : List Int) (u299005 : Value), v20 = .int .i64 x20_1 ∧ Aside0 (impl_ImageRgb.l0 kq l0_5 (l0_5.length : Int) x20_1 a0_0 a0_1 a0_2 a0_3 l0_4 l0_5 2 24 a0_2 a0_3 x299005_1 = some (r1, r2, r3, r4, r5, r6, r7)) ∧ Aside0 (kq ≤ k) ∧ Aside0 (Kd.R (Kd.int .i64) 3 w' w.heap.size (fun _ => True) u299005 x299005_1) ∧ Aside0 (w'.heap[gb295]? = some (.cells #[.int .i64 a0_0, .int .i64 a0_1, .int .i64 a0_2, .int .i64 a0_3, (.slice A0_4 l0_4.length c0_4), (.slice A0_5 l0_5.length c0_5)] 25 (0, 0))) ∧ Aside0 (w'.heap[gb296]? = some (.cells #[.int .i64 x297000_1, .int .i64 x297001_1, .int .i64 x297002_1, .int .i64 x297003_1, (.slice none 0 0), (.slice none 0 0)] 25 (0, 0))) ∧ Aside0 (w'.heap[gb298]? = some (.cells #[.int .i64 2, .int .i64 24, .int .i64 a0_2, .int .i64 a0_3, (.slice none 0 0), u299005] 25 (0, 0))) ∧ Aside0 (Below w.heap.size w w'))
  case atStart => exact ⟨(0), (0), (0), (0), (0), (([] : List Int)), (.slice none 0 0), (by first | rfl | (simp; done) | (simp [*]; done)), H', ⟨Nat.le_refl _⟩, ⟨by first | exact Kd.R_nil _ _ _ _ _ | exact Kd.N_nil _ _ _ _ _ | exact Kd.V_nil _ _ _ _ _ | exact Kd.Q_nil _ _ _ _ _ | exact Kd.S_nil _ _ _ _ _⟩, ⟨by (with_reducible repeat (first | apply kN_ | apply kD_ | apply kA_)); refine blk_far ?_ NB295_298.out _; (with_reducible repeat (first | apply kN_ | apply kD_ | apply kA_)); refine blk_far ?_ NB295_298.out _; (with_reducible repeat (first | apply kN_ | apply kD_ | apply kA_)); refine blk_far ?_ NB295_298.out _; (with_reducible repeat (first | apply kN_ | apply kD_ | apply kA_)); refine blk_far ?_ NB295_298.out _; (with_reducible repeat (first | apply kN_ | apply kD_ | apply kA_)); refine blk_far ?_ NB295_298.out _; (with_reducible repeat (first | apply kN_ | apply kD_ | apply kA_)); refine blk_far ?_ NB295_298.out _; (with_reducible repeat (first | apply kN_ | apply kD_ | apply kA_)); exact BK295.out⟩, ⟨by (with_reducible repeat (first | apply kN_ | apply kD_ | apply kA_)); refine blk_far ?_ NB296_298.out _; (with_reducible repeat (first | apply kN_ | apply kD_ | apply kA_)); refine blk_far ?_ NB296_298.out _; (with_reducible repeat (first | apply kN_ | apply kD_ | apply kA_)); refine blk_far ?_ NB296_298.out _; (with_reducible repeat (first | apply kN_ | apply kD_ | apply kA_)); refine blk_far ?_ NB296_298.out _; (with_reducible repeat (first | apply kN_ | apply kD_ | apply kA_)); refine blk_far ?_ NB296_298.out _; (with_reducible repeat (first | apply kN_ | apply kD_ | apply kA_)); refine blk_far ?_ NB296_298.out _; (with_reducible repeat (first | apply kN_ | apply kD_ | apply kA_)); exact BK296.out⟩, ⟨by (with_reducible repeat (first | apply kN_ | apply kD_ | apply kA_)); refine blk_put (cs := #[.int .i64 2, .int .i64 24, .int .i64 a0_2, .int .i64 a0_3, .slice none 0 0, .slice none 0 0]) ?_ 5 _ rfl; (with_reducible repeat (first | apply kN_ | apply kD_ | apply kA_)); refine blk_put (cs := #[.int .i64 2, .int .i64 24, .int .i64 a0_2, .int .i64 a0_3, .slice none 0 0, .slice none 0 0]) ?_ 4 _ rfl; (with_reducible repeat (first | apply kN_ | apply kD_ | apply kA_)); refine blk_put (cs := #[.int .i64 2, .int .i64 24, .int .i64 a0_2, .int .i64 0, .slice none 0 0, .slice none 0 0]) ?_ 3 _ rfl; (with_reducible repeat (first | apply kN_ | apply kD_ | apply kA_)); refine blk_put (cs := #[.int .i64 2, .int .i64 24, .int .i64 0, .int .i64 0, .slice none 0 0, .slice none 0 0]) ?_ 2 _ rfl; (with_reducible repeat (first | apply kN_ | apply kD_ | apply kA_)); refine blk_put (cs := #[.int .i64 2, .int .i64 0, .int .i64 0, .int .i64 0, .slice none 0 0, .slice none 0 0]) ?_ 1 _ rfl; (with_reducible repeat (first | apply kN_ | apply kD_ | apply kA_)); refine blk_put (cs := #[.int .i64 0, .int .i64 0, .int .i64 0, .int .i64 0, .slice none 0 0, .slice none 0 0]) ?_ 0 _ rfl; (with_reducible repeat (first | apply kN_ | apply kD_ | apply kA_)); exact BK298.out⟩, ⟨by repeat (first | (with_reducible first | exact HB.out | apply wA_ | apply wN_ | apply wD_ | refine below_set ?_ GE295.out | refine below_set ?_ GE296.out | refine below_set ?_ GE298.out) | exact HB.out)⟩⟩
  case round =>
   clear H'
   try clear c1
   try clear c2
   try clear p2
   try clear c3
   try clear c6
   try clear c11
   try clear c12
   try clear hcz13_0
   try clear hcz13_1
   try clear hcz13_2
   try clear hcz13_3
   try clear hcz13_4
   try clear hcz13_5
   try clear hcz14_0
   try clear hcz14_1
   try clear hcz14_2
   try clear hcz14_3
   try clear hcz14_4
   try clear hcz14_5
   try clear hcz7_0
   try clear hcz7_1
   try clear hcz7_2
   try clear hcz7_3
   try clear hcz7_4
   try clear hcz7_5
   try clear hcz9_0
   try clear hcz9_1
   try clear hcz9_2
   try clear hcz9_3
   try clear hcz9_4
   try clear hcz9_5
   try clear hfz13_0
   try clear hfz13_1
   try clear hfz13_2
   try clear hfz13_3
   try clear hfz13_4
   try clear hfz13_5
   try clear hfz14_0
   try clear hfz14_1
   try clear hfz14_2
   try clear hfz14_3
   try clear hfz14_4
   try clear hfz14_5
   try clear hfz7_0
   try clear hfz7_1
   try clear hfz7_2
   try clear hfz7_3
   try clear hfz7_4
   try clear hfz7_5
   try clear hfz9_0
   try clear hfz9_1
   try clear hfz9_2
   try clear hfz9_3
   try clear hfz9_4
   try clear hfz9_5
   obtain ⟨x20_1, x297000_1, x297001_1, x297002_1, x297003_1, x299005_1, u299005, rfl, HA, HK1, HO_299005, BK295, BK296, BK298, HB⟩ := hrel
   cases gk with
   | zero => exact absurd HA.out (by simp [impl_ImageRgb.l0])
   | succ k1 =>
    have H := HA.out
    clear HA
    simp only [impl_ImageRgb.l0] at H
    by_cases c15 : x20_1 < (l0_5.length : Int)
    ·rw [if_pos c15] at H
     have c15b0 : decide (x20_1 < (l0_5.length : Int)) = true := decide_eq_true c15
     clear c15
     by_cases c16 : 0 ≤ x20_1
     ·rw [if_pos c16] at H
      have c16b0 : decide (0 ≤ x20_1) = true := decide_eq_true c16
      clear c16
      by_cases c17 : x20_1 < (l0_5.length : Int)
      ·rw [if_pos c17] at H
       have c17b0 : decide (x20_1 < (l0_5.length : Int)) = true := decide_eq_true c17
       clear c17
       replace H := Option.bind_eq_some_iff.mp H
       obtain ⟨t300, A180, H⟩ := H
       replace H : (if (Int.tmod t300 256) = 255 then (if x299005_1.length < 17592186044416 then (impl_ImageRgb.l0 k1 l0_5 (l0_5.length : Int) (wrap64 (x20_1 + 1)) a0_0 a0_1 a0_2 a0_3 l0_4 l0_5 2 24 a0_2 a0_3 (x299005_1 ++ [wrap64 (Int.tdiv t300 256)])) else (none)) else (some (0, 0, 0, 0, ([] : List Int), ([] : List Int), false))) = some (r1, r2, r3, r4, r5, r6, r7) := H
       have A18 := aM_ A180
       clear A180
       by_cases c19 : (Int.tmod t300 256) = 255
       ·rw [if_pos c19] at H
        have c19b0 : ((Int.tmod t300 256) == 255) = true := beq_iff_eq.mpr c19
        have c19b1 : ((Int.tmod t300 256) != 255) = false := bne_eq_false_iff_eq.mpr c19
        clear c19
        by_cases c20 : x299005_1.length < 17592186044416
        ·rw [if_pos c20] at H
         have LMc20 := aM_ c20
         clear c20
         obtain ⟨y301, hy301⟩ : ∃ y_ : List Int, y_ = (x299005_1 ++ [wrap64 (Int.tdiv t300 256)]) := ⟨_, rfl⟩
         replace H : (impl_ImageRgb.l0 k1 l0_5 (l0_5.length : Int) (wrap64 (x20_1 + 1)) a0_0 a0_1 a0_2 a0_3 l0_4 l0_5 2 24 a0_2 a0_3 y301) = some (r1, r2, r3, r4, r5, r6, r7) := by first | (rw [hy301]; with_reducible exact H) | (have H2_ := (Option.bind_some _ _).symm.trans H; rw [hy301]; with_reducible exact H2_) | (have H2_ := (Option.bind_some _ _).symm.trans H; with_reducible exact H2_) | with_reducible exact H | (rw [hy301]; exact H) | exact H
         have Ny301 := aM_ hy301
         clear hy301
         have H' := aM_ H
         clear H
         have p299 : 0 ≤ (x20_1 : Int) := of_decide_eq_true (by first | (with_reducible assumption) | assumption)
         have q299 : x20_1 < (l0_5.length : Int) := of_decide_eq_true (by first | (with_reducible assumption) | assumption)
         obtain ⟨ad299, e299, hx299_0⟩ := Kd.at_int HR0_5.out x20_1 p299 q299
         cases e299
         replace hx299_0 := (HB.out.cell (World.block_lt_of_cell? w _ hx299_0)).trans hx299_0
         replace p299 := eq_true p299
         replace q299 := eq_true q299
         have hnb21 := NB295_296.out
         have hnc21 := NB296_295.out
         have hnb22 := NB295_298.out
         have hnc22 := NB298_295.out
         obtain ⟨hcz23_0, hcz23_1, hcz23_2, hcz23_3, hcz23_4, hcz23_5⟩ := bc6 BK295.out
         obtain ⟨hfz23_0, hfz23_1, hfz23_2, hfz23_3, hfz23_4, hfz23_5⟩ := bf6 BK295.out
         go_wp2_with (first | ((with_reducible refine gate_callee (f := 60) rfl ?_); refine goesL_ (some 26) rfl rfl Try.func60 (by kernel_rfl) rfl #[.agg #[.int .i64 a0_0, .int .i64 a0_1, .int .i64 a0_2, .int .i64 a0_3, .slice A0_4 l0_4.length c0_4, .slice (some ad299) l0_5.length c0_5], .int .i64 (rd l0_5 x20_1)] rfl (by (try simp only [List.map_toArray, List.map_cons, List.map_nil]); first | done | rfl | (simp only [List.length_drop, List.length_take]; rfl)) ?_; (with_reducible refine (impl_Image_color.calls a0_0 a0_1 a0_2 a0_3 _ _ l0_4 _ _ l0_5 (rd l0_5 x20_1) t300 _ ?side1 ?side2 ?side3 ?side4 A18.out).mono ?_); (case side1 => repeat (first | exact (Kd.C_below HR0_4.out HB.out) | (with_reducible refine Kd.C_alloc ?_ _) | (with_reducible refine Kd.C_drewN ?_ _) | (with_reducible refine Kd.C_drew ?_))); (case side2 => exact HC0_4.out); (case side3 => repeat (first | exact (Kd.C_below HR0_5.out HB.out) | (with_reducible refine Kd.C_alloc ?_ _) | (with_reducible refine Kd.C_drewN ?_ _) | (with_reducible refine Kd.C_drew ?_))); (case side4 => exact HC0_5.out); rintro e w24 ⟨rfl, hb⟩; refine ⟨_, rfl, ?_⟩; have n0_ := aM_ (Kd.R_below (by (with_reducible repeat (first | apply rA_ | apply rN_ | apply rD_)); exact HO_299005.out) hb); have n1_ := aM_ (blk_below (g := gb295) (by (with_reducible repeat (first | apply kN_ | apply kD_ | apply kA_)); exact BK295.out) hb); have n2_ := aM_ (blk_below (g := gb296) (by (with_reducible repeat (first | apply kN_ | apply kD_ | apply kA_)); exact BK296.out) hb); have n3_ := aM_ (blk_below (g := gb298) (by (with_reducible repeat (first | apply kN_ | apply kD_ | apply kA_)); exact BK298.out) hb); have n4_ := aM_ (below_step (by repeat (first | (with_reducible first | exact HB.out | apply wA_ | apply wN_ | apply wD_ | refine below_set ?_ GE295.out | refine below_set ?_ GE296.out | refine below_set ?_ GE298.out) | exact HB.out)) hb); clear HO_299005; clear BK295; clear BK296; clear BK298; clear HB; have HO_299005 := n0_; have BK295 := n1_; have BK296 := n2_; have BK298 := n3_; have HB := n4_; clear n0_ n1_ n2_ n3_ n4_; (try clear hb); (try clear hb2); (try clear hk); (try clear hi); have hnb25 := NB298_296.out; have hnc25 := NB296_298.out; obtain ⟨hcz26_0, hcz26_1, hcz26_2, hcz26_3, hcz26_4, hcz26_5⟩ := bc6 BK298.out; obtain ⟨hfz26_0, hfz26_1, hfz26_2, hfz26_3, hfz26_4, hfz26_5⟩ := bf6 BK298.out) | ((with_reducible refine gate_builtin (b := .append) (xs := #[.tmp 32, .tmp 35]) rfl ?_); at_builtin; refine Kd.R_append (Kd.int .i64) (w0 := w) w.heap.size rfl (.tmp 32) (.tmp 35) 23 3 (.int .i64 0) 8 rfl Try.underlying23 info3 rfl (by decide) (by omega) u299005 x299005_1 (wrap64 (Int.tdiv t300 256)) [.int .i64 (wrap64 (Int.tdiv t300 256))] (fun _ => True) (fun _ => False) rfl rfl ?aP (fun _ hk => hk.elim) ?aF ?aO ?aB ?aS ?aL ?_; (case aP => exact rfl); (case aB => exact (by repeat (first | (with_reducible first | exact HB.out | apply wA_ | apply wN_ | apply wD_ | refine below_set ?_ GE295.out | refine below_set ?_ GE296.out | refine below_set ?_ GE298.out) | exact HB.out))); (case aF => exact (fun _ _ => trivial)); (case aO => exact (by (with_reducible repeat (first | apply rA_ | apply rN_ | apply rD_)); exact HO_299005.out)); (case aS => exact (below_size (by repeat (first | (with_reducible first | exact HB.out | apply wA_ | apply wN_ | apply wD_ | refine below_set ?_ GE295.out | refine below_set ?_ GE296.out | refine below_set ?_ GE298.out) | exact HB.out)))); (case aL => have := LMc20.out; omega); intro v302 w27 ho hb hg hat; rw [← Ny301.out] at ho; have n0_ := aM_ (blk_grown (g := gb295) (o := .cells #[.int .i64 a0_0, .int .i64 a0_1, .int .i64 a0_2, .int .i64 a0_3, .slice A0_4 l0_4.length c0_4, .slice (some ad299) l0_5.length c0_5] 25 (0, 0)) (by (with_reducible repeat (first | apply kN_ | apply kD_ | apply kA_)); exact BK295.out) hg (Kd.R_ne HO_299005.out BK295.out (by decide))); have n1_ := aM_ (blk_grown (g := gb296) (o := .cells #[.int .i64 x297000_1, .int .i64 x297001_1, .int .i64 x297002_1, .int .i64 x297003_1, .slice none 0 0, .slice none 0 0] 25 (0, 0)) (by (with_reducible repeat (first | apply kN_ | apply kD_ | apply kA_)); exact BK296.out) hg (Kd.R_ne HO_299005.out BK296.out (by decide))); have n2_ := aM_ (blk_grown (g := gb298) (o := .cells #[.int .i64 2, .int .i64 24, .int .i64 a0_2, .int .i64 a0_3, .slice none 0 0, u299005] 25 (0, 0)) (by (with_reducible repeat (first | apply kN_ | apply kD_ | apply kA_)); exact BK298.out) hg (Kd.R_ne HO_299005.out BK298.out (by decide))); have n3_ := aM_ (hb); have n4_ := aM_ (ho); clear BK295; clear BK296; clear BK298; clear HB; clear HO_299005; have BK295 := n0_; have BK296 := n1_; have BK298 := n2_; have HB := n3_; have HO303 := n4_; clear n0_ n1_ n2_ n3_ n4_; clear ho hb hg hat; obtain ⟨Ao28, co28, eo28⟩ := Kd.R_slice HO303.out; subst eo28; obtain ⟨hcz29_0, hcz29_1, hcz29_2, hcz29_3, hcz29_4, hcz29_5⟩ := bc6 BK298.out; obtain ⟨hfz29_0, hfz29_1, hfz29_2, hfz29_3, hfz29_4, hfz29_5⟩ := bf6 BK298.out))
         go_roundg k1
         case measure => have := HK1.out; omega
         case rel => exact ⟨(wrap64 (x20_1 + 1)), (x297000_1), (x297001_1), (x297002_1), (x297003_1), (y301), (.slice Ao28 y301.length co28), (by first | rfl | (simp; done) | (simp [*]; done)), H', ⟨by have := HK1.out; omega⟩, ⟨by (with_reducible repeat (first | apply rA_ | apply rN_ | apply rD_)); exact Kd.R_mono (Kd.R_far (Kd.R_types HO303.out BK298.out (by decide)) (fun _ hk => hk.2) (.slice Ao28 y301.length co28)) (fun _ hk => trivial)⟩, ⟨by (with_reducible repeat (first | apply kN_ | apply kD_ | apply kA_)); refine blk_far ?_ NB295_298.out _; (with_reducible repeat (first | apply kN_ | apply kD_ | apply kA_)); exact BK295.out⟩, ⟨by (with_reducible repeat (first | apply kN_ | apply kD_ | apply kA_)); refine blk_far ?_ NB296_298.out _; (with_reducible repeat (first | apply kN_ | apply kD_ | apply kA_)); exact BK296.out⟩, ⟨by (with_reducible repeat (first | apply kN_ | apply kD_ | apply kA_)); refine blk_put (cs := #[.int .i64 2, .int .i64 24, .int .i64 a0_2, .int .i64 a0_3, .slice none 0 0, u299005]) ?_ 5 _ rfl; (with_reducible repeat (first | apply kN_ | apply kD_ | apply kA_)); exact BK298.out⟩, ⟨by repeat (first | (with_reducible first | exact HB.out | apply wA_ | apply wN_ | apply wD_ | refine below_set ?_ GE295.out | refine below_set ?_ GE296.out | refine below_set ?_ GE298.out) | exact HB.out)⟩⟩
        ·rw [if_neg c20] at H
         exact absurd H (by simp)
       ·rw [if_neg c19] at H
        have c19b0 : ((Int.tmod t300 256) == 255) = false := beq_eq_false_iff_ne.mpr c19
        have c19b1 : ((Int.tmod t300 256) != 255) = true := bne_iff_ne.mpr c19
        simp only [Option.some.injEq, Prod.mk.injEq] at H
        obtain ⟨rfl, rfl, rfl, rfl, rfl, rfl, rfl⟩ := H
        have p299 : 0 ≤ (x20_1 : Int) := of_decide_eq_true (by first | (with_reducible assumption) | assumption)
        have q299 : x20_1 < (l0_5.length : Int) := of_decide_eq_true (by first | (with_reducible assumption) | assumption)
        obtain ⟨ad299, e299, hx299_0⟩ := Kd.at_int HR0_5.out x20_1 p299 q299
        cases e299
        replace hx299_0 := (HB.out.cell (World.block_lt_of_cell? w _ hx299_0)).trans hx299_0
        replace p299 := eq_true p299
        replace q299 := eq_true q299
        have hnb30 := NB295_296.out
        have hnc30 := NB296_295.out
        have hnb31 := NB295_298.out
        have hnc31 := NB298_295.out
        obtain ⟨hcz32_0, hcz32_1, hcz32_2, hcz32_3, hcz32_4, hcz32_5⟩ := bc6 BK295.out
        obtain ⟨hfz32_0, hfz32_1, hfz32_2, hfz32_3, hfz32_4, hfz32_5⟩ := bf6 BK295.out
        go_wp2_with (first | ((with_reducible refine gate_callee (f := 60) rfl ?_); refine goesL_ (some 26) rfl rfl Try.func60 (by kernel_rfl) rfl #[.agg #[.int .i64 a0_0, .int .i64 a0_1, .int .i64 a0_2, .int .i64 a0_3, .slice A0_4 l0_4.length c0_4, .slice (some ad299) l0_5.length c0_5], .int .i64 (rd l0_5 x20_1)] rfl (by (try simp only [List.map_toArray, List.map_cons, List.map_nil]); first | done | rfl | (simp only [List.length_drop, List.length_take]; rfl)) ?_; (with_reducible refine (impl_Image_color.calls a0_0 a0_1 a0_2 a0_3 _ _ l0_4 _ _ l0_5 (rd l0_5 x20_1) t300 _ ?side1 ?side2 ?side3 ?side4 A18.out).mono ?_); (case side1 => repeat (first | exact (Kd.C_below HR0_4.out HB.out) | (with_reducible refine Kd.C_alloc ?_ _) | (with_reducible refine Kd.C_drewN ?_ _) | (with_reducible refine Kd.C_drew ?_))); (case side2 => exact HC0_4.out); (case side3 => repeat (first | exact (Kd.C_below HR0_5.out HB.out) | (with_reducible refine Kd.C_alloc ?_ _) | (with_reducible refine Kd.C_drewN ?_ _) | (with_reducible refine Kd.C_drew ?_))); (case side4 => exact HC0_5.out); rintro e w33 ⟨rfl, hb⟩; refine ⟨_, rfl, ?_⟩; have n0_ := aM_ (Kd.R_below (by (with_reducible repeat (first | apply rA_ | apply rN_ | apply rD_)); exact HO_299005.out) hb); have n1_ := aM_ (blk_below (g := gb295) (by (with_reducible repeat (first | apply kN_ | apply kD_ | apply kA_)); exact BK295.out) hb); have n2_ := aM_ (blk_below (g := gb296) (by (with_reducible repeat (first | apply kN_ | apply kD_ | apply kA_)); exact BK296.out) hb); have n3_ := aM_ (blk_below (g := gb298) (by (with_reducible repeat (first | apply kN_ | apply kD_ | apply kA_)); exact BK298.out) hb); have n4_ := aM_ (below_step (by repeat (first | (with_reducible first | exact HB.out | apply wA_ | apply wN_ | apply wD_ | refine below_set ?_ GE295.out | refine below_set ?_ GE296.out | refine below_set ?_ GE298.out) | exact HB.out)) hb); clear HO_299005; clear BK295; clear BK296; clear BK298; clear HB; have HO_299005 := n0_; have BK295 := n1_; have BK296 := n2_; have BK298 := n3_; have HB := n4_; clear n0_ n1_ n2_ n3_ n4_; (try clear hb); (try clear hb2); (try clear hk); (try clear hi); have hnb34 := NB296_298.out; have hnc34 := NB298_296.out; obtain ⟨hcz35_0, hcz35_1, hcz35_2, hcz35_3, hcz35_4, hcz35_5⟩ := bc6 BK296.out; obtain ⟨hfz35_0, hfz35_1, hfz35_2, hfz35_3, hfz35_4, hfz35_5⟩ := bf6 BK296.out))
        refine bodyPost_ret (results_ct rfl _ _ gb296 25 #[.int .i64 0, .int .i64 0, .int .i64 0, .int .i64 0, .slice none 0 0, .slice none 0 0] (0, 0) _ rfl (by (with_reducible repeat (first | apply kN_ | apply kD_ | apply kA_)); refine blk_put (cs := #[.int .i64 0, .int .i64 0, .int .i64 0, .int .i64 0, .slice none 0 0, .slice none 0 0]) ?_ 5 _ rfl; (with_reducible repeat (first | apply kN_ | apply kD_ | apply kA_)); refine blk_put (cs := #[.int .i64 0, .int .i64 0, .int .i64 0, .int .i64 0, .slice none 0 0, .slice none 0 0]) ?_ 4 _ rfl; (with_reducible repeat (first | apply kN_ | apply kD_ | apply kA_)); refine blk_put (cs := #[.int .i64 0, .int .i64 0, .int .i64 0, .int .i64 x297003_1, .slice none 0 0, .slice none 0 0]) ?_ 3 _ rfl; (with_reducible repeat (first | apply kN_ | apply kD_ | apply kA_)); refine blk_put (cs := #[.int .i64 0, .int .i64 0, .int .i64 x297002_1, .int .i64 x297003_1, .slice none 0 0, .slice none 0 0]) ?_ 2 _ rfl; (with_reducible repeat (first | apply kN_ | apply kD_ | apply kA_)); refine blk_put (cs := #[.int .i64 0, .int .i64 x297001_1, .int .i64 x297002_1, .int .i64 x297003_1, .slice none 0 0, .slice none 0 0]) ?_ 1 _ rfl; (with_reducible repeat (first | apply kN_ | apply kD_ | apply kA_)); refine blk_put (cs := #[.int .i64 x297000_1, .int .i64 x297001_1, .int .i64 x297002_1, .int .i64 x297003_1, .slice none 0 0, .slice none 0 0]) ?_ 0 _ rfl; (with_reducible repeat (first | apply kN_ | apply kD_ | apply kA_)); exact BK296.out) Try.underlying25 rfl (by kernel_rfl)) rfl ?_
        exact ⟨_, _, by first | rfl | (simp [errW_none, errW_some] <;> rfl) | (simp [*, errW_none, errW_some] <;> rfl), by first | exact Kd.R_nil _ _ _ _ _ | exact Kd.N_nil _ _ _ _ _ | exact Kd.V_nil _ _ _ _ _ | exact Kd.Q_nil _ _ _ _ _ | exact Kd.S_nil _ _ _ _ _, by first | exact Kd.R_nil _ _ _ _ _ | exact Kd.N_nil _ _ _ _ _ | exact Kd.V_nil _ _ _ _ _ | exact Kd.Q_nil _ _ _ _ _ | exact Kd.S_nil _ _ _ _ _, by repeat (first | (with_reducible first | exact HB.out | apply wA_ | apply wN_ | apply wD_ | refine below_set ?_ GE295.out | refine below_set ?_ GE296.out | refine below_set ?_ GE298.out) | exact HB.out)⟩
      ·rw [if_neg c17] at H
       exact absurd H (by simp)
     ·rw [if_neg c16] at H
      exact absurd H (by simp)
    ·rw [if_neg c15] at H
     have c15b0 : decide (x20_1 < (l0_5.length : Int)) = false := decide_eq_false c15
     clear c15
     simp only [Option.some.injEq, Prod.mk.injEq] at H
     obtain ⟨rfl, rfl, rfl, rfl, rfl, rfl, rfl⟩ := H
     have hnb36 := NB298_295.out
     have hnc36 := NB295_298.out
     have hnb37 := NB298_296.out
     have hnc37 := NB296_298.out
     obtain ⟨hcz38_0, hcz38_1, hcz38_2, hcz38_3, hcz38_4, hcz38_5⟩ := bc6 BK298.out
     obtain ⟨hfz38_0, hfz38_1, hfz38_2, hfz38_3, hfz38_4, hfz38_5⟩ := bf6 BK298.out
     have hnb39 := NB296_295.out
     have hnc39 := NB295_296.out
     obtain ⟨hcz40_0, hcz40_1, hcz40_2, hcz40_3, hcz40_4, hcz40_5⟩ := bc6 BK296.out
     obtain ⟨hfz40_0, hfz40_1, hfz40_2, hfz40_3, hfz40_4, hfz40_5⟩ := bf6 BK296.out
     obtain ⟨Ao41, co41, eo41⟩ := Kd.R_slice HO_299005.out
     subst eo41
     go_wp2
     refine bodyPost_ret (results_ct rfl _ _ gb296 25 #[.int .i64 2, .int .i64 24, .int .i64 a0_2, .int .i64 a0_3, .slice none 0 0, .slice Ao41 x299005_1.length co41] (0, 0) _ rfl (by (with_reducible repeat (first | apply kN_ | apply kD_ | apply kA_)); refine blk_put (cs := #[.int .i64 2, .int .i64 24, .int .i64 a0_2, .int .i64 a0_3, .slice none 0 0, .slice none 0 0]) ?_ 5 _ rfl; (with_reducible repeat (first | apply kN_ | apply kD_ | apply kA_)); refine blk_put (cs := #[.int .i64 2, .int .i64 24, .int .i64 a0_2, .int .i64 a0_3, .slice none 0 0, .slice none 0 0]) ?_ 4 _ rfl; (with_reducible repeat (first | apply kN_ | apply kD_ | apply kA_)); refine blk_put (cs := #[.int .i64 2, .int .i64 24, .int .i64 a0_2, .int .i64 x297003_1, .slice none 0 0, .slice none 0 0]) ?_ 3 _ rfl; (with_reducible repeat (first | apply kN_ | apply kD_ | apply kA_)); refine blk_put (cs := #[.int .i64 2, .int .i64 24, .int .i64 x297002_1, .int .i64 x297003_1, .slice none 0 0, .slice none 0 0]) ?_ 2 _ rfl; (with_reducible repeat (first | apply kN_ | apply kD_ | apply kA_)); refine blk_put (cs := #[.int .i64 2, .int .i64 x297001_1, .int .i64 x297002_1, .int .i64 x297003_1, .slice none 0 0, .slice none 0 0]) ?_ 1 _ rfl; (with_reducible repeat (first | apply kN_ | apply kD_ | apply kA_)); refine blk_put (cs := #[.int .i64 x297000_1, .int .i64 x297001_1, .int .i64 x297002_1, .int .i64 x297003_1, .slice none 0 0, .slice none 0 0]) ?_ 0 _ rfl; (with_reducible repeat (first | apply kN_ | apply kD_ | apply kA_)); exact BK296.out) Try.underlying25 rfl (by kernel_rfl)) rfl ?_
     exact ⟨_, _, by first | rfl | (simp [errW_none, errW_some] <;> rfl) | (simp [*, errW_none, errW_some] <;> rfl), by first | exact Kd.R_nil _ _ _ _ _ | exact Kd.N_nil _ _ _ _ _ | exact Kd.V_nil _ _ _ _ _ | exact Kd.Q_nil _ _ _ _ _ | exact Kd.S_nil _ _ _ _ _, by (with_reducible repeat (first | apply rA_ | apply rN_ | apply rD_)); exact Kd.R_mono (Kd.R_far (Kd.R_far (Kd.R_far (Kd.R_far (Kd.R_far (Kd.R_far (Kd.R_types HO_299005.out BK296.out (by decide)) (fun _ hk => hk.2) (.int .i64 2)) (fun _ hk => hk.2) (.int .i64 24)) (fun _ hk => hk.2) (.int .i64 a0_2)) (fun _ hk => hk.2) (.int .i64 a0_3)) (fun _ hk => hk.2) (.slice none 0 0)) (fun _ hk => hk.2) (.slice Ao41 x299005_1.length co41)) (fun _ hk => (by simp [Value.ownBlock])), by repeat (first | (with_reducible first | exact HB.out | apply wA_ | apply wN_ | apply wD_ | refine below_set ?_ GE295.out | refine below_set ?_ GE296.out | refine below_set ?_ GE298.out) | exact HB.out)⟩
 ·replace c3 := Bool.eq_false_iff.mpr c3
  subst c3
  have H1 : (some (0, 0, 0, 0, ([] : List Int), ([] : List Int), false)) = some (r1, r2, r3, r4, r5, r6, r7) := by first | (rw [if_neg (show ¬ (false = true) by decide)] at H; exact H) | rfl
  clear H
  have H := H1
  clear H1
  simp only [Option.some.injEq, Prod.mk.injEq] at H
  obtain ⟨rfl, rfl, rfl, rfl, rfl, rfl, rfl⟩ := H
  go_enter Try.func21, Try.ntmps21
  go_wp2_with (first | ((with_reducible refine gate_dst (N := 1) rfl ?_); refine box_event ?hg (N := 1) ?hd (cs := #[.int .i64 a0_0, .int .i64 a0_1, .int .i64 a0_2, .int .i64 a0_3, .slice A0_4 l0_4.length c0_4, .slice A0_5 l0_5.length c0_5]) (t := 25) ?hr ?_; (case hd => rfl); (case hg => rfl); (case hr => first | (go_simp; done) | (go_simp; rfl)); intro gb295 hg w42 hbox hb; have n0_ := aM_ (below_step (by repeat (first | (with_reducible first | exact HB.out | apply wA_ | apply wN_ | apply wD_) | exact HB.out)) hb); have n1_ := aM_ (hbox); have n2_ := aM_ ((by rw [hg]; exact (below_size (by repeat (first | (with_reducible first | exact HB.out | apply wA_ | apply wN_ | apply wD_) | exact HB.out))) : w.heap.size ≤ gb295)); have n3_ := aM_ ((by rw [hg]; exact (below_size (by repeat (first | (with_reducible first | exact HB.out | apply wA_ | apply wN_ | apply wD_) | exact HB.out))) : w.heap.size ≤ gb295)); clear HB; have HB := n0_; have BK295 := n1_; have GW295 := n2_; have GE295 := n3_; clear n0_ n1_ n2_ n3_; clear hb hbox hg) | ((with_reducible refine gate_dst (N := 2) rfl ?_); refine box_event ?hg (N := 2) ?hd (cs := #[.int .i64 0, .int .i64 0, .int .i64 0, .int .i64 0, .slice none 0 0, .slice none 0 0]) (t := 25) ?hr ?_; (case hd => rfl); (case hg => rfl); (case hr => first | (go_simp; done) | (go_simp; rfl)); intro gb296 hg w43 hbox hb; have n0_ := aM_ (blk_below (g := gb295) (by (with_reducible repeat (first | apply kN_ | apply kD_ | apply kA_)); exact BK295.out) hb); have n1_ := aM_ (below_step (by repeat (first | (with_reducible first | exact HB.out | apply wA_ | apply wN_ | apply wD_ | refine below_set ?_ GE295.out) | exact HB.out)) hb); have n2_ := aM_ (hbox); have n3_ := aM_ ((by rw [hg]; exact (below_size (by repeat (first | (with_reducible first | exact HB.out | apply wA_ | apply wN_ | apply wD_ | refine below_set ?_ GE295.out) | exact HB.out))) : w.heap.size ≤ gb296)); have n4_ := aM_ ((by rw [hg]; exact (below_size (by repeat (first | (with_reducible first | exact HB.out | apply wA_ | apply wN_ | apply wD_ | refine below_set ?_ GE295.out) | exact HB.out))) : w.heap.size ≤ gb296)); have n5_ := aM_ ((by rw [hg]; exact Nat.ne_of_lt (blk_lt (g := gb295) (by (with_reducible repeat (first | apply kN_ | apply kD_ | apply kA_)); exact BK295.out)) : gb295 ≠ gb296)); have n6_ := aM_ n5_.out.symm; clear BK295; clear HB; have BK295 := n0_; have HB := n1_; have BK296 := n2_; have GW296 := n3_; have GE296 := n4_; have NB295_296 := n5_; have NB296_295 := n6_; clear n0_ n1_ n2_ n3_ n4_ n5_ n6_; clear hb hbox hg; have hnb44 := NB295_296.out; have hnc44 := NB296_295.out; obtain ⟨hcz45_0, hcz45_1, hcz45_2, hcz45_3, hcz45_4, hcz45_5⟩ := bc6 BK295.out; obtain ⟨hfz45_0, hfz45_1, hfz45_2, hfz45_3, hfz45_4, hfz45_5⟩ := bf6 BK295.out) | ((with_reducible refine gate_callee (f := 24) rfl ?_); refine goesL_ (some 9) rfl rfl Try.func24 (by kernel_rfl) rfl #[.agg #[.int .i64 a0_0, .int .i64 a0_1, .int .i64 a0_2, .int .i64 a0_3, .slice A0_4 l0_4.length c0_4, .slice A0_5 l0_5.length c0_5]] rfl (by (try simp only [List.map_toArray, List.map_cons, List.map_nil]); first | done | rfl | (simp only [List.length_drop, List.length_take]; rfl)) ?_; (with_reducible refine (impl_ImageOk.calls k a0_0 a0_1 a0_2 a0_3 _ _ l0_4 _ _ l0_5 false _ ?side1 ?side2 ?side3 ?side4 A2.out).mono ?_); (case side1 => repeat (first | exact (Kd.C_below HR0_4.out HB.out) | (with_reducible refine Kd.C_alloc ?_ _) | (with_reducible refine Kd.C_drewN ?_ _) | (with_reducible refine Kd.C_drew ?_))); (case side2 => exact HC0_4.out); (case side3 => repeat (first | exact (Kd.C_below HR0_5.out HB.out) | (with_reducible refine Kd.C_alloc ?_ _) | (with_reducible refine Kd.C_drewN ?_ _) | (with_reducible refine Kd.C_drew ?_))); (case side4 => exact HC0_5.out); rintro e w46 ⟨rfl, hb⟩; refine ⟨_, rfl, ?_⟩; have n0_ := aM_ (blk_below (g := gb295) (by (with_reducible repeat (first | apply kN_ | apply kD_ | apply kA_)); exact BK295.out) hb); have n1_ := aM_ (blk_below (g := gb296) (by (with_reducible repeat (first | apply kN_ | apply kD_ | apply kA_)); exact BK296.out) hb); have n2_ := aM_ (below_step (by repeat (first | (with_reducible first | exact HB.out | apply wA_ | apply wN_ | apply wD_ | refine below_set ?_ GE295.out | refine below_set ?_ GE296.out) | exact HB.out)) hb); clear BK295; clear BK296; clear HB; have BK295 := n0_; have BK296 := n1_; have HB := n2_; clear n0_ n1_ n2_; (try clear hb); (try clear hb2); (try clear hk); (try clear hi); obtain ⟨hcz47_0, hcz47_1, hcz47_2, hcz47_3, hcz47_4, hcz47_5⟩ := bc6 BK296.out; obtain ⟨hfz47_0, hfz47_1, hfz47_2, hfz47_3, hfz47_4, hfz47_5⟩ := bf6 BK296.out))
  refine bodyPost_ret (results_ct rfl _ _ gb296 25 #[.int .i64 0, .int .i64 0, .int .i64 0, .int .i64 0, .slice none 0 0, .slice none 0 0] (0, 0) _ rfl (by (with_reducible repeat (first | apply kN_ | apply kD_ | apply kA_)); refine blk_put (cs := #[.int .i64 0, .int .i64 0, .int .i64 0, .int .i64 0, .slice none 0 0, .slice none 0 0]) ?_ 5 _ rfl; (with_reducible repeat (first | apply kN_ | apply kD_ | apply kA_)); refine blk_put (cs := #[.int .i64 0, .int .i64 0, .int .i64 0, .int .i64 0, .slice none 0 0, .slice none 0 0]) ?_ 4 _ rfl; (with_reducible repeat (first | apply kN_ | apply kD_ | apply kA_)); refine blk_put (cs := #[.int .i64 0, .int .i64 0, .int .i64 0, .int .i64 0, .slice none 0 0, .slice none 0 0]) ?_ 3 _ rfl; (with_reducible repeat (first | apply kN_ | apply kD_ | apply kA_)); refine blk_put (cs := #[.int .i64 0, .int .i64 0, .int .i64 0, .int .i64 0, .slice none 0 0, .slice none 0 0]) ?_ 2 _ rfl; (with_reducible repeat (first | apply kN_ | apply kD_ | apply kA_)); refine blk_put (cs := #[.int .i64 0, .int .i64 0, .int .i64 0, .int .i64 0, .slice none 0 0, .slice none 0 0]) ?_ 1 _ rfl; (with_reducible repeat (first | apply kN_ | apply kD_ | apply kA_)); refine blk_put (cs := #[.int .i64 0, .int .i64 0, .int .i64 0, .int .i64 0, .slice none 0 0, .slice none 0 0]) ?_ 0 _ rfl; (with_reducible repeat (first | apply kN_ | apply kD_ | apply kA_)); exact BK296.out) Try.underlying25 rfl (by kernel_rfl)) rfl ?_
  exact ⟨_, _, by first | rfl | (simp [errW_none, errW_some] <;> rfl) | (simp [*, errW_none, errW_some] <;> rfl), by first | exact Kd.R_nil _ _ _ _ _ | exact Kd.N_nil _ _ _ _ _ | exact Kd.V_nil _ _ _ _ _ | exact Kd.Q_nil _ _ _ _ _ | exact Kd.S_nil _ _ _ _ _, by first | exact Kd.R_nil _ _ _ _ _ | exact Kd.N_nil _ _ _ _ _ | exact Kd.V_nil _ _ _ _ _ | exact Kd.Q_nil _ _ _ _ _ | exact Kd.S_nil _ _ _ _ _, by repeat (first | (with_reducible first | exact HB.out | apply wA_ | apply wN_ | apply wD_ | refine below_set ?_ GE295.out | refine below_set ?_ GE296.out) | exact HB.out)⟩

/-! ### spec_l8Depth: function 71 -/
def spec_l8Depth.j0 : Nat → Int → Int → Bool → Option (Bool)
 | 0, _, _, _ => none
 | k + 1, x1, x5, x6 => if x6 = true then (if x1 = 1 then (some true) else (if x1 = 2 then (some true) else (if x1 = 4 then (some true) else (some (x1 == 8))))) else (if x5 = 2 then (some (x1 == 24)) else (if x5 = 3 then (some (x1 == 32)) else (some false)))
def spec_l8Depth.f (k : Nat) (a0 : Int) (a1 : Int) : Option (Bool) := if a0 = 1 then (spec_l8Depth.j0 k a1 a0 (a0 == 1)) else (spec_l8Depth.j0 k a1 a0 (a0 == 4))
theorem spec_l8Depth.mono_l : ∀ k, (∀ y0 y1 y2, LeO (spec_l8Depth.j0 k y0 y1 y2) (spec_l8Depth.j0 (k + 1) y0 y1 y2))
 | 0 => fun _ _ _ r h => by simp [spec_l8Depth.j0] at h
 | k + 1 => by
  have ih0 := spec_l8Depth.mono_l k
  ·intro y0 y1 y2
   unfold spec_l8Depth.j0
   repeat' first
   | (with_reducible exact ih0 _ _ _)
   | (with_reducible exact LeO.refl _)
   | (with_reducible exact LeO.none _)
   | (with_reducible refine LeO.ite ?_ ?_)
   | (with_reducible refine LeO.bind ?_ (fun _ => ?_))
theorem spec_l8Depth.mono : ∀ a0 a1 k, LeO (spec_l8Depth.f k a0 a1) (spec_l8Depth.f (k + 1) a0 a1) := by
 intro a0 a1 k
 have ih0 := spec_l8Depth.mono_l k
 unfold spec_l8Depth.f
 repeat' first
   | (with_reducible exact ih0 _ _ _)
   | (with_reducible exact LeO.refl _)
   | (with_reducible exact LeO.none _)
   | (with_reducible refine LeO.ite ?_ ?_)
   | (with_reducible refine LeO.bind ?_ (fun _ => ?_))
set_option maxHeartbeats 8000000 in
set_option maxRecDepth 100000 in
theorem spec_l8Depth.calls (k : Nat) (a0 : Int) (a1 : Int) (r : Bool) (w : World) (h : spec_l8Depth.f k a0 a1 = some r) :
  Calls Try.prog 71 #[.int .i64 a0, .int .i64 a1] w fun e w' => e = .returned (.bool r) ∧ Drawn0 w w' := by
 have H : (if a0 = 1 then (spec_l8Depth.j0 k a1 a0 (a0 == 1)) else (spec_l8Depth.j0 k a1 a0 (a0 == 4))) = some r := h
 clear h
 have HC3 := aM_ H
 clear H
 go_enter Try.func71, Try.ntmps71
 go_upto_if 6 with (fail)
 go_cut [6] (fun v6 wc => ∃ (kq : Nat) (x6_2 : Bool), v6 = .bool x6_2 ∧ Aside0 (spec_l8Depth.j0 kq a1 a0 x6_2 = some r) ∧ Aside0 (kq ≤ k) ∧ Drawn0 w wc)
 case first =>
  have H := HC3.out
  clear HC3
  by_cases c4 : a0 = 1
  ·rw [if_pos c4] at H
   have c4b0 : (a0 == 1) = true := beq_iff_eq.mpr c4
   have c4b1 : (a0 != 1) = false := bne_eq_false_iff_eq.mpr c4
   clear c4
   (first | rw [c4b0] | (simp only [i64_w, i32_w]; rw [c4b0]) | skip)
   have H' := aM_ H
   clear H
   go_wp2
   go_meet
   case rel => exact ⟨_, ((a0 == 1)), (by first | rfl | (simp; done) | (simp [*]; done)), H', ⟨by first | omega | exact Nat.le_refl _⟩, by repeat (first | exact Drawn0.refl _ | apply Drawn0.step)⟩
  ·rw [if_neg c4] at H
   have c4b0 : (a0 == 1) = false := beq_eq_false_iff_ne.mpr c4
   have c4b1 : (a0 != 1) = true := bne_iff_ne.mpr c4
   (first | rw [c4b0] | (simp only [i64_w, i32_w]; rw [c4b0]) | skip)
   have H' := aM_ H
   clear H
   go_wp2
   go_meet
   case rel => exact ⟨_, ((a0 == 4)), (by first | rfl | (simp; done) | (simp [*]; done)), H', ⟨by first | omega | exact Nat.le_refl _⟩, by repeat (first | exact Drawn0.refl _ | apply Drawn0.step)⟩
 case rest =>
  clear HC3
  try clear p2
  try clear c4
  try clear c4b0
  try clear c4b1
  obtain ⟨kq, x6_2, rfl, HA, HJ2, ⟨mc2, rfl⟩⟩ := hcut
  cases kq with
  | zero => exact absurd HA.out (by simp [spec_l8Depth.j0])
  | succ kj2 =>
   have H := HA.out
   clear HA
   simp only [spec_l8Depth.j0] at H
   by_cases c5 : x6_2 = true
   ·subst c5
    have H1 : (if a1 = 1 then (some true) else (if a1 = 2 then (some true) else (if a1 = 4 then (some true) else (some (a1 == 8))))) = some r := by first | (rw [if_pos rfl] at H; exact H) | rfl
    clear H
    have H := H1
    clear H1
    by_cases c6 : a1 = 1
    ·rw [if_pos c6] at H
     have c6b0 : (a1 == 1) = true := beq_iff_eq.mpr c6
     have c6b1 : (a1 != 1) = false := bne_eq_false_iff_eq.mpr c6
     clear c6
     obtain rfl := Option.some.inj H
     go_wp2
     go_ret
     exact ⟨by first | rfl | (simp; done) | (simp [*]; done), by repeat (first | exact Drawn0.refl _ | apply Drawn0.step)⟩
    ·rw [if_neg c6] at H
     have c6b0 : (a1 == 1) = false := beq_eq_false_iff_ne.mpr c6
     have c6b1 : (a1 != 1) = true := bne_iff_ne.mpr c6
     by_cases c7 : a1 = 2
     ·rw [if_pos c7] at H
      have c7b0 : (a1 == 2) = true := beq_iff_eq.mpr c7
      have c7b1 : (a1 != 2) = false := bne_eq_false_iff_eq.mpr c7
      clear c7
      obtain rfl := Option.some.inj H
      go_wp2
      go_ret
      exact ⟨by first | rfl | (simp; done) | (simp [*]; done), by repeat (first | exact Drawn0.refl _ | apply Drawn0.step)⟩
     ·rw [if_neg c7] at H
      have c7b0 : (a1 == 2) = false := beq_eq_false_iff_ne.mpr c7
      have c7b1 : (a1 != 2) = true := bne_iff_ne.mpr c7
      by_cases c8 : a1 = 4
      ·rw [if_pos c8] at H
       have c8b0 : (a1 == 4) = true := beq_iff_eq.mpr c8
       have c8b1 : (a1 != 4) = false := bne_eq_false_iff_eq.mpr c8
       clear c8
       obtain rfl := Option.some.inj H
       go_wp2
       go_ret
       exact ⟨by first | rfl | (simp; done) | (simp [*]; done), by repeat (first | exact Drawn0.refl _ | apply Drawn0.step)⟩
      ·rw [if_neg c8] at H
       have c8b0 : (a1 == 4) = false := beq_eq_false_iff_ne.mpr c8
       have c8b1 : (a1 != 4) = true := bne_iff_ne.mpr c8
       obtain rfl := Option.some.inj H
       go_wp2
       go_ret
       exact ⟨by first | rfl | (simp; done) | (simp [*]; done), by repeat (first | exact Drawn0.refl _ | apply Drawn0.step)⟩
   ·replace c5 := Bool.eq_false_iff.mpr c5
    subst c5
    have H1 : (if a0 = 2 then (some (a1 == 24)) else (if a0 = 3 then (some (a1 == 32)) else (some false))) = some r := by first | (rw [if_neg (show ¬ (false = true) by decide)] at H; exact H) | rfl
    clear H
    have H := H1
    clear H1
    by_cases c9 : a0 = 2
    ·rw [if_pos c9] at H
     have c9b0 : (a0 == 2) = true := beq_iff_eq.mpr c9
     have c9b1 : (a0 != 2) = false := bne_eq_false_iff_eq.mpr c9
     clear c9
     obtain rfl := Option.some.inj H
     go_wp2
     go_ret
     exact ⟨by first | rfl | (simp; done) | (simp [*]; done), by repeat (first | exact Drawn0.refl _ | apply Drawn0.step)⟩
    ·rw [if_neg c9] at H
     have c9b0 : (a0 == 2) = false := beq_eq_false_iff_ne.mpr c9
     have c9b1 : (a0 != 2) = true := bne_iff_ne.mpr c9
     by_cases c10 : a0 = 3
     ·rw [if_pos c10] at H
      have c10b0 : (a0 == 3) = true := beq_iff_eq.mpr c10
      have c10b1 : (a0 != 3) = false := bne_eq_false_iff_eq.mpr c10
      clear c10
      obtain rfl := Option.some.inj H
      go_wp2
      go_ret
      exact ⟨by first | rfl | (simp; done) | (simp [*]; done), by repeat (first | exact Drawn0.refl _ | apply Drawn0.step)⟩
     ·rw [if_neg c10] at H
      have c10b0 : (a0 == 3) = false := beq_eq_false_iff_ne.mpr c10
      have c10b1 : (a0 != 3) = true := bne_iff_ne.mpr c10
      obtain rfl := Option.some.inj H
      go_wp2
      go_ret
      exact ⟨by first | rfl | (simp; done) | (simp [*]; done), by repeat (first | exact Drawn0.refl _ | apply Drawn0.step)⟩

/-! ### spec_l1In: function 72 -/
def spec_l1In.f (a0 : Int) (a1 : Int) (a2 : Int) : Option (Bool) := if a0 ≥ a1 then (some (decide (a0 ≤ a2))) else (some false)
set_option maxHeartbeats 8000000 in
set_option maxRecDepth 100000 in
theorem spec_l1In.calls (a0 : Int) (a1 : Int) (a2 : Int) (r : Bool) (w : World) (h : spec_l1In.f a0 a1 a2 = some r) :
  Calls Try.prog 72 #[.int .i64 a0, .int .i64 a1, .int .i64 a2] w fun e w' => e = .returned (.bool r) ∧ Drawn0 w w' := by
 have H : (if a0 ≥ a1 then (some (decide (a0 ≤ a2))) else (some false)) = some r := h
 clear h
 by_cases c4 : a0 ≥ a1
 ·rw [if_pos c4] at H
  have c4b0 : decide (a1 ≤ a0) = true := decide_eq_true c4
  clear c4
  obtain rfl := Option.some.inj H
  go_enter Try.func72, Try.ntmps72
  go_wp2
  go_ret
  exact ⟨by first | rfl | (simp; done) | (simp [*]; done), by repeat (first | exact Drawn0.refl _ | apply Drawn0.step)⟩
 ·rw [if_neg c4] at H
  have c4b0 : decide (a1 ≤ a0) = false := decide_eq_false c4
  clear c4
  obtain rfl := Option.some.inj H
  go_enter Try.func72, Try.ntmps72
  go_wp2
  go_ret
  exact ⟨by first | rfl | (simp; done) | (simp [*]; done), by repeat (first | exact Drawn0.refl _ | apply Drawn0.step)⟩

/-! ### spec_l8Colors: function 73 -/
def spec_l8Colors.l0 : Nat → Int → Int → Int → Int → Int → List Int → List Int → Option (Bool)
 | 0, _, _, _, _, _, _, _ => none
 | k + 1, x3, x305000, x305001, x305002, x305003, x305004, x305005 => if x3 < (x305004.length : Int) then (if 0 ≤ x3 then ((spec_l1In.f (rd x305004 x3) 0 16777215).bind fun t306 => (if t306 = true then (spec_l8Colors.l0 k (wrap64 (x3 + 1)) x305000 x305001 x305002 x305003 x305004 x305005) else (some false))) else (none)) else (if x305000 = 4 then ((spec_l1Pow.f k x305001).bind fun t307 => ((spec_l1In.f (x305004.length : Int) 1 t307).bind fun t308 => (some t308))) else (some ((x305004.length : Int) == 0)))
def spec_l8Colors.f (k : Nat) (a0_0 : Int) (a0_1 : Int) (a0_2 : Int) (a0_3 : Int) (l0_4 : List Int) (l0_5 : List Int) : Option (Bool) := spec_l8Colors.l0 k 0 a0_0 a0_1 a0_2 a0_3 l0_4 l0_5
theorem spec_l8Colors.mono_l : ∀ k, (∀ y0 y1 y2 y3 y4 y5 y6, LeO (spec_l8Colors.l0 k y0 y1 y2 y3 y4 y5 y6) (spec_l8Colors.l0 (k + 1) y0 y1 y2 y3 y4 y5 y6))
 | 0 => fun _ _ _ _ _ _ _ r h => by simp [spec_l8Colors.l0] at h
 | k + 1 => by
  have ih0 := spec_l8Colors.mono_l k
  ·intro y0 y1 y2 y3 y4 y5 y6
   unfold spec_l8Colors.l0
   repeat' first
   | (with_reducible exact ih0 _ _ _ _ _ _ _)
   | (with_reducible exact spec_l1Pow.mono _ _)
   | (with_reducible exact LeO.refl _)
   | (with_reducible exact LeO.none _)
   | (with_reducible refine LeO.ite ?_ ?_)
   | (with_reducible refine LeO.bind ?_ (fun _ => ?_))
theorem spec_l8Colors.mono : ∀ a0 a1 a2 a3 a4 a5 k, LeO (spec_l8Colors.f k a0 a1 a2 a3 a4 a5) (spec_l8Colors.f (k + 1) a0 a1 a2 a3 a4 a5) := by
 intro a0 a1 a2 a3 a4 a5 k
 have ih0 := spec_l8Colors.mono_l k
 unfold spec_l8Colors.f
 repeat' first
   | (with_reducible exact ih0 _ _ _ _ _ _ _)
   | (with_reducible exact spec_l1Pow.mono _ _)
   | (with_reducible exact LeO.refl _)
   | (with_reducible exact LeO.none _)
   | (with_reducible refine LeO.ite ?_ ?_)
   | (with_reducible refine LeO.bind ?_ (fun _ => ?_))
set_option maxHeartbeats 8000000 in
set_option maxRecDepth 100000 in
theorem spec_l8Colors.calls (k : Nat) (a0_0 : Int) (a0_1 : Int) (a0_2 : Int) (a0_3 : Int) (A0_4 : Option Addr) (c0_4 : Nat) (l0_4 : List Int) (A0_5 : Option Addr) (c0_5 : Nat) (l0_5 : List Int) (r : Bool) (w : World) (hr0_4 : Kd.C (Kd.int .i64) w A0_4 l0_4.length l0_4) (hc0_4 : l0_4.length ≤ c0_4) (hr0_5 : Kd.C (Kd.int .i64) w A0_5 l0_5.length l0_5) (hc0_5 : l0_5.length ≤ c0_5) (h : spec_l8Colors.f k a0_0 a0_1 a0_2 a0_3 l0_4 l0_5 = some r) :
  Calls Try.prog 73 #[.agg #[.int .i64 a0_0, .int .i64 a0_1, .int .i64 a0_2, .int .i64 a0_3, .slice A0_4 l0_4.length c0_4, .slice A0_5 l0_5.length c0_5]] w fun e w' => e = .returned (.bool r) ∧ Below w.heap.size w w' := by
 have hu25 := Try.underlying25
 have HR0_4 := aM_ hr0_4
 have HC0_4 := aM_ hc0_4
 clear hr0_4 hc0_4
 have HR0_5 := aM_ hr0_5
 have HC0_5 := aM_ hc0_5
 clear hr0_5 hc0_5
 have HB := aM_ (Below.refl w.heap.size w)
 have H : (spec_l8Colors.l0 k 0 a0_0 a0_1 a0_2 a0_3 l0_4 l0_5) = some r := h
 clear h
 have H' := aM_ H
 clear H
 go_enter Try.func73, Try.ntmps73
 go_wp2_with (first | ((with_reducible refine gate_dst (N := 1) rfl ?_); refine box_event ?hg (N := 1) ?hd (cs := #[.int .i64 a0_0, .int .i64 a0_1, .int .i64 a0_2, .int .i64 a0_3, .slice A0_4 l0_4.length c0_4, .slice A0_5 l0_5.length c0_5]) (t := 25) ?hr ?_; (case hd => rfl); (case hg => rfl); (case hr => first | (go_simp; done) | (go_simp; rfl)); intro gb304 hg w2 hbox hb; have n0_ := aM_ (below_step (by repeat (first | (with_reducible first | exact HB.out | apply wA_ | apply wN_ | apply wD_) | exact HB.out)) hb); have n1_ := aM_ (hbox); have n2_ := aM_ ((by rw [hg]; exact (below_size (by repeat (first | (with_reducible first | exact HB.out | apply wA_ | apply wN_ | apply wD_) | exact HB.out))) : w.heap.size ≤ gb304)); have n3_ := aM_ ((by rw [hg]; exact (below_size (by repeat (first | (with_reducible first | exact HB.out | apply wA_ | apply wN_ | apply wD_) | exact HB.out))) : w.heap.size ≤ gb304)); clear HB; have HB := n0_; have BK304 := n1_; have GW304 := n2_; have GE304 := n3_; clear n0_ n1_ n2_ n3_; clear hb hbox hg))
 repeat (go_quiet (first | ((with_reducible refine gate_dst (N := 1) rfl ?_); refine box_event ?hg (N := 1) ?hd (cs := #[.int .i64 a0_0, .int .i64 a0_1, .int .i64 a0_2, .int .i64 a0_3, .slice A0_4 l0_4.length c0_4, .slice A0_5 l0_5.length c0_5]) (t := 25) ?hr ?_; (case hd => rfl); (case hg => rfl); (case hr => first | (go_simp; done) | (go_simp; rfl)); intro gb304 hg w2 hbox hb; have n0_ := aM_ (below_step (by repeat (first | (with_reducible first | exact HB.out | apply wA_ | apply wN_ | apply wD_) | exact HB.out)) hb); have n1_ := aM_ (hbox); have n2_ := aM_ ((by rw [hg]; exact (below_size (by repeat (first | (with_reducible first | exact HB.out | apply wA_ | apply wN_ | apply wD_) | exact HB.out))) : w.heap.size ≤ gb304)); have n3_ := aM_ ((by rw [hg]; exact (below_size (by repeat (first | (with_reducible first | exact HB.out | apply wA_ | apply wN_ | apply wD_) | exact HB.out))) : w.heap.size ≤ gb304)); clear HB; have HB := n0_; have BK304 := n1_; have GW304 := n2_; have GE304 := n3_; clear n0_ n1_ n2_ n3_; clear hb hbox hg)); try go_wp2_with (first | ((with_reducible refine gate_dst (N := 1) rfl ?_); refine box_event ?hg (N := 1) ?hd (cs := #[.int .i64 a0_0, .int .i64 a0_1, .int .i64 a0_2, .int .i64 a0_3, .slice A0_4 l0_4.length c0_4, .slice A0_5 l0_5.length c0_5]) (t := 25) ?hr ?_; (case hd => rfl); (case hg => rfl); (case hr => first | (go_simp; done) | (go_simp; rfl)); intro gb304 hg w2 hbox hb; have n0_ := aM_ (below_step (by repeat (first | (with_reducible first | exact HB.out | apply wA_ | apply wN_ | apply wD_) | exact HB.out)) hb); have n1_ := aM_ (hbox); have n2_ := aM_ ((by rw [hg]; exact (below_size (by repeat (first | (with_reducible first | exact HB.out | apply wA_ | apply wN_ | apply wD_) | exact HB.out))) : w.heap.size ≤ gb304)); have n3_ := aM_ ((by rw [hg]; exact (below_size (by repeat (first | (with_reducible first | exact HB.out | apply wA_ | apply wN_ | apply wD_) | exact HB.out))) : w.heap.size ≤ gb304)); clear HB; have HB := n0_; have BK304 := n1_; have GW304 := n2_; have GE304 := n3_; clear n0_ n1_ n2_ n3_; clear hb hbox hg)))
 go_loopg [3] k (fun kq v3 w' => ∃ (x3_1 : Int), v3 = .int .i64 x3_1 ∧ Aside0 (spec_l8Colors.l0 kq x3_1 a0_0 a0_1 a0_2 a0_3 l0_4 l0_5 = some r) ∧ Aside0 (kq ≤ k) ∧ Aside0 (w'.heap[gb304]? = some (.cells #[.int .i64 a0_0, .int .i64 a0_1, .int .i64 a0_2, .int .i64 a0_3, (.slice A0_4 l0_4.length c0_4), (.slice A0_5 l0_5.length c0_5)] 25 (0, 0))) ∧ Aside0 (Below w.heap.size w w'))
 case atStart => exact ⟨(0), (by first | rfl | (simp; done) | (simp [*]; done)), H', ⟨Nat.le_refl _⟩, ⟨by (with_reducible repeat (first | apply kN_ | apply kD_ | apply kA_)); exact BK304.out⟩, ⟨by repeat (first | (with_reducible first | exact HB.out | apply wA_ | apply wN_ | apply wD_ | refine below_set ?_ GE304.out) | exact HB.out)⟩⟩
 case round =>
  clear H'
  try clear p2
  obtain ⟨x3_1, rfl, HA, HK1, BK304, HB⟩ := hrel
  cases gk with
  | zero => exact absurd HA.out (by simp [spec_l8Colors.l0])
  | succ k1 =>
   have H := HA.out
   clear HA
   simp only [spec_l8Colors.l0] at H
   by_cases c3 : x3_1 < (l0_4.length : Int)
   ·rw [if_pos c3] at H
    have c3b0 : decide (x3_1 < (l0_4.length : Int)) = true := decide_eq_true c3
    clear c3
    by_cases c4 : 0 ≤ x3_1
    ·rw [if_pos c4] at H
     have c4b0 : decide (0 ≤ x3_1) = true := decide_eq_true c4
     clear c4
     replace H := Option.bind_eq_some_iff.mp H
     obtain ⟨t306, A50, H⟩ := H
     replace H : (if t306 = true then (spec_l8Colors.l0 k1 (wrap64 (x3_1 + 1)) a0_0 a0_1 a0_2 a0_3 l0_4 l0_5) else (some false)) = some r := H
     have A5 := aM_ A50
     clear A50
     by_cases c6 : t306 = true
     ·subst c6
      have H1 : (spec_l8Colors.l0 k1 (wrap64 (x3_1 + 1)) a0_0 a0_1 a0_2 a0_3 l0_4 l0_5) = some r := by first | (rw [if_pos rfl] at H; exact H) | rfl
      clear H
      have H := H1
      clear H1
      have H' := aM_ H
      clear H
      obtain ⟨hcz7_0, hcz7_1, hcz7_2, hcz7_3, hcz7_4, hcz7_5⟩ := bc6 BK304.out
      obtain ⟨hfz7_0, hfz7_1, hfz7_2, hfz7_3, hfz7_4, hfz7_5⟩ := bf6 BK304.out
      have p305 : 0 ≤ (x3_1 : Int) := of_decide_eq_true (by first | (with_reducible assumption) | assumption)
      have q305 : x3_1 < (l0_4.length : Int) := of_decide_eq_true (by first | (with_reducible assumption) | assumption)
      obtain ⟨ad305, e305, hx305_0⟩ := Kd.at_int HR0_4.out x3_1 p305 q305
      cases e305
      replace hx305_0 := (HB.out.cell (World.block_lt_of_cell? w _ hx305_0)).trans hx305_0
      replace p305 := eq_true p305
      replace q305 := eq_true q305
      go_wp2_with (first | (go_at_call 72; (with_reducible refine (spec_l1In.calls (rd l0_4 x3_1) 0 16777215 true _ A5.out).mono ?_); rintro e w' ⟨rfl, ⟨nd, rfl⟩⟩; (try first | exact ⟨rfl, _, World.drewN_drewN _ _ _⟩ | exact ⟨rfl, _, Eq.trans (World.drewN_drewN _ _ _) (congrArg (World.drewN _) (Nat.add_assoc _ _ _))⟩)))
      repeat (go_quiet (first | (go_at_call 72; (with_reducible refine (spec_l1In.calls (rd l0_4 x3_1) 0 16777215 true _ A5.out).mono ?_); rintro e w' ⟨rfl, ⟨nd, rfl⟩⟩; (try first | exact ⟨rfl, _, World.drewN_drewN _ _ _⟩ | exact ⟨rfl, _, Eq.trans (World.drewN_drewN _ _ _) (congrArg (World.drewN _) (Nat.add_assoc _ _ _))⟩))); try go_wp2_with (first | (go_at_call 72; (with_reducible refine (spec_l1In.calls (rd l0_4 x3_1) 0 16777215 true _ A5.out).mono ?_); rintro e w' ⟨rfl, ⟨nd, rfl⟩⟩; (try first | exact ⟨rfl, _, World.drewN_drewN _ _ _⟩ | exact ⟨rfl, _, Eq.trans (World.drewN_drewN _ _ _) (congrArg (World.drewN _) (Nat.add_assoc _ _ _))⟩))))
      go_roundg k1
      case measure => have := HK1.out; omega
      case rel => exact ⟨(wrap64 (x3_1 + 1)), (by first | rfl | (simp; done) | (simp [*]; done)), H', ⟨by have := HK1.out; omega⟩, ⟨by (with_reducible repeat (first | apply kN_ | apply kD_ | apply kA_)); exact BK304.out⟩, ⟨by repeat (first | (with_reducible first | exact HB.out | apply wA_ | apply wN_ | apply wD_ | refine below_set ?_ GE304.out) | exact HB.out)⟩⟩
     ·replace c6 := Bool.eq_false_iff.mpr c6
      subst c6
      have H1 : (some false) = some r := by first | (rw [if_neg (show ¬ (false = true) by decide)] at H; exact H) | rfl
      clear H
      have H := H1
      clear H1
      obtain rfl := Option.some.inj H
      obtain ⟨hcz8_0, hcz8_1, hcz8_2, hcz8_3, hcz8_4, hcz8_5⟩ := bc6 BK304.out
      obtain ⟨hfz8_0, hfz8_1, hfz8_2, hfz8_3, hfz8_4, hfz8_5⟩ := bf6 BK304.out
      have p305 : 0 ≤ (x3_1 : Int) := of_decide_eq_true (by first | (with_reducible assumption) | assumption)
      have q305 : x3_1 < (l0_4.length : Int) := of_decide_eq_true (by first | (with_reducible assumption) | assumption)
      obtain ⟨ad305, e305, hx305_0⟩ := Kd.at_int HR0_4.out x3_1 p305 q305
      cases e305
      replace hx305_0 := (HB.out.cell (World.block_lt_of_cell? w _ hx305_0)).trans hx305_0
      replace p305 := eq_true p305
      replace q305 := eq_true q305
      go_wp2_with (first | (go_at_call 72; (with_reducible refine (spec_l1In.calls (rd l0_4 x3_1) 0 16777215 false _ A5.out).mono ?_); rintro e w' ⟨rfl, ⟨nd, rfl⟩⟩; (try first | exact ⟨rfl, _, World.drewN_drewN _ _ _⟩ | exact ⟨rfl, _, Eq.trans (World.drewN_drewN _ _ _) (congrArg (World.drewN _) (Nat.add_assoc _ _ _))⟩)))
      repeat (go_quiet (first | (go_at_call 72; (with_reducible refine (spec_l1In.calls (rd l0_4 x3_1) 0 16777215 false _ A5.out).mono ?_); rintro e w' ⟨rfl, ⟨nd, rfl⟩⟩; (try first | exact ⟨rfl, _, World.drewN_drewN _ _ _⟩ | exact ⟨rfl, _, Eq.trans (World.drewN_drewN _ _ _) (congrArg (World.drewN _) (Nat.add_assoc _ _ _))⟩))); try go_wp2_with (first | (go_at_call 72; (with_reducible refine (spec_l1In.calls (rd l0_4 x3_1) 0 16777215 false _ A5.out).mono ?_); rintro e w' ⟨rfl, ⟨nd, rfl⟩⟩; (try first | exact ⟨rfl, _, World.drewN_drewN _ _ _⟩ | exact ⟨rfl, _, Eq.trans (World.drewN_drewN _ _ _) (congrArg (World.drewN _) (Nat.add_assoc _ _ _))⟩))))
      go_ret
      exact ⟨by first | rfl | (simp [errW_none, errW_some] <;> rfl) | (simp [*, errW_none, errW_some] <;> rfl), by repeat (first | (with_reducible first | exact HB.out | apply wA_ | apply wN_ | apply wD_ | refine below_set ?_ GE304.out) | exact HB.out)⟩
    ·rw [if_neg c4] at H
     exact absurd H (by simp)
   ·rw [if_neg c3] at H
    have c3b0 : decide (x3_1 < (l0_4.length : Int)) = false := decide_eq_false c3
    clear c3
    by_cases c9 : a0_0 = 4
    ·rw [if_pos c9] at H
     have c9b0 : (a0_0 == 4) = true := beq_iff_eq.mpr c9
     have c9b1 : (a0_0 != 4) = false := bne_eq_false_iff_eq.mpr c9
     clear c9
     replace H := Option.bind_eq_some_iff.mp H
     obtain ⟨t307, A100, H⟩ := H
     replace H : ((spec_l1In.f (l0_4.length : Int) 1 t307).bind fun t308 => (some t308)) = some r := H
     have A10 := aM_ A100
     clear A100
     replace H := Option.bind_eq_some_iff.mp H
     obtain ⟨t308, A110, H⟩ := H
     replace H : (some t308) = some r := H
     have A11 := aM_ A110
     clear A110
     obtain rfl := Option.some.inj H
     obtain ⟨hcz12_0, hcz12_1, hcz12_2, hcz12_3, hcz12_4, hcz12_5⟩ := bc6 BK304.out
     obtain ⟨hfz12_0, hfz12_1, hfz12_2, hfz12_3, hfz12_4, hfz12_5⟩ := bf6 BK304.out
     go_wp2_with (first | (go_at_call 74; (with_reducible refine (spec_l1Pow.calls k1 a0_1 t307 _ A10.out).mono ?_); rintro e w' ⟨rfl, ⟨nd, rfl⟩⟩; (try first | exact ⟨rfl, _, World.drewN_drewN _ _ _⟩ | exact ⟨rfl, _, Eq.trans (World.drewN_drewN _ _ _) (congrArg (World.drewN _) (Nat.add_assoc _ _ _))⟩)) | (go_at_call 72; (with_reducible refine (spec_l1In.calls (l0_4.length : Int) 1 t307 t308 _ A11.out).mono ?_); rintro e w' ⟨rfl, ⟨nd, rfl⟩⟩; (try first | exact ⟨rfl, _, World.drewN_drewN _ _ _⟩ | exact ⟨rfl, _, Eq.trans (World.drewN_drewN _ _ _) (congrArg (World.drewN _) (Nat.add_assoc _ _ _))⟩)))
     repeat (go_quiet (first | (go_at_call 74; (with_reducible refine (spec_l1Pow.calls k1 a0_1 t307 _ A10.out).mono ?_); rintro e w' ⟨rfl, ⟨nd, rfl⟩⟩; (try first | exact ⟨rfl, _, World.drewN_drewN _ _ _⟩ | exact ⟨rfl, _, Eq.trans (World.drewN_drewN _ _ _) (congrArg (World.drewN _) (Nat.add_assoc _ _ _))⟩)) | (go_at_call 72; (with_reducible refine (spec_l1In.calls (l0_4.length : Int) 1 t307 t308 _ A11.out).mono ?_); rintro e w' ⟨rfl, ⟨nd, rfl⟩⟩; (try first | exact ⟨rfl, _, World.drewN_drewN _ _ _⟩ | exact ⟨rfl, _, Eq.trans (World.drewN_drewN _ _ _) (congrArg (World.drewN _) (Nat.add_assoc _ _ _))⟩))); try go_wp2_with (first | (go_at_call 74; (with_reducible refine (spec_l1Pow.calls k1 a0_1 t307 _ A10.out).mono ?_); rintro e w' ⟨rfl, ⟨nd, rfl⟩⟩; (try first | exact ⟨rfl, _, World.drewN_drewN _ _ _⟩ | exact ⟨rfl, _, Eq.trans (World.drewN_drewN _ _ _) (congrArg (World.drewN _) (Nat.add_assoc _ _ _))⟩)) | (go_at_call 72; (with_reducible refine (spec_l1In.calls (l0_4.length : Int) 1 t307 t308 _ A11.out).mono ?_); rintro e w' ⟨rfl, ⟨nd, rfl⟩⟩; (try first | exact ⟨rfl, _, World.drewN_drewN _ _ _⟩ | exact ⟨rfl, _, Eq.trans (World.drewN_drewN _ _ _) (congrArg (World.drewN _) (Nat.add_assoc _ _ _))⟩))))
     go_ret
     exact ⟨by first | rfl | (simp [errW_none, errW_some] <;> rfl) | (simp [*, errW_none, errW_some] <;> rfl), by repeat (first | (with_reducible first | exact HB.out | apply wA_ | apply wN_ | apply wD_ | refine below_set ?_ GE304.out) | exact HB.out)⟩
    ·rw [if_neg c9] at H
     have c9b0 : (a0_0 == 4) = false := beq_eq_false_iff_ne.mpr c9
     have c9b1 : (a0_0 != 4) = true := bne_iff_ne.mpr c9
     obtain rfl := Option.some.inj H
     obtain ⟨hcz13_0, hcz13_1, hcz13_2, hcz13_3, hcz13_4, hcz13_5⟩ := bc6 BK304.out
     obtain ⟨hfz13_0, hfz13_1, hfz13_2, hfz13_3, hfz13_4, hfz13_5⟩ := bf6 BK304.out
     go_wp2
     repeat (go_quiet (fail); try go_wp2)
     go_ret
     exact ⟨by first | rfl | (simp [errW_none, errW_some] <;> rfl) | (simp [*, errW_none, errW_some] <;> rfl), by repeat (first | (with_reducible first | exact HB.out | apply wA_ | apply wN_ | apply wD_ | refine below_set ?_ GE304.out) | exact HB.out)⟩

end Go.Proofs.Ytabjhgimeldpeaa.PFnImageRgb
