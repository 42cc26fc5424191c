/- What the functions that the law comes to compute, as plain functions, and that the machine's calls come to just that: written by a program for this claim, and turned where Lean did not take it. No condition. -/
import Derived.Test.YtagbmaapahhmpaaHFnImageLikex0
namespace Go.Proofs.Ytagbmaapahhmpaa.PFnImageLike
open Go.RowKit Go.Proofs.YtagbmaapahhmpaaW.PrintWords Go.Proofs.YtagbmaapahhmpaaW.PrintLast Go.Proofs.YtagbmaapahhmpaaW.PrintMore
attribute [local go_sem] max2_int min2_int max_two min_two max_three min_three max_four min_four   -- for this text's walks alone
set_option linter.unusedVariables false
set_option linter.unusedSimpArgs false

/-! ### impl_Image_color: function 27 -/
def impl_Image_color.f (a0_0:Int) (a0_1:Int) (a0_2:Int) (a0_3:Int) (l0_4:List Int) (l0_5:List Int) (a1:Int):Option (Int):=if a0_0=1 then (if 0≤a0_1 then (if (wrap64 ((shl .i64 1 a0_1) - 1))=0 then (none) else (some (wrap64 ((wrap64 ((wrap64 ((wrap64 (Int.tdiv (wrap64 (a1 * 255)) (wrap64 ((shl .i64 1 a0_1) - 1)))) * 65793)) * 256))+255)))) else (none)) else (if a0_0=2 then (some (wrap64 ((wrap64 (256 * a1))+255))) else (if a0_0=3 then (some a1) else (if 0≤a1 then (if a1 < (l0_4.length:Int) then (some (wrap64 ((wrap64 (256 * (rd l0_4 a1)))+255))) else (none)) else (none))))
set_option maxHeartbeats 8000000 in
set_option maxRecDepth 100000 in
theorem impl_Image_color.calls (a0_0:Int) (a0_1:Int) (a0_2:Int) (a0_3:Int) (A0_4:Option Addr) (c0_4:Nat) (l0_4:List Int) (A0_5:Option Addr) (c0_5:Nat) (l0_5:List Int) (a1:Int) (r:Int) (w:World) (hr0_4:Kd.C (Kd.int .i64) w A0_4 l0_4.length l0_4) (hc0_4:l0_4.length≤c0_4) (hr0_5:Kd.C (Kd.int .i64) w A0_5 l0_5.length l0_5) (hc0_5:l0_5.length≤c0_5) (h:impl_Image_color.f a0_0 a0_1 a0_2 a0_3 l0_4 l0_5 a1=some r) :
  Calls Try.prog 27 #[.agg #[.int .i64 a0_0,.int .i64 a0_1,.int .i64 a0_2,.int .i64 a0_3,.slice A0_4 l0_4.length c0_4,.slice A0_5 l0_5.length c0_5],.int .i64 a1] w fun e w'=>e=.returned (.int .i64 r)∧Below w.heap.size w w':=by
 have hu25:=Try.underlying25;have HR0_4:=aM_ hr0_4;have HC0_4:=aM_ hc0_4;clear hr0_4 hc0_4;have HR0_5:=aM_ hr0_5;have HC0_5:=aM_ hc0_5;clear hr0_5 hc0_5;have HB:=aM_ (Below.refl w.heap.size w);have H:(if a0_0=1 then (if 0≤a0_1 then (if (wrap64 ((shl .i64 1 a0_1) - 1))=0 then (none) else (some (wrap64 ((wrap64 ((wrap64 ((wrap64 (Int.tdiv (wrap64 (a1 * 255)) (wrap64 ((shl .i64 1 a0_1) - 1)))) * 65793)) * 256))+255)))) else (none)) else (if a0_0=2 then (some (wrap64 ((wrap64 (256 * a1))+255))) else (if a0_0=3 then (some a1) else (if 0≤a1 then (if a1 < (l0_4.length:Int) then (some (wrap64 ((wrap64 (256 * (rd l0_4 a1)))+255))) else (none)) else (none)))))=some r:=h;clear h
 by_cases c3:a0_0=1
 ·rw [if_pos c3] at H;have c3b0:(a0_0 == 1)=true:=beq_iff_eq.mpr c3;have c3b1:(a0_0 != 1)=false:=bne_eq_false_iff_eq.mpr c3;clear c3
  by_cases c4:0≤a0_1
  ·rw [if_pos c4] at H;have c4b0:=eq_true c4;have c4b1:decide (0≤a0_1)=true:=decide_eq_true c4;clear c4;obtain ⟨ji5,hji5⟩:∃ j_:Int,(shl .i64 1 a0_1)=j_:=⟨_,rfl⟩
   replace H:(if (wrap64 ((ji5) - 1))=0 then (none) else (some (wrap64 ((wrap64 ((wrap64 ((wrap64 (Int.tdiv (wrap64 (a1 * 255)) (wrap64 ((ji5) - 1)))) * 65793)) * 256))+255))))=some r:=by first|(rw [hji5] at H;exact H)|(simp only [hji5] at H ⊢;exact H)
   have hji5_:(IntKind.i64.wrap (1 * 2 ^ min a0_1.toNat 64))=ji5:=hji5;have hji5z:a0_1≤64 → (IntKind.i64.wrap (1 * 2 ^ a0_1.toNat))=ji5:=shl_small hji5
   have hji5u:(IntKind.i64.wrap (2 ^ min a0_1.toNat 64))=ji5:=by have h_:=hji5_;rw [Int.one_mul] at h_;exact h_
   have hji5v:a0_1≤64 → (IntKind.i64.wrap (2 ^ a0_1.toNat))=ji5:=fun hle_=>by have h_:=hji5z hle_;rw [Int.one_mul] at h_;exact h_
   have hji5y:(wrap64 (1 * 2 ^ min a0_1.toNat 64))=ji5:=(i64_w _).symm.trans hji5_
   have hji5x:a0_1≤64 → (wrap64 (1 * 2 ^ a0_1.toNat))=ji5:=fun h_=>(i64_w _).symm.trans (hji5z h_)
   by_cases c6:(wrap64 ((ji5) - 1))=0
   ·rw [if_pos c6] at H;exact absurd H (by simp)
   ·rw [if_neg c6] at H;have c6b0:((wrap64 ((ji5) - 1)) == 0)=false:=beq_eq_false_iff_ne.mpr c6;have c6b1:((wrap64 ((ji5) - 1)) != 0)=true:=bne_iff_ne.mpr c6;obtain rfl:=Option.some.inj H
    go_enter Try.func27,Try.ntmps27
    go_wp2_with (first|((with_reducible refine gate_dst (N:=2) rfl ?_);refine bE_ 2 #[.int .i64 a0_0,.int .i64 a0_1,.int .i64 a0_2,.int .i64 a0_3,.slice A0_4 l0_4.length c0_4,.slice A0_5 l0_5.length c0_5] 25 ?_;intro gb116 hg w7 hbox hb;have BK116:=aM_ (hbox);have GW116:=aM_ ((by rw [hg];exact (below_size (hb_ HB)):w.heap.size≤gb116));have GE116:=GW116;replace HB:=aM_ (below_step (hb_ HB) hb);clear hb hbox hg;obtain ⟨z8_0,z8_1,z8_2,z8_3,z8_4,z8_5⟩:=bc6 BK116.out;obtain ⟨y8_0,y8_1,y8_2,y8_3,y8_4,y8_5⟩:=bf6 BK116.out))
    go_ret
    exact ⟨by first|rfl|(simp [errW_none,errW_some] <;> rfl)|(simp only [← hji5];first|rfl|(simp [errW_none,errW_some] <;> rfl))|(simp [*,errW_none,errW_some] <;> rfl),by repeat (first|(with_reducible first|exact HB.out|apply wA_|apply wN_|apply wD_|refine below_set ?_ GE116.out)|exact HB.out)⟩
  ·rw [if_neg c4] at H;exact absurd H (by simp)
 ·rw [if_neg c3] at H;have c3b0:(a0_0 == 1)=false:=beq_eq_false_iff_ne.mpr c3;have c3b1:(a0_0 != 1)=true:=bne_iff_ne.mpr c3
  by_cases c9:a0_0=2
  ·rw [if_pos c9] at H;have c9b0:(a0_0 == 2)=true:=beq_iff_eq.mpr c9;have c9b1:(a0_0 != 2)=false:=bne_eq_false_iff_eq.mpr c9;clear c9;obtain rfl:=Option.some.inj H
   go_enter Try.func27,Try.ntmps27
   go_wp2_with (first|((with_reducible refine gate_dst (N:=2) rfl ?_);refine bE_ 2 #[.int .i64 a0_0,.int .i64 a0_1,.int .i64 a0_2,.int .i64 a0_3,.slice A0_4 l0_4.length c0_4,.slice A0_5 l0_5.length c0_5] 25 ?_;intro gb116 hg w10 hbox hb;have BK116:=aM_ (hbox);have GW116:=aM_ ((by rw [hg];exact (below_size (hb_ HB)):w.heap.size≤gb116));have GE116:=GW116;replace HB:=aM_ (below_step (hb_ HB) hb);clear hb hbox hg;obtain ⟨z11_0,z11_1,z11_2,z11_3,z11_4,z11_5⟩:=bc6 BK116.out;obtain ⟨y11_0,y11_1,y11_2,y11_3,y11_4,y11_5⟩:=bf6 BK116.out))
   go_ret
   exact ⟨by first|rfl|(simp [errW_none,errW_some] <;> rfl)|(simp [*,errW_none,errW_some] <;> rfl),by repeat (first|(with_reducible first|exact HB.out|apply wA_|apply wN_|apply wD_|refine below_set ?_ GE116.out)|exact HB.out)⟩
  ·rw [if_neg c9] at H;have c9b0:(a0_0 == 2)=false:=beq_eq_false_iff_ne.mpr c9;have c9b1:(a0_0 != 2)=true:=bne_iff_ne.mpr c9
   by_cases c12:a0_0=3
   ·rw [if_pos c12] at H;have c12b0:(a0_0 == 3)=true:=beq_iff_eq.mpr c12;have c12b1:(a0_0 != 3)=false:=bne_eq_false_iff_eq.mpr c12;clear c12;obtain rfl:=Option.some.inj H
    go_enter Try.func27,Try.ntmps27
    go_wp2_with (first|((with_reducible refine gate_dst (N:=2) rfl ?_);refine bE_ 2 #[.int .i64 a0_0,.int .i64 a0_1,.int .i64 a0_2,.int .i64 a0_3,.slice A0_4 l0_4.length c0_4,.slice A0_5 l0_5.length c0_5] 25 ?_;intro gb116 hg w13 hbox hb;have BK116:=aM_ (hbox);have GW116:=aM_ ((by rw [hg];exact (below_size (hb_ HB)):w.heap.size≤gb116));have GE116:=GW116;replace HB:=aM_ (below_step (hb_ HB) hb);clear hb hbox hg;obtain ⟨z14_0,z14_1,z14_2,z14_3,z14_4,z14_5⟩:=bc6 BK116.out;obtain ⟨y14_0,y14_1,y14_2,y14_3,y14_4,y14_5⟩:=bf6 BK116.out))
    go_ret
    exact ⟨by first|rfl|(simp [errW_none,errW_some] <;> rfl)|(simp [*,errW_none,errW_some] <;> rfl),by repeat (first|(with_reducible first|exact HB.out|apply wA_|apply wN_|apply wD_|refine below_set ?_ GE116.out)|exact HB.out)⟩
   ·rw [if_neg c12] at H;have c12b0:(a0_0 == 3)=false:=beq_eq_false_iff_ne.mpr c12;have c12b1:(a0_0 != 3)=true:=bne_iff_ne.mpr c12
    by_cases c15:0≤a1
    ·rw [if_pos c15] at H;have c15b0:decide (0≤a1)=true:=decide_eq_true c15;clear c15
     by_cases c16:a1 < (l0_4.length:Int)
     ·rw [if_pos c16] at H;have c16b0:decide (a1 < (l0_4.length:Int))=true:=decide_eq_true c16;clear c16;obtain rfl:=Option.some.inj H
      go_enter Try.func27,Try.ntmps27
      go_wp2_with (first|((with_reducible refine gate_dst (N:=2) rfl ?_);refine bE_ 2 #[.int .i64 a0_0,.int .i64 a0_1,.int .i64 a0_2,.int .i64 a0_3,.slice A0_4 l0_4.length c0_4,.slice A0_5 l0_5.length c0_5] 25 ?_;intro gb116 hg w17 hbox hb;have BK116:=aM_ (hbox);have GW116:=aM_ ((by rw [hg];exact (below_size (hb_ HB)):w.heap.size≤gb116));have GE116:=GW116;replace HB:=aM_ (below_step (hb_ HB) hb);clear hb hbox hg;obtain ⟨z18_0,z18_1,z18_2,z18_3,z18_4,z18_5⟩:=bc6 BK116.out;obtain ⟨y18_0,y18_1,y18_2,y18_3,y18_4,y18_5⟩:=bf6 BK116.out;have p117:0≤(a1:Int):=of_decide_eq_true (by first|(with_reducible assumption)|assumption);have q117:a1 < (l0_4.length:Int):=of_decide_eq_true (by first|(with_reducible assumption)|assumption);obtain ⟨ad117,e117,hx117_0⟩:=Kd.at_int HR0_4.out a1 p117 q117;cases e117;replace hx117_0:=(HB.out.cell (World.block_lt_of_cell? w _ hx117_0)).trans hx117_0;replace p117:=eq_true p117;replace q117:=eq_true q117))
      go_ret
      exact ⟨by first|rfl|(simp [errW_none,errW_some] <;> rfl)|(simp [*,errW_none,errW_some] <;> rfl),by repeat (first|(with_reducible first|exact HB.out|apply wA_|apply wN_|apply wD_|refine below_set ?_ GE116.out)|exact HB.out)⟩
     ·rw [if_neg c16] at H;exact absurd H (by simp)
    ·rw [if_neg c15] at H;exact absurd H (by simp)

end Go.Proofs.Ytagbmaapahhmpaa.PFnImageLike
