/- Plain lemmas: a text as a row of its own bytes, as the walk meets it. No condition. -/
import Derived.Test.YtdebckcphaocmaaV
namespace Go.Proofs.Ytdebckcphaocmaa.Th
open Go.RowKit Go.Proofs.YtdebckcphaocmaaW.PrintWords Go.Proofs.YtdebckcphaocmaaW.PrintMore

/-- '[]byte(s)': a row that can be read. -/
theorem conv_event {P : Program} {ops : Array Oper} {rest : List Oper} {o : Oper} {a : Act} {Q : Exit → Act → World → Prop} {W : World} (hgd : o.guard = none) {N : Tmp} (_hd : o.dst = some N) {e : TypeId} {s : ByteArray}
    (hrun : (execOp a.eval o).run P W = .ok (.value (.slice (some ⟨W.heap.size, 0, none⟩) s.size (grownCap W s.size 0 e))) (Lib.bytesWorld W e s)) (hsz : s.size ≤ 9223372036854775807)
    (h : ∀ A c w1, Kd.C (Kd.int .u8) w1 A (bytesOf s).length (bytesOf s) → (bytesOf s).length ≤ c → Below W.heap.size W w1 → wpList P ops Q rest (a.put o.dst (.slice A (bytesOf s).length c)) w1) : wpList P ops Q (o :: rest) a W := by
  refine Kd.event_run hgd hrun ?_
  have hl := bytesOf_length s
  have hC : Kd.C (Kd.int .u8) (Lib.bytesWorld W e s) (some ⟨W.heap.size, 0, none⟩) (bytesOf s).length (bytesOf s) := by
    rw [hl]
    exact Kd.C_of_reads (d := (0 : Int)) (bytes_reads W e s hsz)
  have := h (some ⟨W.heap.size, 0, none⟩) (grownCap W s.size 0 e) (Lib.bytesWorld W e s) hC (by rw [hl]; exact grownCap_ge W s.size 0 e) (bytes_below (Below.refl _ _) (Nat.le_refl _) e s)
  rw [hl] at this
  exact this
end Go.Proofs.Ytdebckcphaocmaa.Th
