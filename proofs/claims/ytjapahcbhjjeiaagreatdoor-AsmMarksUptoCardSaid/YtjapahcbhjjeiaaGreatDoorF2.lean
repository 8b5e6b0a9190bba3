/- A literal list of numbers or of texts, laid by a walk: its new world under a name of its own. -/
import Derived.Test.YtjapahcbhjjeiaaGreatDoorF1
import Derived.Test.YtjapahcbhjjeiaaGreatDoorG2
import Derived.Test.YtjapahcbhjjeiaaGreatDoorG15
namespace Go.Proofs.YtjapahcbhjjeiaaGreatDoor.AS
open Go.RowKit Go.Proofs.YtjapahcbhjjeiaaGreatDoorW.PrintWords Go.Proofs.YtjapahcbhjjeiaaGreatDoorW.PrintLast Go.Proofs.YtjapahcbhjjeiaaGreatDoorW.PrintMore
set_option linter.unusedVariables false
variable {P : Program} {ops : Array Oper} {rest : List Oper} {o : Oper} {a : Act} {Q : Exit → Act → World → Prop}

theorem lit_event {W : World} (hgd : o.guard = none) {N : Tmp} (_hd : o.dst = some N) (xs : List Int) (hl : xs.length ≤ 1000)
    (hrun : (execOp a.eval o).run P W = .ok (.value (.slice (some ⟨W.heap.size, 0, none⟩) xs.length xs.length)) (W.alloc (.cells (xs.map (Value.int .i64)).toArray 3)))
    (h : ∀ A w1, Kd.C (Kd.int .i64) w1 A xs.length xs → Below W.heap.size W w1 → wpList P ops Q rest (a.put o.dst (.slice A xs.length xs.length)) w1) : wpList P ops Q (o :: rest) a W :=
  Kd.event_run hgd hrun (h _ _ (lit_C W xs hl) (below_alloc (Below.refl _ _) _))
theorem lit_step {Kc : Act → World → Prop} {W : World} (hw : Region.wanted o (yielded ops a.tmps) = true) (xs : List Int) (hl : xs.length ≤ 1000)
    (hrun : (execOp a.eval o).run P W = .ok (.value (.slice (some ⟨W.heap.size, 0, none⟩) xs.length xs.length)) (W.alloc (.cells (xs.map (Value.int .i64)).toArray 3)))
    (h : ∀ A w1, Kd.C (Kd.int .i64) w1 A xs.length xs → Below W.heap.size W w1 → Kc (a.put o.dst (.slice A xs.length xs.length)) w1) {N : Option Tmp} : if Region.wanted o (yielded ops a.tmps) = true then Oper.wp P o a W Kc Q else Kc (a.put N undef) W := by
  rw [if_pos hw]
  unfold Oper.wp
  rw [hrun]
  exact h _ _ (lit_C W xs hl) (below_alloc (Below.refl _ _) _)
theorem litS_event {W : World} (hgd : o.guard = none) {N : Tmp} (_hd : o.dst = some N) (xs : List ByteArray) (hl : xs.length ≤ 1000)
    (hrun : (execOp a.eval o).run P W = .ok (.value (.slice (some ⟨W.heap.size, 0, none⟩) xs.length xs.length)) (W.alloc (.cells (xs.map Value.string).toArray 9)))
    (h : ∀ A w1, Kd.C Kd.string w1 A xs.length xs → Below W.heap.size W w1 → wpList P ops Q rest (a.put o.dst (.slice A xs.length xs.length)) w1) : wpList P ops Q (o :: rest) a W :=
  Kd.event_run hgd hrun (h _ _ (lit_S W xs hl) (below_alloc (Below.refl _ _) _))

end Go.Proofs.YtjapahcbhjjeiaaGreatDoor.AS
