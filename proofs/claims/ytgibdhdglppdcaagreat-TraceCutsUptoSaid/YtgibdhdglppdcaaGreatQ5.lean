/- The plain law of TraceWrites, fifth part: the reference's bytes, and the law. -/
import Derived.Test.YtgibdhdglppdcaaGreatQ4
namespace Go.Proofs.YtgibdhdglppdcaaGreat.PU
set_option maxRecDepth 100000
open Go.RowKit Go.Proofs.YtgibdhdglppdcaaGreatW.PrintWords Go.Proofs.YtgibdhdglppdcaaGreatW.PrintLast Go.Proofs.YtgibdhdglppdcaaGreatW.PrintMore
set_option linter.unusedVariables false

theorem same_loop (l : List Int) (hm : l.length ≤ 9223372036854775807) : ∀ (d i : Nat), i + d = l.length → Ev (fun k => citadellaw00_SameBytes.l0 k l l (i : Int)) true := by
  intro d
  induction d with
  | zero =>
    intro i hi
    refine Ev.step (f := fun _ => some true) (fun k => ?_) (Ev.now _)
    simp only [citadellaw00_SameBytes.l0]; rw [if_neg (by omega)]
  | succ d ih =>
    intro i hi
    refine Ev.step (fun k => ?_) (ih (i + 1) (by omega))
    simp only [citadellaw00_SameBytes.l0]
    rw [if_pos (by omega), if_pos (by omega), if_pos (by omega), if_pos trivial, wrap_succ (n := l.length) (by omega) (by omega) (by omega)]
    rfl
theorem same_Ev (l : List Int) (hm : l.length ≤ 9223372036854775807) : Ev (fun k => citadellaw00_SameBytes.f k l l) true := by
  unfold citadellaw00_SameBytes.f
  simp only [if_true]
  exact same_loop l hm l.length 0 (by omega)
theorem copyBytes_f (l : List Int) (h : l.length < 140737488355328) : citadellaw00_CopyBytes.f l = some l := by
  unfold citadellaw00_CopyBytes.f
  rw [if_pos (by simpa using h)]
  rfl
theorem copied_loop (ls : List S56) (hs : ls.length ≤ 1048576) (hb : ∀ x ∈ ls, x.f2.length < 140737488355328) : ∀ (d i : Nat), i + d = ls.length → Ev (fun k => citadellaw23_copied.l0 k ls (ls.take i) (i : Int)) ls := by
  intro d
  induction d with
  | zero =>
    intro i hi
    refine Ev.step (f := fun _ => some ls) (fun k => ?_) (Ev.now _)
    simp only [citadellaw23_copied.l0]; rw [if_neg (by omega), List.take_of_length_le (by omega)]
  | succ d ih =>
    intro i hi
    have hlt : i < ls.length := by omega
    refine Ev.step (fun k => ?_) (ih (i + 1) (by omega))
    simp only [citadellaw23_copied.l0]
    rw [if_pos (by omega), if_pos (by omega), rd56_nat ls i hlt, copyBytes_f _ (hb _ (List.getElem_mem _))]
    simp only [Option.bind_some]
    rw [if_pos (by simp; omega), wrap_succ (n := ls.length) (by omega) (by omega) (by omega), take_snoc ls i hlt]
    rfl
theorem copied_Ev (ls : List S56) (hs : ls.length ≤ 1048576) (hb : ∀ x ∈ ls, x.f2.length < 140737488355328) : Ev (fun k => citadellaw23_copied.f k ls) ls := copied_loop ls hs hb ls.length 0 (by omega)
theorem Copied_f (a0 a1 a2 : Int) (l3 l4 l5 : List Int) (a6 : Bool) (h3 : l3.length ≤ 1048576) (h4 : l4.length ≤ 1048576) (h5 : l5.length ≤ 1048576) : citadellaw19_Copied.f a0 a1 a2 l3 l4 l5 a6 = some (a0, a1, a2, l3, l4, l5, a6) := by
  unfold citadellaw19_Copied.f
  rw [if_pos (by simp; omega), copyBytes_f _ (by omega), copyBytes_f _ (by omega)]
  rfl
theorem awake_Ev : Ev (fun k => citadellaw23_awake.f k) true := by
  unfold citadellaw23_awake.f
  refine Ev.bind (write_Ev 1 1 0 [] [] [] false [] (by simp) (by simp)) ?_
  have hR : rightB 1 1 0 [] [] [] [] = true := by decide
  rw [if_pos hR]
  simp only [if_true]
  have e : lifeB 1 1 0 [] [] [] false [] = [76, 73, 70, 69, 1, 1, 0, 0, 0, 0, 0, 0] := by
    simp [lifeB, tailB, intsB, labsB, numB_lt]
  rw [e]
  exact Ev.bind (same_Ev _ (by simp)) (Ev.now _)

end Go.Proofs.YtgibdhdglppdcaaGreat.PU
