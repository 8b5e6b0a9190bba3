/- The plain law of TraceWrites, third part: the reference's answer on what may be. -/
import Derived.Test.YtgibdhdglppdcaaGreatQ2
namespace Go.Proofs.YtgibdhdglppdcaaGreat.PU
set_option maxRecDepth 100000
open Go.RowKit Go.Proofs.YtgibdhdglppdcaaGreatW.PrintWords Go.Proofs.YtgibdhdglppdcaaGreatW.PrintLast Go.Proofs.YtgibdhdglppdcaaGreatW.PrintMore
set_option linter.unusedVariables false

/-- A conf that may be. -/
def confB (a0 a1 : Int) (l3 l4 l5 : List Int) : Bool := decide (1 ≤ a0) && decide (a0 ≤ 64) && decide (1 ≤ a1) && decide (a1 ≤ 64) && decide ((l5.length : Int) ≤ a1 * 4096) && boardB a0 l3 l4.length
theorem bare_Ev (a0 a1 a2 : Int) (l3 l4 l5 : List Int) (a6 : Bool) (hm : l3.length ≤ 9223372036854775807) : Ev (fun k => bare_Right.f k a0 a1 a2 l3 l4 l5 a6) (confB a0 a1 l3 l4 l5) := by
  unfold bare_Right.f confB
  by_cases c1 : a0 ≥ 1
  · by_cases c2 : a0 ≤ 64
    · by_cases c3 : a1 ≥ 1
      · by_cases c4 : a1 ≤ 64
        · have ew : wrap64 (a1 * 4096) = a1 * 4096 := by unfold wrap64; omega
          by_cases c5 : (l5.length : Int) ≤ a1 * 4096
          · simp only [if_pos c1, if_pos c2, if_pos c3, if_pos c4, ew, if_pos c5, decide_eq_true c1, decide_eq_true c2, decide_eq_true c3, decide_eq_true c4, decide_eq_true c5, Bool.true_and]
            exact Ev.bind (board_Ev a0 l3 l4 hm) (Ev.now _)
          · simp only [if_pos c1, if_pos c2, if_pos c3, if_pos c4, ew, if_neg c5, decide_eq_false c5, Bool.and_false, Bool.false_and]; exact Ev.now _
        · simp only [if_pos c1, if_pos c2, if_pos c3, if_neg c4, decide_eq_false c4, Bool.and_false, Bool.false_and]; exact Ev.now _
      · simp only [if_pos c1, if_pos c2, if_neg c3, show decide (1 ≤ a1) = false by simp; omega, Bool.and_false, Bool.false_and]; exact Ev.now _
    · simp only [if_pos c1, if_neg c2, decide_eq_false c2, Bool.and_false, Bool.false_and]; exact Ev.now _
  · simp only [if_neg c1, show decide (1 ≤ a0) = false by simp; omega, Bool.and_false, Bool.false_and]; exact Ev.now _
/-- A life that may be. -/
def rightB (a0 a1 a2 : Int) (l3 l4 l5 : List Int) (ls : List S56) : Bool := confB a0 a1 l3 l4 l5 && decide (0 ≤ a2) && decide (a2 ≤ 1099511627776) && ls.all plainB
theorem right_Ev (a0 a1 a2 : Int) (l3 l4 l5 : List Int) (a6 : Bool) (ls : List S56) (hm : l3.length ≤ 9223372036854775807) : Ev (fun k => trace_right.f k a0 a1 a2 l3 l4 l5 a6 ls) (rightB a0 a1 a2 l3 l4 l5 ls) := by
  unfold trace_right.f
  exact Ev.bind (bare_Ev a0 a1 a2 l3 l4 l5 a6 hm) (Ev.now _)

theorem rd56_nat (l : List S56) (i : Nat) (h : i < l.length) : rd_T56 l (i : Int) = l[i] := by simp [rd_T56, h]
end Go.Proofs.YtgibdhdglppdcaaGreat.PU
