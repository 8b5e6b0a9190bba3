import Derived.Test.YtedlmdnineohkaaA10
import Derived.Test.YtedlmdnineohkaaQ5
import Derived.Test.YtedlmdnineohkaaPUx0
import Derived.Test.YtedlmdnineohkaaPUx8
import Derived.Test.YtedlmdnineohkaaPUx10
namespace Go.Proofs.Ytedlmdnineohkaa.PU
open Go.RowKit Go.Proofs.YtedlmdnineohkaaW.PrintWords Go.Proofs.YtedlmdnineohkaaW.PrintLast Go.Proofs.YtedlmdnineohkaaW.PrintMore
set_option linter.unusedVariables false
set_option linter.unusedSimpArgs false

def ConfV (c : ConfT) (A3 : Option Addr) (q3 : Nat) (A4 : Option Addr) (q4 : Nat) (A5 : Option Addr) (q5 : Nat) : Value :=
  .agg #[.int .i64 c.1, .int .i64 c.2.1, .int .i64 c.2.2.1, .slice A3 c.2.2.2.1.length q3, .slice A4 c.2.2.2.2.1.length q4, .slice A5 c.2.2.2.2.2.1.length q5, .bool c.2.2.2.2.2.2]
structure ConfR (W : World) (c : ConfT) (A3 : Option Addr) (q3 : Nat) (A4 : Option Addr) (q4 : Nat) (A5 : Option Addr) (q5 : Nat) : Prop where
  r3 : Kd.C (Kd.int .i64) W A3 c.2.2.2.1.length c.2.2.2.1
  c3 : c.2.2.2.1.length ≤ q3
  r4 : Kd.C (Kd.int .u8) W A4 c.2.2.2.2.1.length c.2.2.2.2.1
  c4 : c.2.2.2.2.1.length ≤ q4
  r5 : Kd.C (Kd.int .u8) W A5 c.2.2.2.2.2.1.length c.2.2.2.2.2.1
  c5 : c.2.2.2.2.2.1.length ≤ q5
theorem ConfR.below {W W' : World} {c : ConfT} {A3 A4 A5 : Option Addr} {q3 q4 q5 : Nat} (h : ConfR W c A3 q3 A4 q4 A5 q5) (hb : Below W.heap.size W W') : ConfR W' c A3 q3 A4 q4 A5 q5 :=
  ⟨Kd.C_below h.r3 hb, h.c3, Kd.C_below h.r4 hb, h.c4, Kd.C_below h.r5 hb, h.c5⟩
structure LabsR (W : World) (ls : List S56) (A : Option Addr) (q : Nat) : Prop where
  r : Kd.C k56 W A ls.length ls
  c : ls.length ≤ q
theorem LabsR.below {W W' : World} {ls : List S56} {A : Option Addr} {q : Nat} (h : LabsR W ls A q) (hb : Below W.heap.size W W') : LabsR W' ls A q := ⟨Kd.C_below h.r hb, h.c⟩
theorem awake_true (W : World) : Calls Try.prog 12 #[] W fun e w' => e = .returned (.bool true) ∧ Below W.heap.size W w' := by
  obtain ⟨K, hK⟩ := awake_Ev
  exact citadellaw23_awake.calls K true W (hK K (Nat.le_refl _))
end Go.Proofs.Ytedlmdnineohkaa.PU
