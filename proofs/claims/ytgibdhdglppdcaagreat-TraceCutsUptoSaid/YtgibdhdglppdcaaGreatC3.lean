import Derived.Test.YtgibdhdglppdcaaGreatA10
import Derived.Test.YtgibdhdglppdcaaGreatQ5
import Derived.Test.YtgibdhdglppdcaaGreatPUx0
import Derived.Test.YtgibdhdglppdcaaGreatPUx8
import Derived.Test.YtgibdhdglppdcaaGreatPUx10
namespace Go.Proofs.YtgibdhdglppdcaaGreat.PU
set_option maxRecDepth 100000
open Go.RowKit Go.Proofs.YtgibdhdglppdcaaGreatW.PrintWords Go.Proofs.YtgibdhdglppdcaaGreatW.PrintLast Go.Proofs.YtgibdhdglppdcaaGreatW.PrintMore
set_option linter.unusedVariables false
set_option linter.unusedSimpArgs false

/-- What a reader hands back, refused or not. -/
def rdX (l : List Int) : ConfT × List S56 × Int := match readL l with
  | none => ((0, 0, 0, [], [], [], false), [], 1)
  | some x => (x.1, x.2, 0)
def ConfV (c : ConfT) (A3 : Option Addr) (q3 : Nat) (A4 : Option Addr) (q4 : Nat) (A5 : Option Addr) (q5 : Nat) : Value :=
  .agg #[.int .i64 c.1, .int .i64 c.2.1, .int .i64 c.2.2.1, .slice A3 c.2.2.2.1.length q3, .slice A4 c.2.2.2.2.1.length q4, .slice A5 c.2.2.2.2.2.1.length q5, .bool c.2.2.2.2.2.2]
structure ConfR (W : World) (c : ConfT) (A3 : Option Addr) (q3 : Nat) (A4 : Option Addr) (q4 : Nat) (A5 : Option Addr) (q5 : Nat) : Prop where
  r3 : Kd.C (Kd.int .i64) W A3 c.2.2.2.1.length c.2.2.2.1
  c3 : c.2.2.2.1.length ≤ q3
  r4 : Kd.C (Kd.int .u8) W A4 c.2.2.2.2.1.length c.2.2.2.2.1
  c4 : c.2.2.2.2.1.length ≤ q4
  r5 : Kd.C (Kd.int .u8) W A5 c.2.2.2.2.2.1.length c.2.2.2.2.2.1
  c5 : c.2.2.2.2.2.1.length ≤ q5
theorem ConfR.below {W W' : World} {c : ConfT} {A3 A4 A5 : Option Addr} {q3 q4 q5 : Nat} (h : ConfR W c A3 q3 A4 q4 A5 q5) (hb : Below W.heap.size W W') : ConfR W' c A3 q3 A4 q4 A5 q5 :=
  ⟨Kd.C_below h.r3 hb, h.c3, Kd.C_below h.r4 hb, h.c4, Kd.C_below h.r5 hb, h.c5⟩
structure LabsR (W : World) (ls : List S56) (A : Option Addr) (q : Nat) : Prop where
  r : Kd.C k56 W A ls.length ls
  c : ls.length ≤ q
theorem LabsR.below {W W' : World} {ls : List S56} {A : Option Addr} {q : Nat} (h : LabsR W ls A q) (hb : Below W.heap.size W W') : LabsR W' ls A q := ⟨Kd.C_below h.r hb, h.c⟩
def ReadUni (w : World) (l : List Int) (e : Ending) (w' : World) : Prop := ∃ A3 q3 A4 q4 A5 q5 Al ql, e = .returned (.tuple #[ConfV (rdX l).1 A3 q3 A4 q4 A5 q5, .slice Al (rdX l).2.1.length ql, .int .i64 (rdX l).2.2]) ∧ ConfR w' (rdX l).1 A3 q3 A4 q4 A5 q5 ∧ LabsR w' (rdX l).2.1 Al ql ∧ Below w.heap.size w w'
theorem read_uni {w w' : World} {l : List Int} {e : Ending} (h : ReadPost w l e w') : ReadUni w l e w' := by
  obtain ⟨hb, h⟩ := h
  unfold ReadUni rdX
  cases hL : readL l with
  | none =>
    rw [hL] at h
    exact ⟨none, 0, none, 0, none, 0, none, 0, h, ⟨Kd.C_nil _ _, by simp, Kd.C_nil _ _, by simp, Kd.C_nil _ _, by simp⟩, ⟨Kd.C_nil _ _, by simp⟩, hb⟩
  | some x =>
    rw [hL] at h
    obtain ⟨v3, v4, v5, vl, rfl, h3, h4, h5, hl⟩ := h
    obtain ⟨A3, q3, rfl, d3, k3⟩ := Kd.R_reads h3
    obtain ⟨A4, q4, rfl, d4, k4⟩ := Kd.R_reads h4
    obtain ⟨A5, q5, rfl, d5, k5⟩ := Kd.R_reads h5
    obtain ⟨Al, ql, rfl, dl, kl⟩ := Kd.R_reads hl
    exact ⟨A3, q3, A4, q4, A5, q5, Al, ql, rfl, ⟨k3, d3, k4, d4, k5, d5⟩, ⟨kl, dl⟩, hb⟩
theorem awake_true (W : World) : Calls Tryz.prog 7 #[] W fun e w' => e = .returned (.bool true) ∧ Below W.heap.size W w' := by
  obtain ⟨K, hK⟩ := awake_Ev
  exact citadellaw23_awake.calls K true W (hK K (Nat.le_refl _))
end Go.Proofs.YtgibdhdglppdcaaGreat.PU
