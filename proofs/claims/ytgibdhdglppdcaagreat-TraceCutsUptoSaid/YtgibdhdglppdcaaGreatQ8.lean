/- What is written: its bytes' range and number; Write, copied and Copied as calls. -/
import Derived.Test.YtgibdhdglppdcaaGreatQ7
import Derived.Test.YtgibdhdglppdcaaGreatC3
namespace Go.Proofs.YtgibdhdglppdcaaGreat.PU
set_option maxRecDepth 100000
open Go.RowKit Go.Proofs.YtgibdhdglppdcaaGreatW.PrintWords Go.Proofs.YtgibdhdglppdcaaGreatW.PrintLast Go.Proofs.YtgibdhdglppdcaaGreatW.PrintMore
set_option linter.unusedVariables false

def Byt (l : List Int) : Prop := ∀ y ∈ l, 0 ≤ y ∧ y < 256
theorem Byt.app {a b : List Int} (h : Byt a) (k : Byt b) : Byt (a ++ b) := fun y hy => (List.mem_append.1 hy).elim (h y) (k y)
theorem numB_byt : ∀ n : Nat, Byt (numB n) := by
  intro n
  induction n using Nat.strongRecOn with
  | _ n ih =>
    intro y hy
    by_cases h : n < 128
    · rw [numB_lt h] at hy
      have : y = (n : Int) := by simpa using hy
      omega
    · rw [numB_ge h] at hy
      rcases List.mem_cons.1 hy with e | e
      · omega
      · exact ih (n / 128) (by omega) y e
theorem intsB_byt (l : List Int) : Byt (intsB l) := fun y hy => by
  obtain ⟨n, _, hn⟩ := List.mem_flatMap.1 hy
  exact numB_byt _ y hn
theorem labsB_byt {ls : List S56} (h : ∀ x ∈ ls, Byt x.f2) : Byt (labsB ls) := fun y hy => by
  obtain ⟨x, hx, hn⟩ := List.mem_flatMap.1 hy
  unfold labB at hn
  rcases List.mem_append.1 hn with e | e
  · have : y = x.f0 % 256 := by simpa using e
    omega
  · exact (numB_byt _).app ((numB_byt _).app (h x hx)) y e
theorem lifeC_byt {c : ConfT} {ls : List S56} (h4 : Byt c.2.2.2.2.1) (h5 : Byt c.2.2.2.2.2.1) (h : ∀ x ∈ ls, Byt x.f2) : Byt (lifeC c ls) := by
  unfold lifeC lifeB tailB
  refine Byt.app (fun y hy => ?_) ((numB_byt _).app ((numB_byt _).app ((numB_byt _).app (Byt.app (fun y hy => ?_) ((numB_byt _).app ((intsB_byt _).app (((numB_byt _).app h4).app (((numB_byt _).app h5).app ((numB_byt _).app (labsB_byt h)))))))))) 
  · simp at hy; omega
  · have : y = if c.2.2.2.2.2.2 = true then 1 else 0 := by simpa using hy
    split at this <;> omega
/-- What Write answers. -/
def wrB (c : ConfT) (ls : List S56) : List Int := if rightC c ls = true then lifeC c ls else []
def wrE (c : ConfT) (ls : List S56) : Int := if rightC c ls = true then 0 else 1
structure BytR (W : World) (l : List Int) (A : Option Addr) (q : Nat) : Prop where
  r : Kd.C (Kd.int .u8) W A l.length l
  c : l.length ≤ q
theorem BytR.below {W W' : World} {l : List Int} {A : Option Addr} {q : Nat} (h : BytR W l A q) (hb : Below W.heap.size W W') : BytR W' l A q := ⟨Kd.C_below h.r hb, h.c⟩
theorem write_calls {W : World} {c : ConfT} {A3 A4 A5 A : Option Addr} {q3 q4 q5 q : Nat} {ls : List S56} (h : ConfR W c A3 q3 A4 q4 A5 q5) (k : LabsR W ls A q) (hs : ls.length ≤ 1048576) :
    Calls Tryz.prog 4 #[ConfV c A3 q3 A4 q4 A5 q5, .slice A ls.length q] W fun e w' => ∃ A1 q1, e = .returned (.tuple #[.slice A1 (wrB c ls).length q1, .int .i64 (wrE c ls)]) ∧ BytR w' (wrB c ls) A1 q1 ∧ Below W.heap.size W w' := by
  have hm : maxLen ≤ 9223372036854775807 := by decide
  obtain ⟨K, hK⟩ := write_Ev c.1 c.2.1 c.2.2.1 c.2.2.2.1 c.2.2.2.2.1 c.2.2.2.2.2.1 c.2.2.2.2.2.2 ls (by have := h.r3.2.1; omega) hs
  have hK' : trace_Write.f K c.1 c.2.1 c.2.2.1 c.2.2.2.1 c.2.2.2.2.1 c.2.2.2.2.2.1 c.2.2.2.2.2.2 ls = some (wrB c ls, wrE c ls) := by
    have := hK K (Nat.le_refl _)
    simp only at this
    rw [this]
    unfold wrB wrE rightC lifeC
    split <;> rfl
  refine (trace_Write.calls K _ _ _ A3 q3 _ A4 q4 _ A5 q5 _ _ A q ls _ _ W h.r3 h.c3 h.r4 h.c4 h.r5 h.c5 k.r k.c hK').mono ?_
  rintro e w' ⟨v, rfl, hR, hb⟩
  obtain ⟨A1, q1, rfl, hc, hr⟩ := Kd.R_reads hR
  exact ⟨A1, q1, rfl, ⟨hr, hc⟩, hb⟩
theorem copied_calls {W : World} {A : Option Addr} {q : Nat} {ls : List S56} (k : LabsR W ls A q) (hs : ls.length ≤ 1048576) (hb : ∀ x ∈ ls, x.f2.length < 140737488355328) :
    Calls Tryz.prog 6 #[.slice A ls.length q] W fun e w' => ∃ A1 q1, e = .returned (.slice A1 ls.length q1) ∧ LabsR w' ls A1 q1 ∧ Below W.heap.size W w' := by
  obtain ⟨K, hK⟩ := copied_Ev ls hs hb
  refine (citadellaw23_copied.calls K A q ls ls W k.r k.c (hK K (Nat.le_refl _))).mono ?_
  rintro e w' ⟨v, rfl, hS, hbl⟩
  obtain ⟨A1, q1, rfl, hc, hr⟩ := Kd.R_reads (Kd.S_R hS)
  exact ⟨A1, q1, rfl, ⟨hr, hc⟩, hbl⟩
theorem confCopied_calls {W : World} {c : ConfT} {A3 A4 A5 : Option Addr} {q3 q4 q5 : Nat} (h : ConfR W c A3 q3 A4 q4 A5 q5) (h3 : c.2.2.2.1.length ≤ 1048576) (h4 : c.2.2.2.2.1.length ≤ 1048576) (h5 : c.2.2.2.2.2.1.length ≤ 1048576) :
    Calls Tryz.prog 5 #[ConfV c A3 q3 A4 q4 A5 q5] W fun e w' => ∃ B3 p3 B4 p4 B5 p5, e = .returned (ConfV c B3 p3 B4 p4 B5 p5) ∧ ConfR w' c B3 p3 B4 p4 B5 p5 ∧ Below W.heap.size W w' := by
  refine (citadellaw19_Copied.calls _ _ _ A3 q3 _ A4 q4 _ A5 q5 _ _ _ _ _ _ _ _ _ W h.r3 h.c3 h.r4 h.c4 h.r5 h.c5 (Copied_f c.1 c.2.1 c.2.2.1 c.2.2.2.1 c.2.2.2.2.1 c.2.2.2.2.2.1 c.2.2.2.2.2.2 h3 h4 h5)).mono ?_
  rintro e w' ⟨v3, v4, v5, rfl, r3, r4, r5, hbl⟩
  obtain ⟨B3, p3, rfl, d3, k3⟩ := Kd.R_reads r3
  obtain ⟨B4, p4, rfl, d4, k4⟩ := Kd.R_reads r4
  obtain ⟨B5, p5, rfl, d5, k5⟩ := Kd.R_reads r5
  exact ⟨B3, p3, B4, p4, B5, p5, rfl, ⟨k3, d3, k4, d4, k5, d5⟩, hbl⟩
end Go.Proofs.YtgibdhdglppdcaaGreat.PU
