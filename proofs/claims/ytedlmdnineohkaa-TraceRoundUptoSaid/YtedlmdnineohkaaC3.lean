import Derived.Test.YtedlmdnineohkaaC2
namespace Go.Proofs.Ytedlmdnineohkaa.PU
open Go.RowKit Go.Proofs.YtedlmdnineohkaaW.PrintWords Go.Proofs.YtedlmdnineohkaaW.PrintLast Go.Proofs.YtedlmdnineohkaaW.PrintMore
set_option linter.unusedVariables false
set_option linter.unusedSimpArgs false

/-- What a reader hands back, refused or not. -/
def rdX (l : List Int) : ConfT × List S56 × Int := match readL l with
  | none => ((0, 0, 0, [], [], [], false), [], 1)
  | some x => (x.1, x.2, 0)
def ConfV (c : ConfT) (A3 : Option Addr) (q3 : Nat) (A4 : Option Addr) (q4 : Nat) (A5 : Option Addr) (q5 : Nat) : Value :=
  .agg #[.int .i64 c.1, .int .i64 c.2.1, .int .i64 c.2.2.1, .slice A3 c.2.2.2.1.length q3, .slice A4 c.2.2.2.2.1.length q4, .slice A5 c.2.2.2.2.2.1.length q5, .bool c.2.2.2.2.2.2]
structure ConfR (W : World) (c : ConfT) (A3 : Option Addr) (q3 : Nat) (A4 : Option Addr) (q4 : Nat) (A5 : Option Addr) (q5 : Nat) : Prop where
  r3 : Kd.C (Kd.int .i64) W A3 c.2.2.2.1.length c.2.2.2.1
  c3 : c.2.2.2.1.length ≤ q3
  r4 : Kd.C (Kd.int .u8) W A4 c.2.2.2.2.1.length c.2.2.2.2.1
  c4 : c.2.2.2.2.1.length ≤ q4
  r5 : Kd.C (Kd.int .u8) W A5 c.2.2.2.2.2.1.length c.2.2.2.2.2.1
  c5 : c.2.2.2.2.2.1.length ≤ q5
theorem ConfR.below {W W' : World} {c : ConfT} {A3 A4 A5 : Option Addr} {q3 q4 q5 : Nat} (h : ConfR W c A3 q3 A4 q4 A5 q5) (hb : Below W.heap.size W W') : ConfR W' c A3 q3 A4 q4 A5 q5 :=
  ⟨Kd.C_below h.r3 hb, h.c3, Kd.C_below h.r4 hb, h.c4, Kd.C_below h.r5 hb, h.c5⟩
structure LabsR (W : World) (ls : List S56) (A : Option Addr) (q : Nat) : Prop where
  r : Kd.C k56 W A ls.length ls
  c : ls.length ≤ q
theorem LabsR.below {W W' : World} {ls : List S56} {A : Option Addr} {q : Nat} (h : LabsR W ls A q) (hb : Below W.heap.size W W') : LabsR W' ls A q := ⟨Kd.C_below h.r hb, h.c⟩
def ReadUni (w : World) (l : List Int) (e : Ending) (w' : World) : Prop := ∃ A3 q3 A4 q4 A5 q5 Al ql, e = .returned (.tuple #[ConfV (rdX l).1 A3 q3 A4 q4 A5 q5, .slice Al (rdX l).2.1.length ql, .int .i64 (rdX l).2.2]) ∧ ConfR w' (rdX l).1 A3 q3 A4 q4 A5 q5 ∧ LabsR w' (rdX l).2.1 Al ql ∧ Below w.heap.size w w'
theorem read_uni {w w' : World} {l : List Int} {e : Ending} (h : ReadPost w l e w') : ReadUni w l e w' := by
  obtain ⟨hb, h⟩ := h
  unfold ReadUni rdX
  cases hL : readL l with
  | none =>
    rw [hL] at h
    exact ⟨none, 0, none, 0, none, 0, none, 0, h, ⟨Kd.C_nil _ _, by simp, Kd.C_nil _ _, by simp, Kd.C_nil _ _, by simp⟩, ⟨Kd.C_nil _ _, by simp⟩, hb⟩
  | some x =>
    rw [hL] at h
    obtain ⟨v3, v4, v5, vl, rfl, h3, h4, h5, hl⟩ := h
    obtain ⟨A3, q3, rfl, d3, k3⟩ := Kd.R_reads h3
    obtain ⟨A4, q4, rfl, d4, k4⟩ := Kd.R_reads h4
    obtain ⟨A5, q5, rfl, d5, k5⟩ := Kd.R_reads h5
    obtain ⟨Al, ql, rfl, dl, kl⟩ := Kd.R_reads hl
    exact ⟨A3, q3, A4, q4, A5, q5, Al, ql, rfl, ⟨k3, d3, k4, d4, k5, d5⟩, ⟨kl, dl⟩, hb⟩
theorem labs_len {W : World} {ls : List S56} {A : Option Addr} {q : Nat} (h : LabsR W ls A q) : ls.length ≤ 9223372036854775807 ∧ ∀ x ∈ ls, x.f2.length ≤ 9223372036854775807 := by
  have hm : maxLen ≤ 9223372036854775807 := by decide
  refine ⟨by have := h.r.2.1; omega, fun x hx => ?_⟩
  obtain ⟨i, hi, rfl⟩ := List.getElem_of_mem hx
  obtain ⟨ad, A2, c2, _, _, _, _, _, hC⟩ := at_T56 h.r (i : Int) (by omega) (by omega)
  have he : rd_T56 ls (i : Int) = ls[i] := rd56_nat ls i hi
  rw [he] at hC
  have := hC.2.1
  omega
theorem sameConf_same {W : World} {c : ConfT} {A3 A4 A5 B3 B4 B5 : Option Addr} {q3 q4 q5 p3 p4 p5 : Nat} (h : ConfR W c A3 q3 A4 q4 A5 q5) (k : ConfR W c B3 p3 B4 p4 B5 p5) :
    Calls Try.prog 16 #[ConfV c A3 q3 A4 q4 A5 q5, ConfV c B3 p3 B4 p4 B5 p5] W fun e w' => e = .returned (.bool true) ∧ Below W.heap.size W w' := by
  have hm : maxLen ≤ 9223372036854775807 := by decide
  obtain ⟨K, hK⟩ := sameConf_Ev c.1 c.2.1 c.2.2.1 c.2.2.2.1 c.2.2.2.2.1 c.2.2.2.2.2.1 c.2.2.2.2.2.2 (by have := h.r3.2.1; omega) (by have := h.r4.2.1; omega) (by have := h.r5.2.1; omega)
  exact citadellaw23_sameConf.calls K _ _ _ A3 q3 _ A4 q4 _ A5 q5 _ _ _ _ _ B3 p3 _ B4 p4 _ B5 p5 _ _ true W h.r3 h.c3 h.r4 h.c4 h.r5 h.c5 k.r3 k.c3 k.r4 k.c4 k.r5 k.c5 (hK K (Nat.le_refl _))
theorem sameLab_same {W : World} {ls : List S56} {A B : Option Addr} {q p : Nat} (h : LabsR W ls A q) (k : LabsR W ls B p) :
    Calls Try.prog 17 #[.slice A ls.length q, .slice B ls.length p] W fun e w' => e = .returned (.bool true) ∧ Below W.heap.size W w' := by
  obtain ⟨h1, h2⟩ := labs_len h
  obtain ⟨K, hK⟩ := sameLab_Ev ls h1 h2
  exact citadellaw00_SameLabels.calls K A q ls B p ls true W h.r h.c k.r k.c (hK K (Nat.le_refl _))
theorem back_same {W : World} {l : List Int} {A B : Option Addr} {q p n : Nat} (hn : n = (l ++ marks).length) (hl : l.length ≤ 8589934592) (hr : Kd.C (Kd.int .u8) W A l.length l) (hc : l.length ≤ q) (kr : Kd.C (Kd.int .u8) W B (l ++ marks).length (l ++ marks)) (kc : (l ++ marks).length ≤ p) :
    Calls Try.prog 18 #[.slice A l.length q, .slice B n p] W fun e w' => e = .returned (.bool true) ∧ Below W.heap.size W w' := by
  subst hn
  obtain ⟨K, hK⟩ := back_Ev l hl
  refine (citadellaw00_Back.calls K A q l B p _ true W hr hc kr kc (hK K (Nat.le_refl _))).mono ?_
  rintro e w' ⟨rfl, hd⟩
  exact ⟨rfl, hd.below⟩
theorem awake_true (W : World) : Calls Try.prog 12 #[] W fun e w' => e = .returned (.bool true) ∧ Below W.heap.size W w' := by
  obtain ⟨K, hK⟩ := awake_Ev
  exact citadellaw23_awake.calls K true W (hK K (Nat.le_refl _))
end Go.Proofs.Ytedlmdnineohkaa.PU
