import Derived.Test.YtedlmdnineohkaaQ8
import Derived.Test.YtedlmdnineohkaaQ6
import Derived.Test.YtedlmdnineohkaaB4
/- Labels that came in behind labels that were read: rows of both; what Add and Cut answer; the document's Write as a call. -/
namespace Go.Proofs.Ytedlmdnineohkaa.PU
open Go.RowKit Go.Proofs.YtedlmdnineohkaaW.PrintWords Go.Proofs.YtedlmdnineohkaaW.PrintLast Go.Proofs.YtedlmdnineohkaaW.PrintMore
set_option linter.unusedVariables false

/-- A label whose bytes came in with the world w0, or were made since. -/
def kmix (w0 : World) : Kd S56 := Kd.iso (Kd.pair (Kd.int .i64) (Kd.pair (Kd.int .i64) (Kd.mix 5 (Kd.int .u8) (Kd.int .u8) w0))) (fun x : S56 => (x.f0, x.f1, x.f2))
theorem kmix_of56 {w0 w : World} {base : Nat} {ok : Nat → Prop} {v : Value} {xs : List S56} (h : Kd.R k56 56 w base ok v xs) : Kd.R (kmix w0) 56 w base ok v xs :=
  Kd.R_imp (d := k56) (d' := kmix w0) rfl (fun w base ok x cs h => by
    obtain ⟨c0, c1, rfl, h0, c2, c3, rfl, h1, h2⟩ := h
    exact ⟨c0, _, rfl, h0, c2, c3, rfl, h1, Kd.slice_mix rfl (fun _ _ _ _ _ h => h) h2⟩) h
theorem kmix_came {w0 W : World} {base : Nat} {ok : Nat → Prop} {x : S56} {cs : List Value} (h : k56.K w0 x cs) : (kmix w0).M W base ok x cs := by
  obtain ⟨c0, c1, rfl, h0, c2, c3, rfl, h1, h2⟩ := h
  exact ⟨c0, _, rfl, h0, c2, c3, rfl, h1, Kd.slice_came h2⟩
theorem kmix_read {w0 w : World} {A : Option Addr} {n : Nat} {xs : List S56} (hb : Below w0.heap.size w0 w) (h : (kmix w0).C w A n xs) : k56.C w A n xs :=
  Kd.C_read (dm := kmix w0) (d := k56) rfl (fun x cs h => by
    obtain ⟨c0, c1, rfl, h0, c2, c3, rfl, h1, h2⟩ := h
    exact ⟨c0, _, rfl, h0, c2, c3, rfl, h1, Kd.mix_read rfl (fun _ _ h => h) hb h2⟩) h
theorem labs_rows {w0 W : World} {ls : List S56} {A : Option Addr} {q : Nat} (h : LabsR w0 ls A q) (hb : Below w0.heap.size w0 W) : ReadsRow (k56.K w0) (kmix w0).sz W A ls.length ls := ReadsRow.imp_ h.r hb (fun _ _ hp => hp)

def addB (lb : List Int) (more : List S56) : List Int := match readL lb with
  | none => []
  | some x => wrB x.1 (x.2 ++ more)
def addE (lb : List Int) (more : List S56) : Int := match readL lb with
  | none => 1
  | some x => wrE x.1 (x.2 ++ more)
def cutB (lb : List Int) (n : Int) : List Int := match readL lb with
  | none => []
  | some x => if n < 0 ∨ (x.2.length : Int) < n then [] else wrB x.1 (x.2.take n.toNat)
def cutE (lb : List Int) (n : Int) : Int := match readL lb with
  | none => 1
  | some x => if n < 0 ∨ (x.2.length : Int) < n then 1 else wrE x.1 (x.2.take n.toNat)

theorem addB_some {lb : List Int} {more ls : List S56} {c : ConfT} (h : readL lb = some (c, ls)) : addB lb more = wrB c (ls ++ more) ∧ addE lb more = wrE c (ls ++ more) := by unfold addB addE; rw [h]; exact ⟨rfl, rfl⟩
theorem cutB_some {lb : List Int} {n : Int} {ls : List S56} {c : ConfT} (h : readL lb = some (c, ls)) (hn : ¬ (n < 0 ∨ (ls.length : Int) < n)) : cutB lb n = wrB c (ls.take n.toNat) ∧ cutE lb n = wrE c (ls.take n.toNat) := by unfold cutB cutE; rw [h]; simp only; rw [if_neg hn, if_neg hn]; exact ⟨rfl, rfl⟩
theorem cutB_out {lb : List Int} {n : Int} {ls : List S56} {c : ConfT} (h : readL lb = some (c, ls)) (hn : n < 0 ∨ (ls.length : Int) < n) : cutB lb n = [] ∧ cutE lb n = 1 := by unfold cutB cutE; rw [h]; simp only; rw [if_pos hn, if_pos hn]; exact ⟨rfl, rfl⟩

theorem rwrite_calls {W : World} {c : ConfT} {A3 A4 A5 A : Option Addr} {q3 q4 q5 q : Nat} {ls : List S56} (h : ConfR W c A3 q3 A4 q4 A5 q5) (k : LabsR W ls A q) (hs : ls.length ≤ 1048576) :
    Calls Try.prog 10 #[ConfV c A3 q3 A4 q4 A5 q5, .slice A ls.length q] W fun e w' => ∃ A1 q1, e = .returned (.tuple #[.slice A1 (wrB c ls).length q1, .int .i64 (wrE c ls)]) ∧ BytR w' (wrB c ls) A1 q1 ∧ Below W.heap.size W w' := by
  have hm : maxLen ≤ 9223372036854775807 := by decide
  obtain ⟨K, hK⟩ := rwrite_Ev c.1 c.2.1 c.2.2.1 c.2.2.2.1 c.2.2.2.2.1 c.2.2.2.2.2.1 c.2.2.2.2.2.2 ls (by have := h.r3.2.1; omega) hs
  have hK' : citadelref23_Write.f K c.1 c.2.1 c.2.2.1 c.2.2.2.1 c.2.2.2.2.1 c.2.2.2.2.2.1 c.2.2.2.2.2.2 ls = some (wrB c ls, wrE c ls) := by
    have := hK K (Nat.le_refl _)
    simp only at this
    rw [this]
    unfold wrB wrE rightC lifeC
    split <;> rfl
  refine (citadelref23_Write.calls K _ _ _ A3 q3 _ A4 q4 _ A5 q5 _ _ A q ls _ _ W h.r3 h.c3 h.r4 h.c4 h.r5 h.c5 k.r k.c hK').mono ?_
  rintro e w' ⟨v, rfl, hR, hb⟩
  obtain ⟨A1, q1, rfl, hc, hr⟩ := Kd.R_reads hR
  exact ⟨A1, q1, rfl, ⟨hr, hc⟩, hb⟩
end Go.Proofs.Ytedlmdnineohkaa.PU
