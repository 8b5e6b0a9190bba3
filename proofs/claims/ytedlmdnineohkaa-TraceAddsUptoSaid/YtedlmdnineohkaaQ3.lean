/- The plain law of TraceWrites, third part: the reference's answer on what may be. -/
import Derived.Test.YtedlmdnineohkaaQ2
namespace Go.Proofs.Ytedlmdnineohkaa.PU
open Go.RowKit Go.Proofs.YtedlmdnineohkaaW.PrintWords Go.Proofs.YtedlmdnineohkaaW.PrintLast Go.Proofs.YtedlmdnineohkaaW.PrintMore
set_option linter.unusedVariables false

theorem ref16_inner (l m : List Int) (x7 : Bool) (i : Nat) (x9 : Int) (R : Bool) (hm : l.length ≤ 9223372036854775807) (hi : i < l.length)
    (hR : Ev (fun k => citadelref16_Right.l0 k l m x7 ((i : Int) + 1)) R) : ∀ (d j : Nat), j + d = i → Ev (fun k => citadelref16_Right.l1 k l m x7 (i : Int) x9 (j : Int)) ((!(((l.take i).drop j).contains x9)) && R) := by
  intro d
  induction d with
  | zero =>
    intro j hj
    rw [List.drop_of_length_le (by simp; omega)]
    refine Ev.step (fun k => ?_) (show Ev _ (!([] : List Int).contains x9 && R) from by simpa using hR)
    simp only [citadelref16_Right.l1]
    rw [if_neg (by omega), wrap_succ (by omega) (by omega) hm]
  | succ d ih =>
    intro j hj
    have hlt : j < (l.take i).length := by simp; omega
    have e : (l.take i)[j] = l[j]'(by omega) := by simp
    rw [drop_cons (l.take i) j hlt, List.contains_cons, e]
    by_cases h : l[j]'(by omega) = x9
    · have hb : (x9 == l[j]'(by omega)) = true := by simpa using h.symm
      rw [hb]
      refine Ev.step (f := fun _ => some false) (fun k => ?_) (by simpa using Ev.now false)
      simp only [citadelref16_Right.l1]
      rw [if_pos (by omega), if_pos (by omega), if_pos (by omega), rd_nat l j (by omega), if_pos h]
    · have hb : (x9 == l[j]'(by omega)) = false := by simpa using fun q => h q.symm
      rw [hb, Bool.false_or]
      refine Ev.step (fun k => ?_) (ih (j + 1) (by omega))
      simp only [citadelref16_Right.l1]
      rw [if_pos (by omega), if_pos (by omega), if_pos (by omega), rd_nat l j (by omega), if_neg h, wrap_succ (by omega) (by omega) hm]
      rfl
theorem ref16_loop (l m : List Int) (hm : l.length ≤ 9223372036854775807) : ∀ (d i : Nat) (blk : Bool), i + d = l.length → Ev (fun k => citadelref16_Right.l0 k l m blk (i : Int)) (refDevs (decide (m.length = 0)) (l.take i) (l.drop i) blk) := by
  intro d
  induction d with
  | zero =>
    intro i blk hi
    rw [List.drop_of_length_le (by omega)]
    simp only [refDevs]
    refine Ev.step (f := fun _ => some (blk || decide (m.length = 0))) (fun k => ?_) (Ev.now _)
    simp only [citadelref16_Right.l0]
    rw [if_neg (by omega)]
    cases blk with
    | true => simp
    | false => simp; rw [Bool.eq_iff_iff]; simp
  | succ d ih =>
    intro i blk hi
    have hlt : i < l.length := by omega
    have inner := fun b => ref16_inner l m b i l[i] _ hm hlt (ih (i + 1) b (by omega)) i 0 (by omega)
    have j3 : ∀ b, Ev (fun k => citadelref16_Right.j3 k l m b (i : Int) l[i]) ((!((l.take i).contains l[i])) && refDevs (decide (m.length = 0)) (l.take (i + 1)) (l.drop (i + 1)) b) := fun b => Ev.step (fun k => by simp only [citadelref16_Right.j3]; rfl) (inner b)
    have j2t : ∀ b, Ev (fun k => citadelref16_Right.j2 k l m b (i : Int) l[i] true) false := fun b => Ev.step (f := fun _ => some false) (fun k => by simp [citadelref16_Right.j2]) (Ev.now _)
    have j2f : ∀ b, Ev (fun k => citadelref16_Right.j2 k l m b (i : Int) l[i] false) ((!((l.take i).contains l[i])) && refDevs (decide (m.length = 0)) (l.take (i + 1)) (l.drop (i + 1)) (b || l[i] == 2)) := by
      intro b
      cases b with
      | true => exact Ev.step (fun k => by simp [citadelref16_Right.j2]) (j3 true)
      | false => exact Ev.step (fun k => by simp [citadelref16_Right.j2]) (j3 (l[i] == 2))
    rw [drop_cons l i hlt]
    simp only [refDevs]
    rw [← take_snoc l i hlt]
    by_cases hk : devOk l[i] = true
    · rw [hk, Bool.true_and]
      refine Ev.step (fun k => ?_) (j2f blk)
      simp only [citadelref16_Right.l0]
      rw [if_pos (by omega), if_pos (by omega), rd_nat l i hlt]
      have h4 : l[i] = 1 ∨ l[i] = 2 ∨ l[i] = 3 ∨ l[i] = 8 := by simpa [devOk, or_assoc] using hk
      rcases h4 with h | h | h | h <;> (rw [h]; simp)
    · rw [Bool.eq_false_iff.mpr hk]
      refine Ev.step (fun k => ?_) (by simpa using j2t blk)
      have h4 : ¬ (l[i] = 1) ∧ ¬ (l[i] = 2) ∧ ¬ (l[i] = 3) ∧ ¬ (l[i] = 8) := by
        simp only [devOk, Bool.or_eq_true, beq_iff_eq, not_or] at hk
        exact ⟨hk.1.1.1, hk.1.1.2, hk.1.2, hk.2⟩
      have hb : (l[i] != 8) = true := by simpa using h4.2.2.2
      simp only [citadelref16_Right.l0]
      rw [if_pos (by omega), if_pos (by omega), rd_nat l i hlt, if_neg h4.1, if_neg h4.2.1, if_neg h4.2.2.1, hb]

theorem ref16j_true (l m : List Int) : Ev (fun k => citadelref16_Right.j0 k l m true) false := Ev.step (f := fun _ => some false) (fun k => by simp [citadelref16_Right.j0]) (Ev.now _)
theorem ref16j_false (l m : List Int) (hm : l.length ≤ 9223372036854775807) : Ev (fun k => citadelref16_Right.j0 k l m false) (devsOk [] l && (l.contains 2 || decide (m.length = 0))) := by
  have h := ref16_loop l m hm l.length 0 false (by omega)
  rw [refDevs_eq] at h
  exact Ev.step (f := fun k => citadelref16_Right.l0 k l m false 0) (fun k => by simp [citadelref16_Right.j0]) (by simpa using h)
theorem ref16_Ev (h : Int) (l1 l2 : List Int) (hm : l1.length ≤ 9223372036854775807) : Ev (fun k => citadelref16_Right.f k h l1 l2) (boardB h l1 l2.length) := by
  unfold citadelref16_Right.f boardB
  by_cases c1 : h < 1
  · simp only [if_pos c1, show decide (1 ≤ h) = false by simp; omega, Bool.false_and]; exact ref16j_true _ _
  by_cases c2 : h > 64
  · simp only [if_neg c1, if_pos c2, show decide (h ≤ 64) = false by simp; omega, Bool.false_and, Bool.and_false]; exact ref16j_true _ _
  by_cases c3 : (l1.length : Int) > 8
  · simp only [if_neg c1, if_neg c2, if_pos c3, show decide (l1.length ≤ 8) = false by simp; omega, Bool.false_and, Bool.and_false]; exact ref16j_true _ _
  by_cases c4 : (l2.length : Int) > 32768
  · simp only [if_neg c1, if_neg c2, if_neg c3, if_pos c4, show decide (l2.length ≤ 32768) = false by simp; omega, Bool.false_and, Bool.and_false]; exact ref16j_true _ _
  have e1 : decide (1 ≤ h) = true := by simp; omega
  have e2 : decide (h ≤ 64) = true := by simp; omega
  have e3 : decide (l1.length ≤ 8) = true := by simp; omega
  have e4 : decide (l2.length ≤ 32768) = true := by simp; omega
  simp only [if_neg c1, if_neg c2, if_neg c3, if_neg c4, e1, e2, e3, e4, Bool.true_and]
  by_cases c5 : ((l2.length : Int) % 512) = 0
  · have e5 : (((l2.length : Int) % 512) != 0) = false := by simpa using c5
    simp only [e5, show decide (l2.length % 512 = 0) = true by simp; omega, Bool.true_and]
    have := ref16j_false l1 l2 hm
    rw [Bool.and_comm, Bool.or_comm] at this
    exact this
  · have e5 : (((l2.length : Int) % 512) != 0) = true := by simpa using c5
    simp only [e5, show decide (l2.length % 512 = 0) = false by simp; omega, Bool.false_and]; exact ref16j_true _ _

/-- A conf that may be. -/
def confB (a0 a1 : Int) (l3 l4 l5 : List Int) : Bool := decide (1 ≤ a0) && decide (a0 ≤ 64) && decide (1 ≤ a1) && decide (a1 ≤ 64) && decide ((l5.length : Int) ≤ a1 * 4096) && boardB a0 l3 l4.length
theorem bare_Ev (a0 a1 a2 : Int) (l3 l4 l5 : List Int) (a6 : Bool) (hm : l3.length ≤ 9223372036854775807) : Ev (fun k => bare_Right.f k a0 a1 a2 l3 l4 l5 a6) (confB a0 a1 l3 l4 l5) := by
  unfold bare_Right.f confB
  by_cases c1 : a0 ≥ 1
  · by_cases c2 : a0 ≤ 64
    · by_cases c3 : a1 ≥ 1
      · by_cases c4 : a1 ≤ 64
        · have ew : wrap64 (a1 * 4096) = a1 * 4096 := by unfold wrap64; omega
          by_cases c5 : (l5.length : Int) ≤ a1 * 4096
          · simp only [if_pos c1, if_pos c2, if_pos c3, if_pos c4, ew, if_pos c5, decide_eq_true c1, decide_eq_true c2, decide_eq_true c3, decide_eq_true c4, decide_eq_true c5, Bool.true_and]
            exact Ev.bind (board_Ev a0 l3 l4 hm) (Ev.now _)
          · simp only [if_pos c1, if_pos c2, if_pos c3, if_pos c4, ew, if_neg c5, decide_eq_false c5, Bool.and_false, Bool.false_and]; exact Ev.now _
        · simp only [if_pos c1, if_pos c2, if_pos c3, if_neg c4, decide_eq_false c4, Bool.and_false, Bool.false_and]; exact Ev.now _
      · simp only [if_pos c1, if_pos c2, if_neg c3, show decide (1 ≤ a1) = false by simp; omega, Bool.and_false, Bool.false_and]; exact Ev.now _
    · simp only [if_pos c1, if_neg c2, decide_eq_false c2, Bool.and_false, Bool.false_and]; exact Ev.now _
  · simp only [if_neg c1, show decide (1 ≤ a0) = false by simp; omega, Bool.and_false, Bool.false_and]; exact Ev.now _
theorem ref19_Ev (a0 a1 a2 : Int) (l3 l4 l5 : List Int) (a6 : Bool) (hm : l3.length ≤ 9223372036854775807) : Ev (fun k => citadelref19_Right.f k a0 a1 a2 l3 l4 l5 a6) (confB a0 a1 l3 l4 l5) := by
  unfold citadelref19_Right.f confB
  by_cases c1 : a0 ≥ 1
  · by_cases c2 : a0 ≤ 64
    · by_cases c3 : a1 ≥ 1
      · by_cases c4 : a1 ≤ 64
        · have ew : wrap64 (a1 * 4096) = a1 * 4096 := by unfold wrap64; omega
          by_cases c5 : (l5.length : Int) ≤ a1 * 4096
          · simp only [if_pos c1, if_pos c2, if_pos c3, if_pos c4, ew, if_pos c5, decide_eq_true c1, decide_eq_true c2, decide_eq_true c3, decide_eq_true c4, decide_eq_true c5, Bool.true_and]
            exact Ev.bind (ref16_Ev a0 l3 l4 hm) (Ev.now _)
          · simp only [if_pos c1, if_pos c2, if_pos c3, if_pos c4, ew, if_neg c5, decide_eq_false c5, Bool.and_false, Bool.false_and]; exact Ev.now _
        · simp only [if_pos c1, if_pos c2, if_pos c3, if_neg c4, decide_eq_false c4, Bool.and_false, Bool.false_and]; exact Ev.now _
      · simp only [if_pos c1, if_pos c2, if_neg c3, show decide (1 ≤ a1) = false by simp; omega, Bool.and_false, Bool.false_and]; exact Ev.now _
    · simp only [if_pos c1, if_neg c2, decide_eq_false c2, Bool.and_false, Bool.false_and]; exact Ev.now _
  · simp only [if_neg c1, show decide (1 ≤ a0) = false by simp; omega, Bool.and_false, Bool.false_and]; exact Ev.now _

/-- A life that may be. -/
def rightB (a0 a1 a2 : Int) (l3 l4 l5 : List Int) (ls : List S56) : Bool := confB a0 a1 l3 l4 l5 && decide (0 ≤ a2) && decide (a2 ≤ 1099511627776) && ls.all plainB
theorem right_Ev (a0 a1 a2 : Int) (l3 l4 l5 : List Int) (a6 : Bool) (ls : List S56) (hm : l3.length ≤ 9223372036854775807) : Ev (fun k => trace_right.f k a0 a1 a2 l3 l4 l5 a6 ls) (rightB a0 a1 a2 l3 l4 l5 ls) := by
  unfold trace_right.f
  exact Ev.bind (bare_Ev a0 a1 a2 l3 l4 l5 a6 hm) (Ev.now _)

theorem rplain_Ev (x : S56) : Ev (fun k => citadelref23_Plain.f k x.f0 x.f1 x.f2) (plainB x) := by
  have jt : Ev (fun k => citadelref23_Plain.j0 k true x.f0 x.f1 x.f2) false := Ev.step (f := fun _ => some false) (fun k => by simp [citadelref23_Plain.j0]) (Ev.now _)
  unfold citadelref23_Plain.f plainB
  by_cases h1 : x.f0 < 1
  · simp only [if_pos h1, show decide (1 ≤ x.f0) = false by simp; omega, Bool.false_and]; exact jt
  by_cases h2 : x.f0 > 5
  · simp only [if_neg h1, if_pos h2, show decide (x.f0 ≤ 5) = false by simp; omega, Bool.and_false, Bool.false_and]; exact jt
  by_cases h3 : x.f1 < 0
  · simp only [if_neg h1, if_neg h2, if_pos h3, show decide (0 ≤ x.f1) = false by simp; omega, Bool.and_false, Bool.false_and]; exact jt
  by_cases h4 : x.f1 > 1048576
  · simp only [if_neg h1, if_neg h2, if_neg h3, if_pos h4, show decide (x.f1 ≤ 1048576) = false by simp; omega, Bool.and_false, Bool.false_and]; exact jt
  have g1 : decide (1 ≤ x.f0) = true := by simp; omega
  have g2 : decide (x.f0 ≤ 5) = true := by simp; omega
  have g3 : decide (0 ≤ x.f1) = true := by simp; omega
  have g4 : decide (x.f1 ≤ 1048576) = true := by simp; omega
  simp only [if_neg h1, if_neg h2, if_neg h3, if_neg h4, g1, g2, g3, g4, Bool.true_and]
  by_cases h5 : (x.f2.length : Int) > 4096
  · simp only [decide_eq_true h5, show decide (x.f2.length ≤ 4096) = false by simp; omega, Bool.false_and]; exact jt
  simp only [decide_eq_false h5, show decide (x.f2.length ≤ 4096) = true by simp; omega, Bool.true_and]
  refine Ev.step (f := fun _ => some (decide (x.f0 = 3) || (decide (x.f2.length = 0) && (decide (x.f0 = 1) || decide (x.f1 = 0))))) (fun k => ?_) (Ev.now _)
  simp only [citadelref23_Plain.j0, Bool.false_eq_true, if_false]
  by_cases h6 : x.f0 = 3
  · rw [if_pos h6]; simp [h6]
  rw [if_neg h6]
  by_cases h7 : (x.f2.length : Int) > 0
  · rw [if_pos h7]
    have : ¬ x.f2.length = 0 := by omega
    simp only [decide_eq_false h6, decide_eq_false this, Bool.false_and, Bool.or_self]
  · rw [if_neg h7]
    have : x.f2.length = 0 := by omega
    simp only [decide_eq_false h6, decide_eq_true this, Bool.true_and, Bool.false_or]
    by_cases h8 : x.f1 = 0
    · rw [if_pos h8]; simp [h8]
    · rw [if_neg h8]
      by_cases h9 : x.f0 = 1
      · rw [if_pos h9]; simp [h9]
      · rw [if_neg h9]; simp [h8, h9]; simpa using h6
theorem rd56_nat (l : List S56) (i : Nat) (h : i < l.length) : rd_T56 l (i : Int) = l[i] := by simp [rd_T56, h]
theorem rright_loop (a0 a1 a2 : Int) (l3 l4 l5 : List Int) (a6 : Bool) (ls : List S56) (hm : l3.length ≤ 9223372036854775807) (hs : ls.length ≤ 9223372036854775807) : ∀ (d i : Nat), i + d = ls.length →
    Ev (fun k => citadelref23_Right.l0 k ls (i : Int) a0 a1 a2 l3 l4 l5 a6) ((ls.drop i).all plainB && (confB a0 a1 l3 l4 l5 && decide (0 ≤ a2) && decide (a2 ≤ 1099511627776))) := by
  intro d
  induction d with
  | zero =>
    intro i hi
    rw [List.drop_of_length_le (by omega), List.all_nil, Bool.true_and]
    refine Ev.step (f := fun k => (citadelref19_Right.f k a0 a1 a2 l3 l4 l5 a6).bind fun t => if t = true then (if a2 ≥ 0 then some (decide (a2 ≤ 1099511627776)) else some false) else some false) (fun k => ?_) (Ev.bind (ref19_Ev a0 a1 a2 l3 l4 l5 a6 hm) ?_)
    · simp only [citadelref23_Right.l0]; rw [if_neg (by omega)]
    · cases confB a0 a1 l3 l4 l5 with
      | false => exact Ev.now _
      | true =>
        by_cases h : a2 ≥ 0
        · simp only [if_true, if_pos h, decide_eq_true (show 0 ≤ a2 from h), Bool.true_and]; exact Ev.now _
        · simp only [if_true, if_neg h, decide_eq_false (show ¬ 0 ≤ a2 from h), Bool.true_and, Bool.false_and]; exact Ev.now _
  | succ d ih =>
    intro i hi
    have hlt : i < ls.length := by omega
    rw [drop_cons ls i hlt, List.all_cons]
    refine Ev.step (f := fun k => (citadelref23_Plain.f k ls[i].f0 ls[i].f1 ls[i].f2).bind fun t => if t = true then citadelref23_Right.l0 k ls ((i : Int) + 1) a0 a1 a2 l3 l4 l5 a6 else some false) (fun k => ?_) (Ev.bind (rplain_Ev ls[i]) ?_)
    · simp only [citadelref23_Right.l0]
      rw [if_pos (by omega), if_pos (by omega), rd56_nat ls i hlt, wrap_succ (by omega) (by omega) hs]
    · cases plainB ls[i] with
      | false => simp only [Bool.false_eq_true, if_false, Bool.false_and]; exact Ev.now _
      | true => simp only [if_true, Bool.true_and]; exact ih (i + 1) (by omega)
theorem rright_Ev (a0 a1 a2 : Int) (l3 l4 l5 : List Int) (a6 : Bool) (ls : List S56) (hm : l3.length ≤ 9223372036854775807) (hs : ls.length ≤ 9223372036854775807) : Ev (fun k => citadelref23_Right.f k a0 a1 a2 l3 l4 l5 a6 ls) (rightB a0 a1 a2 l3 l4 l5 ls) := by
  have h := rright_loop a0 a1 a2 l3 l4 l5 a6 ls hm hs ls.length 0 (by omega)
  unfold citadelref23_Right.f rightB
  rw [Bool.and_comm] at h
  exact h
end Go.Proofs.Ytedlmdnineohkaa.PU
