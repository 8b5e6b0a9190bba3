/- The plain law of TraceWrites, second part: a life that may be: both answers. -/
import Derived.Test.YtgibdhdglppdcaaGreatQ1
namespace Go.Proofs.YtgibdhdglppdcaaGreat.PU
set_option maxRecDepth 100000
open Go.RowKit Go.Proofs.YtgibdhdglppdcaaGreatW.PrintWords Go.Proofs.YtgibdhdglppdcaaGreatW.PrintLast Go.Proofs.YtgibdhdglppdcaaGreatW.PrintMore
set_option linter.unusedVariables false

theorem wrap_succ {i : Int} {n : Nat} (h0 : 0 ≤ i) (h : i < (n : Int)) (hn : n ≤ 9223372036854775807) : wrap64 (i + 1) = i + 1 := by unfold wrap64; omega
theorem rd_nat (l : List Int) (i : Nat) (h : i < l.length) : rd l (i : Int) = l[i] := by simp [rd, h]
theorem drop_cons {α : Type} (l : List α) (i : Nat) (h : i < l.length) : l.drop i = l[i] :: l.drop (i + 1) := List.drop_eq_getElem_cons h
theorem take_snoc {α : Type} (l : List α) (i : Nat) (h : i < l.length) : l.take (i + 1) = l.take i ++ [l[i]] := List.take_succ_eq_append_getElem h

theorem index_ev (l : List Int) (a : Int) (hm : l.length ≤ 9223372036854775807) : ∀ (d i : Nat), i + d = l.length → ∃ r, Ev (fun k => slices_Index_int_int.l0 k l a (l.length : Int) (i : Int)) r ∧ decide (r ≥ 0) = (l.drop i).contains a := by
  intro d
  induction d with
  | zero =>
    intro i hi
    refine ⟨-1, Ev.step (f := fun _ => some (-1)) (fun k => ?_) (Ev.now _), ?_⟩
    · simp only [slices_Index_int_int.l0]; rw [if_neg (by omega)]
    · rw [List.drop_of_length_le (by omega)]; rfl
  | succ d ih =>
    intro i hi
    have hlt : i < l.length := by omega
    by_cases e : a = l[i]
    · refine ⟨(i : Int), Ev.step (f := fun _ => some (i : Int)) (fun k => ?_) (Ev.now _), ?_⟩
      · simp only [slices_Index_int_int.l0]; rw [if_pos (by omega), if_pos (by omega), if_pos (by omega), rd_nat l i hlt, if_pos e]
      · rw [drop_cons l i hlt, List.contains_cons, e]; simp
    · obtain ⟨r, hr, hd⟩ := ih (i + 1) (by omega)
      refine ⟨r, Ev.step (fun k => ?_) hr, ?_⟩
      · simp only [slices_Index_int_int.l0]
        rw [if_pos (by omega), if_pos (by omega), if_pos (by omega), rd_nat l i hlt, if_neg e, wrap_succ (by omega) (by omega) hm]
        rfl
      · have : (a == l[i]) = false := by simpa using e
        rw [hd, drop_cons l i hlt, List.contains_cons, this, Bool.false_or]
theorem contains_Ev (l : List Int) (a : Int) (hm : l.length ≤ 9223372036854775807) : Ev (fun k => slices_Contains_int_int.f k l a) (l.contains a) := by
  obtain ⟨r, hr, hd⟩ := index_ev l a hm l.length 0 (by omega)
  unfold slices_Contains_int_int.f slices_Index_int_int.f
  refine Ev.bind hr ?_
  rw [hd]
  exact Ev.now _

def devOk (k : Int) : Bool := k == 1 || k == 2 || k == 3 || k == 8
def devsOk : List Int → List Int → Bool
  | _, [] => true
  | seen, k :: r => devOk k && (!(seen.contains k)) && devsOk (seen ++ [k]) r
theorem board_loop (l : List Int) (hm : l.length ≤ 9223372036854775807) : ∀ (d i : Nat), i + d = l.length → Ev (fun k => board_Right.l0 k l l (l.length : Int) (i : Int)) (devsOk (l.take i) (l.drop i)) := by
  intro d
  induction d with
  | zero =>
    intro i hi
    rw [List.drop_of_length_le (by omega)]
    refine Ev.step (f := fun _ => some true) (fun k => ?_) (Ev.now _)
    simp only [board_Right.l0]; rw [if_neg (by omega)]
  | succ d ih =>
    intro i hi
    have hlt : i < l.length := by omega
    have ih := ih (i + 1) (by omega)
    have hc := contains_Ev (l.take i) l[i] (by simp; omega)
    have key : Ev (fun k => (slices_Contains_int_int.f k (l.take i) l[i]).bind fun t => if t = true then some false else board_Right.l0 k l l (l.length : Int) ((i : Int) + 1)) ((!((l.take i).contains l[i])) && devsOk (l.take (i + 1)) (l.drop (i + 1))) := by
      refine Ev.bind hc ?_
      by_cases h : (l.take i).contains l[i] = true
      · rw [h]; exact Ev.now _
      · rw [Bool.eq_false_iff.mpr h]
        simp only [Bool.false_eq_true, if_false, Bool.not_false, Bool.true_and]
        exact ih
    rw [drop_cons l i hlt]
    simp only [devsOk]
    rw [← take_snoc l i hlt]
    by_cases hk : devOk l[i] = true
    · rw [hk, Bool.true_and]
      refine Ev.step (fun k => ?_) key
      simp only [board_Right.l0]
      rw [if_pos (by omega), if_pos (by omega), if_pos (by omega), rd_nat l i hlt, wrap_succ (by omega) (by omega) hm, Int.toNat_natCast]
      have h4 : l[i] = 1 ∨ l[i] = 2 ∨ l[i] = 3 ∨ l[i] = 8 := by simpa [devOk, or_assoc] using hk
      rcases h4 with h | h | h | h <;> (rw [h]; simp; omega)
    · rw [Bool.eq_false_iff.mpr hk]
      refine Ev.step (f := fun _ => some false) (fun k => ?_) (Ev.now _)
      simp only [board_Right.l0]
      rw [if_pos (by omega), if_pos (by omega), if_pos (by omega), rd_nat l i hlt]
      have h4 : ¬ (l[i] = 1) ∧ ¬ (l[i] = 2) ∧ ¬ (l[i] = 3) ∧ ¬ (l[i] = 8) := by
        simp only [devOk, Bool.or_eq_true, beq_iff_eq, not_or] at hk
        exact ⟨hk.1.1.1, hk.1.1.2, hk.1.2, hk.2⟩
      rw [if_neg h4.1, if_neg h4.2.1, if_neg h4.2.2.1, if_neg h4.2.2.2]

/-- A board that may be. -/
def boardB (h : Int) (l1 : List Int) (n : Nat) : Bool := decide (1 ≤ h) && decide (h ≤ 64) && decide (l1.length ≤ 8) && decide (n ≤ 32768) && decide (n % 512 = 0) && (decide (n = 0) || l1.contains 2) && devsOk [] l1

theorem boardj_true (l : List Int) : Ev (fun k => board_Right.j0 k l true) false := Ev.step (f := fun _ => some false) (fun k => by simp [board_Right.j0]) (Ev.now _)
theorem boardj_false (l : List Int) (hm : l.length ≤ 9223372036854775807) : Ev (fun k => board_Right.j0 k l false) (devsOk [] l) := by
  have h := board_loop l hm l.length 0 (by omega)
  exact Ev.step (fun k => by simp [board_Right.j0]) h
theorem board_Ev (h : Int) (l1 l2 : List Int) (hm : l1.length ≤ 9223372036854775807) : Ev (fun k => board_Right.f k h l1 l2) (boardB h l1 l2.length) := by
  unfold board_Right.f boardB
  by_cases c1 : h < 1
  · simp only [if_pos c1, show decide (1 ≤ h) = false by simp; omega, Bool.false_and]; exact boardj_true _
  by_cases c2 : h > 64
  · simp only [if_neg c1, if_pos c2, show decide (h ≤ 64) = false by simp; omega, Bool.false_and, Bool.and_false]; exact boardj_true _
  by_cases c3 : (l1.length : Int) > 8
  · simp only [if_neg c1, if_neg c2, if_pos c3, show decide (l1.length ≤ 8) = false by simp; omega, Bool.false_and, Bool.and_false]; exact boardj_true _
  by_cases c4 : (l2.length : Int) > 32768
  · simp only [if_neg c1, if_neg c2, if_neg c3, if_pos c4, show decide (l2.length ≤ 32768) = false by simp; omega, Bool.false_and, Bool.and_false]; exact boardj_true _
  have e1 : decide (1 ≤ h) = true := by simp; omega
  have e2 : decide (h ≤ 64) = true := by simp; omega
  have e3 : decide (l1.length ≤ 8) = true := by simp; omega
  have e4 : decide (l2.length ≤ 32768) = true := by simp; omega
  simp only [if_neg c1, if_neg c2, if_neg c3, if_neg c4, e1, e2, e3, e4, Bool.true_and]
  by_cases c5 : ((l2.length : Int) % 512) = 0
  · simp only [if_pos c5, show decide (l2.length % 512 = 0) = true by simp; omega, Bool.true_and]
    by_cases c6 : (l2.length : Int) > 0
    · simp only [if_pos c6, show decide (l2.length = 0) = false by simp; intro h0; simp [h0] at c6, Bool.false_or]
      refine Ev.bind (contains_Ev l1 2 hm) ?_
      cases l1.contains 2 with
      | true => simp only [Bool.not_true, Bool.true_and]; exact boardj_false l1 hm
      | false => simp only [Bool.not_false, Bool.false_and]; exact boardj_true l1
    · simp only [if_neg c6, show decide (l2.length = 0) = true by simp; exact List.eq_nil_of_length_eq_zero (by omega), Bool.true_or, Bool.true_and]
      exact boardj_false l1 hm
  · simp only [if_neg c5, show decide (l2.length % 512 = 0) = false by simp; omega, Bool.false_and]; exact boardj_true _
end Go.Proofs.YtgibdhdglppdcaaGreat.PU
