/- The plain law of TraceWrites, fifth part: the reference's bytes, and the law. -/
import Derived.Test.YtedlmdnineohkaaQ5
import Derived.Test.YtedlmdnineohkaaPUx7
namespace Go.Proofs.Ytedlmdnineohkaa.PU
open Go.RowKit Go.Proofs.YtedlmdnineohkaaW.PrintWords Go.Proofs.YtedlmdnineohkaaW.PrintLast Go.Proofs.YtedlmdnineohkaaW.PrintMore
set_option linter.unusedVariables false

theorem rwrite_l1 (ls : List S56) (hp : ls.all plainB = true) (hs : ls.length ≤ 1048576) : ∀ (d i : Nat) (x : List Int), i + d = ls.length → x.length + d * 4115 ≤ 70368744177664 → Ev (fun k => citadelref23_Write.l1 k ls x (i : Int)) (x ++ labsB (ls.drop i), 0) := by
  intro d
  induction d with
  | zero =>
    intro i x hi hx
    rw [List.drop_of_length_le (by omega)]
    refine Ev.step (f := fun _ => some (x, 0)) (fun k => ?_) (by simpa [labsB] using Ev.now _)
    simp only [citadelref23_Write.l1]; rw [if_neg (by omega)]
  | succ d ih =>
    intro i x hi hx
    have hlt : i < ls.length := by omega
    have hpi : plainB ls[i] = true := by rw [List.all_eq_true] at hp; exact hp _ (List.getElem_mem _)
    obtain ⟨p1, p2, p3, p4, p5⟩ := plain_parts hpi
    have hl := labB_len hpi
    have e1 := numB_len10 (n := ls[i].f1.toNat) (by omega)
    have e2 := numB_len10 (n := ls[i].f2.length) (by omega)
    have e : x ++ labsB (ls.drop i) = (x ++ [ls[i].f0 % 256] ++ numB ls[i].f1.toNat ++ (numB ls[i].f2.length ++ ls[i].f2)) ++ labsB (ls.drop (i + 1)) := by rw [labsB_drop ls i hlt]; simp [labB]
    have key : Ev (fun k => (some (x ++ [ls[i].f0 % 256])).bind fun y => (citadelref23_num.f k ls[i].f1).bind fun t => (if y.length + t.length < 140737488355328 then ((some (y ++ t)).bind fun z => ((citadelref23_some.f k ls[i].f2).bind fun u => (if z.length + u.length < 140737488355328 then (citadelref23_Write.l1 k ls (z ++ u) ((i : Int) + 1)) else none))) else none)) ((x ++ [ls[i].f0 % 256] ++ numB ls[i].f1.toNat ++ (numB ls[i].f2.length ++ ls[i].f2)) ++ labsB (ls.drop (i + 1)), 0) := by
      refine Ev.bind (Ev.now _) (Ev.bind (rnum_Ev _ p3 (by omega)) ?_)
      refine Ev.pos (by simp; omega) ?_
      refine Ev.bind (Ev.now _) (Ev.bind (rsome_Ev _ (by omega)) ?_)
      refine Ev.pos (by simp; omega) ?_
      exact ih (i + 1) _ (by omega) (by simp only [List.length_append, List.length_singleton] at *; omega)
    rw [e]
    refine Ev.step (fun k => ?_) key
    simp only [citadelref23_Write.l1]
    rw [if_pos (by omega), if_pos (by omega), if_pos (by omega), rd56_nat ls i hlt, wrap_succ (n := ls.length) (by omega) (by omega) (by omega)]

theorem rwrite_l0 (a0 a1 a2 : Int) (l3 l4 l5 : List Int) (a6 : Bool) (ls : List S56) (hp : ls.all plainB = true) (hs : ls.length ≤ 1048576) (hd : ∀ d ∈ l3, devOk d = true) (h3 : l3.length ≤ 8) (h4 : l4.length ≤ 32768) (h5 : l5.length ≤ 262144) :
    ∀ (d i : Nat) (x : List Int), i + d = l3.length → x.length ≤ 1000 + i * 9 → Ev (fun k => citadelref23_Write.l0 k ls x (i : Int) a0 a1 a2 l3 l4 l5 a6) (x ++ (intsB (l3.drop i) ++ (numB l4.length ++ l4 ++ (numB l5.length ++ l5 ++ (numB ls.length ++ labsB ls)))), 0) := by
  intro d
  induction d with
  | zero =>
    intro i x hi hx
    rw [List.drop_of_length_le (by omega)]
    have n4 := numB_len10 (n := l4.length) (by omega)
    have n5 := numB_len10 (n := l5.length) (by omega)
    have n6 := numB_len10 (n := ls.length) (by omega)
    have key : Ev (fun k => (citadelref23_some.f k l4).bind fun t => (if x.length + t.length < 140737488355328 then ((some (x ++ t)).bind fun y => ((citadelref23_some.f k l5).bind fun u => (if y.length + u.length < 140737488355328 then ((some (y ++ u)).bind fun z => ((citadelref23_num.f k (ls.length : Int)).bind fun v => (if z.length + v.length < 140737488355328 then (citadelref23_Write.l1 k ls (z ++ v) 0) else none))) else none))) else none)) (x ++ (intsB ([] : List Int) ++ (numB l4.length ++ l4 ++ (numB l5.length ++ l5 ++ (numB ls.length ++ labsB ls)))), 0) := by
      refine Ev.bind (rsome_Ev _ (by omega)) ?_
      refine Ev.pos (by simp; omega) ?_
      refine Ev.bind (Ev.now _) (Ev.bind (rsome_Ev _ (by omega)) ?_)
      refine Ev.pos (by simp; omega) ?_
      refine Ev.bind (Ev.now _) (Ev.bind (rnum_Ev _ (by omega) (by omega)) ?_)
      refine Ev.pos (by simp; omega) ?_
      have h := rwrite_l1 ls hp hs ls.length 0 (x ++ (numB l4.length ++ l4) ++ (numB l5.length ++ l5) ++ numB ls.length) (by omega) (by simp; omega)
      rw [List.drop_zero] at h
      have e : x ++ (intsB ([] : List Int) ++ (numB l4.length ++ l4 ++ (numB l5.length ++ l5 ++ (numB ls.length ++ labsB ls)))) = x ++ (numB l4.length ++ l4) ++ (numB l5.length ++ l5) ++ numB ls.length ++ labsB ls := by simp [intsB]
      rw [e]
      exact h
    refine Ev.step (fun k => ?_) key
    simp only [citadelref23_Write.l0]; rw [if_neg (by omega)]
  | succ d ih =>
    intro i x hi hx
    have hlt : i < l3.length := by omega
    have hr := devOk_range (hd _ (List.getElem_mem hlt))
    have e1 := numB_len10 (n := l3[i].toNat) (by omega)
    have key : Ev (fun k => (citadelref23_num.f k l3[i]).bind fun t => (if x.length + t.length < 140737488355328 then citadelref23_Write.l0 k ls (x ++ t) ((i : Int) + 1) a0 a1 a2 l3 l4 l5 a6 else none)) (x ++ (intsB (l3.drop i) ++ (numB l4.length ++ l4 ++ (numB l5.length ++ l5 ++ (numB ls.length ++ labsB ls)))), 0) := by
      refine Ev.bind (rnum_Ev _ (by omega) (by omega)) ?_
      refine Ev.pos (by omega) ?_
      have h := ih (i + 1) (x ++ numB l3[i].toNat) (by omega) (by simp; omega)
      have e : x ++ (intsB (l3.drop i) ++ (numB l4.length ++ l4 ++ (numB l5.length ++ l5 ++ (numB ls.length ++ labsB ls)))) = x ++ numB l3[i].toNat ++ (intsB (l3.drop (i + 1)) ++ (numB l4.length ++ l4 ++ (numB l5.length ++ l5 ++ (numB ls.length ++ labsB ls)))) := by
        rw [intsB_drop l3 i hlt]; simp only [List.append_assoc]
      rw [e]
      exact h
    refine Ev.step (fun k => ?_) key
    simp only [citadelref23_Write.l0]
    rw [if_pos (by omega), if_pos (by omega), rd_nat l3 i hlt, wrap_succ (n := l3.length) (by omega) (by omega) (by omega)]

theorem rwrite_Ev (a0 a1 a2 : Int) (l3 l4 l5 : List Int) (a6 : Bool) (ls : List S56) (hm : l3.length ≤ 9223372036854775807) (hs : ls.length ≤ 1048576) :
    Ev (fun k => citadelref23_Write.f k a0 a1 a2 l3 l4 l5 a6 ls) (if rightB a0 a1 a2 l3 l4 l5 ls = true then (lifeB a0 a1 a2 l3 l4 l5 a6 ls, 0) else ([], 1)) := by
  unfold citadelref23_Write.f
  refine Ev.bind (rright_Ev a0 a1 a2 l3 l4 l5 a6 ls hm (by omega)) ?_
  by_cases hR : rightB a0 a1 a2 l3 l4 l5 ls = true
  · obtain ⟨p0, p0', p1, p1', p2, p2', p3, p4, p5, pd, pp⟩ := right_parts hR
    simp only [if_pos hR]
    have n0 := numB_len10 (n := a0.toNat) (by omega)
    have n1 := numB_len10 (n := a1.toNat) (by omega)
    have n2 := numB_len10 (n := a2.toNat) (by omega)
    have n3 := numB_len10 (n := l3.length) (by omega)
    have L0 := rwrite_l0 a0 a1 a2 l3 l4 l5 a6 ls pp hs pd p3 p4 p5 l3.length 0
    have J : ∀ (x : List Int), x.length ≤ 500 → Ev (fun k => citadelref23_Write.j0 k ls x a0 a1 a2 l3 l4 l5 a6) (x ++ (numB l3.length ++ tailB l3 l4 l5 ls), 0) := by
      intro x hx
      have key : Ev (fun k => (citadelref23_num.f k (l3.length : Int)).bind fun t => (if x.length + t.length < 140737488355328 then citadelref23_Write.l0 k ls (x ++ t) 0 a0 a1 a2 l3 l4 l5 a6 else none)) (x ++ (numB l3.length ++ tailB l3 l4 l5 ls), 0) := by
        refine Ev.bind (rnum_Ev _ (by omega) (by omega)) ?_
        simp only [Int.toNat_natCast]
        refine Ev.pos (by omega) ?_
        have h := L0 (x ++ numB l3.length) (by omega) (by simp; omega)
        rw [List.drop_zero] at h
        have e : x ++ (numB l3.length ++ tailB l3 l4 l5 ls) = x ++ numB l3.length ++ (intsB l3 ++ (numB l4.length ++ l4 ++ (numB l5.length ++ l5 ++ (numB ls.length ++ labsB ls)))) := by simp [tailB]
        rw [e]
        exact h
      refine Ev.step (fun k => ?_) key
      simp only [citadelref23_Write.j0]
    refine Ev.bind (Ev.now _) (Ev.bind (rnum_Ev _ (by omega) (by omega)) ?_)
    refine Ev.pos (by simp; omega) ?_
    refine Ev.bind (Ev.now _) (Ev.bind (rnum_Ev _ (by omega) (by omega)) ?_)
    refine Ev.pos (by simp; omega) ?_
    refine Ev.bind (Ev.now _) (Ev.bind (rnum_Ev _ (by omega) (by omega)) ?_)
    refine Ev.pos (by simp; omega) ?_
    refine Ev.bind (Ev.now _) ?_
    have e : lifeB a0 a1 a2 l3 l4 l5 a6 ls = ([76, 73, 70, 69] ++ numB a0.toNat ++ numB a1.toNat ++ numB a2.toNat ++ [if a6 then 1 else 0]) ++ (numB l3.length ++ tailB l3 l4 l5 ls) := by simp [lifeB]
    rw [e]
    have h := J ([76, 73, 70, 69] ++ numB a0.toNat ++ numB a1.toNat ++ numB a2.toNat ++ [if a6 then 1 else 0]) (by simp; omega)
    refine Ev.congr (fun k => ?_) h
    cases a6 with
    | true => rw [if_pos rfl, if_pos (by simp; omega)]; rfl
    | false => rw [if_neg (by decide), if_pos (by simp; omega)]; rfl
  · simp only [if_neg hR, Bool.eq_false_iff.mpr hR]
    exact Ev.now _

end Go.Proofs.Ytedlmdnineohkaa.PU
