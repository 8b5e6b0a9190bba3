/- The plain law of TraceWrites, fourth part: both write the same bytes. -/
import Derived.Test.YtgibdhdglppdcaaGreatQ3
namespace Go.Proofs.YtgibdhdglppdcaaGreat.PU
set_option maxRecDepth 100000
open Go.RowKit Go.Proofs.YtgibdhdglppdcaaGreatW.PrintWords Go.Proofs.YtgibdhdglppdcaaGreatW.PrintLast Go.Proofs.YtgibdhdglppdcaaGreatW.PrintMore
set_option linter.unusedVariables false

def labB (x : S56) : List Int := [x.f0 % 256] ++ (numB x.f1.toNat ++ (numB x.f2.length ++ x.f2))
def labsB (ls : List S56) : List Int := ls.flatMap labB
def intsB (l : List Int) : List Int := l.flatMap fun n => numB n.toNat
def tailB (l3 l4 l5 : List Int) (ls : List S56) : List Int := intsB l3 ++ (numB l4.length ++ l4 ++ (numB l5.length ++ l5 ++ (numB ls.length ++ labsB ls)))
def lifeB (a0 a1 a2 : Int) (l3 l4 l5 : List Int) (a6 : Bool) (ls : List S56) : List Int :=
  [76, 73, 70, 69] ++ (numB a0.toNat ++ (numB a1.toNat ++ (numB a2.toNat ++ ([if a6 then 1 else 0] ++ (numB l3.length ++ tailB l3 l4 l5 ls)))))

theorem plain_parts {x : S56} (h : plainB x = true) : 1 ≤ x.f0 ∧ x.f0 ≤ 5 ∧ 0 ≤ x.f1 ∧ x.f1 ≤ 1048576 ∧ x.f2.length ≤ 4096 := by
  simp only [plainB, Bool.and_eq_true, decide_eq_true_eq] at h
  exact ⟨h.1.1.1.1.1, h.1.1.1.1.2, h.1.1.1.2, h.1.1.2, h.1.2⟩
theorem labB_len {x : S56} (h : plainB x = true) : (labB x).length ≤ 4115 := by
  obtain ⟨_, _, h3, h4, h5⟩ := plain_parts h
  have e1 := numB_len10 (n := x.f1.toNat) (by omega)
  have e2 := numB_len10 (n := x.f2.length) (by omega)
  simp only [labB, List.length_append, List.length_singleton]
  omega
theorem labsB_len : ∀ {ls : List S56}, ls.all plainB = true → (labsB ls).length ≤ ls.length * 4115
  | [], _ => by simp [labsB]
  | x :: r, h => by
    rw [List.all_cons, Bool.and_eq_true] at h
    have h1 := labB_len h.1
    have h2 := labsB_len h.2
    simp only [labsB, List.flatMap_cons, List.length_append, List.length_cons] at *
    omega
theorem devsOk_mem : ∀ {rest seen : List Int}, devsOk seen rest = true → ∀ d ∈ rest, devOk d = true
  | [], _, _, d, h => by cases h
  | k :: r, seen, h, d, hd => by
    simp only [devsOk, Bool.and_eq_true] at h
    rcases List.mem_cons.1 hd with e | e
    · rw [e]; exact h.1.1
    · exact devsOk_mem h.2 d e
theorem devOk_range {d : Int} (h : devOk d = true) : 0 ≤ d ∧ d < 9 := by
  have h4 : d = 1 ∨ d = 2 ∨ d = 3 ∨ d = 8 := by simpa [devOk, or_assoc] using h
  omega
theorem intsB_len : ∀ {l : List Int}, (∀ d ∈ l, devOk d = true) → (intsB l).length ≤ l.length * 9
  | [], _ => by simp [intsB]
  | x :: r, h => by
    have h1 := numB_len10 (n := x.toNat) (by have := devOk_range (h x List.mem_cons_self); omega)
    have h2 := intsB_len (l := r) (fun d hd => h d (List.mem_cons_of_mem _ hd))
    simp only [intsB, List.flatMap_cons, List.length_append, List.length_cons] at *
    omega

theorem labsB_drop (ls : List S56) (i : Nat) (h : i < ls.length) : labsB (ls.drop i) = labB ls[i] ++ labsB (ls.drop (i + 1)) := by
  unfold labsB; rw [drop_cons ls i h, List.flatMap_cons]
theorem intsB_drop (l : List Int) (i : Nat) (h : i < l.length) : intsB (l.drop i) = numB l[i].toNat ++ intsB (l.drop (i + 1)) := by
  unfold intsB; rw [drop_cons l i h, List.flatMap_cons]
theorem write_l2 (ls : List S56) (hp : ls.all plainB = true) (hs : ls.length ≤ 1048576) : ∀ (d i : Nat) (x : List Int), i + d = ls.length → x.length + d * 4115 ≤ 70368744177664 → Ev (fun k => trace_Write.l2 k x ls (ls.length : Int) (i : Int)) (x ++ labsB (ls.drop i), 0) := by
  intro d
  induction d with
  | zero =>
    intro i x hi hx
    rw [List.drop_of_length_le (by omega)]
    refine Ev.step (f := fun _ => some (x, 0)) (fun k => ?_) (by simpa [labsB] using Ev.now _)
    simp only [trace_Write.l2]; rw [if_neg (by omega)]
  | succ d ih =>
    intro i x hi hx
    have hlt : i < ls.length := by omega
    have hpi : plainB ls[i] = true := by rw [List.all_eq_true] at hp; exact hp _ (List.getElem_mem _)
    obtain ⟨p1, p2, p3, p4, p5⟩ := plain_parts hpi
    have hl := labB_len hpi
    have e1 := numB_len10 (n := ls[i].f1.toNat) (by omega)
    have e : x ++ labsB (ls.drop i) = (x ++ labB ls[i]) ++ labsB (ls.drop (i + 1)) := by rw [labsB_drop ls i hlt, List.append_assoc]
    rw [e]
    have key : Ev (fun k => (trace_number.f k (x ++ [ls[i].f0 % 256]) ls[i].f1).bind fun t => (trace_bytes.f k t ls[i].f2).bind fun t2 => trace_Write.l2 k t2 ls (ls.length : Int) ((i : Int) + 1)) ((x ++ labB ls[i]) ++ labsB (ls.drop (i + 1)), 0) := by
      refine Ev.bind (number_Ev _ _ p3 (by omega) (by simp; omega)) ?_
      refine Ev.bind (bytes_Ev _ _ (by simp; omega)) ?_
      have e2 : x ++ [ls[i].f0 % 256] ++ numB ls[i].f1.toNat ++ (numB ls[i].f2.length ++ ls[i].f2) = x ++ labB ls[i] := by simp [labB]
      rw [e2]
      exact ih (i + 1) _ (by omega) (by rw [List.length_append]; omega)
    refine Ev.step (fun k => ?_) key
    simp only [trace_Write.l2]
    rw [if_pos (by omega), if_pos (by omega), if_pos (by omega), if_pos (by omega), rd56_nat ls i hlt, wrap_succ (n := ls.length) (by omega) (by omega) (by omega)]

theorem write_l1 (a0 a1 a2 : Int) (l3 l4 l5 : List Int) (a6 : Bool) (ls : List S56) (hp : ls.all plainB = true) (hs : ls.length ≤ 1048576) (hd : ∀ d ∈ l3, devOk d = true) (h3 : l3.length ≤ 8) (h4 : l4.length ≤ 32768) (h5 : l5.length ≤ 262144) :
    ∀ (d i : Nat) (x : List Int), i + d = l3.length → x.length ≤ 1000 + i * 9 → Ev (fun k => trace_Write.l1 k ls x l3 (l3.length : Int) (i : Int) a0 a1 a2 l3 l4 l5 a6) (x ++ (intsB (l3.drop i) ++ (numB l4.length ++ l4 ++ (numB l5.length ++ l5 ++ (numB ls.length ++ labsB ls)))), 0) := by
  intro d
  induction d with
  | zero =>
    intro i x hi hx
    rw [List.drop_of_length_le (by omega)]
    have n4 := numB_len10 (n := l4.length) (by omega)
    have n5 := numB_len10 (n := l5.length) (by omega)
    have n6 := numB_len10 (n := ls.length) (by omega)
    have key : Ev (fun k => (trace_bytes.f k x l4).bind fun t => (trace_bytes.f k t l5).bind fun t2 => (trace_number.f k t2 (ls.length : Int)).bind fun t3 => trace_Write.l2 k t3 ls (ls.length : Int) 0) (x ++ (intsB ([] : List Int) ++ (numB l4.length ++ l4 ++ (numB l5.length ++ l5 ++ (numB ls.length ++ labsB ls)))), 0) := by
      refine Ev.bind (bytes_Ev _ _ (by omega)) (Ev.bind (bytes_Ev _ _ (by simp; omega)) (Ev.bind (number_Ev _ _ (by omega) (by omega) (by simp; omega)) ?_))
      have h := write_l2 ls hp hs ls.length 0 (x ++ (numB l4.length ++ l4) ++ (numB l5.length ++ l5) ++ numB ls.length) (by omega) (by simp; omega)
      rw [List.drop_zero] at h
      simp only [Int.toNat_natCast]
      have e : x ++ (intsB ([] : List Int) ++ (numB l4.length ++ l4 ++ (numB l5.length ++ l5 ++ (numB ls.length ++ labsB ls)))) = x ++ (numB l4.length ++ l4) ++ (numB l5.length ++ l5) ++ numB ls.length ++ labsB ls := by simp [intsB]
      rw [e]
      exact h
    refine Ev.step (fun k => ?_) key
    simp only [trace_Write.l1]; rw [if_neg (by omega)]
  | succ d ih =>
    intro i x hi hx
    have hlt : i < l3.length := by omega
    have hr := devOk_range (hd _ (List.getElem_mem hlt))
    have e1 := numB_len10 (n := l3[i].toNat) (by omega)
    have key : Ev (fun k => (trace_number.f k x l3[i]).bind fun t => trace_Write.l1 k ls t l3 (l3.length : Int) ((i : Int) + 1) a0 a1 a2 l3 l4 l5 a6) (x ++ (intsB (l3.drop i) ++ (numB l4.length ++ l4 ++ (numB l5.length ++ l5 ++ (numB ls.length ++ labsB ls)))), 0) := by
      refine Ev.bind (number_Ev _ _ (by omega) (by omega) (by omega)) ?_
      have h := ih (i + 1) (x ++ numB l3[i].toNat) (by omega) (by simp; omega)
      have e : x ++ (intsB (l3.drop i) ++ (numB l4.length ++ l4 ++ (numB l5.length ++ l5 ++ (numB ls.length ++ labsB ls)))) = x ++ numB l3[i].toNat ++ (intsB (l3.drop (i + 1)) ++ (numB l4.length ++ l4 ++ (numB l5.length ++ l5 ++ (numB ls.length ++ labsB ls)))) := by
        rw [intsB_drop l3 i hlt]; simp only [List.append_assoc]
      rw [e]
      exact h
    refine Ev.step (fun k => ?_) key
    simp only [trace_Write.l1]
    rw [if_pos (by omega), if_pos (by omega), if_pos (by omega), rd_nat l3 i hlt, wrap_succ (n := l3.length) (by omega) (by omega) (by omega)]

theorem right_parts {a0 a1 a2 : Int} {l3 l4 l5 : List Int} {ls : List S56} (h : rightB a0 a1 a2 l3 l4 l5 ls = true) :
    1 ≤ a0 ∧ a0 ≤ 64 ∧ 1 ≤ a1 ∧ a1 ≤ 64 ∧ 0 ≤ a2 ∧ a2 ≤ 1099511627776 ∧ l3.length ≤ 8 ∧ l4.length ≤ 32768 ∧ l5.length ≤ 262144 ∧ (∀ d ∈ l3, devOk d = true) ∧ ls.all plainB = true := by
  simp only [rightB, confB, boardB, Bool.and_eq_true, decide_eq_true_eq] at h
  obtain ⟨⟨⟨⟨⟨⟨⟨⟨h1, h2⟩, h3⟩, h4⟩, h5⟩, ⟨⟨⟨⟨⟨⟨b1, b2⟩, b3⟩, b4⟩, b5⟩, b6⟩, b7⟩⟩, h6⟩, h7⟩, h8⟩ := h
  exact ⟨h1, h2, h3, h4, h6, h7, b3, b4, by omega, devsOk_mem b7, h8⟩

theorem write_Ev (a0 a1 a2 : Int) (l3 l4 l5 : List Int) (a6 : Bool) (ls : List S56) (hm : l3.length ≤ 9223372036854775807) (hs : ls.length ≤ 1048576) :
    Ev (fun k => trace_Write.f k a0 a1 a2 l3 l4 l5 a6 ls) (if rightB a0 a1 a2 l3 l4 l5 ls = true then (lifeB a0 a1 a2 l3 l4 l5 a6 ls, 0) else ([], 1)) := by
  unfold trace_Write.f
  refine Ev.bind (right_Ev a0 a1 a2 l3 l4 l5 a6 ls hm) ?_
  by_cases hR : rightB a0 a1 a2 l3 l4 l5 ls = true
  · obtain ⟨p0, p0', p1, p1', p2, p2', p3, p4, p5, pd, pp⟩ := right_parts hR
    simp only [if_pos hR]
    have n0 := numB_len10 (n := a0.toNat) (by omega)
    have n1 := numB_len10 (n := a1.toNat) (by omega)
    have n2 := numB_len10 (n := a2.toNat) (by omega)
    have n3 := numB_len10 (n := l3.length) (by omega)
    have L1 := write_l1 a0 a1 a2 l3 l4 l5 a6 ls pp hs pd p3 p4 p5 l3.length 0
    have J : ∀ (b : Int) (x : List Int), x.length ≤ 500 → Ev (fun k => trace_Write.j1 k ls x b a0 a1 a2 l3 l4 l5 a6) (x ++ ([b] ++ (numB l3.length ++ tailB l3 l4 l5 ls)), 0) := by
      intro b x hx
      have key : Ev (fun k => (trace_number.f k (x ++ [b]) (l3.length : Int)).bind fun t => trace_Write.l1 k ls t l3 (l3.length : Int) 0 a0 a1 a2 l3 l4 l5 a6) (x ++ ([b] ++ (numB l3.length ++ tailB l3 l4 l5 ls)), 0) := by
        refine Ev.bind (number_Ev _ _ (by omega) (by omega) (by simp; omega)) ?_
        have h := L1 (x ++ [b] ++ numB l3.length) (by omega) (by simp; omega)
        rw [List.drop_zero] at h
        simp only [Int.toNat_natCast]
        have e : x ++ ([b] ++ (numB l3.length ++ tailB l3 l4 l5 ls)) = x ++ [b] ++ numB l3.length ++ (intsB l3 ++ (numB l4.length ++ l4 ++ (numB l5.length ++ l5 ++ (numB ls.length ++ labsB ls)))) := by simp [tailB]
        rw [e]
        exact h
      refine Ev.step (fun k => ?_) key
      simp only [trace_Write.j1]
      rw [if_pos (by omega)]
    have E3 : Ev (fun k => trace_Write.l0 k ls ([76, 73, 70, 69] ++ numB a0.toNat ++ numB a1.toNat ++ numB a2.toNat) [a0, a1, a2] (([a0, a1, a2] : List Int).length : Int) 3 a0 a1 a2 l3 l4 l5 a6) (lifeB a0 a1 a2 l3 l4 l5 a6 ls, 0) := by
      have h := J (if a6 then 1 else 0) ([76, 73, 70, 69] ++ numB a0.toNat ++ numB a1.toNat ++ numB a2.toNat) (by simp; omega)
      have e : lifeB a0 a1 a2 l3 l4 l5 a6 ls = [76, 73, 70, 69] ++ numB a0.toNat ++ numB a1.toNat ++ numB a2.toNat ++ ([if a6 then 1 else 0] ++ (numB l3.length ++ tailB l3 l4 l5 ls)) := by simp [lifeB]
      rw [e]
      refine Ev.step (fun k => ?_) h
      simp only [trace_Write.l0]
      rw [if_neg (by simp)]
      cases a6 <;> rfl
    have E2 : Ev (fun k => trace_Write.l0 k ls ([76, 73, 70, 69] ++ numB a0.toNat ++ numB a1.toNat) [a0, a1, a2] (([a0, a1, a2] : List Int).length : Int) 2 a0 a1 a2 l3 l4 l5 a6) (lifeB a0 a1 a2 l3 l4 l5 a6 ls, 0) := by
      refine Ev.step (f := fun k => (trace_number.f k ([76, 73, 70, 69] ++ numB a0.toNat ++ numB a1.toNat) a2).bind fun t => trace_Write.l0 k ls t [a0, a1, a2] (([a0, a1, a2] : List Int).length : Int) 3 a0 a1 a2 l3 l4 l5 a6) (fun k => ?_) (Ev.bind (number_Ev _ _ (by omega) (by omega) (by simp; omega)) E3)
      simp only [trace_Write.l0]
      rw [if_pos (by simp), if_pos (by omega), if_pos (by simp), show wrap64 (2 + 1) = 3 by unfold wrap64; omega]
      rfl
    have E1 : Ev (fun k => trace_Write.l0 k ls ([76, 73, 70, 69] ++ numB a0.toNat) [a0, a1, a2] (([a0, a1, a2] : List Int).length : Int) 1 a0 a1 a2 l3 l4 l5 a6) (lifeB a0 a1 a2 l3 l4 l5 a6 ls, 0) := by
      refine Ev.step (f := fun k => (trace_number.f k ([76, 73, 70, 69] ++ numB a0.toNat) a1).bind fun t => trace_Write.l0 k ls t [a0, a1, a2] (([a0, a1, a2] : List Int).length : Int) 2 a0 a1 a2 l3 l4 l5 a6) (fun k => ?_) (Ev.bind (number_Ev _ _ (by omega) (by omega) (by simp; omega)) E2)
      simp only [trace_Write.l0]
      rw [if_pos (by simp), if_pos (by omega), if_pos (by simp), show wrap64 (1 + 1) = 2 by unfold wrap64; omega]
      rfl
    refine Ev.step (f := fun k => (trace_number.f k [76, 73, 70, 69] a0).bind fun t => trace_Write.l0 k ls t [a0, a1, a2] (([a0, a1, a2] : List Int).length : Int) 1 a0 a1 a2 l3 l4 l5 a6) (fun k => ?_) (Ev.bind (number_Ev _ _ (by omega) (by omega) (by simp)) E1)
    show trace_Write.l0 (k + 1) ls [76, 73, 70, 69] [a0, a1, a2] _ 0 a0 a1 a2 l3 l4 l5 a6 = _
    simp only [trace_Write.l0]
    rw [if_pos (by simp), if_pos (by omega), if_pos (by simp), show wrap64 (0 + 1) = 1 by unfold wrap64; omega]
    rfl
  · simp only [if_neg hR, Bool.eq_false_iff.mpr hR]
    exact Ev.now _
end Go.Proofs.YtgibdhdglppdcaaGreat.PU
