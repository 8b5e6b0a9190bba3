/- Contracts of Go functions, printed for this claim by the kit's print, hooked and turned by this session's programs (wip). -/
import Derived.Test.YtedlmdnineohkaaPUx0
namespace Go.Proofs.Ytedlmdnineohkaa.PU
open Go.RowKit Go.Proofs.YtedlmdnineohkaaW.PrintWords Go.Proofs.YtedlmdnineohkaaW.PrintLast Go.Proofs.YtedlmdnineohkaaW.PrintMore
set_option linter.unusedVariables false
set_option linter.unusedSimpArgs false

/-! ### citadellaw00_Back: function 18 -/
def citadellaw00_Back.l0 : Nat → List Int → List Int → Int → Option (Bool)
  | 0, _, _, _ => none
  | k + 1, x0, x1, x5 => if x5 < (x1.length : Int) then (if x5 < (x0.length : Int) then (if 0 ≤ x5 then (if (rd x1 x5) = (rd x0 x5) then (if x5 ≥ (x0.length : Int) then (if (rd x1 x5) = ((wrap64 ((wrap64 (101 + x5)) - (x0.length : Int))) % 256) then (citadellaw00_Back.l0 k x0 x1 (wrap64 (x5 + 1))) else (some false)) else (citadellaw00_Back.l0 k x0 x1 (wrap64 (x5 + 1)))) else (some false)) else (none)) else (if x5 ≥ (x0.length : Int) then (if 0 ≤ x5 then (if (rd x1 x5) = ((wrap64 ((wrap64 (101 + x5)) - (x0.length : Int))) % 256) then (citadellaw00_Back.l0 k x0 x1 (wrap64 (x5 + 1))) else (some false)) else (none)) else (citadellaw00_Back.l0 k x0 x1 (wrap64 (x5 + 1))))) else (some true)
def citadellaw00_Back.f (k : Nat) (l0 : List Int) (l1 : List Int) : Option (Bool) := if (l1.length : Int) = (wrap64 ((l0.length : Int) + 70)) then (citadellaw00_Back.l0 k l0 l1 0) else (some false)
theorem citadellaw00_Back.mono_l : ∀ k, (∀ y0 y1 y2, LeO (citadellaw00_Back.l0 k y0 y1 y2) (citadellaw00_Back.l0 (k + 1) y0 y1 y2))
  | 0 => fun _ _ _ r h => by simp [citadellaw00_Back.l0] at h
  | k + 1 => by
    have ih0 := citadellaw00_Back.mono_l k
    · intro y0 y1 y2
      unfold citadellaw00_Back.l0
      repeat' first
      | (with_reducible exact ih0 _ _ _)
      | (with_reducible exact LeO.refl _)
      | (with_reducible exact LeO.none _)
      | (with_reducible refine LeO.ite ?_ ?_)
      | (with_reducible refine LeO.bind ?_ (fun _ => ?_))
      | exact ih0 _ _ _
      | exact LeO.none _
      | refine LeO.ite ?_ ?_
      | refine LeO.bind ?_ (fun _ => ?_)
theorem citadellaw00_Back.mono : ∀ a0 a1 k, LeO (citadellaw00_Back.f k a0 a1) (citadellaw00_Back.f (k + 1) a0 a1) := by
  intro a0 a1 k
  have ih0 := citadellaw00_Back.mono_l k
  unfold citadellaw00_Back.f
  repeat' first
      | (with_reducible exact ih0 _ _ _)
      | (with_reducible exact LeO.refl _)
      | (with_reducible exact LeO.none _)
      | (with_reducible refine LeO.ite ?_ ?_)
      | (with_reducible refine LeO.bind ?_ (fun _ => ?_))
      | exact ih0 _ _ _
      | exact LeO.none _
      | refine LeO.ite ?_ ?_
      | refine LeO.bind ?_ (fun _ => ?_)
set_option maxHeartbeats 8000000 in
set_option maxRecDepth 100000 in
theorem citadellaw00_Back.calls (k : Nat) (A0 : Option Addr) (c0 : Nat) (l0 : List Int) (A1 : Option Addr) (c1 : Nat) (l1 : List Int) (r : Bool) (w : World) (hr0 : Kd.C (Kd.int .u8) w A0 l0.length l0) (hc0 : l0.length ≤ c0) (hr1 : Kd.C (Kd.int .u8) w A1 l1.length l1) (hc1 : l1.length ≤ c1) (h : citadellaw00_Back.f k l0 l1 = some r) :
    Calls Try.prog 18 #[.slice A0 l0.length c0, .slice A1 l1.length c1] w fun e w' => e = .returned (.bool r) ∧ Drawn0 w w' := by
  have HR0 := Aside0.mk hr0
  have HC0 := Aside0.mk hc0
  clear hr0 hc0
  have HR1 := Aside0.mk hr1
  have HC1 := Aside0.mk hc1
  clear hr1 hc1
  have H : (if (l1.length : Int) = (wrap64 ((l0.length : Int) + 70)) then (citadellaw00_Back.l0 k l0 l1 0) else (some false)) = some r := h
  clear h
  by_cases c3 : (l1.length : Int) = (wrap64 ((l0.length : Int) + 70))
  · rw [if_pos c3] at H
    have c3b0 : ((l1.length : Int) == (wrap64 ((l0.length : Int) + 70))) = true := beq_iff_eq.mpr c3
    have c3b1 : ((l1.length : Int) != (wrap64 ((l0.length : Int) + 70))) = false := bne_eq_false_iff_eq.mpr c3
    clear c3
    have H' := Aside0.mk H
    clear H
    go_enter Try.func18, Try.ntmps18
    go_wp2
    repeat (go_quiet (fail); try go_wp2)
    go_loopg [5] k (fun kq v5 w' => ∃ (x5_1 : Int), v5 = .int .i64 x5_1 ∧ Aside0 (citadellaw00_Back.l0 kq l0 l1 x5_1 = some r) ∧ Aside0 (kq ≤ k) ∧ Drawn0 w w')
    case atStart => exact ⟨(0), (by first | rfl | (simp; done) | (simp [*]; done)), H', ⟨Nat.le_refl _⟩, by repeat (first | exact Drawn0.refl _ | apply Drawn0.step)⟩
    case round =>
      clear H'
      try clear c1
      try clear p2
      try clear c3
      try clear c3b0
      try clear c3b1
      obtain ⟨x5_1, rfl, HA, HK1, ⟨m1, rfl⟩⟩ := hrel
      cases gk with
      | zero => exact absurd HA.out (by simp [citadellaw00_Back.l0])
      | succ k1 =>
        have H := HA.out
        clear HA
        simp only [citadellaw00_Back.l0] at H
        by_cases c4 : x5_1 < (l1.length : Int)
        · rw [if_pos c4] at H
          have c4b0 : decide (x5_1 < (l1.length : Int)) = true := decide_eq_true c4
          clear c4
          by_cases c5 : x5_1 < (l0.length : Int)
          · rw [if_pos c5] at H
            have c5b0 : decide (x5_1 < (l0.length : Int)) = true := decide_eq_true c5
            clear c5
            by_cases c6 : 0 ≤ x5_1
            · rw [if_pos c6] at H
              have c6b0 : decide (0 ≤ x5_1) = true := decide_eq_true c6
              clear c6
              by_cases c7 : (rd l1 x5_1) = (rd l0 x5_1)
              · rw [if_pos c7] at H
                have c7b0 : ((rd l1 x5_1) == (rd l0 x5_1)) = true := beq_iff_eq.mpr c7
                have c7b1 : ((rd l1 x5_1) != (rd l0 x5_1)) = false := bne_eq_false_iff_eq.mpr c7
                clear c7
                by_cases c8 : x5_1 ≥ (l0.length : Int)
                · rw [if_pos c8] at H
                  have c8b0 : decide ((l0.length : Int) ≤ x5_1) = true := decide_eq_true c8
                  clear c8
                  by_cases c9 : (rd l1 x5_1) = ((wrap64 ((wrap64 (101 + x5_1)) - (l0.length : Int))) % 256)
                  · rw [if_pos c9] at H
                    have c9b0 : ((rd l1 x5_1) == ((wrap64 ((wrap64 (101 + x5_1)) - (l0.length : Int))) % 256)) = true := beq_iff_eq.mpr c9
                    have c9b1 : ((rd l1 x5_1) != ((wrap64 ((wrap64 (101 + x5_1)) - (l0.length : Int))) % 256)) = false := bne_eq_false_iff_eq.mpr c9
                    clear c9
                    have H' := Aside0.mk H
                    clear H
                    have p362 : 0 ≤ (x5_1 : Int) := of_decide_eq_true (by first | (with_reducible assumption) | assumption)
                    have q362 : x5_1 < (l1.length : Int) := of_decide_eq_true (by first | (with_reducible assumption) | assumption)
                    obtain ⟨ad362, e362, hx362_0⟩ := Kd.at_int HR1.out x5_1 p362 q362
                    cases e362
                    replace p362 := eq_true p362
                    replace q362 := eq_true q362
                    have p363 : 0 ≤ (x5_1 : Int) := of_decide_eq_true (by first | (with_reducible assumption) | assumption)
                    have q363 : x5_1 < (l0.length : Int) := of_decide_eq_true (by first | (with_reducible assumption) | assumption)
                    obtain ⟨ad363, e363, hx363_0⟩ := Kd.at_int HR0.out x5_1 p363 q363
                    cases e363
                    replace p363 := eq_true p363
                    replace q363 := eq_true q363
                    have p364 : 0 ≤ (x5_1 : Int) := of_decide_eq_true (by first | (with_reducible assumption) | assumption)
                    have q364 : x5_1 < (l1.length : Int) := of_decide_eq_true (by first | (with_reducible assumption) | assumption)
                    obtain ⟨ad364, e364, hx364_0⟩ := Kd.at_int HR1.out x5_1 p364 q364
                    obtain rfl : ad362 = ad364 := (by injection e364)
                    replace p364 := eq_true p364
                    replace q364 := eq_true q364
                    go_wp2
                    repeat (go_quiet (fail); try go_wp2)
                    go_roundg k1
                    case measure => have := HK1.out; omega
                    case rel => exact ⟨(wrap64 (x5_1 + 1)), (by first | rfl | (simp; done) | (simp [*]; done)), H', ⟨by have := HK1.out; omega⟩, by repeat (first | exact Drawn0.refl _ | apply Drawn0.step)⟩
                  · rw [if_neg c9] at H
                    have c9b0 : ((rd l1 x5_1) == ((wrap64 ((wrap64 (101 + x5_1)) - (l0.length : Int))) % 256)) = false := beq_eq_false_iff_ne.mpr c9
                    have c9b1 : ((rd l1 x5_1) != ((wrap64 ((wrap64 (101 + x5_1)) - (l0.length : Int))) % 256)) = true := bne_iff_ne.mpr c9
                    obtain rfl := Option.some.inj H
                    have p362 : 0 ≤ (x5_1 : Int) := of_decide_eq_true (by first | (with_reducible assumption) | assumption)
                    have q362 : x5_1 < (l1.length : Int) := of_decide_eq_true (by first | (with_reducible assumption) | assumption)
                    obtain ⟨ad362, e362, hx362_0⟩ := Kd.at_int HR1.out x5_1 p362 q362
                    cases e362
                    replace p362 := eq_true p362
                    replace q362 := eq_true q362
                    have p363 : 0 ≤ (x5_1 : Int) := of_decide_eq_true (by first | (with_reducible assumption) | assumption)
                    have q363 : x5_1 < (l0.length : Int) := of_decide_eq_true (by first | (with_reducible assumption) | assumption)
                    obtain ⟨ad363, e363, hx363_0⟩ := Kd.at_int HR0.out x5_1 p363 q363
                    cases e363
                    replace p363 := eq_true p363
                    replace q363 := eq_true q363
                    have p364 : 0 ≤ (x5_1 : Int) := of_decide_eq_true (by first | (with_reducible assumption) | assumption)
                    have q364 : x5_1 < (l1.length : Int) := of_decide_eq_true (by first | (with_reducible assumption) | assumption)
                    obtain ⟨ad364, e364, hx364_0⟩ := Kd.at_int HR1.out x5_1 p364 q364
                    obtain rfl : ad362 = ad364 := (by injection e364)
                    replace p364 := eq_true p364
                    replace q364 := eq_true q364
                    go_wp2
                    repeat (go_quiet (fail); try go_wp2)
                    go_ret
                    exact ⟨by first | rfl | (simp; done) | (simp [*]; done), by repeat (first | exact Drawn0.refl _ | apply Drawn0.step)⟩
                · rw [if_neg c8] at H
                  have c8b0 : decide ((l0.length : Int) ≤ x5_1) = false := decide_eq_false c8
                  clear c8
                  have H' := Aside0.mk H
                  clear H
                  have p362 : 0 ≤ (x5_1 : Int) := of_decide_eq_true (by first | (with_reducible assumption) | assumption)
                  have q362 : x5_1 < (l1.length : Int) := of_decide_eq_true (by first | (with_reducible assumption) | assumption)
                  obtain ⟨ad362, e362, hx362_0⟩ := Kd.at_int HR1.out x5_1 p362 q362
                  cases e362
                  replace p362 := eq_true p362
                  replace q362 := eq_true q362
                  have p363 : 0 ≤ (x5_1 : Int) := of_decide_eq_true (by first | (with_reducible assumption) | assumption)
                  have q363 : x5_1 < (l0.length : Int) := of_decide_eq_true (by first | (with_reducible assumption) | assumption)
                  obtain ⟨ad363, e363, hx363_0⟩ := Kd.at_int HR0.out x5_1 p363 q363
                  cases e363
                  replace p363 := eq_true p363
                  replace q363 := eq_true q363
                  go_wp2
                  repeat (go_quiet (fail); try go_wp2)
                  go_roundg k1
                  case measure => have := HK1.out; omega
                  case rel => exact ⟨(wrap64 (x5_1 + 1)), (by first | rfl | (simp; done) | (simp [*]; done)), H', ⟨by have := HK1.out; omega⟩, by repeat (first | exact Drawn0.refl _ | apply Drawn0.step)⟩
              · rw [if_neg c7] at H
                have c7b0 : ((rd l1 x5_1) == (rd l0 x5_1)) = false := beq_eq_false_iff_ne.mpr c7
                have c7b1 : ((rd l1 x5_1) != (rd l0 x5_1)) = true := bne_iff_ne.mpr c7
                obtain rfl := Option.some.inj H
                have p362 : 0 ≤ (x5_1 : Int) := of_decide_eq_true (by first | (with_reducible assumption) | assumption)
                have q362 : x5_1 < (l1.length : Int) := of_decide_eq_true (by first | (with_reducible assumption) | assumption)
                obtain ⟨ad362, e362, hx362_0⟩ := Kd.at_int HR1.out x5_1 p362 q362
                cases e362
                replace p362 := eq_true p362
                replace q362 := eq_true q362
                have p363 : 0 ≤ (x5_1 : Int) := of_decide_eq_true (by first | (with_reducible assumption) | assumption)
                have q363 : x5_1 < (l0.length : Int) := of_decide_eq_true (by first | (with_reducible assumption) | assumption)
                obtain ⟨ad363, e363, hx363_0⟩ := Kd.at_int HR0.out x5_1 p363 q363
                cases e363
                replace p363 := eq_true p363
                replace q363 := eq_true q363
                go_wp2
                repeat (go_quiet (fail); try go_wp2)
                go_ret
                exact ⟨by first | rfl | (simp; done) | (simp [*]; done), by repeat (first | exact Drawn0.refl _ | apply Drawn0.step)⟩
            · rw [if_neg c6] at H
              exact absurd H (by simp)
          · rw [if_neg c5] at H
            have c5b0 : decide (x5_1 < (l0.length : Int)) = false := decide_eq_false c5
            clear c5
            by_cases c10 : x5_1 ≥ (l0.length : Int)
            · rw [if_pos c10] at H
              have c10b0 : decide ((l0.length : Int) ≤ x5_1) = true := decide_eq_true c10
              clear c10
              by_cases c11 : 0 ≤ x5_1
              · rw [if_pos c11] at H
                have c11b0 : decide (0 ≤ x5_1) = true := decide_eq_true c11
                clear c11
                by_cases c12 : (rd l1 x5_1) = ((wrap64 ((wrap64 (101 + x5_1)) - (l0.length : Int))) % 256)
                · rw [if_pos c12] at H
                  have c12b0 : ((rd l1 x5_1) == ((wrap64 ((wrap64 (101 + x5_1)) - (l0.length : Int))) % 256)) = true := beq_iff_eq.mpr c12
                  have c12b1 : ((rd l1 x5_1) != ((wrap64 ((wrap64 (101 + x5_1)) - (l0.length : Int))) % 256)) = false := bne_eq_false_iff_eq.mpr c12
                  clear c12
                  have H' := Aside0.mk H
                  clear H
                  have p365 : 0 ≤ (x5_1 : Int) := of_decide_eq_true (by first | (with_reducible assumption) | assumption)
                  have q365 : x5_1 < (l1.length : Int) := of_decide_eq_true (by first | (with_reducible assumption) | assumption)
                  obtain ⟨ad365, e365, hx365_0⟩ := Kd.at_int HR1.out x5_1 p365 q365
                  cases e365
                  replace p365 := eq_true p365
                  replace q365 := eq_true q365
                  go_wp2
                  repeat (go_quiet (fail); try go_wp2)
                  go_roundg k1
                  case measure => have := HK1.out; omega
                  case rel => exact ⟨(wrap64 (x5_1 + 1)), (by first | rfl | (simp; done) | (simp [*]; done)), H', ⟨by have := HK1.out; omega⟩, by repeat (first | exact Drawn0.refl _ | apply Drawn0.step)⟩
                · rw [if_neg c12] at H
                  have c12b0 : ((rd l1 x5_1) == ((wrap64 ((wrap64 (101 + x5_1)) - (l0.length : Int))) % 256)) = false := beq_eq_false_iff_ne.mpr c12
                  have c12b1 : ((rd l1 x5_1) != ((wrap64 ((wrap64 (101 + x5_1)) - (l0.length : Int))) % 256)) = true := bne_iff_ne.mpr c12
                  obtain rfl := Option.some.inj H
                  have p365 : 0 ≤ (x5_1 : Int) := of_decide_eq_true (by first | (with_reducible assumption) | assumption)
                  have q365 : x5_1 < (l1.length : Int) := of_decide_eq_true (by first | (with_reducible assumption) | assumption)
                  obtain ⟨ad365, e365, hx365_0⟩ := Kd.at_int HR1.out x5_1 p365 q365
                  cases e365
                  replace p365 := eq_true p365
                  replace q365 := eq_true q365
                  go_wp2
                  repeat (go_quiet (fail); try go_wp2)
                  go_ret
                  exact ⟨by first | rfl | (simp; done) | (simp [*]; done), by repeat (first | exact Drawn0.refl _ | apply Drawn0.step)⟩
              · rw [if_neg c11] at H
                exact absurd H (by simp)
            · rw [if_neg c10] at H
              have c10b0 : decide ((l0.length : Int) ≤ x5_1) = false := decide_eq_false c10
              clear c10
              have H' := Aside0.mk H
              clear H
              go_wp2
              repeat (go_quiet (fail); try go_wp2)
              go_roundg k1
              case measure => have := HK1.out; omega
              case rel => exact ⟨(wrap64 (x5_1 + 1)), (by first | rfl | (simp; done) | (simp [*]; done)), H', ⟨by have := HK1.out; omega⟩, by repeat (first | exact Drawn0.refl _ | apply Drawn0.step)⟩
        · rw [if_neg c4] at H
          have c4b0 : decide (x5_1 < (l1.length : Int)) = false := decide_eq_false c4
          clear c4
          obtain rfl := Option.some.inj H
          go_wp2
          repeat (go_quiet (fail); try go_wp2)
          go_ret
          exact ⟨by first | rfl | (simp; done) | (simp [*]; done), by repeat (first | exact Drawn0.refl _ | apply Drawn0.step)⟩
  · rw [if_neg c3] at H
    have c3b0 : ((l1.length : Int) == (wrap64 ((l0.length : Int) + 70))) = false := beq_eq_false_iff_ne.mpr c3
    have c3b1 : ((l1.length : Int) != (wrap64 ((l0.length : Int) + 70))) = true := bne_iff_ne.mpr c3
    obtain rfl := Option.some.inj H
    go_enter Try.func18, Try.ntmps18
    go_wp2
    repeat (go_quiet (fail); try go_wp2)
    go_ret
    exact ⟨by first | rfl | (simp; done) | (simp [*]; done), by repeat (first | exact Drawn0.refl _ | apply Drawn0.step)⟩

-- NOT PRINTED: function 4 (citadellaw23_TraceReads)

-- NOT PRINTED: function 5 (citadellaw23_TraceRound)

-- NOT PRINTED: function 19 (trace_Add)

-- NOT PRINTED: function 20 (trace_Cut)

-- NOT PRINTED: function 21 (citadelref23_Add)

-- NOT PRINTED: function 22 (citadelref23_Cut)

/-! ### citadellaw00_Place: function 23 -/
def citadellaw00_Place.f (a0 : Int) (a1 : Int) : Option (Int) := if a1 = 0 then (none) else (if (Int.tmod a0 a1) < 0 then (some (wrap64 ((Int.tmod a0 a1) + a1))) else (some (Int.tmod a0 a1)))
set_option maxHeartbeats 8000000 in
set_option maxRecDepth 100000 in
theorem citadellaw00_Place.calls (a0 : Int) (a1 : Int) (r : Int) (w : World) (h : citadellaw00_Place.f a0 a1 = some r) :
    Calls Try.prog 23 #[.int .i64 a0, .int .i64 a1] w fun e w' => e = .returned (.int .i64 r) ∧ Drawn0 w w' := by
  have H : (if a1 = 0 then (none) else (if (Int.tmod a0 a1) < 0 then (some (wrap64 ((Int.tmod a0 a1) + a1))) else (some (Int.tmod a0 a1)))) = some r := h
  clear h
  by_cases c3 : a1 = 0
  · rw [if_pos c3] at H
    exact absurd H (by simp)
  · rw [if_neg c3] at H
    have c3b0 : (a1 == 0) = false := beq_eq_false_iff_ne.mpr c3
    have c3b1 : (a1 != 0) = true := bne_iff_ne.mpr c3
    by_cases c4 : (Int.tmod a0 a1) < 0
    · rw [if_pos c4] at H
      have c4b0 : decide ((Int.tmod a0 a1) < 0) = true := decide_eq_true c4
      clear c4
      obtain rfl := Option.some.inj H
      go_enter Try.func23, Try.ntmps23
      go_wp2
      go_ret
      exact ⟨by first | rfl | (simp; done) | (simp [*]; done), by repeat (first | exact Drawn0.refl _ | apply Drawn0.step)⟩
    · rw [if_neg c4] at H
      have c4b0 : decide ((Int.tmod a0 a1) < 0) = false := decide_eq_false c4
      clear c4
      obtain rfl := Option.some.inj H
      go_enter Try.func23, Try.ntmps23
      go_wp2
      go_ret
      exact ⟨by first | rfl | (simp; done) | (simp [*]; done), by repeat (first | exact Drawn0.refl _ | apply Drawn0.step)⟩

-- NOT PRINTED: function 6 (citadellaw23_TraceAdds)

end Go.Proofs.Ytedlmdnineohkaa.PU
