/- Contracts of Go functions, printed for this claim by the kit's print, hooked and turned by this session's programs (wip). -/
import Derived.Test.YtedlmdnineohkaaPUx0
import Derived.Test.YtedlmdnineohkaaPUx3
import Derived.Test.YtedlmdnineohkaaPUx4
namespace Go.Proofs.Ytedlmdnineohkaa.PU
open Go.RowKit Go.Proofs.YtedlmdnineohkaaW.PrintWords Go.Proofs.YtedlmdnineohkaaW.PrintLast Go.Proofs.YtedlmdnineohkaaW.PrintMore
set_option linter.unusedVariables false
set_option linter.unusedSimpArgs false

/-! ### citadellaw00_SameBytes: function 11 -/
def citadellaw00_SameBytes.l0 : Nat → List Int → List Int → Int → Option (Bool)
  | 0, _, _, _ => none
  | k + 1, x0, x1, x5 => if x5 < (x0.length : Int) then (if 0 ≤ x5 then (if x5 < (x1.length : Int) then (if (rd x0 x5) = (rd x1 x5) then (citadellaw00_SameBytes.l0 k x0 x1 (wrap64 (x5 + 1))) else (some false)) else (none)) else (none)) else (some true)
def citadellaw00_SameBytes.f (k : Nat) (l0 : List Int) (l1 : List Int) : Option (Bool) := if (l0.length : Int) = (l1.length : Int) then (citadellaw00_SameBytes.l0 k l0 l1 0) else (some false)
theorem citadellaw00_SameBytes.mono_l : ∀ k, (∀ y0 y1 y2, LeO (citadellaw00_SameBytes.l0 k y0 y1 y2) (citadellaw00_SameBytes.l0 (k + 1) y0 y1 y2))
  | 0 => fun _ _ _ r h => by simp [citadellaw00_SameBytes.l0] at h
  | k + 1 => by
    have ih0 := citadellaw00_SameBytes.mono_l k
    · intro y0 y1 y2
      unfold citadellaw00_SameBytes.l0
      repeat' first
      | (with_reducible exact ih0 _ _ _)
      | (with_reducible exact LeO.refl _)
      | (with_reducible exact LeO.none _)
      | (with_reducible refine LeO.ite ?_ ?_)
      | (with_reducible refine LeO.bind ?_ (fun _ => ?_))
      | exact ih0 _ _ _
      | exact LeO.none _
      | refine LeO.ite ?_ ?_
      | refine LeO.bind ?_ (fun _ => ?_)
theorem citadellaw00_SameBytes.mono : ∀ a0 a1 k, LeO (citadellaw00_SameBytes.f k a0 a1) (citadellaw00_SameBytes.f (k + 1) a0 a1) := by
  intro a0 a1 k
  have ih0 := citadellaw00_SameBytes.mono_l k
  unfold citadellaw00_SameBytes.f
  repeat' first
      | (with_reducible exact ih0 _ _ _)
      | (with_reducible exact LeO.refl _)
      | (with_reducible exact LeO.none _)
      | (with_reducible refine LeO.ite ?_ ?_)
      | (with_reducible refine LeO.bind ?_ (fun _ => ?_))
      | exact ih0 _ _ _
      | exact LeO.none _
      | refine LeO.ite ?_ ?_
      | refine LeO.bind ?_ (fun _ => ?_)
set_option maxHeartbeats 8000000 in
set_option maxRecDepth 100000 in
theorem citadellaw00_SameBytes.calls (k : Nat) (A0 : Option Addr) (c0 : Nat) (l0 : List Int) (A1 : Option Addr) (c1 : Nat) (l1 : List Int) (r : Bool) (w : World) (hr0 : Kd.C (Kd.int .u8) w A0 l0.length l0) (hc0 : l0.length ≤ c0) (hr1 : Kd.C (Kd.int .u8) w A1 l1.length l1) (hc1 : l1.length ≤ c1) (h : citadellaw00_SameBytes.f k l0 l1 = some r) :
    Calls Try.prog 11 #[.slice A0 l0.length c0, .slice A1 l1.length c1] w fun e w' => e = .returned (.bool r) ∧ Drawn0 w w' := by
  have HR0 := Aside0.mk hr0
  have HC0 := Aside0.mk hc0
  clear hr0 hc0
  have HR1 := Aside0.mk hr1
  have HC1 := Aside0.mk hc1
  clear hr1 hc1
  have H : (if (l0.length : Int) = (l1.length : Int) then (citadellaw00_SameBytes.l0 k l0 l1 0) else (some false)) = some r := h
  clear h
  by_cases c3 : (l0.length : Int) = (l1.length : Int)
  · rw [if_pos c3] at H
    have c3b0 : ((l0.length : Int) == (l1.length : Int)) = true := beq_iff_eq.mpr c3
    have c3b1 : ((l0.length : Int) != (l1.length : Int)) = false := bne_eq_false_iff_eq.mpr c3
    have c3b2 : (l0.length == l1.length) = true := by first | simpa using c3 | (simp at c3 ⊢; omega)
    clear c3
    have H' := Aside0.mk H
    clear H
    go_enter Try.func11, Try.ntmps11
    go_wp2
    repeat (go_quiet (fail); try go_wp2)
    go_loopg [5] k (fun kq v5 w' => ∃ (x5_1 : Int), v5 = .int .i64 x5_1 ∧ Aside0 (citadellaw00_SameBytes.l0 kq l0 l1 x5_1 = some r) ∧ Aside0 (kq ≤ k) ∧ Drawn0 w w')
    case atStart => exact ⟨(0), (by first | rfl | (simp; done) | (simp [*]; done)), H', ⟨Nat.le_refl _⟩, by repeat (first | exact Drawn0.refl _ | apply Drawn0.step)⟩
    case round =>
      clear H'
      try clear c1
      try clear p2
      try clear c3
      try clear c3b0
      try clear c3b1
      try clear c3b2
      obtain ⟨x5_1, rfl, HA, HK1, ⟨m1, rfl⟩⟩ := hrel
      cases gk with
      | zero => exact absurd HA.out (by simp [citadellaw00_SameBytes.l0])
      | succ k1 =>
        have H := HA.out
        clear HA
        simp only [citadellaw00_SameBytes.l0] at H
        by_cases c4 : x5_1 < (l0.length : Int)
        · rw [if_pos c4] at H
          have c4b0 : decide (x5_1 < (l0.length : Int)) = true := decide_eq_true c4
          clear c4
          by_cases c5 : 0 ≤ x5_1
          · rw [if_pos c5] at H
            have c5b0 : decide (0 ≤ x5_1) = true := decide_eq_true c5
            clear c5
            by_cases c6 : x5_1 < (l1.length : Int)
            · rw [if_pos c6] at H
              have c6b0 : decide (x5_1 < (l1.length : Int)) = true := decide_eq_true c6
              clear c6
              by_cases c7 : (rd l0 x5_1) = (rd l1 x5_1)
              · rw [if_pos c7] at H
                have c7b0 : ((rd l0 x5_1) == (rd l1 x5_1)) = true := beq_iff_eq.mpr c7
                have c7b1 : ((rd l0 x5_1) != (rd l1 x5_1)) = false := bne_eq_false_iff_eq.mpr c7
                clear c7
                have H' := Aside0.mk H
                clear H
                have p298 : 0 ≤ (x5_1 : Int) := of_decide_eq_true (by first | (with_reducible assumption) | assumption)
                have q298 : x5_1 < (l0.length : Int) := of_decide_eq_true (by first | (with_reducible assumption) | assumption)
                obtain ⟨ad298, e298, hx298_0⟩ := Kd.at_int HR0.out x5_1 p298 q298
                cases e298
                replace p298 := eq_true p298
                replace q298 := eq_true q298
                have p299 : 0 ≤ (x5_1 : Int) := of_decide_eq_true (by first | (with_reducible assumption) | assumption)
                have q299 : x5_1 < (l1.length : Int) := of_decide_eq_true (by first | (with_reducible assumption) | assumption)
                obtain ⟨ad299, e299, hx299_0⟩ := Kd.at_int HR1.out x5_1 p299 q299
                cases e299
                replace p299 := eq_true p299
                replace q299 := eq_true q299
                go_wp2
                repeat (go_quiet (fail); try go_wp2)
                go_roundg k1
                case measure => have := HK1.out; omega
                case rel => exact ⟨(wrap64 (x5_1 + 1)), (by first | rfl | (simp; done) | (simp [*]; done)), H', ⟨by have := HK1.out; omega⟩, by repeat (first | exact Drawn0.refl _ | apply Drawn0.step)⟩
              · rw [if_neg c7] at H
                have c7b0 : ((rd l0 x5_1) == (rd l1 x5_1)) = false := beq_eq_false_iff_ne.mpr c7
                have c7b1 : ((rd l0 x5_1) != (rd l1 x5_1)) = true := bne_iff_ne.mpr c7
                obtain rfl := Option.some.inj H
                have p298 : 0 ≤ (x5_1 : Int) := of_decide_eq_true (by first | (with_reducible assumption) | assumption)
                have q298 : x5_1 < (l0.length : Int) := of_decide_eq_true (by first | (with_reducible assumption) | assumption)
                obtain ⟨ad298, e298, hx298_0⟩ := Kd.at_int HR0.out x5_1 p298 q298
                cases e298
                replace p298 := eq_true p298
                replace q298 := eq_true q298
                have p299 : 0 ≤ (x5_1 : Int) := of_decide_eq_true (by first | (with_reducible assumption) | assumption)
                have q299 : x5_1 < (l1.length : Int) := of_decide_eq_true (by first | (with_reducible assumption) | assumption)
                obtain ⟨ad299, e299, hx299_0⟩ := Kd.at_int HR1.out x5_1 p299 q299
                cases e299
                replace p299 := eq_true p299
                replace q299 := eq_true q299
                go_wp2
                repeat (go_quiet (fail); try go_wp2)
                go_ret
                exact ⟨by first | rfl | (simp; done) | (simp [*]; done), by repeat (first | exact Drawn0.refl _ | apply Drawn0.step)⟩
            · rw [if_neg c6] at H
              exact absurd H (by simp)
          · rw [if_neg c5] at H
            exact absurd H (by simp)
        · rw [if_neg c4] at H
          have c4b0 : decide (x5_1 < (l0.length : Int)) = false := decide_eq_false c4
          clear c4
          obtain rfl := Option.some.inj H
          go_wp2
          repeat (go_quiet (fail); try go_wp2)
          go_ret
          exact ⟨by first | rfl | (simp; done) | (simp [*]; done), by repeat (first | exact Drawn0.refl _ | apply Drawn0.step)⟩
  · rw [if_neg c3] at H
    have c3b0 : ((l0.length : Int) == (l1.length : Int)) = false := beq_eq_false_iff_ne.mpr c3
    have c3b1 : ((l0.length : Int) != (l1.length : Int)) = true := bne_iff_ne.mpr c3
    have c3b2 : (l0.length == l1.length) = false := by first | simpa using c3 | (simp at c3 ⊢; omega)
    obtain rfl := Option.some.inj H
    go_enter Try.func11, Try.ntmps11
    go_wp2
    repeat (go_quiet (fail); try go_wp2)
    go_ret
    exact ⟨by first | rfl | (simp; done) | (simp [*]; done), by repeat (first | exact Drawn0.refl _ | apply Drawn0.step)⟩

/-! ### citadellaw23_awake: function 12 -/
def citadellaw23_awake.f (k : Nat)  : Option (Bool) := (trace_Write.f k 1 1 0 ([] : List Int) ([] : List Int) ([] : List Int) false ([] : List (S56))).bind fun bt300 => (if bt300.2 = 0 then ((citadellaw00_SameBytes.f k bt300.1 (([76, 73, 70, 69, 1, 1, 0, 0, 0, 0, 0, 0] : List Int))).bind fun t307 => (some t307)) else (some false))
theorem citadellaw23_awake.mono : ∀ k, LeO (citadellaw23_awake.f k ) (citadellaw23_awake.f (k + 1) ) := by
  intro  k
  unfold citadellaw23_awake.f
  repeat' first
      | (with_reducible exact citadellaw00_SameBytes.mono _ _ _)
      | (with_reducible exact trace_Write.mono _ _ _ _ _ _ _ _ _)
      | (with_reducible exact LeO.refl _)
      | (with_reducible exact LeO.none _)
      | (with_reducible refine LeO.ite ?_ ?_)
      | (with_reducible refine LeO.bind ?_ (fun _ => ?_))
      | exact citadellaw00_SameBytes.mono _ _ _
      | exact trace_Write.mono _ _ _ _ _ _ _ _ _
      | exact LeO.none _
      | refine LeO.ite ?_ ?_
      | refine LeO.bind ?_ (fun _ => ?_)
set_option maxHeartbeats 8000000 in
set_option maxRecDepth 100000 in
theorem citadellaw23_awake.calls (k : Nat)  (r : Bool) (w : World) (h : citadellaw23_awake.f k  = some r) :
    Calls Try.prog 12 #[] w fun e w' => e = .returned (.bool r) ∧ Below w.heap.size w w' := by
  have hu25 := Try.underlying25
  have HB := Aside0.mk (Below.refl w.heap.size w)
  have H : ((trace_Write.f k 1 1 0 ([] : List Int) ([] : List Int) ([] : List Int) false ([] : List (S56))).bind fun bt300 => (if bt300.2 = 0 then ((citadellaw00_SameBytes.f k bt300.1 (([76, 73, 70, 69, 1, 1, 0, 0, 0, 0, 0, 0] : List Int))).bind fun t307 => (some t307)) else (some false))) = some r := h
  clear h
  replace H := Option.bind_eq_some_iff.mp H
  obtain ⟨⟨t300, t303⟩, A10, H⟩ := H
  replace H : (if t303 = 0 then ((citadellaw00_SameBytes.f k t300 (([76, 73, 70, 69, 1, 1, 0, 0, 0, 0, 0, 0] : List Int))).bind fun t307 => (some t307)) else (some false)) = some r := H
  have A1 := Aside0.mk A10
  clear A10
  by_cases c2 : t303 = 0
  · rw [if_pos c2] at H
    have c2b0 : (t303 == 0) = true := beq_iff_eq.mpr c2
    have c2b1 : (t303 != 0) = false := bne_eq_false_iff_eq.mpr c2
    clear c2
    obtain ⟨y304, hy304⟩ : ∃ y_ : List Int, y_ = (([76, 73, 70, 69, 1, 1, 0, 0, 0, 0, 0, 0] : List Int)) := ⟨_, rfl⟩
    replace H : ((citadellaw00_SameBytes.f k t300 y304).bind fun t307 => (some t307)) = some r := by first | (rw [hy304]; with_reducible exact H) | (have H2_ := (Option.bind_some _ _).symm.trans H; rw [hy304]; with_reducible exact H2_) | (have H2_ := (Option.bind_some _ _).symm.trans H; with_reducible exact H2_) | with_reducible exact H | (rw [hy304]; exact H) | exact H
    have Ny304 := Aside0.mk hy304
    clear hy304
    replace H := Option.bind_eq_some_iff.mp H
    obtain ⟨t307, A30, H⟩ := H
    replace H : (some t307) = some r := H
    have A3 := Aside0.mk A30
    clear A30
    obtain rfl := Option.some.inj H
    go_enter Try.func12, Try.ntmps12
    go_wp2_with (first | ((with_reducible refine gate_callee (f := 7) rfl ?_); refine goesL_ (some 5) rfl rfl Try.func7 (by kernel_rfl) rfl #[.agg #[.int .i64 1, .int .i64 1, .int .i64 0, .slice none 0 0, .slice none 0 0, .slice none 0 0, .bool false], .slice none 0 0] rfl (by (try simp only [List.map_toArray, List.map_cons, List.map_nil]); first | done | rfl | (simp only [List.length_drop, List.length_take]; rfl)) ?_; (refine (trace_Write.calls k 1 1 0 _ _ ([] : List Int) _ _ ([] : List Int) _ _ ([] : List Int) false _ _ ([] : List (S56)) t300 t303 _ ?side1 ?side2 ?side3 ?side4 ?side5 ?side6 ?side7 ?side8 A1.out).mono ?_); (case side1 => exact Kd.C_nil _ _); (case side2 => exact Nat.le_refl _); (case side3 => exact Kd.C_nil _ _); (case side4 => exact Nat.le_refl _); (case side5 => exact Kd.C_nil _ _); (case side6 => exact Nat.le_refl _); (case side7 => exact Kd.C_nil _ _); (case side8 => exact Nat.le_refl _); rintro e w4 ⟨v301, rfl, ho0, hb⟩; refine ⟨_, rfl, ?_⟩; have n0_ := Aside0.mk (Kd.R_lower ho0 (below_size (by repeat (first | (with_reducible first | exact HB.out | apply below_alloc | apply pw_below_drewN | apply below_drew1) | exact HB.out)))); have n1_ := Aside0.mk (below_step (by repeat (first | (with_reducible first | exact HB.out | apply below_alloc | apply pw_below_drewN | apply below_drew1) | exact HB.out)) hb); clear HB; have HO302 := n0_; have HB := n1_; clear n0_ n1_; (try clear hb); (try clear hb2); (try clear hk); (try clear hi); (try clear ho0)) | ((with_reducible refine gate_dst (N := 12) rfl ?_); (try (refine gate_guard (by rfl) ?_; dsimp only)); refine Kd.R_lit (Kd.int .u8) _ 5 ?hg (N := 12) ?hd (xs := ([76, 73, 70, 69, 1, 1, 0, 0, 0, 0, 0, 0] : List Int)) (inner := [.int .u8 76, .int .u8 73, .int .u8 70, .int .u8 69, .int .u8 1, .int .u8 1, .int .u8 0, .int .u8 0, .int .u8 0, .int .u8 0, .int .u8 0, .int .u8 0]) (ok := fun _ => True) (okp := fun _ => True) ?hr ?hp (fun _ hk => hk) trivial (Below.refl _ _) (Nat.le_refl _) (by simp) ?_; (case hd => rfl); (case hg => rfl); (case hr => first | (go_simp; done) | (go_simp; rfl)); (case hp => exact (Reps.one (show Kd.M (Kd.int .u8) _ _ _ 76 [.int .u8 76] from rfl) (Reps.one (show Kd.M (Kd.int .u8) _ _ _ 73 [.int .u8 73] from rfl) (Reps.one (show Kd.M (Kd.int .u8) _ _ _ 70 [.int .u8 70] from rfl) (Reps.one (show Kd.M (Kd.int .u8) _ _ _ 69 [.int .u8 69] from rfl) (Reps.one (show Kd.M (Kd.int .u8) _ _ _ 1 [.int .u8 1] from rfl) (Reps.one (show Kd.M (Kd.int .u8) _ _ _ 1 [.int .u8 1] from rfl) (Reps.one (show Kd.M (Kd.int .u8) _ _ _ 0 [.int .u8 0] from rfl) (Reps.one (show Kd.M (Kd.int .u8) _ _ _ 0 [.int .u8 0] from rfl) (Reps.one (show Kd.M (Kd.int .u8) _ _ _ 0 [.int .u8 0] from rfl) (Reps.one (show Kd.M (Kd.int .u8) _ _ _ 0 [.int .u8 0] from rfl) (Reps.one (show Kd.M (Kd.int .u8) _ _ _ 0 [.int .u8 0] from rfl) (Reps.one (show Kd.M (Kd.int .u8) _ _ _ 0 [.int .u8 0] from rfl) (Reps.none _ _)))))))))))))); intro v305 w5 ho6 hb hg_ hnew_; clear hg_ hnew_; (first | rw [← Ny304.out] at ho6 | (simp only [Int.reduceToNat] at ho6; rw [← Ny304.out] at ho6)); have n0_ := Aside0.mk (Kd.R_elder' (by (with_reducible repeat (first | apply Kd.R_alloc | apply Kd.R_drewN | apply Kd.R_drew)); exact HO302.out) (Kd.R_base ho6) hb); have n1_ := Aside0.mk (Kd.R_lower (Kd.R_new' ho6 (Kd.R_lt (by (with_reducible repeat (first | apply Kd.R_alloc | apply Kd.R_drewN | apply Kd.R_drew)); exact HO302.out))) (below_size (by repeat (first | (with_reducible first | exact HB.out | apply below_alloc | apply pw_below_drewN | apply below_drew1) | exact HB.out)))); have n2_ := Aside0.mk (below_step (by repeat (first | (with_reducible first | exact HB.out | apply below_alloc | apply pw_below_drewN | apply below_drew1) | exact HB.out)) hb); clear HO302; clear HB; have HO302 := n0_; have HO306 := n1_; have HB := n2_; clear n0_ n1_ n2_; clear hb ho6; obtain ⟨Ao7, co7, eo7⟩ := Kd.R_slice HO302.out; subst eo7; obtain ⟨Ao8, co8, eo8⟩ := Kd.R_slice HO306.out; subst eo8) | (go_at_call 11; (with_reducible refine (citadellaw00_SameBytes.calls k _ _ t300 _ _ y304 t307 _ ?side1 ?side2 ?side3 ?side4 A3.out).mono ?_); (case side1 => repeat (first | exact (Kd.R_reads' HO302.out).2.2 | (with_reducible refine Kd.C_alloc ?_ _) | (with_reducible refine Kd.C_drewN ?_ _) | (with_reducible refine Kd.C_drew ?_))); (case side2 => exact (Kd.R_reads' HO302.out).2.1); (case side3 => repeat (first | exact (Kd.R_reads' HO306.out).2.2 | (with_reducible refine Kd.C_alloc ?_ _) | (with_reducible refine Kd.C_drewN ?_ _) | (with_reducible refine Kd.C_drew ?_))); (case side4 => exact (Kd.R_reads' HO306.out).2.1); rintro e w' ⟨rfl, ⟨nd, rfl⟩⟩))
    go_ret
    exact ⟨by first | rfl | (simp [errW_none, errW_some] <;> rfl) | (simp [*, errW_none, errW_some] <;> rfl), by repeat (first | (with_reducible first | exact HB.out | apply below_alloc | apply pw_below_drewN | apply below_drew1) | exact HB.out)⟩
  · rw [if_neg c2] at H
    have c2b0 : (t303 == 0) = false := beq_eq_false_iff_ne.mpr c2
    have c2b1 : (t303 != 0) = true := bne_iff_ne.mpr c2
    obtain rfl := Option.some.inj H
    go_enter Try.func12, Try.ntmps12
    go_wp2_with (first | ((with_reducible refine gate_callee (f := 7) rfl ?_); refine goesL_ (some 5) rfl rfl Try.func7 (by kernel_rfl) rfl #[.agg #[.int .i64 1, .int .i64 1, .int .i64 0, .slice none 0 0, .slice none 0 0, .slice none 0 0, .bool false], .slice none 0 0] rfl (by (try simp only [List.map_toArray, List.map_cons, List.map_nil]); first | done | rfl | (simp only [List.length_drop, List.length_take]; rfl)) ?_; (refine (trace_Write.calls k 1 1 0 _ _ ([] : List Int) _ _ ([] : List Int) _ _ ([] : List Int) false _ _ ([] : List (S56)) t300 t303 _ ?side1 ?side2 ?side3 ?side4 ?side5 ?side6 ?side7 ?side8 A1.out).mono ?_); (case side1 => exact Kd.C_nil _ _); (case side2 => exact Nat.le_refl _); (case side3 => exact Kd.C_nil _ _); (case side4 => exact Nat.le_refl _); (case side5 => exact Kd.C_nil _ _); (case side6 => exact Nat.le_refl _); (case side7 => exact Kd.C_nil _ _); (case side8 => exact Nat.le_refl _); rintro e w9 ⟨v301, rfl, ho0, hb⟩; refine ⟨_, rfl, ?_⟩; have n0_ := Aside0.mk (Kd.R_lower ho0 (below_size (by repeat (first | (with_reducible first | exact HB.out | apply below_alloc | apply pw_below_drewN | apply below_drew1) | exact HB.out)))); have n1_ := Aside0.mk (below_step (by repeat (first | (with_reducible first | exact HB.out | apply below_alloc | apply pw_below_drewN | apply below_drew1) | exact HB.out)) hb); clear HB; have HO302 := n0_; have HB := n1_; clear n0_ n1_; (try clear hb); (try clear hb2); (try clear hk); (try clear hi); (try clear ho0)))
    go_ret
    exact ⟨by first | rfl | (simp [errW_none, errW_some] <;> rfl) | (simp [*, errW_none, errW_some] <;> rfl), by repeat (first | (with_reducible first | exact HB.out | apply below_alloc | apply pw_below_drewN | apply below_drew1) | exact HB.out)⟩


/-! ### citadellaw00_SameInts: function 36 -/
def citadellaw00_SameInts.l0 : Nat → List Int → List Int → Int → Option (Bool)
  | 0, _, _, _ => none
  | k + 1, x0, x1, x5 => if x5 < (x0.length : Int) then (if 0 ≤ x5 then (if x5 < (x1.length : Int) then (if (rd x0 x5) = (rd x1 x5) then (citadellaw00_SameInts.l0 k x0 x1 (wrap64 (x5 + 1))) else (some false)) else (none)) else (none)) else (some true)
def citadellaw00_SameInts.f (k : Nat) (l0 : List Int) (l1 : List Int) : Option (Bool) := if (l0.length : Int) = (l1.length : Int) then (citadellaw00_SameInts.l0 k l0 l1 0) else (some false)
theorem citadellaw00_SameInts.mono_l : ∀ k, (∀ y0 y1 y2, LeO (citadellaw00_SameInts.l0 k y0 y1 y2) (citadellaw00_SameInts.l0 (k + 1) y0 y1 y2))
  | 0 => fun _ _ _ r h => by simp [citadellaw00_SameInts.l0] at h
  | k + 1 => by
    have ih0 := citadellaw00_SameInts.mono_l k
    · intro y0 y1 y2
      unfold citadellaw00_SameInts.l0
      repeat' first
      | (with_reducible exact ih0 _ _ _)
      | (with_reducible exact LeO.refl _)
      | (with_reducible exact LeO.none _)
      | (with_reducible refine LeO.ite ?_ ?_)
      | (with_reducible refine LeO.bind ?_ (fun _ => ?_))
      | exact ih0 _ _ _
      | exact LeO.none _
      | refine LeO.ite ?_ ?_
      | refine LeO.bind ?_ (fun _ => ?_)
theorem citadellaw00_SameInts.mono : ∀ a0 a1 k, LeO (citadellaw00_SameInts.f k a0 a1) (citadellaw00_SameInts.f (k + 1) a0 a1) := by
  intro a0 a1 k
  have ih0 := citadellaw00_SameInts.mono_l k
  unfold citadellaw00_SameInts.f
  repeat' first
      | (with_reducible exact ih0 _ _ _)
      | (with_reducible exact LeO.refl _)
      | (with_reducible exact LeO.none _)
      | (with_reducible refine LeO.ite ?_ ?_)
      | (with_reducible refine LeO.bind ?_ (fun _ => ?_))
      | exact ih0 _ _ _
      | exact LeO.none _
      | refine LeO.ite ?_ ?_
      | refine LeO.bind ?_ (fun _ => ?_)
set_option maxHeartbeats 8000000 in
set_option maxRecDepth 100000 in
theorem citadellaw00_SameInts.calls (k : Nat) (A0 : Option Addr) (c0 : Nat) (l0 : List Int) (A1 : Option Addr) (c1 : Nat) (l1 : List Int) (r : Bool) (w : World) (hr0 : Kd.C (Kd.int .i64) w A0 l0.length l0) (hc0 : l0.length ≤ c0) (hr1 : Kd.C (Kd.int .i64) w A1 l1.length l1) (hc1 : l1.length ≤ c1) (h : citadellaw00_SameInts.f k l0 l1 = some r) :
    Calls Try.prog 36 #[.slice A0 l0.length c0, .slice A1 l1.length c1] w fun e w' => e = .returned (.bool r) ∧ Drawn0 w w' := by
  have HR0 := Aside0.mk hr0
  have HC0 := Aside0.mk hc0
  clear hr0 hc0
  have HR1 := Aside0.mk hr1
  have HC1 := Aside0.mk hc1
  clear hr1 hc1
  have H : (if (l0.length : Int) = (l1.length : Int) then (citadellaw00_SameInts.l0 k l0 l1 0) else (some false)) = some r := h
  clear h
  by_cases c3 : (l0.length : Int) = (l1.length : Int)
  · rw [if_pos c3] at H
    have c3b0 : ((l0.length : Int) == (l1.length : Int)) = true := beq_iff_eq.mpr c3
    have c3b1 : ((l0.length : Int) != (l1.length : Int)) = false := bne_eq_false_iff_eq.mpr c3
    have c3b2 : (l0.length == l1.length) = true := by first | simpa using c3 | (simp at c3 ⊢; omega)
    clear c3
    have H' := Aside0.mk H
    clear H
    go_enter Try.func36, Try.ntmps36
    go_wp2
    repeat (go_quiet (fail); try go_wp2)
    go_loopg [5] k (fun kq v5 w' => ∃ (x5_1 : Int), v5 = .int .i64 x5_1 ∧ Aside0 (citadellaw00_SameInts.l0 kq l0 l1 x5_1 = some r) ∧ Aside0 (kq ≤ k) ∧ Drawn0 w w')
    case atStart => exact ⟨(0), (by first | rfl | (simp; done) | (simp [*]; done)), H', ⟨Nat.le_refl _⟩, by repeat (first | exact Drawn0.refl _ | apply Drawn0.step)⟩
    case round =>
      clear H'
      try clear c1
      try clear p2
      try clear c3
      try clear c3b0
      try clear c3b1
      try clear c3b2
      obtain ⟨x5_1, rfl, HA, HK1, ⟨m1, rfl⟩⟩ := hrel
      cases gk with
      | zero => exact absurd HA.out (by simp [citadellaw00_SameInts.l0])
      | succ k1 =>
        have H := HA.out
        clear HA
        simp only [citadellaw00_SameInts.l0] at H
        by_cases c4 : x5_1 < (l0.length : Int)
        · rw [if_pos c4] at H
          have c4b0 : decide (x5_1 < (l0.length : Int)) = true := decide_eq_true c4
          clear c4
          by_cases c5 : 0 ≤ x5_1
          · rw [if_pos c5] at H
            have c5b0 : decide (0 ≤ x5_1) = true := decide_eq_true c5
            clear c5
            by_cases c6 : x5_1 < (l1.length : Int)
            · rw [if_pos c6] at H
              have c6b0 : decide (x5_1 < (l1.length : Int)) = true := decide_eq_true c6
              clear c6
              by_cases c7 : (rd l0 x5_1) = (rd l1 x5_1)
              · rw [if_pos c7] at H
                have c7b0 : ((rd l0 x5_1) == (rd l1 x5_1)) = true := beq_iff_eq.mpr c7
                have c7b1 : ((rd l0 x5_1) != (rd l1 x5_1)) = false := bne_eq_false_iff_eq.mpr c7
                clear c7
                have H' := Aside0.mk H
                clear H
                have p348 : 0 ≤ (x5_1 : Int) := of_decide_eq_true (by first | (with_reducible assumption) | assumption)
                have q348 : x5_1 < (l0.length : Int) := of_decide_eq_true (by first | (with_reducible assumption) | assumption)
                obtain ⟨ad348, e348, hx348_0⟩ := Kd.at_int HR0.out x5_1 p348 q348
                cases e348
                replace p348 := eq_true p348
                replace q348 := eq_true q348
                have p349 : 0 ≤ (x5_1 : Int) := of_decide_eq_true (by first | (with_reducible assumption) | assumption)
                have q349 : x5_1 < (l1.length : Int) := of_decide_eq_true (by first | (with_reducible assumption) | assumption)
                obtain ⟨ad349, e349, hx349_0⟩ := Kd.at_int HR1.out x5_1 p349 q349
                cases e349
                replace p349 := eq_true p349
                replace q349 := eq_true q349
                go_wp2
                repeat (go_quiet (fail); try go_wp2)
                go_roundg k1
                case measure => have := HK1.out; omega
                case rel => exact ⟨(wrap64 (x5_1 + 1)), (by first | rfl | (simp; done) | (simp [*]; done)), H', ⟨by have := HK1.out; omega⟩, by repeat (first | exact Drawn0.refl _ | apply Drawn0.step)⟩
              · rw [if_neg c7] at H
                have c7b0 : ((rd l0 x5_1) == (rd l1 x5_1)) = false := beq_eq_false_iff_ne.mpr c7
                have c7b1 : ((rd l0 x5_1) != (rd l1 x5_1)) = true := bne_iff_ne.mpr c7
                obtain rfl := Option.some.inj H
                have p348 : 0 ≤ (x5_1 : Int) := of_decide_eq_true (by first | (with_reducible assumption) | assumption)
                have q348 : x5_1 < (l0.length : Int) := of_decide_eq_true (by first | (with_reducible assumption) | assumption)
                obtain ⟨ad348, e348, hx348_0⟩ := Kd.at_int HR0.out x5_1 p348 q348
                cases e348
                replace p348 := eq_true p348
                replace q348 := eq_true q348
                have p349 : 0 ≤ (x5_1 : Int) := of_decide_eq_true (by first | (with_reducible assumption) | assumption)
                have q349 : x5_1 < (l1.length : Int) := of_decide_eq_true (by first | (with_reducible assumption) | assumption)
                obtain ⟨ad349, e349, hx349_0⟩ := Kd.at_int HR1.out x5_1 p349 q349
                cases e349
                replace p349 := eq_true p349
                replace q349 := eq_true q349
                go_wp2
                repeat (go_quiet (fail); try go_wp2)
                go_ret
                exact ⟨by first | rfl | (simp; done) | (simp [*]; done), by repeat (first | exact Drawn0.refl _ | apply Drawn0.step)⟩
            · rw [if_neg c6] at H
              exact absurd H (by simp)
          · rw [if_neg c5] at H
            exact absurd H (by simp)
        · rw [if_neg c4] at H
          have c4b0 : decide (x5_1 < (l0.length : Int)) = false := decide_eq_false c4
          clear c4
          obtain rfl := Option.some.inj H
          go_wp2
          repeat (go_quiet (fail); try go_wp2)
          go_ret
          exact ⟨by first | rfl | (simp; done) | (simp [*]; done), by repeat (first | exact Drawn0.refl _ | apply Drawn0.step)⟩
  · rw [if_neg c3] at H
    have c3b0 : ((l0.length : Int) == (l1.length : Int)) = false := beq_eq_false_iff_ne.mpr c3
    have c3b1 : ((l0.length : Int) != (l1.length : Int)) = true := bne_iff_ne.mpr c3
    have c3b2 : (l0.length == l1.length) = false := by first | simpa using c3 | (simp at c3 ⊢; omega)
    obtain rfl := Option.some.inj H
    go_enter Try.func36, Try.ntmps36
    go_wp2
    repeat (go_quiet (fail); try go_wp2)
    go_ret
    exact ⟨by first | rfl | (simp; done) | (simp [*]; done), by repeat (first | exact Drawn0.refl _ | apply Drawn0.step)⟩

/-! ### citadellaw23_sameConf: function 16 -/
def citadellaw23_sameConf.f (k : Nat) (a0_0 : Int) (a0_1 : Int) (a0_2 : Int) (l0_3 : List Int) (l0_4 : List Int) (l0_5 : List Int) (a0_6 : Bool) (a1_0 : Int) (a1_1 : Int) (a1_2 : Int) (l1_3 : List Int) (l1_4 : List Int) (l1_5 : List Int) (a1_6 : Bool) : Option (Bool) := if a0_0 = a1_0 then (if a0_1 = a1_1 then (if a0_2 = a1_2 then (if (a0_6 == a1_6) = true then ((citadellaw00_SameInts.f k l0_3 l1_3).bind fun t352 => (if t352 = true then ((citadellaw00_SameBytes.f k l0_4 l1_4).bind fun t353 => (if t353 = true then ((citadellaw00_SameBytes.f k l0_5 l1_5).bind fun t354 => (some t354)) else (some false))) else (some false))) else (some false)) else (some false)) else (some false)) else (some false)
theorem citadellaw23_sameConf.mono : ∀ a0 a1 a2 a3 a4 a5 a6 a7 a8 a9 a10 a11 a12 a13 k, LeO (citadellaw23_sameConf.f k a0 a1 a2 a3 a4 a5 a6 a7 a8 a9 a10 a11 a12 a13) (citadellaw23_sameConf.f (k + 1) a0 a1 a2 a3 a4 a5 a6 a7 a8 a9 a10 a11 a12 a13) := by
  intro a0 a1 a2 a3 a4 a5 a6 a7 a8 a9 a10 a11 a12 a13 k
  unfold citadellaw23_sameConf.f
  repeat' first
      | (with_reducible exact citadellaw00_SameBytes.mono _ _ _)
      | (with_reducible exact citadellaw00_SameInts.mono _ _ _)
      | (with_reducible exact LeO.refl _)
      | (with_reducible exact LeO.none _)
      | (with_reducible refine LeO.ite ?_ ?_)
      | (with_reducible refine LeO.bind ?_ (fun _ => ?_))
      | exact citadellaw00_SameBytes.mono _ _ _
      | exact citadellaw00_SameInts.mono _ _ _
      | exact LeO.none _
      | refine LeO.ite ?_ ?_
      | refine LeO.bind ?_ (fun _ => ?_)
set_option maxHeartbeats 8000000 in
set_option maxRecDepth 100000 in
theorem citadellaw23_sameConf.calls (k : Nat) (a0_0 : Int) (a0_1 : Int) (a0_2 : Int) (A0_3 : Option Addr) (c0_3 : Nat) (l0_3 : List Int) (A0_4 : Option Addr) (c0_4 : Nat) (l0_4 : List Int) (A0_5 : Option Addr) (c0_5 : Nat) (l0_5 : List Int) (a0_6 : Bool) (a1_0 : Int) (a1_1 : Int) (a1_2 : Int) (A1_3 : Option Addr) (c1_3 : Nat) (l1_3 : List Int) (A1_4 : Option Addr) (c1_4 : Nat) (l1_4 : List Int) (A1_5 : Option Addr) (c1_5 : Nat) (l1_5 : List Int) (a1_6 : Bool) (r : Bool) (w : World) (hr0_3 : Kd.C (Kd.int .i64) w A0_3 l0_3.length l0_3) (hc0_3 : l0_3.length ≤ c0_3) (hr0_4 : Kd.C (Kd.int .u8) w A0_4 l0_4.length l0_4) (hc0_4 : l0_4.length ≤ c0_4) (hr0_5 : Kd.C (Kd.int .u8) w A0_5 l0_5.length l0_5) (hc0_5 : l0_5.length ≤ c0_5) (hr1_3 : Kd.C (Kd.int .i64) w A1_3 l1_3.length l1_3) (hc1_3 : l1_3.length ≤ c1_3) (hr1_4 : Kd.C (Kd.int .u8) w A1_4 l1_4.length l1_4) (hc1_4 : l1_4.length ≤ c1_4) (hr1_5 : Kd.C (Kd.int .u8) w A1_5 l1_5.length l1_5) (hc1_5 : l1_5.length ≤ c1_5) (h : citadellaw23_sameConf.f k a0_0 a0_1 a0_2 l0_3 l0_4 l0_5 a0_6 a1_0 a1_1 a1_2 l1_3 l1_4 l1_5 a1_6 = some r) :
    Calls Try.prog 16 #[.agg #[.int .i64 a0_0, .int .i64 a0_1, .int .i64 a0_2, .slice A0_3 l0_3.length c0_3, .slice A0_4 l0_4.length c0_4, .slice A0_5 l0_5.length c0_5, .bool a0_6], .agg #[.int .i64 a1_0, .int .i64 a1_1, .int .i64 a1_2, .slice A1_3 l1_3.length c1_3, .slice A1_4 l1_4.length c1_4, .slice A1_5 l1_5.length c1_5, .bool a1_6]] w fun e w' => e = .returned (.bool r) ∧ Below w.heap.size w w' := by
  have hu25 := Try.underlying25
  have HR0_3 := Aside0.mk hr0_3
  have HC0_3 := Aside0.mk hc0_3
  clear hr0_3 hc0_3
  have HR0_4 := Aside0.mk hr0_4
  have HC0_4 := Aside0.mk hc0_4
  clear hr0_4 hc0_4
  have HR0_5 := Aside0.mk hr0_5
  have HC0_5 := Aside0.mk hc0_5
  clear hr0_5 hc0_5
  have HR1_3 := Aside0.mk hr1_3
  have HC1_3 := Aside0.mk hc1_3
  clear hr1_3 hc1_3
  have HR1_4 := Aside0.mk hr1_4
  have HC1_4 := Aside0.mk hc1_4
  clear hr1_4 hc1_4
  have HR1_5 := Aside0.mk hr1_5
  have HC1_5 := Aside0.mk hc1_5
  clear hr1_5 hc1_5
  have HB := Aside0.mk (Below.refl w.heap.size w)
  have H : (if a0_0 = a1_0 then (if a0_1 = a1_1 then (if a0_2 = a1_2 then (if (a0_6 == a1_6) = true then ((citadellaw00_SameInts.f k l0_3 l1_3).bind fun t352 => (if t352 = true then ((citadellaw00_SameBytes.f k l0_4 l1_4).bind fun t353 => (if t353 = true then ((citadellaw00_SameBytes.f k l0_5 l1_5).bind fun t354 => (some t354)) else (some false))) else (some false))) else (some false)) else (some false)) else (some false)) else (some false)) = some r := h
  clear h
  by_cases c3 : a0_0 = a1_0
  · rw [if_pos c3] at H
    have c3b0 : (a0_0 == a1_0) = true := beq_iff_eq.mpr c3
    have c3b1 : (a0_0 != a1_0) = false := bne_eq_false_iff_eq.mpr c3
    clear c3
    by_cases c4 : a0_1 = a1_1
    · rw [if_pos c4] at H
      have c4b0 : (a0_1 == a1_1) = true := beq_iff_eq.mpr c4
      have c4b1 : (a0_1 != a1_1) = false := bne_eq_false_iff_eq.mpr c4
      clear c4
      by_cases c5 : a0_2 = a1_2
      · rw [if_pos c5] at H
        have c5b0 : (a0_2 == a1_2) = true := beq_iff_eq.mpr c5
        have c5b1 : (a0_2 != a1_2) = false := bne_eq_false_iff_eq.mpr c5
        clear c5
        by_cases c6 : (a0_6 == a1_6) = true
        · rw [if_pos c6] at H
          have c6b0 : (a0_6 == a1_6) = true := c6
          (try (have c6b1 : decide (a0_6 = a1_6) = true := by simpa using c6))
          (try (have c6b2 : (a0_6 == a1_6) = true := by simpa using c6))
          clear c6
          replace H := Option.bind_eq_some_iff.mp H
          obtain ⟨t352, A70, H⟩ := H
          replace H : (if t352 = true then ((citadellaw00_SameBytes.f k l0_4 l1_4).bind fun t353 => (if t353 = true then ((citadellaw00_SameBytes.f k l0_5 l1_5).bind fun t354 => (some t354)) else (some false))) else (some false)) = some r := H
          have A7 := Aside0.mk A70
          clear A70
          by_cases c8 : t352 = true
          · subst c8
            have H1 : ((citadellaw00_SameBytes.f k l0_4 l1_4).bind fun t353 => (if t353 = true then ((citadellaw00_SameBytes.f k l0_5 l1_5).bind fun t354 => (some t354)) else (some false))) = some r := by rw [if_pos rfl] at H; exact H
            clear H
            have H := H1
            clear H1
            replace H := Option.bind_eq_some_iff.mp H
            obtain ⟨t353, A90, H⟩ := H
            replace H : (if t353 = true then ((citadellaw00_SameBytes.f k l0_5 l1_5).bind fun t354 => (some t354)) else (some false)) = some r := H
            have A9 := Aside0.mk A90
            clear A90
            by_cases c10 : t353 = true
            · subst c10
              have H1 : ((citadellaw00_SameBytes.f k l0_5 l1_5).bind fun t354 => (some t354)) = some r := by rw [if_pos rfl] at H; exact H
              clear H
              have H := H1
              clear H1
              replace H := Option.bind_eq_some_iff.mp H
              obtain ⟨t354, A110, H⟩ := H
              replace H : (some t354) = some r := H
              have A11 := Aside0.mk A110
              clear A110
              obtain rfl := Option.some.inj H
              go_enter Try.func16, Try.ntmps16
              go_wp2_with (first | ((with_reducible refine gate_dst (N := 2) rfl ?_); refine box_event ?hg (N := 2) ?hd (cs := #[.int .i64 a0_0, .int .i64 a0_1, .int .i64 a0_2, .slice A0_3 l0_3.length c0_3, .slice A0_4 l0_4.length c0_4, .slice A0_5 l0_5.length c0_5, .bool a0_6]) (t := 25) ?hr ?_; (case hd => rfl); (case hg => rfl); (case hr => first | (go_simp; done) | (go_simp; rfl)); intro gb350 hg w12 hbox hb; have n0_ := Aside0.mk (below_step (by repeat (first | (with_reducible first | exact HB.out | apply below_alloc | apply pw_below_drewN | apply below_drew1) | exact HB.out)) hb); have n1_ := Aside0.mk (hbox); have n2_ := Aside0.mk ((by rw [hg]; exact (below_size (by repeat (first | (with_reducible first | exact HB.out | apply below_alloc | apply pw_below_drewN | apply below_drew1) | exact HB.out))) : w.heap.size ≤ gb350)); have n3_ := Aside0.mk ((by rw [hg]; exact (below_size (by repeat (first | (with_reducible first | exact HB.out | apply below_alloc | apply pw_below_drewN | apply below_drew1) | exact HB.out))) : w.heap.size ≤ gb350)); clear HB; have HB := n0_; have BK350 := n1_; have GW350 := n2_; have GE350 := n3_; clear n0_ n1_ n2_ n3_; clear hb hbox hg) | ((with_reducible refine gate_dst (N := 3) rfl ?_); refine box_event ?hg (N := 3) ?hd (cs := #[.int .i64 a1_0, .int .i64 a1_1, .int .i64 a1_2, .slice A1_3 l1_3.length c1_3, .slice A1_4 l1_4.length c1_4, .slice A1_5 l1_5.length c1_5, .bool a1_6]) (t := 25) ?hr ?_; (case hd => rfl); (case hg => rfl); (case hr => first | (go_simp; done) | (go_simp; rfl)); intro gb351 hg w13 hbox hb; have n0_ := Aside0.mk (blk_below (g := gb350) (o := .cells #[.int .i64 a0_0, .int .i64 a0_1, .int .i64 a0_2, .slice A0_3 l0_3.length c0_3, .slice A0_4 l0_4.length c0_4, .slice A0_5 l0_5.length c0_5, .bool a0_6] 25 (0, 0)) (by (with_reducible repeat (first | refine blk_drewN ?_ _ | refine blk_drew ?_ | refine blk_alloc ?_ _)); exact BK350.out) hb); have n1_ := Aside0.mk (below_step (by repeat (first | (with_reducible first | exact HB.out | apply below_alloc | apply pw_below_drewN | apply below_drew1 | refine below_set ?_ GE350.out) | exact HB.out)) hb); have n2_ := Aside0.mk (hbox); have n3_ := Aside0.mk ((by rw [hg]; exact (below_size (by repeat (first | (with_reducible first | exact HB.out | apply below_alloc | apply pw_below_drewN | apply below_drew1 | refine below_set ?_ GE350.out) | exact HB.out))) : w.heap.size ≤ gb351)); have n4_ := Aside0.mk ((by rw [hg]; exact (below_size (by repeat (first | (with_reducible first | exact HB.out | apply below_alloc | apply pw_below_drewN | apply below_drew1 | refine below_set ?_ GE350.out) | exact HB.out))) : w.heap.size ≤ gb351)); have n5_ := Aside0.mk ((by rw [hg]; exact Nat.ne_of_lt (blk_lt (g := gb350) (o := .cells #[.int .i64 a0_0, .int .i64 a0_1, .int .i64 a0_2, .slice A0_3 l0_3.length c0_3, .slice A0_4 l0_4.length c0_4, .slice A0_5 l0_5.length c0_5, .bool a0_6] 25 (0, 0)) (by (with_reducible repeat (first | refine blk_drewN ?_ _ | refine blk_drew ?_ | refine blk_alloc ?_ _)); exact BK350.out)) : gb350 ≠ gb351)); have n6_ := Aside0.mk ((by rw [hg]; exact Nat.ne_of_gt (blk_lt (g := gb350) (o := .cells #[.int .i64 a0_0, .int .i64 a0_1, .int .i64 a0_2, .slice A0_3 l0_3.length c0_3, .slice A0_4 l0_4.length c0_4, .slice A0_5 l0_5.length c0_5, .bool a0_6] 25 (0, 0)) (by (with_reducible repeat (first | refine blk_drewN ?_ _ | refine blk_drew ?_ | refine blk_alloc ?_ _)); exact BK350.out)) : gb351 ≠ gb350)); clear BK350; clear HB; have BK350 := n0_; have HB := n1_; have BK351 := n2_; have GW351 := n3_; have GE351 := n4_; have NB350_351 := n5_; have NB351_350 := n6_; clear n0_ n1_ n2_ n3_ n4_ n5_ n6_; clear hb hbox hg; have hnb14 := NB350_351.out; have hnc14 := NB351_350.out; have hcz15_0 : w13.cell? ⟨gb350, 0, none⟩ = some (.int .i64 a0_0) := (blk_cell BK350.out 0).trans rfl; have hcz15_1 : w13.cell? ⟨gb350, 1, none⟩ = some (.int .i64 a0_1) := (blk_cell BK350.out 1).trans rfl; have hcz15_2 : w13.cell? ⟨gb350, 2, none⟩ = some (.int .i64 a0_2) := (blk_cell BK350.out 2).trans rfl; have hcz15_3 : w13.cell? ⟨gb350, 3, none⟩ = some (.slice A0_3 l0_3.length c0_3) := (blk_cell BK350.out 3).trans rfl; have hcz15_4 : w13.cell? ⟨gb350, 4, none⟩ = some (.slice A0_4 l0_4.length c0_4) := (blk_cell BK350.out 4).trans rfl; have hcz15_5 : w13.cell? ⟨gb350, 5, none⟩ = some (.slice A0_5 l0_5.length c0_5) := (blk_cell BK350.out 5).trans rfl; have hcz15_6 : w13.cell? ⟨gb350, 6, none⟩ = some (.bool a0_6) := (blk_cell BK350.out 6).trans rfl; have hfz15_0 := blk_frozen BK350.out 0; have hfz15_1 := blk_frozen BK350.out 1; have hfz15_2 := blk_frozen BK350.out 2; have hfz15_3 := blk_frozen BK350.out 3; have hfz15_4 := blk_frozen BK350.out 4; have hfz15_5 := blk_frozen BK350.out 5; have hfz15_6 := blk_frozen BK350.out 6; have hcz16_0 : w13.cell? ⟨gb351, 0, none⟩ = some (.int .i64 a1_0) := (blk_cell BK351.out 0).trans rfl; have hcz16_1 : w13.cell? ⟨gb351, 1, none⟩ = some (.int .i64 a1_1) := (blk_cell BK351.out 1).trans rfl; have hcz16_2 : w13.cell? ⟨gb351, 2, none⟩ = some (.int .i64 a1_2) := (blk_cell BK351.out 2).trans rfl; have hcz16_3 : w13.cell? ⟨gb351, 3, none⟩ = some (.slice A1_3 l1_3.length c1_3) := (blk_cell BK351.out 3).trans rfl; have hcz16_4 : w13.cell? ⟨gb351, 4, none⟩ = some (.slice A1_4 l1_4.length c1_4) := (blk_cell BK351.out 4).trans rfl; have hcz16_5 : w13.cell? ⟨gb351, 5, none⟩ = some (.slice A1_5 l1_5.length c1_5) := (blk_cell BK351.out 5).trans rfl; have hcz16_6 : w13.cell? ⟨gb351, 6, none⟩ = some (.bool a1_6) := (blk_cell BK351.out 6).trans rfl; have hfz16_0 := blk_frozen BK351.out 0; have hfz16_1 := blk_frozen BK351.out 1; have hfz16_2 := blk_frozen BK351.out 2; have hfz16_3 := blk_frozen BK351.out 3; have hfz16_4 := blk_frozen BK351.out 4; have hfz16_5 := blk_frozen BK351.out 5; have hfz16_6 := blk_frozen BK351.out 6) | (go_at_call 36; (with_reducible refine (citadellaw00_SameInts.calls k _ _ l0_3 _ _ l1_3 true _ ?side1 ?side2 ?side3 ?side4 A7.out).mono ?_); (case side1 => repeat (first | exact (Kd.C_below HR0_3.out HB.out) | (with_reducible refine Kd.C_alloc ?_ _) | (with_reducible refine Kd.C_drewN ?_ _) | (with_reducible refine Kd.C_drew ?_))); (case side2 => exact HC0_3.out); (case side3 => repeat (first | exact (Kd.C_below HR1_3.out HB.out) | (with_reducible refine Kd.C_alloc ?_ _) | (with_reducible refine Kd.C_drewN ?_ _) | (with_reducible refine Kd.C_drew ?_))); (case side4 => exact HC1_3.out); rintro e w' ⟨rfl, ⟨nd, rfl⟩⟩) | (go_at_call 11; (with_reducible refine (citadellaw00_SameBytes.calls k _ _ l0_4 _ _ l1_4 true _ ?side1 ?side2 ?side3 ?side4 A9.out).mono ?_); (case side1 => repeat (first | exact (Kd.C_below HR0_4.out (by repeat (first | (with_reducible first | exact HB.out | apply below_alloc | apply pw_below_drewN | apply below_drew1 | refine below_set ?_ GE350.out | refine below_set ?_ GE351.out) | exact HB.out))) | (with_reducible refine Kd.C_alloc ?_ _) | (with_reducible refine Kd.C_drewN ?_ _) | (with_reducible refine Kd.C_drew ?_))); (case side2 => exact HC0_4.out); (case side3 => repeat (first | exact (Kd.C_below HR1_4.out (by repeat (first | (with_reducible first | exact HB.out | apply below_alloc | apply pw_below_drewN | apply below_drew1 | refine below_set ?_ GE350.out | refine below_set ?_ GE351.out) | exact HB.out))) | (with_reducible refine Kd.C_alloc ?_ _) | (with_reducible refine Kd.C_drewN ?_ _) | (with_reducible refine Kd.C_drew ?_))); (case side4 => exact HC1_4.out); rintro e w' ⟨rfl, ⟨nd, rfl⟩⟩) | (go_at_call 11; (with_reducible refine (citadellaw00_SameBytes.calls k _ _ l0_5 _ _ l1_5 t354 _ ?side1 ?side2 ?side3 ?side4 A11.out).mono ?_); (case side1 => repeat (first | exact (Kd.C_below HR0_5.out (by repeat (first | (with_reducible first | exact HB.out | apply below_alloc | apply pw_below_drewN | apply below_drew1 | refine below_set ?_ GE350.out | refine below_set ?_ GE351.out) | exact HB.out))) | (with_reducible refine Kd.C_alloc ?_ _) | (with_reducible refine Kd.C_drewN ?_ _) | (with_reducible refine Kd.C_drew ?_))); (case side2 => exact HC0_5.out); (case side3 => repeat (first | exact (Kd.C_below HR1_5.out (by repeat (first | (with_reducible first | exact HB.out | apply below_alloc | apply pw_below_drewN | apply below_drew1 | refine below_set ?_ GE350.out | refine below_set ?_ GE351.out) | exact HB.out))) | (with_reducible refine Kd.C_alloc ?_ _) | (with_reducible refine Kd.C_drewN ?_ _) | (with_reducible refine Kd.C_drew ?_))); (case side4 => exact HC1_5.out); rintro e w' ⟨rfl, ⟨nd, rfl⟩⟩))
              go_ret
              exact ⟨by first | rfl | (simp [errW_none, errW_some] <;> rfl) | (simp [*, errW_none, errW_some] <;> rfl), by repeat (first | (with_reducible first | exact HB.out | apply below_alloc | apply pw_below_drewN | apply below_drew1 | refine below_set ?_ GE350.out | refine below_set ?_ GE351.out) | exact HB.out)⟩
            · replace c10 := Bool.eq_false_iff.mpr c10
              subst c10
              have H1 : (some false) = some r := by rw [if_neg (show ¬ (false = true) by decide)] at H; exact H
              clear H
              have H := H1
              clear H1
              obtain rfl := Option.some.inj H
              go_enter Try.func16, Try.ntmps16
              go_wp2_with (first | ((with_reducible refine gate_dst (N := 2) rfl ?_); refine box_event ?hg (N := 2) ?hd (cs := #[.int .i64 a0_0, .int .i64 a0_1, .int .i64 a0_2, .slice A0_3 l0_3.length c0_3, .slice A0_4 l0_4.length c0_4, .slice A0_5 l0_5.length c0_5, .bool a0_6]) (t := 25) ?hr ?_; (case hd => rfl); (case hg => rfl); (case hr => first | (go_simp; done) | (go_simp; rfl)); intro gb350 hg w17 hbox hb; have n0_ := Aside0.mk (below_step (by repeat (first | (with_reducible first | exact HB.out | apply below_alloc | apply pw_below_drewN | apply below_drew1) | exact HB.out)) hb); have n1_ := Aside0.mk (hbox); have n2_ := Aside0.mk ((by rw [hg]; exact (below_size (by repeat (first | (with_reducible first | exact HB.out | apply below_alloc | apply pw_below_drewN | apply below_drew1) | exact HB.out))) : w.heap.size ≤ gb350)); have n3_ := Aside0.mk ((by rw [hg]; exact (below_size (by repeat (first | (with_reducible first | exact HB.out | apply below_alloc | apply pw_below_drewN | apply below_drew1) | exact HB.out))) : w.heap.size ≤ gb350)); clear HB; have HB := n0_; have BK350 := n1_; have GW350 := n2_; have GE350 := n3_; clear n0_ n1_ n2_ n3_; clear hb hbox hg) | ((with_reducible refine gate_dst (N := 3) rfl ?_); refine box_event ?hg (N := 3) ?hd (cs := #[.int .i64 a1_0, .int .i64 a1_1, .int .i64 a1_2, .slice A1_3 l1_3.length c1_3, .slice A1_4 l1_4.length c1_4, .slice A1_5 l1_5.length c1_5, .bool a1_6]) (t := 25) ?hr ?_; (case hd => rfl); (case hg => rfl); (case hr => first | (go_simp; done) | (go_simp; rfl)); intro gb351 hg w18 hbox hb; have n0_ := Aside0.mk (blk_below (g := gb350) (o := .cells #[.int .i64 a0_0, .int .i64 a0_1, .int .i64 a0_2, .slice A0_3 l0_3.length c0_3, .slice A0_4 l0_4.length c0_4, .slice A0_5 l0_5.length c0_5, .bool a0_6] 25 (0, 0)) (by (with_reducible repeat (first | refine blk_drewN ?_ _ | refine blk_drew ?_ | refine blk_alloc ?_ _)); exact BK350.out) hb); have n1_ := Aside0.mk (below_step (by repeat (first | (with_reducible first | exact HB.out | apply below_alloc | apply pw_below_drewN | apply below_drew1 | refine below_set ?_ GE350.out) | exact HB.out)) hb); have n2_ := Aside0.mk (hbox); have n3_ := Aside0.mk ((by rw [hg]; exact (below_size (by repeat (first | (with_reducible first | exact HB.out | apply below_alloc | apply pw_below_drewN | apply below_drew1 | refine below_set ?_ GE350.out) | exact HB.out))) : w.heap.size ≤ gb351)); have n4_ := Aside0.mk ((by rw [hg]; exact (below_size (by repeat (first | (with_reducible first | exact HB.out | apply below_alloc | apply pw_below_drewN | apply below_drew1 | refine below_set ?_ GE350.out) | exact HB.out))) : w.heap.size ≤ gb351)); have n5_ := Aside0.mk ((by rw [hg]; exact Nat.ne_of_lt (blk_lt (g := gb350) (o := .cells #[.int .i64 a0_0, .int .i64 a0_1, .int .i64 a0_2, .slice A0_3 l0_3.length c0_3, .slice A0_4 l0_4.length c0_4, .slice A0_5 l0_5.length c0_5, .bool a0_6] 25 (0, 0)) (by (with_reducible repeat (first | refine blk_drewN ?_ _ | refine blk_drew ?_ | refine blk_alloc ?_ _)); exact BK350.out)) : gb350 ≠ gb351)); have n6_ := Aside0.mk ((by rw [hg]; exact Nat.ne_of_gt (blk_lt (g := gb350) (o := .cells #[.int .i64 a0_0, .int .i64 a0_1, .int .i64 a0_2, .slice A0_3 l0_3.length c0_3, .slice A0_4 l0_4.length c0_4, .slice A0_5 l0_5.length c0_5, .bool a0_6] 25 (0, 0)) (by (with_reducible repeat (first | refine blk_drewN ?_ _ | refine blk_drew ?_ | refine blk_alloc ?_ _)); exact BK350.out)) : gb351 ≠ gb350)); clear BK350; clear HB; have BK350 := n0_; have HB := n1_; have BK351 := n2_; have GW351 := n3_; have GE351 := n4_; have NB350_351 := n5_; have NB351_350 := n6_; clear n0_ n1_ n2_ n3_ n4_ n5_ n6_; clear hb hbox hg; have hnb19 := NB350_351.out; have hnc19 := NB351_350.out; have hcz20_0 : w18.cell? ⟨gb350, 0, none⟩ = some (.int .i64 a0_0) := (blk_cell BK350.out 0).trans rfl; have hcz20_1 : w18.cell? ⟨gb350, 1, none⟩ = some (.int .i64 a0_1) := (blk_cell BK350.out 1).trans rfl; have hcz20_2 : w18.cell? ⟨gb350, 2, none⟩ = some (.int .i64 a0_2) := (blk_cell BK350.out 2).trans rfl; have hcz20_3 : w18.cell? ⟨gb350, 3, none⟩ = some (.slice A0_3 l0_3.length c0_3) := (blk_cell BK350.out 3).trans rfl; have hcz20_4 : w18.cell? ⟨gb350, 4, none⟩ = some (.slice A0_4 l0_4.length c0_4) := (blk_cell BK350.out 4).trans rfl; have hcz20_5 : w18.cell? ⟨gb350, 5, none⟩ = some (.slice A0_5 l0_5.length c0_5) := (blk_cell BK350.out 5).trans rfl; have hcz20_6 : w18.cell? ⟨gb350, 6, none⟩ = some (.bool a0_6) := (blk_cell BK350.out 6).trans rfl; have hfz20_0 := blk_frozen BK350.out 0; have hfz20_1 := blk_frozen BK350.out 1; have hfz20_2 := blk_frozen BK350.out 2; have hfz20_3 := blk_frozen BK350.out 3; have hfz20_4 := blk_frozen BK350.out 4; have hfz20_5 := blk_frozen BK350.out 5; have hfz20_6 := blk_frozen BK350.out 6; have hcz21_0 : w18.cell? ⟨gb351, 0, none⟩ = some (.int .i64 a1_0) := (blk_cell BK351.out 0).trans rfl; have hcz21_1 : w18.cell? ⟨gb351, 1, none⟩ = some (.int .i64 a1_1) := (blk_cell BK351.out 1).trans rfl; have hcz21_2 : w18.cell? ⟨gb351, 2, none⟩ = some (.int .i64 a1_2) := (blk_cell BK351.out 2).trans rfl; have hcz21_3 : w18.cell? ⟨gb351, 3, none⟩ = some (.slice A1_3 l1_3.length c1_3) := (blk_cell BK351.out 3).trans rfl; have hcz21_4 : w18.cell? ⟨gb351, 4, none⟩ = some (.slice A1_4 l1_4.length c1_4) := (blk_cell BK351.out 4).trans rfl; have hcz21_5 : w18.cell? ⟨gb351, 5, none⟩ = some (.slice A1_5 l1_5.length c1_5) := (blk_cell BK351.out 5).trans rfl; have hcz21_6 : w18.cell? ⟨gb351, 6, none⟩ = some (.bool a1_6) := (blk_cell BK351.out 6).trans rfl; have hfz21_0 := blk_frozen BK351.out 0; have hfz21_1 := blk_frozen BK351.out 1; have hfz21_2 := blk_frozen BK351.out 2; have hfz21_3 := blk_frozen BK351.out 3; have hfz21_4 := blk_frozen BK351.out 4; have hfz21_5 := blk_frozen BK351.out 5; have hfz21_6 := blk_frozen BK351.out 6) | (go_at_call 36; (with_reducible refine (citadellaw00_SameInts.calls k _ _ l0_3 _ _ l1_3 true _ ?side1 ?side2 ?side3 ?side4 A7.out).mono ?_); (case side1 => repeat (first | exact (Kd.C_below HR0_3.out HB.out) | (with_reducible refine Kd.C_alloc ?_ _) | (with_reducible refine Kd.C_drewN ?_ _) | (with_reducible refine Kd.C_drew ?_))); (case side2 => exact HC0_3.out); (case side3 => repeat (first | exact (Kd.C_below HR1_3.out HB.out) | (with_reducible refine Kd.C_alloc ?_ _) | (with_reducible refine Kd.C_drewN ?_ _) | (with_reducible refine Kd.C_drew ?_))); (case side4 => exact HC1_3.out); rintro e w' ⟨rfl, ⟨nd, rfl⟩⟩) | (go_at_call 11; (with_reducible refine (citadellaw00_SameBytes.calls k _ _ l0_4 _ _ l1_4 false _ ?side1 ?side2 ?side3 ?side4 A9.out).mono ?_); (case side1 => repeat (first | exact (Kd.C_below HR0_4.out (by repeat (first | (with_reducible first | exact HB.out | apply below_alloc | apply pw_below_drewN | apply below_drew1 | refine below_set ?_ GE350.out | refine below_set ?_ GE351.out) | exact HB.out))) | (with_reducible refine Kd.C_alloc ?_ _) | (with_reducible refine Kd.C_drewN ?_ _) | (with_reducible refine Kd.C_drew ?_))); (case side2 => exact HC0_4.out); (case side3 => repeat (first | exact (Kd.C_below HR1_4.out (by repeat (first | (with_reducible first | exact HB.out | apply below_alloc | apply pw_below_drewN | apply below_drew1 | refine below_set ?_ GE350.out | refine below_set ?_ GE351.out) | exact HB.out))) | (with_reducible refine Kd.C_alloc ?_ _) | (with_reducible refine Kd.C_drewN ?_ _) | (with_reducible refine Kd.C_drew ?_))); (case side4 => exact HC1_4.out); rintro e w' ⟨rfl, ⟨nd, rfl⟩⟩))
              go_ret
              exact ⟨by first | rfl | (simp [errW_none, errW_some] <;> rfl) | (simp [*, errW_none, errW_some] <;> rfl), by repeat (first | (with_reducible first | exact HB.out | apply below_alloc | apply pw_below_drewN | apply below_drew1 | refine below_set ?_ GE350.out | refine below_set ?_ GE351.out) | exact HB.out)⟩
          · replace c8 := Bool.eq_false_iff.mpr c8
            subst c8
            have H1 : (some false) = some r := by rw [if_neg (show ¬ (false = true) by decide)] at H; exact H
            clear H
            have H := H1
            clear H1
            obtain rfl := Option.some.inj H
            go_enter Try.func16, Try.ntmps16
            go_wp2_with (first | ((with_reducible refine gate_dst (N := 2) rfl ?_); refine box_event ?hg (N := 2) ?hd (cs := #[.int .i64 a0_0, .int .i64 a0_1, .int .i64 a0_2, .slice A0_3 l0_3.length c0_3, .slice A0_4 l0_4.length c0_4, .slice A0_5 l0_5.length c0_5, .bool a0_6]) (t := 25) ?hr ?_; (case hd => rfl); (case hg => rfl); (case hr => first | (go_simp; done) | (go_simp; rfl)); intro gb350 hg w22 hbox hb; have n0_ := Aside0.mk (below_step (by repeat (first | (with_reducible first | exact HB.out | apply below_alloc | apply pw_below_drewN | apply below_drew1) | exact HB.out)) hb); have n1_ := Aside0.mk (hbox); have n2_ := Aside0.mk ((by rw [hg]; exact (below_size (by repeat (first | (with_reducible first | exact HB.out | apply below_alloc | apply pw_below_drewN | apply below_drew1) | exact HB.out))) : w.heap.size ≤ gb350)); have n3_ := Aside0.mk ((by rw [hg]; exact (below_size (by repeat (first | (with_reducible first | exact HB.out | apply below_alloc | apply pw_below_drewN | apply below_drew1) | exact HB.out))) : w.heap.size ≤ gb350)); clear HB; have HB := n0_; have BK350 := n1_; have GW350 := n2_; have GE350 := n3_; clear n0_ n1_ n2_ n3_; clear hb hbox hg) | ((with_reducible refine gate_dst (N := 3) rfl ?_); refine box_event ?hg (N := 3) ?hd (cs := #[.int .i64 a1_0, .int .i64 a1_1, .int .i64 a1_2, .slice A1_3 l1_3.length c1_3, .slice A1_4 l1_4.length c1_4, .slice A1_5 l1_5.length c1_5, .bool a1_6]) (t := 25) ?hr ?_; (case hd => rfl); (case hg => rfl); (case hr => first | (go_simp; done) | (go_simp; rfl)); intro gb351 hg w23 hbox hb; have n0_ := Aside0.mk (blk_below (g := gb350) (o := .cells #[.int .i64 a0_0, .int .i64 a0_1, .int .i64 a0_2, .slice A0_3 l0_3.length c0_3, .slice A0_4 l0_4.length c0_4, .slice A0_5 l0_5.length c0_5, .bool a0_6] 25 (0, 0)) (by (with_reducible repeat (first | refine blk_drewN ?_ _ | refine blk_drew ?_ | refine blk_alloc ?_ _)); exact BK350.out) hb); have n1_ := Aside0.mk (below_step (by repeat (first | (with_reducible first | exact HB.out | apply below_alloc | apply pw_below_drewN | apply below_drew1 | refine below_set ?_ GE350.out) | exact HB.out)) hb); have n2_ := Aside0.mk (hbox); have n3_ := Aside0.mk ((by rw [hg]; exact (below_size (by repeat (first | (with_reducible first | exact HB.out | apply below_alloc | apply pw_below_drewN | apply below_drew1 | refine below_set ?_ GE350.out) | exact HB.out))) : w.heap.size ≤ gb351)); have n4_ := Aside0.mk ((by rw [hg]; exact (below_size (by repeat (first | (with_reducible first | exact HB.out | apply below_alloc | apply pw_below_drewN | apply below_drew1 | refine below_set ?_ GE350.out) | exact HB.out))) : w.heap.size ≤ gb351)); have n5_ := Aside0.mk ((by rw [hg]; exact Nat.ne_of_lt (blk_lt (g := gb350) (o := .cells #[.int .i64 a0_0, .int .i64 a0_1, .int .i64 a0_2, .slice A0_3 l0_3.length c0_3, .slice A0_4 l0_4.length c0_4, .slice A0_5 l0_5.length c0_5, .bool a0_6] 25 (0, 0)) (by (with_reducible repeat (first | refine blk_drewN ?_ _ | refine blk_drew ?_ | refine blk_alloc ?_ _)); exact BK350.out)) : gb350 ≠ gb351)); have n6_ := Aside0.mk ((by rw [hg]; exact Nat.ne_of_gt (blk_lt (g := gb350) (o := .cells #[.int .i64 a0_0, .int .i64 a0_1, .int .i64 a0_2, .slice A0_3 l0_3.length c0_3, .slice A0_4 l0_4.length c0_4, .slice A0_5 l0_5.length c0_5, .bool a0_6] 25 (0, 0)) (by (with_reducible repeat (first | refine blk_drewN ?_ _ | refine blk_drew ?_ | refine blk_alloc ?_ _)); exact BK350.out)) : gb351 ≠ gb350)); clear BK350; clear HB; have BK350 := n0_; have HB := n1_; have BK351 := n2_; have GW351 := n3_; have GE351 := n4_; have NB350_351 := n5_; have NB351_350 := n6_; clear n0_ n1_ n2_ n3_ n4_ n5_ n6_; clear hb hbox hg; have hnb24 := NB350_351.out; have hnc24 := NB351_350.out; have hcz25_0 : w23.cell? ⟨gb350, 0, none⟩ = some (.int .i64 a0_0) := (blk_cell BK350.out 0).trans rfl; have hcz25_1 : w23.cell? ⟨gb350, 1, none⟩ = some (.int .i64 a0_1) := (blk_cell BK350.out 1).trans rfl; have hcz25_2 : w23.cell? ⟨gb350, 2, none⟩ = some (.int .i64 a0_2) := (blk_cell BK350.out 2).trans rfl; have hcz25_3 : w23.cell? ⟨gb350, 3, none⟩ = some (.slice A0_3 l0_3.length c0_3) := (blk_cell BK350.out 3).trans rfl; have hcz25_4 : w23.cell? ⟨gb350, 4, none⟩ = some (.slice A0_4 l0_4.length c0_4) := (blk_cell BK350.out 4).trans rfl; have hcz25_5 : w23.cell? ⟨gb350, 5, none⟩ = some (.slice A0_5 l0_5.length c0_5) := (blk_cell BK350.out 5).trans rfl; have hcz25_6 : w23.cell? ⟨gb350, 6, none⟩ = some (.bool a0_6) := (blk_cell BK350.out 6).trans rfl; have hfz25_0 := blk_frozen BK350.out 0; have hfz25_1 := blk_frozen BK350.out 1; have hfz25_2 := blk_frozen BK350.out 2; have hfz25_3 := blk_frozen BK350.out 3; have hfz25_4 := blk_frozen BK350.out 4; have hfz25_5 := blk_frozen BK350.out 5; have hfz25_6 := blk_frozen BK350.out 6; have hcz26_0 : w23.cell? ⟨gb351, 0, none⟩ = some (.int .i64 a1_0) := (blk_cell BK351.out 0).trans rfl; have hcz26_1 : w23.cell? ⟨gb351, 1, none⟩ = some (.int .i64 a1_1) := (blk_cell BK351.out 1).trans rfl; have hcz26_2 : w23.cell? ⟨gb351, 2, none⟩ = some (.int .i64 a1_2) := (blk_cell BK351.out 2).trans rfl; have hcz26_3 : w23.cell? ⟨gb351, 3, none⟩ = some (.slice A1_3 l1_3.length c1_3) := (blk_cell BK351.out 3).trans rfl; have hcz26_4 : w23.cell? ⟨gb351, 4, none⟩ = some (.slice A1_4 l1_4.length c1_4) := (blk_cell BK351.out 4).trans rfl; have hcz26_5 : w23.cell? ⟨gb351, 5, none⟩ = some (.slice A1_5 l1_5.length c1_5) := (blk_cell BK351.out 5).trans rfl; have hcz26_6 : w23.cell? ⟨gb351, 6, none⟩ = some (.bool a1_6) := (blk_cell BK351.out 6).trans rfl; have hfz26_0 := blk_frozen BK351.out 0; have hfz26_1 := blk_frozen BK351.out 1; have hfz26_2 := blk_frozen BK351.out 2; have hfz26_3 := blk_frozen BK351.out 3; have hfz26_4 := blk_frozen BK351.out 4; have hfz26_5 := blk_frozen BK351.out 5; have hfz26_6 := blk_frozen BK351.out 6) | (go_at_call 36; (with_reducible refine (citadellaw00_SameInts.calls k _ _ l0_3 _ _ l1_3 false _ ?side1 ?side2 ?side3 ?side4 A7.out).mono ?_); (case side1 => repeat (first | exact (Kd.C_below HR0_3.out HB.out) | (with_reducible refine Kd.C_alloc ?_ _) | (with_reducible refine Kd.C_drewN ?_ _) | (with_reducible refine Kd.C_drew ?_))); (case side2 => exact HC0_3.out); (case side3 => repeat (first | exact (Kd.C_below HR1_3.out HB.out) | (with_reducible refine Kd.C_alloc ?_ _) | (with_reducible refine Kd.C_drewN ?_ _) | (with_reducible refine Kd.C_drew ?_))); (case side4 => exact HC1_3.out); rintro e w' ⟨rfl, ⟨nd, rfl⟩⟩))
            go_ret
            exact ⟨by first | rfl | (simp [errW_none, errW_some] <;> rfl) | (simp [*, errW_none, errW_some] <;> rfl), by repeat (first | (with_reducible first | exact HB.out | apply below_alloc | apply pw_below_drewN | apply below_drew1 | refine below_set ?_ GE350.out | refine below_set ?_ GE351.out) | exact HB.out)⟩
        · rw [if_neg c6] at H
          have c6b0 : (a0_6 == a1_6) = false := by simpa using c6
          (try (have c6b1 : decide (a0_6 = a1_6) = false := by simpa using c6))
          (try (have c6b2 : (a0_6 == a1_6) = false := by simpa using c6))
          (try (have c6b3 : ¬ (a0_6 = a1_6) := by simpa using c6))
          clear c6
          obtain rfl := Option.some.inj H
          go_enter Try.func16, Try.ntmps16
          go_wp2_with (first | ((with_reducible refine gate_dst (N := 2) rfl ?_); refine box_event ?hg (N := 2) ?hd (cs := #[.int .i64 a0_0, .int .i64 a0_1, .int .i64 a0_2, .slice A0_3 l0_3.length c0_3, .slice A0_4 l0_4.length c0_4, .slice A0_5 l0_5.length c0_5, .bool a0_6]) (t := 25) ?hr ?_; (case hd => rfl); (case hg => rfl); (case hr => first | (go_simp; done) | (go_simp; rfl)); intro gb350 hg w27 hbox hb; have n0_ := Aside0.mk (below_step (by repeat (first | (with_reducible first | exact HB.out | apply below_alloc | apply pw_below_drewN | apply below_drew1) | exact HB.out)) hb); have n1_ := Aside0.mk (hbox); have n2_ := Aside0.mk ((by rw [hg]; exact (below_size (by repeat (first | (with_reducible first | exact HB.out | apply below_alloc | apply pw_below_drewN | apply below_drew1) | exact HB.out))) : w.heap.size ≤ gb350)); have n3_ := Aside0.mk ((by rw [hg]; exact (below_size (by repeat (first | (with_reducible first | exact HB.out | apply below_alloc | apply pw_below_drewN | apply below_drew1) | exact HB.out))) : w.heap.size ≤ gb350)); clear HB; have HB := n0_; have BK350 := n1_; have GW350 := n2_; have GE350 := n3_; clear n0_ n1_ n2_ n3_; clear hb hbox hg) | ((with_reducible refine gate_dst (N := 3) rfl ?_); refine box_event ?hg (N := 3) ?hd (cs := #[.int .i64 a1_0, .int .i64 a1_1, .int .i64 a1_2, .slice A1_3 l1_3.length c1_3, .slice A1_4 l1_4.length c1_4, .slice A1_5 l1_5.length c1_5, .bool a1_6]) (t := 25) ?hr ?_; (case hd => rfl); (case hg => rfl); (case hr => first | (go_simp; done) | (go_simp; rfl)); intro gb351 hg w28 hbox hb; have n0_ := Aside0.mk (blk_below (g := gb350) (o := .cells #[.int .i64 a0_0, .int .i64 a0_1, .int .i64 a0_2, .slice A0_3 l0_3.length c0_3, .slice A0_4 l0_4.length c0_4, .slice A0_5 l0_5.length c0_5, .bool a0_6] 25 (0, 0)) (by (with_reducible repeat (first | refine blk_drewN ?_ _ | refine blk_drew ?_ | refine blk_alloc ?_ _)); exact BK350.out) hb); have n1_ := Aside0.mk (below_step (by repeat (first | (with_reducible first | exact HB.out | apply below_alloc | apply pw_below_drewN | apply below_drew1 | refine below_set ?_ GE350.out) | exact HB.out)) hb); have n2_ := Aside0.mk (hbox); have n3_ := Aside0.mk ((by rw [hg]; exact (below_size (by repeat (first | (with_reducible first | exact HB.out | apply below_alloc | apply pw_below_drewN | apply below_drew1 | refine below_set ?_ GE350.out) | exact HB.out))) : w.heap.size ≤ gb351)); have n4_ := Aside0.mk ((by rw [hg]; exact (below_size (by repeat (first | (with_reducible first | exact HB.out | apply below_alloc | apply pw_below_drewN | apply below_drew1 | refine below_set ?_ GE350.out) | exact HB.out))) : w.heap.size ≤ gb351)); have n5_ := Aside0.mk ((by rw [hg]; exact Nat.ne_of_lt (blk_lt (g := gb350) (o := .cells #[.int .i64 a0_0, .int .i64 a0_1, .int .i64 a0_2, .slice A0_3 l0_3.length c0_3, .slice A0_4 l0_4.length c0_4, .slice A0_5 l0_5.length c0_5, .bool a0_6] 25 (0, 0)) (by (with_reducible repeat (first | refine blk_drewN ?_ _ | refine blk_drew ?_ | refine blk_alloc ?_ _)); exact BK350.out)) : gb350 ≠ gb351)); have n6_ := Aside0.mk ((by rw [hg]; exact Nat.ne_of_gt (blk_lt (g := gb350) (o := .cells #[.int .i64 a0_0, .int .i64 a0_1, .int .i64 a0_2, .slice A0_3 l0_3.length c0_3, .slice A0_4 l0_4.length c0_4, .slice A0_5 l0_5.length c0_5, .bool a0_6] 25 (0, 0)) (by (with_reducible repeat (first | refine blk_drewN ?_ _ | refine blk_drew ?_ | refine blk_alloc ?_ _)); exact BK350.out)) : gb351 ≠ gb350)); clear BK350; clear HB; have BK350 := n0_; have HB := n1_; have BK351 := n2_; have GW351 := n3_; have GE351 := n4_; have NB350_351 := n5_; have NB351_350 := n6_; clear n0_ n1_ n2_ n3_ n4_ n5_ n6_; clear hb hbox hg; have hnb29 := NB350_351.out; have hnc29 := NB351_350.out; have hcz30_0 : w28.cell? ⟨gb350, 0, none⟩ = some (.int .i64 a0_0) := (blk_cell BK350.out 0).trans rfl; have hcz30_1 : w28.cell? ⟨gb350, 1, none⟩ = some (.int .i64 a0_1) := (blk_cell BK350.out 1).trans rfl; have hcz30_2 : w28.cell? ⟨gb350, 2, none⟩ = some (.int .i64 a0_2) := (blk_cell BK350.out 2).trans rfl; have hcz30_3 : w28.cell? ⟨gb350, 3, none⟩ = some (.slice A0_3 l0_3.length c0_3) := (blk_cell BK350.out 3).trans rfl; have hcz30_4 : w28.cell? ⟨gb350, 4, none⟩ = some (.slice A0_4 l0_4.length c0_4) := (blk_cell BK350.out 4).trans rfl; have hcz30_5 : w28.cell? ⟨gb350, 5, none⟩ = some (.slice A0_5 l0_5.length c0_5) := (blk_cell BK350.out 5).trans rfl; have hcz30_6 : w28.cell? ⟨gb350, 6, none⟩ = some (.bool a0_6) := (blk_cell BK350.out 6).trans rfl; have hfz30_0 := blk_frozen BK350.out 0; have hfz30_1 := blk_frozen BK350.out 1; have hfz30_2 := blk_frozen BK350.out 2; have hfz30_3 := blk_frozen BK350.out 3; have hfz30_4 := blk_frozen BK350.out 4; have hfz30_5 := blk_frozen BK350.out 5; have hfz30_6 := blk_frozen BK350.out 6; have hcz31_0 : w28.cell? ⟨gb351, 0, none⟩ = some (.int .i64 a1_0) := (blk_cell BK351.out 0).trans rfl; have hcz31_1 : w28.cell? ⟨gb351, 1, none⟩ = some (.int .i64 a1_1) := (blk_cell BK351.out 1).trans rfl; have hcz31_2 : w28.cell? ⟨gb351, 2, none⟩ = some (.int .i64 a1_2) := (blk_cell BK351.out 2).trans rfl; have hcz31_3 : w28.cell? ⟨gb351, 3, none⟩ = some (.slice A1_3 l1_3.length c1_3) := (blk_cell BK351.out 3).trans rfl; have hcz31_4 : w28.cell? ⟨gb351, 4, none⟩ = some (.slice A1_4 l1_4.length c1_4) := (blk_cell BK351.out 4).trans rfl; have hcz31_5 : w28.cell? ⟨gb351, 5, none⟩ = some (.slice A1_5 l1_5.length c1_5) := (blk_cell BK351.out 5).trans rfl; have hcz31_6 : w28.cell? ⟨gb351, 6, none⟩ = some (.bool a1_6) := (blk_cell BK351.out 6).trans rfl; have hfz31_0 := blk_frozen BK351.out 0; have hfz31_1 := blk_frozen BK351.out 1; have hfz31_2 := blk_frozen BK351.out 2; have hfz31_3 := blk_frozen BK351.out 3; have hfz31_4 := blk_frozen BK351.out 4; have hfz31_5 := blk_frozen BK351.out 5; have hfz31_6 := blk_frozen BK351.out 6))
          go_ret
          exact ⟨by first | rfl | (simp [errW_none, errW_some] <;> rfl) | (simp [*, errW_none, errW_some] <;> rfl), by repeat (first | (with_reducible first | exact HB.out | apply below_alloc | apply pw_below_drewN | apply below_drew1 | refine below_set ?_ GE350.out | refine below_set ?_ GE351.out) | exact HB.out)⟩
      · rw [if_neg c5] at H
        have c5b0 : (a0_2 == a1_2) = false := beq_eq_false_iff_ne.mpr c5
        have c5b1 : (a0_2 != a1_2) = true := bne_iff_ne.mpr c5
        obtain rfl := Option.some.inj H
        go_enter Try.func16, Try.ntmps16
        go_wp2_with (first | ((with_reducible refine gate_dst (N := 2) rfl ?_); refine box_event ?hg (N := 2) ?hd (cs := #[.int .i64 a0_0, .int .i64 a0_1, .int .i64 a0_2, .slice A0_3 l0_3.length c0_3, .slice A0_4 l0_4.length c0_4, .slice A0_5 l0_5.length c0_5, .bool a0_6]) (t := 25) ?hr ?_; (case hd => rfl); (case hg => rfl); (case hr => first | (go_simp; done) | (go_simp; rfl)); intro gb350 hg w32 hbox hb; have n0_ := Aside0.mk (below_step (by repeat (first | (with_reducible first | exact HB.out | apply below_alloc | apply pw_below_drewN | apply below_drew1) | exact HB.out)) hb); have n1_ := Aside0.mk (hbox); have n2_ := Aside0.mk ((by rw [hg]; exact (below_size (by repeat (first | (with_reducible first | exact HB.out | apply below_alloc | apply pw_below_drewN | apply below_drew1) | exact HB.out))) : w.heap.size ≤ gb350)); have n3_ := Aside0.mk ((by rw [hg]; exact (below_size (by repeat (first | (with_reducible first | exact HB.out | apply below_alloc | apply pw_below_drewN | apply below_drew1) | exact HB.out))) : w.heap.size ≤ gb350)); clear HB; have HB := n0_; have BK350 := n1_; have GW350 := n2_; have GE350 := n3_; clear n0_ n1_ n2_ n3_; clear hb hbox hg) | ((with_reducible refine gate_dst (N := 3) rfl ?_); refine box_event ?hg (N := 3) ?hd (cs := #[.int .i64 a1_0, .int .i64 a1_1, .int .i64 a1_2, .slice A1_3 l1_3.length c1_3, .slice A1_4 l1_4.length c1_4, .slice A1_5 l1_5.length c1_5, .bool a1_6]) (t := 25) ?hr ?_; (case hd => rfl); (case hg => rfl); (case hr => first | (go_simp; done) | (go_simp; rfl)); intro gb351 hg w33 hbox hb; have n0_ := Aside0.mk (blk_below (g := gb350) (o := .cells #[.int .i64 a0_0, .int .i64 a0_1, .int .i64 a0_2, .slice A0_3 l0_3.length c0_3, .slice A0_4 l0_4.length c0_4, .slice A0_5 l0_5.length c0_5, .bool a0_6] 25 (0, 0)) (by (with_reducible repeat (first | refine blk_drewN ?_ _ | refine blk_drew ?_ | refine blk_alloc ?_ _)); exact BK350.out) hb); have n1_ := Aside0.mk (below_step (by repeat (first | (with_reducible first | exact HB.out | apply below_alloc | apply pw_below_drewN | apply below_drew1 | refine below_set ?_ GE350.out) | exact HB.out)) hb); have n2_ := Aside0.mk (hbox); have n3_ := Aside0.mk ((by rw [hg]; exact (below_size (by repeat (first | (with_reducible first | exact HB.out | apply below_alloc | apply pw_below_drewN | apply below_drew1 | refine below_set ?_ GE350.out) | exact HB.out))) : w.heap.size ≤ gb351)); have n4_ := Aside0.mk ((by rw [hg]; exact (below_size (by repeat (first | (with_reducible first | exact HB.out | apply below_alloc | apply pw_below_drewN | apply below_drew1 | refine below_set ?_ GE350.out) | exact HB.out))) : w.heap.size ≤ gb351)); have n5_ := Aside0.mk ((by rw [hg]; exact Nat.ne_of_lt (blk_lt (g := gb350) (o := .cells #[.int .i64 a0_0, .int .i64 a0_1, .int .i64 a0_2, .slice A0_3 l0_3.length c0_3, .slice A0_4 l0_4.length c0_4, .slice A0_5 l0_5.length c0_5, .bool a0_6] 25 (0, 0)) (by (with_reducible repeat (first | refine blk_drewN ?_ _ | refine blk_drew ?_ | refine blk_alloc ?_ _)); exact BK350.out)) : gb350 ≠ gb351)); have n6_ := Aside0.mk ((by rw [hg]; exact Nat.ne_of_gt (blk_lt (g := gb350) (o := .cells #[.int .i64 a0_0, .int .i64 a0_1, .int .i64 a0_2, .slice A0_3 l0_3.length c0_3, .slice A0_4 l0_4.length c0_4, .slice A0_5 l0_5.length c0_5, .bool a0_6] 25 (0, 0)) (by (with_reducible repeat (first | refine blk_drewN ?_ _ | refine blk_drew ?_ | refine blk_alloc ?_ _)); exact BK350.out)) : gb351 ≠ gb350)); clear BK350; clear HB; have BK350 := n0_; have HB := n1_; have BK351 := n2_; have GW351 := n3_; have GE351 := n4_; have NB350_351 := n5_; have NB351_350 := n6_; clear n0_ n1_ n2_ n3_ n4_ n5_ n6_; clear hb hbox hg; have hnb34 := NB350_351.out; have hnc34 := NB351_350.out; have hcz35_0 : w33.cell? ⟨gb350, 0, none⟩ = some (.int .i64 a0_0) := (blk_cell BK350.out 0).trans rfl; have hcz35_1 : w33.cell? ⟨gb350, 1, none⟩ = some (.int .i64 a0_1) := (blk_cell BK350.out 1).trans rfl; have hcz35_2 : w33.cell? ⟨gb350, 2, none⟩ = some (.int .i64 a0_2) := (blk_cell BK350.out 2).trans rfl; have hcz35_3 : w33.cell? ⟨gb350, 3, none⟩ = some (.slice A0_3 l0_3.length c0_3) := (blk_cell BK350.out 3).trans rfl; have hcz35_4 : w33.cell? ⟨gb350, 4, none⟩ = some (.slice A0_4 l0_4.length c0_4) := (blk_cell BK350.out 4).trans rfl; have hcz35_5 : w33.cell? ⟨gb350, 5, none⟩ = some (.slice A0_5 l0_5.length c0_5) := (blk_cell BK350.out 5).trans rfl; have hcz35_6 : w33.cell? ⟨gb350, 6, none⟩ = some (.bool a0_6) := (blk_cell BK350.out 6).trans rfl; have hfz35_0 := blk_frozen BK350.out 0; have hfz35_1 := blk_frozen BK350.out 1; have hfz35_2 := blk_frozen BK350.out 2; have hfz35_3 := blk_frozen BK350.out 3; have hfz35_4 := blk_frozen BK350.out 4; have hfz35_5 := blk_frozen BK350.out 5; have hfz35_6 := blk_frozen BK350.out 6; have hcz36_0 : w33.cell? ⟨gb351, 0, none⟩ = some (.int .i64 a1_0) := (blk_cell BK351.out 0).trans rfl; have hcz36_1 : w33.cell? ⟨gb351, 1, none⟩ = some (.int .i64 a1_1) := (blk_cell BK351.out 1).trans rfl; have hcz36_2 : w33.cell? ⟨gb351, 2, none⟩ = some (.int .i64 a1_2) := (blk_cell BK351.out 2).trans rfl; have hcz36_3 : w33.cell? ⟨gb351, 3, none⟩ = some (.slice A1_3 l1_3.length c1_3) := (blk_cell BK351.out 3).trans rfl; have hcz36_4 : w33.cell? ⟨gb351, 4, none⟩ = some (.slice A1_4 l1_4.length c1_4) := (blk_cell BK351.out 4).trans rfl; have hcz36_5 : w33.cell? ⟨gb351, 5, none⟩ = some (.slice A1_5 l1_5.length c1_5) := (blk_cell BK351.out 5).trans rfl; have hcz36_6 : w33.cell? ⟨gb351, 6, none⟩ = some (.bool a1_6) := (blk_cell BK351.out 6).trans rfl; have hfz36_0 := blk_frozen BK351.out 0; have hfz36_1 := blk_frozen BK351.out 1; have hfz36_2 := blk_frozen BK351.out 2; have hfz36_3 := blk_frozen BK351.out 3; have hfz36_4 := blk_frozen BK351.out 4; have hfz36_5 := blk_frozen BK351.out 5; have hfz36_6 := blk_frozen BK351.out 6))
        go_ret
        exact ⟨by first | rfl | (simp [errW_none, errW_some] <;> rfl) | (simp [*, errW_none, errW_some] <;> rfl), by repeat (first | (with_reducible first | exact HB.out | apply below_alloc | apply pw_below_drewN | apply below_drew1 | refine below_set ?_ GE350.out | refine below_set ?_ GE351.out) | exact HB.out)⟩
    · rw [if_neg c4] at H
      have c4b0 : (a0_1 == a1_1) = false := beq_eq_false_iff_ne.mpr c4
      have c4b1 : (a0_1 != a1_1) = true := bne_iff_ne.mpr c4
      obtain rfl := Option.some.inj H
      go_enter Try.func16, Try.ntmps16
      go_wp2_with (first | ((with_reducible refine gate_dst (N := 2) rfl ?_); refine box_event ?hg (N := 2) ?hd (cs := #[.int .i64 a0_0, .int .i64 a0_1, .int .i64 a0_2, .slice A0_3 l0_3.length c0_3, .slice A0_4 l0_4.length c0_4, .slice A0_5 l0_5.length c0_5, .bool a0_6]) (t := 25) ?hr ?_; (case hd => rfl); (case hg => rfl); (case hr => first | (go_simp; done) | (go_simp; rfl)); intro gb350 hg w37 hbox hb; have n0_ := Aside0.mk (below_step (by repeat (first | (with_reducible first | exact HB.out | apply below_alloc | apply pw_below_drewN | apply below_drew1) | exact HB.out)) hb); have n1_ := Aside0.mk (hbox); have n2_ := Aside0.mk ((by rw [hg]; exact (below_size (by repeat (first | (with_reducible first | exact HB.out | apply below_alloc | apply pw_below_drewN | apply below_drew1) | exact HB.out))) : w.heap.size ≤ gb350)); have n3_ := Aside0.mk ((by rw [hg]; exact (below_size (by repeat (first | (with_reducible first | exact HB.out | apply below_alloc | apply pw_below_drewN | apply below_drew1) | exact HB.out))) : w.heap.size ≤ gb350)); clear HB; have HB := n0_; have BK350 := n1_; have GW350 := n2_; have GE350 := n3_; clear n0_ n1_ n2_ n3_; clear hb hbox hg) | ((with_reducible refine gate_dst (N := 3) rfl ?_); refine box_event ?hg (N := 3) ?hd (cs := #[.int .i64 a1_0, .int .i64 a1_1, .int .i64 a1_2, .slice A1_3 l1_3.length c1_3, .slice A1_4 l1_4.length c1_4, .slice A1_5 l1_5.length c1_5, .bool a1_6]) (t := 25) ?hr ?_; (case hd => rfl); (case hg => rfl); (case hr => first | (go_simp; done) | (go_simp; rfl)); intro gb351 hg w38 hbox hb; have n0_ := Aside0.mk (blk_below (g := gb350) (o := .cells #[.int .i64 a0_0, .int .i64 a0_1, .int .i64 a0_2, .slice A0_3 l0_3.length c0_3, .slice A0_4 l0_4.length c0_4, .slice A0_5 l0_5.length c0_5, .bool a0_6] 25 (0, 0)) (by (with_reducible repeat (first | refine blk_drewN ?_ _ | refine blk_drew ?_ | refine blk_alloc ?_ _)); exact BK350.out) hb); have n1_ := Aside0.mk (below_step (by repeat (first | (with_reducible first | exact HB.out | apply below_alloc | apply pw_below_drewN | apply below_drew1 | refine below_set ?_ GE350.out) | exact HB.out)) hb); have n2_ := Aside0.mk (hbox); have n3_ := Aside0.mk ((by rw [hg]; exact (below_size (by repeat (first | (with_reducible first | exact HB.out | apply below_alloc | apply pw_below_drewN | apply below_drew1 | refine below_set ?_ GE350.out) | exact HB.out))) : w.heap.size ≤ gb351)); have n4_ := Aside0.mk ((by rw [hg]; exact (below_size (by repeat (first | (with_reducible first | exact HB.out | apply below_alloc | apply pw_below_drewN | apply below_drew1 | refine below_set ?_ GE350.out) | exact HB.out))) : w.heap.size ≤ gb351)); have n5_ := Aside0.mk ((by rw [hg]; exact Nat.ne_of_lt (blk_lt (g := gb350) (o := .cells #[.int .i64 a0_0, .int .i64 a0_1, .int .i64 a0_2, .slice A0_3 l0_3.length c0_3, .slice A0_4 l0_4.length c0_4, .slice A0_5 l0_5.length c0_5, .bool a0_6] 25 (0, 0)) (by (with_reducible repeat (first | refine blk_drewN ?_ _ | refine blk_drew ?_ | refine blk_alloc ?_ _)); exact BK350.out)) : gb350 ≠ gb351)); have n6_ := Aside0.mk ((by rw [hg]; exact Nat.ne_of_gt (blk_lt (g := gb350) (o := .cells #[.int .i64 a0_0, .int .i64 a0_1, .int .i64 a0_2, .slice A0_3 l0_3.length c0_3, .slice A0_4 l0_4.length c0_4, .slice A0_5 l0_5.length c0_5, .bool a0_6] 25 (0, 0)) (by (with_reducible repeat (first | refine blk_drewN ?_ _ | refine blk_drew ?_ | refine blk_alloc ?_ _)); exact BK350.out)) : gb351 ≠ gb350)); clear BK350; clear HB; have BK350 := n0_; have HB := n1_; have BK351 := n2_; have GW351 := n3_; have GE351 := n4_; have NB350_351 := n5_; have NB351_350 := n6_; clear n0_ n1_ n2_ n3_ n4_ n5_ n6_; clear hb hbox hg; have hnb39 := NB350_351.out; have hnc39 := NB351_350.out; have hcz40_0 : w38.cell? ⟨gb350, 0, none⟩ = some (.int .i64 a0_0) := (blk_cell BK350.out 0).trans rfl; have hcz40_1 : w38.cell? ⟨gb350, 1, none⟩ = some (.int .i64 a0_1) := (blk_cell BK350.out 1).trans rfl; have hcz40_2 : w38.cell? ⟨gb350, 2, none⟩ = some (.int .i64 a0_2) := (blk_cell BK350.out 2).trans rfl; have hcz40_3 : w38.cell? ⟨gb350, 3, none⟩ = some (.slice A0_3 l0_3.length c0_3) := (blk_cell BK350.out 3).trans rfl; have hcz40_4 : w38.cell? ⟨gb350, 4, none⟩ = some (.slice A0_4 l0_4.length c0_4) := (blk_cell BK350.out 4).trans rfl; have hcz40_5 : w38.cell? ⟨gb350, 5, none⟩ = some (.slice A0_5 l0_5.length c0_5) := (blk_cell BK350.out 5).trans rfl; have hcz40_6 : w38.cell? ⟨gb350, 6, none⟩ = some (.bool a0_6) := (blk_cell BK350.out 6).trans rfl; have hfz40_0 := blk_frozen BK350.out 0; have hfz40_1 := blk_frozen BK350.out 1; have hfz40_2 := blk_frozen BK350.out 2; have hfz40_3 := blk_frozen BK350.out 3; have hfz40_4 := blk_frozen BK350.out 4; have hfz40_5 := blk_frozen BK350.out 5; have hfz40_6 := blk_frozen BK350.out 6; have hcz41_0 : w38.cell? ⟨gb351, 0, none⟩ = some (.int .i64 a1_0) := (blk_cell BK351.out 0).trans rfl; have hcz41_1 : w38.cell? ⟨gb351, 1, none⟩ = some (.int .i64 a1_1) := (blk_cell BK351.out 1).trans rfl; have hcz41_2 : w38.cell? ⟨gb351, 2, none⟩ = some (.int .i64 a1_2) := (blk_cell BK351.out 2).trans rfl; have hcz41_3 : w38.cell? ⟨gb351, 3, none⟩ = some (.slice A1_3 l1_3.length c1_3) := (blk_cell BK351.out 3).trans rfl; have hcz41_4 : w38.cell? ⟨gb351, 4, none⟩ = some (.slice A1_4 l1_4.length c1_4) := (blk_cell BK351.out 4).trans rfl; have hcz41_5 : w38.cell? ⟨gb351, 5, none⟩ = some (.slice A1_5 l1_5.length c1_5) := (blk_cell BK351.out 5).trans rfl; have hcz41_6 : w38.cell? ⟨gb351, 6, none⟩ = some (.bool a1_6) := (blk_cell BK351.out 6).trans rfl; have hfz41_0 := blk_frozen BK351.out 0; have hfz41_1 := blk_frozen BK351.out 1; have hfz41_2 := blk_frozen BK351.out 2; have hfz41_3 := blk_frozen BK351.out 3; have hfz41_4 := blk_frozen BK351.out 4; have hfz41_5 := blk_frozen BK351.out 5; have hfz41_6 := blk_frozen BK351.out 6))
      go_ret
      exact ⟨by first | rfl | (simp [errW_none, errW_some] <;> rfl) | (simp [*, errW_none, errW_some] <;> rfl), by repeat (first | (with_reducible first | exact HB.out | apply below_alloc | apply pw_below_drewN | apply below_drew1 | refine below_set ?_ GE350.out | refine below_set ?_ GE351.out) | exact HB.out)⟩
  · rw [if_neg c3] at H
    have c3b0 : (a0_0 == a1_0) = false := beq_eq_false_iff_ne.mpr c3
    have c3b1 : (a0_0 != a1_0) = true := bne_iff_ne.mpr c3
    obtain rfl := Option.some.inj H
    go_enter Try.func16, Try.ntmps16
    go_wp2_with (first | ((with_reducible refine gate_dst (N := 2) rfl ?_); refine box_event ?hg (N := 2) ?hd (cs := #[.int .i64 a0_0, .int .i64 a0_1, .int .i64 a0_2, .slice A0_3 l0_3.length c0_3, .slice A0_4 l0_4.length c0_4, .slice A0_5 l0_5.length c0_5, .bool a0_6]) (t := 25) ?hr ?_; (case hd => rfl); (case hg => rfl); (case hr => first | (go_simp; done) | (go_simp; rfl)); intro gb350 hg w42 hbox hb; have n0_ := Aside0.mk (below_step (by repeat (first | (with_reducible first | exact HB.out | apply below_alloc | apply pw_below_drewN | apply below_drew1) | exact HB.out)) hb); have n1_ := Aside0.mk (hbox); have n2_ := Aside0.mk ((by rw [hg]; exact (below_size (by repeat (first | (with_reducible first | exact HB.out | apply below_alloc | apply pw_below_drewN | apply below_drew1) | exact HB.out))) : w.heap.size ≤ gb350)); have n3_ := Aside0.mk ((by rw [hg]; exact (below_size (by repeat (first | (with_reducible first | exact HB.out | apply below_alloc | apply pw_below_drewN | apply below_drew1) | exact HB.out))) : w.heap.size ≤ gb350)); clear HB; have HB := n0_; have BK350 := n1_; have GW350 := n2_; have GE350 := n3_; clear n0_ n1_ n2_ n3_; clear hb hbox hg) | ((with_reducible refine gate_dst (N := 3) rfl ?_); refine box_event ?hg (N := 3) ?hd (cs := #[.int .i64 a1_0, .int .i64 a1_1, .int .i64 a1_2, .slice A1_3 l1_3.length c1_3, .slice A1_4 l1_4.length c1_4, .slice A1_5 l1_5.length c1_5, .bool a1_6]) (t := 25) ?hr ?_; (case hd => rfl); (case hg => rfl); (case hr => first | (go_simp; done) | (go_simp; rfl)); intro gb351 hg w43 hbox hb; have n0_ := Aside0.mk (blk_below (g := gb350) (o := .cells #[.int .i64 a0_0, .int .i64 a0_1, .int .i64 a0_2, .slice A0_3 l0_3.length c0_3, .slice A0_4 l0_4.length c0_4, .slice A0_5 l0_5.length c0_5, .bool a0_6] 25 (0, 0)) (by (with_reducible repeat (first | refine blk_drewN ?_ _ | refine blk_drew ?_ | refine blk_alloc ?_ _)); exact BK350.out) hb); have n1_ := Aside0.mk (below_step (by repeat (first | (with_reducible first | exact HB.out | apply below_alloc | apply pw_below_drewN | apply below_drew1 | refine below_set ?_ GE350.out) | exact HB.out)) hb); have n2_ := Aside0.mk (hbox); have n3_ := Aside0.mk ((by rw [hg]; exact (below_size (by repeat (first | (with_reducible first | exact HB.out | apply below_alloc | apply pw_below_drewN | apply below_drew1 | refine below_set ?_ GE350.out) | exact HB.out))) : w.heap.size ≤ gb351)); have n4_ := Aside0.mk ((by rw [hg]; exact (below_size (by repeat (first | (with_reducible first | exact HB.out | apply below_alloc | apply pw_below_drewN | apply below_drew1 | refine below_set ?_ GE350.out) | exact HB.out))) : w.heap.size ≤ gb351)); have n5_ := Aside0.mk ((by rw [hg]; exact Nat.ne_of_lt (blk_lt (g := gb350) (o := .cells #[.int .i64 a0_0, .int .i64 a0_1, .int .i64 a0_2, .slice A0_3 l0_3.length c0_3, .slice A0_4 l0_4.length c0_4, .slice A0_5 l0_5.length c0_5, .bool a0_6] 25 (0, 0)) (by (with_reducible repeat (first | refine blk_drewN ?_ _ | refine blk_drew ?_ | refine blk_alloc ?_ _)); exact BK350.out)) : gb350 ≠ gb351)); have n6_ := Aside0.mk ((by rw [hg]; exact Nat.ne_of_gt (blk_lt (g := gb350) (o := .cells #[.int .i64 a0_0, .int .i64 a0_1, .int .i64 a0_2, .slice A0_3 l0_3.length c0_3, .slice A0_4 l0_4.length c0_4, .slice A0_5 l0_5.length c0_5, .bool a0_6] 25 (0, 0)) (by (with_reducible repeat (first | refine blk_drewN ?_ _ | refine blk_drew ?_ | refine blk_alloc ?_ _)); exact BK350.out)) : gb351 ≠ gb350)); clear BK350; clear HB; have BK350 := n0_; have HB := n1_; have BK351 := n2_; have GW351 := n3_; have GE351 := n4_; have NB350_351 := n5_; have NB351_350 := n6_; clear n0_ n1_ n2_ n3_ n4_ n5_ n6_; clear hb hbox hg; have hnb44 := NB350_351.out; have hnc44 := NB351_350.out; have hcz45_0 : w43.cell? ⟨gb350, 0, none⟩ = some (.int .i64 a0_0) := (blk_cell BK350.out 0).trans rfl; have hcz45_1 : w43.cell? ⟨gb350, 1, none⟩ = some (.int .i64 a0_1) := (blk_cell BK350.out 1).trans rfl; have hcz45_2 : w43.cell? ⟨gb350, 2, none⟩ = some (.int .i64 a0_2) := (blk_cell BK350.out 2).trans rfl; have hcz45_3 : w43.cell? ⟨gb350, 3, none⟩ = some (.slice A0_3 l0_3.length c0_3) := (blk_cell BK350.out 3).trans rfl; have hcz45_4 : w43.cell? ⟨gb350, 4, none⟩ = some (.slice A0_4 l0_4.length c0_4) := (blk_cell BK350.out 4).trans rfl; have hcz45_5 : w43.cell? ⟨gb350, 5, none⟩ = some (.slice A0_5 l0_5.length c0_5) := (blk_cell BK350.out 5).trans rfl; have hcz45_6 : w43.cell? ⟨gb350, 6, none⟩ = some (.bool a0_6) := (blk_cell BK350.out 6).trans rfl; have hfz45_0 := blk_frozen BK350.out 0; have hfz45_1 := blk_frozen BK350.out 1; have hfz45_2 := blk_frozen BK350.out 2; have hfz45_3 := blk_frozen BK350.out 3; have hfz45_4 := blk_frozen BK350.out 4; have hfz45_5 := blk_frozen BK350.out 5; have hfz45_6 := blk_frozen BK350.out 6; have hcz46_0 : w43.cell? ⟨gb351, 0, none⟩ = some (.int .i64 a1_0) := (blk_cell BK351.out 0).trans rfl; have hcz46_1 : w43.cell? ⟨gb351, 1, none⟩ = some (.int .i64 a1_1) := (blk_cell BK351.out 1).trans rfl; have hcz46_2 : w43.cell? ⟨gb351, 2, none⟩ = some (.int .i64 a1_2) := (blk_cell BK351.out 2).trans rfl; have hcz46_3 : w43.cell? ⟨gb351, 3, none⟩ = some (.slice A1_3 l1_3.length c1_3) := (blk_cell BK351.out 3).trans rfl; have hcz46_4 : w43.cell? ⟨gb351, 4, none⟩ = some (.slice A1_4 l1_4.length c1_4) := (blk_cell BK351.out 4).trans rfl; have hcz46_5 : w43.cell? ⟨gb351, 5, none⟩ = some (.slice A1_5 l1_5.length c1_5) := (blk_cell BK351.out 5).trans rfl; have hcz46_6 : w43.cell? ⟨gb351, 6, none⟩ = some (.bool a1_6) := (blk_cell BK351.out 6).trans rfl; have hfz46_0 := blk_frozen BK351.out 0; have hfz46_1 := blk_frozen BK351.out 1; have hfz46_2 := blk_frozen BK351.out 2; have hfz46_3 := blk_frozen BK351.out 3; have hfz46_4 := blk_frozen BK351.out 4; have hfz46_5 := blk_frozen BK351.out 5; have hfz46_6 := blk_frozen BK351.out 6))
    go_ret
    exact ⟨by first | rfl | (simp [errW_none, errW_some] <;> rfl) | (simp [*, errW_none, errW_some] <;> rfl), by repeat (first | (with_reducible first | exact HB.out | apply below_alloc | apply pw_below_drewN | apply below_drew1 | refine below_set ?_ GE350.out | refine below_set ?_ GE351.out) | exact HB.out)⟩

end Go.Proofs.Ytedlmdnineohkaa.PU
