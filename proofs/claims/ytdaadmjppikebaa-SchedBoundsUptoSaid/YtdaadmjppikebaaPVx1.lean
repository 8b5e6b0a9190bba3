-- PRINTED by print.py (a twelfth state) out of the translation. Not trusted: Lean checks it.
import Derived.Test.YtdaadmjppikebaaPVx0
namespace Go.Proofs.Ytdaadmjppikebaa.PV
open Go.RowKit Go.Proofs.YtdaadmjppikebaaW.PrintWords Go.Proofs.YtdaadmjppikebaaW.PrintLast Go.Proofs.YtdaadmjppikebaaW.PrintMore
attribute [local go_sem] max2_int min2_int max_two min_two max_three min_three max_four min_four   -- for this text's walks alone
set_option linter.unusedVariables false
set_option linter.unusedSimpArgs false

/-! ### sched_within: function 41 -/
def sched_within.f (a0 : Int) (a1 : Int) (a2 : Int) : Option (Bool) := if a0 ≥ a1 then (some (decide (a0 ≤ a2))) else (some false)
set_option maxHeartbeats 8000000 in
set_option maxRecDepth 100000 in
theorem sched_within.calls (a0 : Int) (a1 : Int) (a2 : Int) (r : Bool) (w : World) (h : sched_within.f a0 a1 a2 = some r) :
    Calls Try.prog 41 #[.int .i64 a0, .int .i64 a1, .int .i64 a2] w fun e w' => e = .returned (.bool r) ∧ Drawn0 w w' := by
  have H : (if a0 ≥ a1 then (some (decide (a0 ≤ a2))) else (some false)) = some r := h
  clear h
  by_cases c4 : a0 ≥ a1
  · rw [if_pos c4] at H
    have c4b0 : decide (a1 ≤ a0) = true := decide_eq_true c4
    clear c4
    obtain rfl := Option.some.inj H
    go_enter Try.func41, Try.ntmps41
    go_wp2
    go_ret
    exact ⟨by first | rfl | (simp; done) | (simp [*]; done), by repeat (first | exact Drawn0.refl _ | apply Drawn0.step)⟩
  · rw [if_neg c4] at H
    have c4b0 : decide (a1 ≤ a0) = false := decide_eq_false c4
    clear c4
    obtain rfl := Option.some.inj H
    go_enter Try.func41, Try.ntmps41
    go_wp2
    go_ret
    exact ⟨by first | rfl | (simp; done) | (simp [*]; done), by repeat (first | exact Drawn0.refl _ | apply Drawn0.step)⟩

/-! ### sched_Right: function 32 -/
mutual
def sched_Right.j0 : Nat → Bool → Int → Int → Int → Bool → List (S94) → Option (Bool)
  | 0, _, _, _, _, _, _ => none
  | k + 1, x29, x102000, x102001, x102002, x102003, x102004 => if x29 = true then (some false) else (sched_Right.l0 k 0 0 x102004 (x102004.length : Int) 0 x102000 x102001 x102002 x102003 x102004)
def sched_Right.l0 : Nat → Int → Int → List (S94) → Int → Int → Int → Int → Int → Bool → List (S94) → Option (Bool)
  | 0, _, _, _, _, _, _, _, _, _, _ => none
  | k + 1, x3, x4, x31, x32, x33, x102000, x102001, x102002, x102003, x102004 => if x33 < x32 then (if 0 ≤ x33 then (if x33 < (x31.length : Int) then ((sched_within.f ((rd_T94 x31 x33).f0) 1 64).bind fun t108 => (if t108 = true then ((sched_within.f ((rd_T94 x31 x33).f2) 1 1000).bind fun t109 => (if t109 = true then (if (rd_T94 x31 x33).f6 = true then (sched_Right.j2 k x3 x4 x31 x32 x33 (decide (((rd_T94 x31 x33).f0) > x102000)) x102000 x102001 x102002 x102003 x102004 ((rd_T94 x31 x33).f0) ((rd_T94 x31 x33).f1) ((rd_T94 x31 x33).f2) ((rd_T94 x31 x33).f3) ((rd_T94 x31 x33).f4) ((rd_T94 x31 x33).f5) ((rd_T94 x31 x33).f6)) else (sched_Right.j2 k x3 x4 x31 x32 x33 false x102000 x102001 x102002 x102003 x102004 ((rd_T94 x31 x33).f0) ((rd_T94 x31 x33).f1) ((rd_T94 x31 x33).f2) ((rd_T94 x31 x33).f3) ((rd_T94 x31 x33).f4) ((rd_T94 x31 x33).f5) ((rd_T94 x31 x33).f6))) else (sched_Right.j2 k x3 x4 x31 x32 x33 true x102000 x102001 x102002 x102003 x102004 ((rd_T94 x31 x33).f0) ((rd_T94 x31 x33).f1) ((rd_T94 x31 x33).f2) ((rd_T94 x31 x33).f3) ((rd_T94 x31 x33).f4) ((rd_T94 x31 x33).f5) ((rd_T94 x31 x33).f6)))) else (sched_Right.j2 k x3 x4 x31 x32 x33 true x102000 x102001 x102002 x102003 x102004 ((rd_T94 x31 x33).f0) ((rd_T94 x31 x33).f1) ((rd_T94 x31 x33).f2) ((rd_T94 x31 x33).f3) ((rd_T94 x31 x33).f4) ((rd_T94 x31 x33).f5) ((rd_T94 x31 x33).f6)))) else (none)) else (none)) else (if x3 ≤ 64 then (some (decide (x4 < x102002))) else (some false))
def sched_Right.j2 : Nat → Int → Int → List (S94) → Int → Int → Bool → Int → Int → Int → Bool → List (S94) → Int → Int → Int → List Int → List Int → List Int → Bool → Option (Bool)
  | 0, _, _, _, _, _, _, _, _, _, _, _, _, _, _, _, _, _, _ => none
  | k + 1, x3, x4, x31, x32, x33, x57, x102000, x102001, x102002, x102003, x102004, x108000, x108001, x108002, x108003, x108004, x108005, x108006 => if x57 = true then (some false) else (if x108006 = true then (sched_Right.l0 k (wrap64 (x3 + x108000)) (wrap64 (x4 + x108002)) x31 x32 (wrap64 (x33 + 1)) x102000 x102001 x102002 x102003 x102004) else (sched_Right.l0 k (wrap64 (x3 + x108000)) x4 x31 x32 (wrap64 (x33 + 1)) x102000 x102001 x102002 x102003 x102004))
end
def sched_Right.f (k : Nat) (a0_0 : Int) (a0_1 : Int) (a0_2 : Int) (a0_3 : Bool) (l0_4 : List (S94)) : Option (Bool) := (sched_within.f a0_0 1 8).bind fun t102 => (if t102 = true then ((sched_within.f a0_1 1 1000).bind fun t103 => (if t103 = true then ((sched_within.f a0_2 1 10000).bind fun t104 => (if t104 = true then ((sched_within.f (l0_4.length : Int) 1 8).bind fun t105 => (sched_Right.j0 k (!t105) a0_0 a0_1 a0_2 a0_3 l0_4)) else (sched_Right.j0 k true a0_0 a0_1 a0_2 a0_3 l0_4))) else (sched_Right.j0 k true a0_0 a0_1 a0_2 a0_3 l0_4))) else (sched_Right.j0 k true a0_0 a0_1 a0_2 a0_3 l0_4))
theorem sched_Right.mono_l : ∀ k, (∀ y0 y1 y2 y3 y4 y5, LeO (sched_Right.j0 k y0 y1 y2 y3 y4 y5) (sched_Right.j0 (k + 1) y0 y1 y2 y3 y4 y5)) ∧ (∀ y0 y1 y2 y3 y4 y5 y6 y7 y8 y9, LeO (sched_Right.l0 k y0 y1 y2 y3 y4 y5 y6 y7 y8 y9) (sched_Right.l0 (k + 1) y0 y1 y2 y3 y4 y5 y6 y7 y8 y9)) ∧ (∀ y0 y1 y2 y3 y4 y5 y6 y7 y8 y9 y10 y11 y12 y13 y14 y15 y16 y17, LeO (sched_Right.j2 k y0 y1 y2 y3 y4 y5 y6 y7 y8 y9 y10 y11 y12 y13 y14 y15 y16 y17) (sched_Right.j2 (k + 1) y0 y1 y2 y3 y4 y5 y6 y7 y8 y9 y10 y11 y12 y13 y14 y15 y16 y17))
  | 0 => ⟨fun _ _ _ _ _ _ r h => by simp [sched_Right.j0] at h, fun _ _ _ _ _ _ _ _ _ _ r h => by simp [sched_Right.l0] at h, fun _ _ _ _ _ _ _ _ _ _ _ _ _ _ _ _ _ _ r h => by simp [sched_Right.j2] at h⟩
  | k + 1 => by
    obtain ⟨ih0, ih1, ih2⟩ := sched_Right.mono_l k
    refine ⟨?_, ?_, ?_⟩
    · intro y0 y1 y2 y3 y4 y5
      unfold sched_Right.j0
      repeat' first
      | (with_reducible exact ih0 _ _ _ _ _ _)
      | (with_reducible exact ih1 _ _ _ _ _ _ _ _ _ _)
      | (with_reducible exact ih2 _ _ _ _ _ _ _ _ _ _ _ _ _ _ _ _ _ _)
      | (with_reducible exact LeO.refl _)
      | (with_reducible exact LeO.none _)
      | (with_reducible refine LeO.ite ?_ ?_)
      | (with_reducible refine LeO.bind ?_ (fun _ => ?_))
      | exact ih0 _ _ _ _ _ _
      | exact ih1 _ _ _ _ _ _ _ _ _ _
      | exact ih2 _ _ _ _ _ _ _ _ _ _ _ _ _ _ _ _ _ _
      | exact LeO.none _
      | refine LeO.ite ?_ ?_
      | refine LeO.bind ?_ (fun _ => ?_)
    · intro y0 y1 y2 y3 y4 y5 y6 y7 y8 y9
      unfold sched_Right.l0
      repeat' first
      | (with_reducible exact ih0 _ _ _ _ _ _)
      | (with_reducible exact ih1 _ _ _ _ _ _ _ _ _ _)
      | (with_reducible exact ih2 _ _ _ _ _ _ _ _ _ _ _ _ _ _ _ _ _ _)
      | (with_reducible exact LeO.refl _)
      | (with_reducible exact LeO.none _)
      | (with_reducible refine LeO.ite ?_ ?_)
      | (with_reducible refine LeO.bind ?_ (fun _ => ?_))
      | exact ih0 _ _ _ _ _ _
      | exact ih1 _ _ _ _ _ _ _ _ _ _
      | exact ih2 _ _ _ _ _ _ _ _ _ _ _ _ _ _ _ _ _ _
      | exact LeO.none _
      | refine LeO.ite ?_ ?_
      | refine LeO.bind ?_ (fun _ => ?_)
    · intro y0 y1 y2 y3 y4 y5 y6 y7 y8 y9 y10 y11 y12 y13 y14 y15 y16 y17
      unfold sched_Right.j2
      repeat' first
      | (with_reducible exact ih0 _ _ _ _ _ _)
      | (with_reducible exact ih1 _ _ _ _ _ _ _ _ _ _)
      | (with_reducible exact ih2 _ _ _ _ _ _ _ _ _ _ _ _ _ _ _ _ _ _)
      | (with_reducible exact LeO.refl _)
      | (with_reducible exact LeO.none _)
      | (with_reducible refine LeO.ite ?_ ?_)
      | (with_reducible refine LeO.bind ?_ (fun _ => ?_))
      | exact ih0 _ _ _ _ _ _
      | exact ih1 _ _ _ _ _ _ _ _ _ _
      | exact ih2 _ _ _ _ _ _ _ _ _ _ _ _ _ _ _ _ _ _
      | exact LeO.none _
      | refine LeO.ite ?_ ?_
      | refine LeO.bind ?_ (fun _ => ?_)
theorem sched_Right.mono : ∀ a0 a1 a2 a3 a4 k, LeO (sched_Right.f k a0 a1 a2 a3 a4) (sched_Right.f (k + 1) a0 a1 a2 a3 a4) := by
  intro a0 a1 a2 a3 a4 k
  obtain ⟨ih0, ih1, ih2⟩ := sched_Right.mono_l k
  unfold sched_Right.f
  repeat' first
      | (with_reducible exact ih0 _ _ _ _ _ _)
      | (with_reducible exact ih1 _ _ _ _ _ _ _ _ _ _)
      | (with_reducible exact ih2 _ _ _ _ _ _ _ _ _ _ _ _ _ _ _ _ _ _)
      | (with_reducible exact LeO.refl _)
      | (with_reducible exact LeO.none _)
      | (with_reducible refine LeO.ite ?_ ?_)
      | (with_reducible refine LeO.bind ?_ (fun _ => ?_))
      | exact ih0 _ _ _ _ _ _
      | exact ih1 _ _ _ _ _ _ _ _ _ _
      | exact ih2 _ _ _ _ _ _ _ _ _ _ _ _ _ _ _ _ _ _
      | exact LeO.none _
      | refine LeO.ite ?_ ?_
      | refine LeO.bind ?_ (fun _ => ?_)
set_option maxHeartbeats 8000000 in
set_option maxRecDepth 100000 in
theorem sched_Right.calls (k : Nat) (a0_0 : Int) (a0_1 : Int) (a0_2 : Int) (a0_3 : Bool) (A0_4 : Option Addr) (c0_4 : Nat) (l0_4 : List (S94)) (r : Bool) (w : World) (hr0_4 : Kd.C k94 w A0_4 l0_4.length l0_4) (hc0_4 : l0_4.length ≤ c0_4) (h : sched_Right.f k a0_0 a0_1 a0_2 a0_3 l0_4 = some r) :
    Calls Try.prog 32 #[.agg #[.int .i64 a0_0, .int .i64 a0_1, .int .i64 a0_2, .bool a0_3, .slice A0_4 l0_4.length c0_4]] w fun e w' => e = .returned (.bool r) ∧ Below w.heap.size w w' := by
  have hu36 := Try.underlying36
  have hu94 := Try.underlying94
  have HR0_4 := Aside0.mk hr0_4
  have HC0_4 := Aside0.mk hc0_4
  clear hr0_4 hc0_4
  have HB := Aside0.mk (Below.refl w.heap.size w)
  have H : ((sched_within.f a0_0 1 8).bind fun t102 => (if t102 = true then ((sched_within.f a0_1 1 1000).bind fun t103 => (if t103 = true then ((sched_within.f a0_2 1 10000).bind fun t104 => (if t104 = true then ((sched_within.f (l0_4.length : Int) 1 8).bind fun t105 => (sched_Right.j0 k (!t105) a0_0 a0_1 a0_2 a0_3 l0_4)) else (sched_Right.j0 k true a0_0 a0_1 a0_2 a0_3 l0_4))) else (sched_Right.j0 k true a0_0 a0_1 a0_2 a0_3 l0_4))) else (sched_Right.j0 k true a0_0 a0_1 a0_2 a0_3 l0_4))) = some r := h
  clear h
  have HC2 := Aside0.mk H
  clear H
  go_enter Try.func32, Try.ntmps32
  go_upto_region 1 with (first | ((with_reducible refine gate_dst (N := 1) rfl ?_); (try (refine gate_guard (by rfl) ?_; dsimp only)); refine box_event ?hg (N := 1) ?hd (cs := #[.int .i64 a0_0, .int .i64 a0_1, .int .i64 a0_2, .bool a0_3, .slice A0_4 l0_4.length c0_4]) (t := 36) ?hr ?_; (case hd => rfl); (case hg => rfl); (case hr => first | (go_simp; done) | (go_simp; rfl)); intro gb101 hg w3 hbox hb; have n0_ := Aside0.mk (below_step (by repeat (first | (with_reducible first | exact HB.out | apply below_alloc | apply pw_below_drewN | apply below_drew1) | exact HB.out)) hb); have n1_ := Aside0.mk (hbox); have n2_ := Aside0.mk ((by rw [hg]; exact (below_size (by repeat (first | (with_reducible first | exact HB.out | apply below_alloc | apply pw_below_drewN | apply below_drew1) | exact HB.out))) : w.heap.size ≤ gb101)); have n3_ := Aside0.mk ((by rw [hg]; exact (below_size (by repeat (first | (with_reducible first | exact HB.out | apply below_alloc | apply pw_below_drewN | apply below_drew1) | exact HB.out))) : w.heap.size ≤ gb101)); clear HB; have HB := n0_; have BK101 := n1_; have GW101 := n2_; have GE101 := n3_; clear n0_ n1_ n2_ n3_; clear hb hbox hg))
  (try simp only [Act.put, List.setIfInBounds_toArray, List.set_cons_zero, List.set_cons_succ])
  go_cut [29] (fun v29 wc => ∃ (kq : Nat) (x29_1 : Bool), v29 = .bool x29_1 ∧ Aside0 (sched_Right.j0 kq x29_1 a0_0 a0_1 a0_2 a0_3 l0_4 = some r) ∧ Aside0 (kq ≤ k) ∧ Aside0 (wc.heap[gb101]? = some (.cells #[.int .i64 a0_0, .int .i64 a0_1, .int .i64 a0_2, .bool a0_3, (.slice A0_4 l0_4.length c0_4)] 36 (0, 0))) ∧ Aside0 (Below w.heap.size w wc))
  case first =>
    have H := HC2.out
    clear HC2
    replace H := Option.bind_eq_some_iff.mp H
    obtain ⟨t102, A40, H⟩ := H
    replace H : (if t102 = true then ((sched_within.f a0_1 1 1000).bind fun t103 => (if t103 = true then ((sched_within.f a0_2 1 10000).bind fun t104 => (if t104 = true then ((sched_within.f (l0_4.length : Int) 1 8).bind fun t105 => (sched_Right.j0 k (!t105) a0_0 a0_1 a0_2 a0_3 l0_4)) else (sched_Right.j0 k true a0_0 a0_1 a0_2 a0_3 l0_4))) else (sched_Right.j0 k true a0_0 a0_1 a0_2 a0_3 l0_4))) else (sched_Right.j0 k true a0_0 a0_1 a0_2 a0_3 l0_4)) = some r := H
    have A4 := Aside0.mk A40
    clear A40
    by_cases c5 : t102 = true
    · subst c5
      have H1 : ((sched_within.f a0_1 1 1000).bind fun t103 => (if t103 = true then ((sched_within.f a0_2 1 10000).bind fun t104 => (if t104 = true then ((sched_within.f (l0_4.length : Int) 1 8).bind fun t105 => (sched_Right.j0 k (!t105) a0_0 a0_1 a0_2 a0_3 l0_4)) else (sched_Right.j0 k true a0_0 a0_1 a0_2 a0_3 l0_4))) else (sched_Right.j0 k true a0_0 a0_1 a0_2 a0_3 l0_4))) = some r := by rw [if_pos rfl] at H; exact H
      clear H
      have H := H1
      clear H1
      replace H := Option.bind_eq_some_iff.mp H
      obtain ⟨t103, A60, H⟩ := H
      replace H : (if t103 = true then ((sched_within.f a0_2 1 10000).bind fun t104 => (if t104 = true then ((sched_within.f (l0_4.length : Int) 1 8).bind fun t105 => (sched_Right.j0 k (!t105) a0_0 a0_1 a0_2 a0_3 l0_4)) else (sched_Right.j0 k true a0_0 a0_1 a0_2 a0_3 l0_4))) else (sched_Right.j0 k true a0_0 a0_1 a0_2 a0_3 l0_4)) = some r := H
      have A6 := Aside0.mk A60
      clear A60
      by_cases c7 : t103 = true
      · subst c7
        have H1 : ((sched_within.f a0_2 1 10000).bind fun t104 => (if t104 = true then ((sched_within.f (l0_4.length : Int) 1 8).bind fun t105 => (sched_Right.j0 k (!t105) a0_0 a0_1 a0_2 a0_3 l0_4)) else (sched_Right.j0 k true a0_0 a0_1 a0_2 a0_3 l0_4))) = some r := by rw [if_pos rfl] at H; exact H
        clear H
        have H := H1
        clear H1
        replace H := Option.bind_eq_some_iff.mp H
        obtain ⟨t104, A80, H⟩ := H
        replace H : (if t104 = true then ((sched_within.f (l0_4.length : Int) 1 8).bind fun t105 => (sched_Right.j0 k (!t105) a0_0 a0_1 a0_2 a0_3 l0_4)) else (sched_Right.j0 k true a0_0 a0_1 a0_2 a0_3 l0_4)) = some r := H
        have A8 := Aside0.mk A80
        clear A80
        by_cases c9 : t104 = true
        · subst c9
          have H1 : ((sched_within.f (l0_4.length : Int) 1 8).bind fun t105 => (sched_Right.j0 k (!t105) a0_0 a0_1 a0_2 a0_3 l0_4)) = some r := by rw [if_pos rfl] at H; exact H
          clear H
          have H := H1
          clear H1
          replace H := Option.bind_eq_some_iff.mp H
          obtain ⟨t105, A100, H⟩ := H
          replace H : (sched_Right.j0 k (!t105) a0_0 a0_1 a0_2 a0_3 l0_4) = some r := H
          have A10 := Aside0.mk A100
          clear A100
          have H' := Aside0.mk H
          clear H
          have hcz11_0 : w3.cell? ⟨gb101, 0, none⟩ = some (.int .i64 a0_0) := (blk_cell BK101.out 0).trans rfl
          have hcz11_1 : w3.cell? ⟨gb101, 1, none⟩ = some (.int .i64 a0_1) := (blk_cell BK101.out 1).trans rfl
          have hcz11_2 : w3.cell? ⟨gb101, 2, none⟩ = some (.int .i64 a0_2) := (blk_cell BK101.out 2).trans rfl
          have hcz11_3 : w3.cell? ⟨gb101, 3, none⟩ = some (.bool a0_3) := (blk_cell BK101.out 3).trans rfl
          have hcz11_4 : w3.cell? ⟨gb101, 4, none⟩ = some (.slice A0_4 l0_4.length c0_4) := (blk_cell BK101.out 4).trans rfl
          have hfz11_0 := blk_frozen BK101.out 0
          have hfz11_1 := blk_frozen BK101.out 1
          have hfz11_2 := blk_frozen BK101.out 2
          have hfz11_3 := blk_frozen BK101.out 3
          have hfz11_4 := blk_frozen BK101.out 4
          go_wp2_with (first | ((with_reducible refine gate_callee (f := 41) rfl ?_); refine goesL_ (some 9) rfl rfl Try.func41 (by kernel_rfl) rfl #[.int .i64 a0_0, .int .i64 1, .int .i64 8] rfl (by (try simp only [List.map_toArray, List.map_cons, List.map_nil]); first | done | rfl | (simp only [List.length_drop, List.length_take]; rfl)) ?_; (with_reducible refine (sched_within.calls a0_0 1 8 true _ A4.out).mono ?_); rintro e w' ⟨rfl, ⟨nd, rfl⟩⟩; refine ⟨_, rfl, ?_⟩) | (go_at_call 41; (with_reducible refine (sched_within.calls a0_1 1 1000 true _ A6.out).mono ?_); rintro e w' ⟨rfl, ⟨nd, rfl⟩⟩) | (go_at_call 41; (with_reducible refine (sched_within.calls a0_2 1 10000 true _ A8.out).mono ?_); rintro e w' ⟨rfl, ⟨nd, rfl⟩⟩) | (go_at_call 41; (with_reducible refine (sched_within.calls (l0_4.length : Int) 1 8 t105 _ A10.out).mono ?_); rintro e w' ⟨rfl, ⟨nd, rfl⟩⟩))
          go_meet
          case rel => exact ⟨_, (!t105), (by first | rfl | (simp; done) | (simp [*]; done)), H', ⟨by first | omega | exact Nat.le_refl _⟩, ⟨by (with_reducible repeat (first | refine blk_drewN ?_ _ | refine blk_drew ?_ | refine blk_alloc ?_ _)); exact BK101.out⟩, ⟨by repeat (first | (with_reducible first | exact HB.out | apply below_alloc | apply pw_below_drewN | apply below_drew1 | refine below_set ?_ GE101.out) | exact HB.out)⟩⟩
        · replace c9 := Bool.eq_false_iff.mpr c9
          subst c9
          have H1 : (sched_Right.j0 k true a0_0 a0_1 a0_2 a0_3 l0_4) = some r := by rw [if_neg (show ¬ (false = true) by decide)] at H; exact H
          clear H
          have H := H1
          clear H1
          have H' := Aside0.mk H
          clear H
          have hcz12_0 : w3.cell? ⟨gb101, 0, none⟩ = some (.int .i64 a0_0) := (blk_cell BK101.out 0).trans rfl
          have hcz12_1 : w3.cell? ⟨gb101, 1, none⟩ = some (.int .i64 a0_1) := (blk_cell BK101.out 1).trans rfl
          have hcz12_2 : w3.cell? ⟨gb101, 2, none⟩ = some (.int .i64 a0_2) := (blk_cell BK101.out 2).trans rfl
          have hcz12_3 : w3.cell? ⟨gb101, 3, none⟩ = some (.bool a0_3) := (blk_cell BK101.out 3).trans rfl
          have hcz12_4 : w3.cell? ⟨gb101, 4, none⟩ = some (.slice A0_4 l0_4.length c0_4) := (blk_cell BK101.out 4).trans rfl
          have hfz12_0 := blk_frozen BK101.out 0
          have hfz12_1 := blk_frozen BK101.out 1
          have hfz12_2 := blk_frozen BK101.out 2
          have hfz12_3 := blk_frozen BK101.out 3
          have hfz12_4 := blk_frozen BK101.out 4
          go_wp2_with (first | ((with_reducible refine gate_callee (f := 41) rfl ?_); refine goesL_ (some 9) rfl rfl Try.func41 (by kernel_rfl) rfl #[.int .i64 a0_0, .int .i64 1, .int .i64 8] rfl (by (try simp only [List.map_toArray, List.map_cons, List.map_nil]); first | done | rfl | (simp only [List.length_drop, List.length_take]; rfl)) ?_; (with_reducible refine (sched_within.calls a0_0 1 8 true _ A4.out).mono ?_); rintro e w' ⟨rfl, ⟨nd, rfl⟩⟩; refine ⟨_, rfl, ?_⟩) | (go_at_call 41; (with_reducible refine (sched_within.calls a0_1 1 1000 true _ A6.out).mono ?_); rintro e w' ⟨rfl, ⟨nd, rfl⟩⟩) | (go_at_call 41; (with_reducible refine (sched_within.calls a0_2 1 10000 false _ A8.out).mono ?_); rintro e w' ⟨rfl, ⟨nd, rfl⟩⟩))
          go_meet
          case rel => exact ⟨_, (true), (by first | rfl | (simp; done) | (simp [*]; done)), H', ⟨by first | omega | exact Nat.le_refl _⟩, ⟨by (with_reducible repeat (first | refine blk_drewN ?_ _ | refine blk_drew ?_ | refine blk_alloc ?_ _)); exact BK101.out⟩, ⟨by repeat (first | (with_reducible first | exact HB.out | apply below_alloc | apply pw_below_drewN | apply below_drew1 | refine below_set ?_ GE101.out) | exact HB.out)⟩⟩
      · replace c7 := Bool.eq_false_iff.mpr c7
        subst c7
        have H1 : (sched_Right.j0 k true a0_0 a0_1 a0_2 a0_3 l0_4) = some r := by rw [if_neg (show ¬ (false = true) by decide)] at H; exact H
        clear H
        have H := H1
        clear H1
        have H' := Aside0.mk H
        clear H
        have hcz13_0 : w3.cell? ⟨gb101, 0, none⟩ = some (.int .i64 a0_0) := (blk_cell BK101.out 0).trans rfl
        have hcz13_1 : w3.cell? ⟨gb101, 1, none⟩ = some (.int .i64 a0_1) := (blk_cell BK101.out 1).trans rfl
        have hcz13_2 : w3.cell? ⟨gb101, 2, none⟩ = some (.int .i64 a0_2) := (blk_cell BK101.out 2).trans rfl
        have hcz13_3 : w3.cell? ⟨gb101, 3, none⟩ = some (.bool a0_3) := (blk_cell BK101.out 3).trans rfl
        have hcz13_4 : w3.cell? ⟨gb101, 4, none⟩ = some (.slice A0_4 l0_4.length c0_4) := (blk_cell BK101.out 4).trans rfl
        have hfz13_0 := blk_frozen BK101.out 0
        have hfz13_1 := blk_frozen BK101.out 1
        have hfz13_2 := blk_frozen BK101.out 2
        have hfz13_3 := blk_frozen BK101.out 3
        have hfz13_4 := blk_frozen BK101.out 4
        go_wp2_with (first | ((with_reducible refine gate_callee (f := 41) rfl ?_); refine goesL_ (some 9) rfl rfl Try.func41 (by kernel_rfl) rfl #[.int .i64 a0_0, .int .i64 1, .int .i64 8] rfl (by (try simp only [List.map_toArray, List.map_cons, List.map_nil]); first | done | rfl | (simp only [List.length_drop, List.length_take]; rfl)) ?_; (with_reducible refine (sched_within.calls a0_0 1 8 true _ A4.out).mono ?_); rintro e w' ⟨rfl, ⟨nd, rfl⟩⟩; refine ⟨_, rfl, ?_⟩) | (go_at_call 41; (with_reducible refine (sched_within.calls a0_1 1 1000 false _ A6.out).mono ?_); rintro e w' ⟨rfl, ⟨nd, rfl⟩⟩))
        go_meet
        case rel => exact ⟨_, (true), (by first | rfl | (simp; done) | (simp [*]; done)), H', ⟨by first | omega | exact Nat.le_refl _⟩, ⟨by (with_reducible repeat (first | refine blk_drewN ?_ _ | refine blk_drew ?_ | refine blk_alloc ?_ _)); exact BK101.out⟩, ⟨by repeat (first | (with_reducible first | exact HB.out | apply below_alloc | apply pw_below_drewN | apply below_drew1 | refine below_set ?_ GE101.out) | exact HB.out)⟩⟩
    · replace c5 := Bool.eq_false_iff.mpr c5
      subst c5
      have H1 : (sched_Right.j0 k true a0_0 a0_1 a0_2 a0_3 l0_4) = some r := by rw [if_neg (show ¬ (false = true) by decide)] at H; exact H
      clear H
      have H := H1
      clear H1
      have H' := Aside0.mk H
      clear H
      have hcz14_0 : w3.cell? ⟨gb101, 0, none⟩ = some (.int .i64 a0_0) := (blk_cell BK101.out 0).trans rfl
      have hcz14_1 : w3.cell? ⟨gb101, 1, none⟩ = some (.int .i64 a0_1) := (blk_cell BK101.out 1).trans rfl
      have hcz14_2 : w3.cell? ⟨gb101, 2, none⟩ = some (.int .i64 a0_2) := (blk_cell BK101.out 2).trans rfl
      have hcz14_3 : w3.cell? ⟨gb101, 3, none⟩ = some (.bool a0_3) := (blk_cell BK101.out 3).trans rfl
      have hcz14_4 : w3.cell? ⟨gb101, 4, none⟩ = some (.slice A0_4 l0_4.length c0_4) := (blk_cell BK101.out 4).trans rfl
      have hfz14_0 := blk_frozen BK101.out 0
      have hfz14_1 := blk_frozen BK101.out 1
      have hfz14_2 := blk_frozen BK101.out 2
      have hfz14_3 := blk_frozen BK101.out 3
      have hfz14_4 := blk_frozen BK101.out 4
      go_wp2_with (first | ((with_reducible refine gate_callee (f := 41) rfl ?_); refine goesL_ (some 9) rfl rfl Try.func41 (by kernel_rfl) rfl #[.int .i64 a0_0, .int .i64 1, .int .i64 8] rfl (by (try simp only [List.map_toArray, List.map_cons, List.map_nil]); first | done | rfl | (simp only [List.length_drop, List.length_take]; rfl)) ?_; (with_reducible refine (sched_within.calls a0_0 1 8 false _ A4.out).mono ?_); rintro e w' ⟨rfl, ⟨nd, rfl⟩⟩; refine ⟨_, rfl, ?_⟩))
      go_meet
      case rel => exact ⟨_, (true), (by first | rfl | (simp; done) | (simp [*]; done)), H', ⟨by first | omega | exact Nat.le_refl _⟩, ⟨by (with_reducible repeat (first | refine blk_drewN ?_ _ | refine blk_drew ?_ | refine blk_alloc ?_ _)); exact BK101.out⟩, ⟨by repeat (first | (with_reducible first | exact HB.out | apply below_alloc | apply pw_below_drewN | apply below_drew1 | refine below_set ?_ GE101.out) | exact HB.out)⟩⟩
  case rest =>
    clear HC2
    try clear p2
    try clear c3
    try clear c4
    try clear c5
    try clear c7
    try clear c9
    try clear hcz11_0
    try clear hcz11_1
    try clear hcz11_2
    try clear hcz11_3
    try clear hcz11_4
    try clear hcz12_0
    try clear hcz12_1
    try clear hcz12_2
    try clear hcz12_3
    try clear hcz12_4
    try clear hcz13_0
    try clear hcz13_1
    try clear hcz13_2
    try clear hcz13_3
    try clear hcz13_4
    try clear hcz14_0
    try clear hcz14_1
    try clear hcz14_2
    try clear hcz14_3
    try clear hcz14_4
    try clear hfz11_0
    try clear hfz11_1
    try clear hfz11_2
    try clear hfz11_3
    try clear hfz11_4
    try clear hfz12_0
    try clear hfz12_1
    try clear hfz12_2
    try clear hfz12_3
    try clear hfz12_4
    try clear hfz13_0
    try clear hfz13_1
    try clear hfz13_2
    try clear hfz13_3
    try clear hfz13_4
    try clear hfz14_0
    try clear hfz14_1
    try clear hfz14_2
    try clear hfz14_3
    try clear hfz14_4
    obtain ⟨kq, x29_1, rfl, HA, HJ1, BK101, HB⟩ := hcut
    cases kq with
    | zero => exact absurd HA.out (by simp [sched_Right.j0])
    | succ kj1 =>
      have H := HA.out
      clear HA
      simp only [sched_Right.j0] at H
      by_cases c15 : x29_1 = true
      · subst c15
        have H1 : (some false) = some r := by rw [if_pos rfl] at H; exact H
        clear H
        have H := H1
        clear H1
        obtain rfl := Option.some.inj H
        go_wp2
        go_ret
        exact ⟨by first | rfl | (simp [errW_none, errW_some] <;> rfl) | (simp [*, errW_none, errW_some] <;> rfl), by repeat (first | (with_reducible first | exact HB.out | apply below_alloc | apply pw_below_drewN | apply below_drew1 | refine below_set ?_ GE101.out) | exact HB.out)⟩
      · replace c15 := Bool.eq_false_iff.mpr c15
        subst c15
        have H1 : (sched_Right.l0 kj1 0 0 l0_4 (l0_4.length : Int) 0 a0_0 a0_1 a0_2 a0_3 l0_4) = some r := by rw [if_neg (show ¬ (false = true) by decide)] at H; exact H
        clear H
        have H := H1
        clear H1
        have H' := Aside0.mk H
        clear H
        have hcz16_0 : wc.cell? ⟨gb101, 0, none⟩ = some (.int .i64 a0_0) := (blk_cell BK101.out 0).trans rfl
        have hcz16_1 : wc.cell? ⟨gb101, 1, none⟩ = some (.int .i64 a0_1) := (blk_cell BK101.out 1).trans rfl
        have hcz16_2 : wc.cell? ⟨gb101, 2, none⟩ = some (.int .i64 a0_2) := (blk_cell BK101.out 2).trans rfl
        have hcz16_3 : wc.cell? ⟨gb101, 3, none⟩ = some (.bool a0_3) := (blk_cell BK101.out 3).trans rfl
        have hcz16_4 : wc.cell? ⟨gb101, 4, none⟩ = some (.slice A0_4 l0_4.length c0_4) := (blk_cell BK101.out 4).trans rfl
        have hfz16_0 := blk_frozen BK101.out 0
        have hfz16_1 := blk_frozen BK101.out 1
        have hfz16_2 := blk_frozen BK101.out 2
        have hfz16_3 := blk_frozen BK101.out 3
        have hfz16_4 := blk_frozen BK101.out 4
        go_wp2
        go_loopg [3, 4, 33] kj1 (fun kq v3 v4 v33 w' => ∃ (x3_2 : Int) (x4_2 : Int) (x33_2 : Int), v3 = .int .i64 x3_2 ∧ v4 = .int .i64 x4_2 ∧ v33 = .int .i64 x33_2 ∧ Aside0 (sched_Right.l0 kq x3_2 x4_2 l0_4 (l0_4.length : Int) x33_2 a0_0 a0_1 a0_2 a0_3 l0_4 = some r) ∧ Aside0 (kq ≤ kj1) ∧ Aside0 (w'.heap[gb101]? = some (.cells #[.int .i64 a0_0, .int .i64 a0_1, .int .i64 a0_2, .bool a0_3, (.slice A0_4 l0_4.length c0_4)] 36 (0, 0))) ∧ Aside0 (Below w.heap.size w w'))
        case atStart => exact ⟨(0), (0), (0), (by first | rfl | (simp; done) | (simp [*]; done)), (by first | rfl | (simp; done) | (simp [*]; done)), (by first | rfl | (simp; done) | (simp [*]; done)), H', ⟨Nat.le_refl _⟩, ⟨by (with_reducible repeat (first | refine blk_drewN ?_ _ | refine blk_drew ?_ | refine blk_alloc ?_ _)); exact BK101.out⟩, ⟨by repeat (first | (with_reducible first | exact HB.out | apply below_alloc | apply pw_below_drewN | apply below_drew1 | refine below_set ?_ GE101.out) | exact HB.out)⟩⟩
        case round =>
          clear H'
          try clear c1
          try clear p2
          try clear c3
          try clear c4
          try clear c5
          try clear c7
          try clear c9
          try clear c15
          try clear hcz11_0
          try clear hcz11_1
          try clear hcz11_2
          try clear hcz11_3
          try clear hcz11_4
          try clear hcz12_0
          try clear hcz12_1
          try clear hcz12_2
          try clear hcz12_3
          try clear hcz12_4
          try clear hcz13_0
          try clear hcz13_1
          try clear hcz13_2
          try clear hcz13_3
          try clear hcz13_4
          try clear hcz14_0
          try clear hcz14_1
          try clear hcz14_2
          try clear hcz14_3
          try clear hcz14_4
          try clear hcz16_0
          try clear hcz16_1
          try clear hcz16_2
          try clear hcz16_3
          try clear hcz16_4
          try clear hfz11_0
          try clear hfz11_1
          try clear hfz11_2
          try clear hfz11_3
          try clear hfz11_4
          try clear hfz12_0
          try clear hfz12_1
          try clear hfz12_2
          try clear hfz12_3
          try clear hfz12_4
          try clear hfz13_0
          try clear hfz13_1
          try clear hfz13_2
          try clear hfz13_3
          try clear hfz13_4
          try clear hfz14_0
          try clear hfz14_1
          try clear hfz14_2
          try clear hfz14_3
          try clear hfz14_4
          try clear hfz16_0
          try clear hfz16_1
          try clear hfz16_2
          try clear hfz16_3
          try clear hfz16_4
          try clear p2
          obtain ⟨x3_2, x4_2, x33_2, rfl, rfl, rfl, HA, HK2, BK101, HB⟩ := hrel
          cases gk with
          | zero => exact absurd HA.out (by simp [sched_Right.l0])
          | succ k2 =>
            have H := HA.out
            clear HA
            simp only [sched_Right.l0] at H
            by_cases c17 : x33_2 < (l0_4.length : Int)
            · rw [if_pos c17] at H
              have c17b0 : decide (x33_2 < (l0_4.length : Int)) = true := decide_eq_true c17
              clear c17
              by_cases c18 : 0 ≤ x33_2
              · rw [if_pos c18] at H
                have c18b0 : decide (0 ≤ x33_2) = true := decide_eq_true c18
                clear c18
                by_cases c19 : x33_2 < (l0_4.length : Int)
                · rw [if_pos c19] at H
                  have c19b0 : decide (x33_2 < (l0_4.length : Int)) = true := decide_eq_true c19
                  clear c19
                  have HC20 := Aside0.mk H
                  clear H
                  have p106 : 0 ≤ (x33_2 : Int) := of_decide_eq_true (by first | (with_reducible assumption) | assumption)
                  have q106 : x33_2 < (l0_4.length : Int) := of_decide_eq_true (by first | (with_reducible assumption) | assumption)
                  obtain ⟨ad106, A106_3, c106_3, A106_4, c106_4, A106_5, c106_5, e106, hx106_0, hx106_1, hx106_2, hx106_3, hx106_4, hx106_5, hx106_6, hl106_3, hi106_3, hl106_4, hi106_4, hl106_5, hi106_5⟩ := at_T94 HR0_4.out x33_2 p106 q106
                  cases e106
                  replace hx106_0 := (HB.out.cell (World.block_lt_of_cell? w _ hx106_0)).trans hx106_0
                  replace hx106_1 := (HB.out.cell (World.block_lt_of_cell? w _ hx106_1)).trans hx106_1
                  replace hx106_2 := (HB.out.cell (World.block_lt_of_cell? w _ hx106_2)).trans hx106_2
                  replace hx106_3 := (HB.out.cell (World.block_lt_of_cell? w _ hx106_3)).trans hx106_3
                  replace hx106_4 := (HB.out.cell (World.block_lt_of_cell? w _ hx106_4)).trans hx106_4
                  replace hx106_5 := (HB.out.cell (World.block_lt_of_cell? w _ hx106_5)).trans hx106_5
                  replace hx106_6 := (HB.out.cell (World.block_lt_of_cell? w _ hx106_6)).trans hx106_6
                  have HR106_3 := Aside0.mk hi106_3
                  have HC106_3 := Aside0.mk hl106_3
                  clear hi106_3 hl106_3
                  have HR106_4 := Aside0.mk hi106_4
                  have HC106_4 := Aside0.mk hl106_4
                  clear hi106_4 hl106_4
                  have HR106_5 := Aside0.mk hi106_5
                  have HC106_5 := Aside0.mk hl106_5
                  clear hi106_5 hl106_5
                  replace p106 := eq_true p106
                  replace q106 := eq_true q106
                  go_upto_region 7 with (first | ((with_reducible refine gate_dst (N := 6) rfl ?_); (try (refine gate_guard (by rfl) ?_; dsimp only)); refine box_event ?hg (N := 6) ?hd (cs := #[.int .i64 0, .int .i64 0, .int .i64 0, .slice none 0 0, .slice none 0 0, .slice none 0 0, .bool false]) (t := 94) ?hr ?_; (case hd => rfl); (case hg => rfl); (case hr => first | (go_simp; done) | (go_simp; rfl)); intro gb107 hg w21 hbox hb; have n0_ := Aside0.mk (blk_below (g := gb101) (o := .cells #[.int .i64 a0_0, .int .i64 a0_1, .int .i64 a0_2, .bool a0_3, .slice (some ad106) l0_4.length c0_4] 36 (0, 0)) (by (with_reducible repeat (first | refine blk_drewN ?_ _ | refine blk_drew ?_ | refine blk_alloc ?_ _)); exact BK101.out) hb); have n1_ := Aside0.mk (below_step (by repeat (first | (with_reducible first | exact HB.out | apply below_alloc | apply pw_below_drewN | apply below_drew1 | refine below_set ?_ GE101.out) | exact HB.out)) hb); have n2_ := Aside0.mk (hbox); have n3_ := Aside0.mk ((by rw [hg]; exact (below_size (by repeat (first | (with_reducible first | exact HB.out | apply below_alloc | apply pw_below_drewN | apply below_drew1 | refine below_set ?_ GE101.out) | exact HB.out))) : w.heap.size ≤ gb107)); have n4_ := Aside0.mk ((by rw [hg]; exact (below_size (by repeat (first | (with_reducible first | exact HB.out | apply below_alloc | apply pw_below_drewN | apply below_drew1 | refine below_set ?_ GE101.out) | exact HB.out))) : w.heap.size ≤ gb107)); have n5_ := Aside0.mk ((by rw [hg]; exact Nat.ne_of_lt (blk_lt (g := gb101) (o := .cells #[.int .i64 a0_0, .int .i64 a0_1, .int .i64 a0_2, .bool a0_3, .slice (some ad106) l0_4.length c0_4] 36 (0, 0)) (by (with_reducible repeat (first | refine blk_drewN ?_ _ | refine blk_drew ?_ | refine blk_alloc ?_ _)); exact BK101.out)) : gb101 ≠ gb107)); have n6_ := Aside0.mk ((by rw [hg]; exact Nat.ne_of_gt (blk_lt (g := gb101) (o := .cells #[.int .i64 a0_0, .int .i64 a0_1, .int .i64 a0_2, .bool a0_3, .slice (some ad106) l0_4.length c0_4] 36 (0, 0)) (by (with_reducible repeat (first | refine blk_drewN ?_ _ | refine blk_drew ?_ | refine blk_alloc ?_ _)); exact BK101.out)) : gb107 ≠ gb101)); clear BK101; clear HB; have BK101 := n0_; have HB := n1_; have BK107 := n2_; have GW107 := n3_; have GE107 := n4_; have NB101_107 := n5_; have NB107_101 := n6_; clear n0_ n1_ n2_ n3_ n4_ n5_ n6_; clear hb hbox hg; have hnb22 := NB107_101.out; have hnc22 := NB101_107.out; have hcz23_0 : w21.cell? ⟨gb107, 0, none⟩ = some (.int .i64 0) := (blk_cell BK107.out 0).trans rfl; have hcz23_1 : w21.cell? ⟨gb107, 1, none⟩ = some (.int .i64 0) := (blk_cell BK107.out 1).trans rfl; have hcz23_2 : w21.cell? ⟨gb107, 2, none⟩ = some (.int .i64 0) := (blk_cell BK107.out 2).trans rfl; have hcz23_3 : w21.cell? ⟨gb107, 3, none⟩ = some (.slice none 0 0) := (blk_cell BK107.out 3).trans rfl; have hcz23_4 : w21.cell? ⟨gb107, 4, none⟩ = some (.slice none 0 0) := (blk_cell BK107.out 4).trans rfl; have hcz23_5 : w21.cell? ⟨gb107, 5, none⟩ = some (.slice none 0 0) := (blk_cell BK107.out 5).trans rfl; have hcz23_6 : w21.cell? ⟨gb107, 6, none⟩ = some (.bool false) := (blk_cell BK107.out 6).trans rfl; have hfz23_0 := blk_frozen BK107.out 0; have hfz23_1 := blk_frozen BK107.out 1; have hfz23_2 := blk_frozen BK107.out 2; have hfz23_3 := blk_frozen BK107.out 3; have hfz23_4 := blk_frozen BK107.out 4; have hfz23_5 := blk_frozen BK107.out 5; have hfz23_6 := blk_frozen BK107.out 6))
                  (try simp only [Act.put, List.setIfInBounds_toArray, List.set_cons_zero, List.set_cons_succ])
                  go_cut [57] (fun v57 wc => ∃ (kq : Nat) (x57_19 : Bool), v57 = .bool x57_19 ∧ Aside0 (sched_Right.j2 kq x3_2 x4_2 l0_4 (l0_4.length : Int) x33_2 x57_19 a0_0 a0_1 a0_2 a0_3 l0_4 ((rd_T94 l0_4 x33_2).f0) ((rd_T94 l0_4 x33_2).f1) ((rd_T94 l0_4 x33_2).f2) ((rd_T94 l0_4 x33_2).f3) ((rd_T94 l0_4 x33_2).f4) ((rd_T94 l0_4 x33_2).f5) ((rd_T94 l0_4 x33_2).f6) = some r) ∧ Aside0 (kq ≤ k2) ∧ Aside0 (wc.heap[gb101]? = some (.cells #[.int .i64 a0_0, .int .i64 a0_1, .int .i64 a0_2, .bool a0_3, (.slice (some ad106) l0_4.length c0_4)] 36 (0, 0))) ∧ Aside0 (wc.heap[gb107]? = some (.cells #[.int .i64 ((rd_T94 l0_4 x33_2).f0), .int .i64 ((rd_T94 l0_4 x33_2).f1), .int .i64 ((rd_T94 l0_4 x33_2).f2), (.slice A106_3 ((rd_T94 l0_4 x33_2).f3).length c106_3), (.slice A106_4 ((rd_T94 l0_4 x33_2).f4).length c106_4), (.slice A106_5 ((rd_T94 l0_4 x33_2).f5).length c106_5), .bool ((rd_T94 l0_4 x33_2).f6)] 94 (0, 0))) ∧ Aside0 (Below w.heap.size w wc))
                  case first =>
                    have H := HC20.out
                    clear HC20
                    replace H := Option.bind_eq_some_iff.mp H
                    obtain ⟨t108, A240, H⟩ := H
                    replace H : (if t108 = true then ((sched_within.f ((rd_T94 l0_4 x33_2).f2) 1 1000).bind fun t109 => (if t109 = true then (if (rd_T94 l0_4 x33_2).f6 = true then (sched_Right.j2 k2 x3_2 x4_2 l0_4 (l0_4.length : Int) x33_2 (decide (((rd_T94 l0_4 x33_2).f0) > a0_0)) a0_0 a0_1 a0_2 a0_3 l0_4 ((rd_T94 l0_4 x33_2).f0) ((rd_T94 l0_4 x33_2).f1) ((rd_T94 l0_4 x33_2).f2) ((rd_T94 l0_4 x33_2).f3) ((rd_T94 l0_4 x33_2).f4) ((rd_T94 l0_4 x33_2).f5) ((rd_T94 l0_4 x33_2).f6)) else (sched_Right.j2 k2 x3_2 x4_2 l0_4 (l0_4.length : Int) x33_2 false a0_0 a0_1 a0_2 a0_3 l0_4 ((rd_T94 l0_4 x33_2).f0) ((rd_T94 l0_4 x33_2).f1) ((rd_T94 l0_4 x33_2).f2) ((rd_T94 l0_4 x33_2).f3) ((rd_T94 l0_4 x33_2).f4) ((rd_T94 l0_4 x33_2).f5) ((rd_T94 l0_4 x33_2).f6))) else (sched_Right.j2 k2 x3_2 x4_2 l0_4 (l0_4.length : Int) x33_2 true a0_0 a0_1 a0_2 a0_3 l0_4 ((rd_T94 l0_4 x33_2).f0) ((rd_T94 l0_4 x33_2).f1) ((rd_T94 l0_4 x33_2).f2) ((rd_T94 l0_4 x33_2).f3) ((rd_T94 l0_4 x33_2).f4) ((rd_T94 l0_4 x33_2).f5) ((rd_T94 l0_4 x33_2).f6)))) else (sched_Right.j2 k2 x3_2 x4_2 l0_4 (l0_4.length : Int) x33_2 true a0_0 a0_1 a0_2 a0_3 l0_4 ((rd_T94 l0_4 x33_2).f0) ((rd_T94 l0_4 x33_2).f1) ((rd_T94 l0_4 x33_2).f2) ((rd_T94 l0_4 x33_2).f3) ((rd_T94 l0_4 x33_2).f4) ((rd_T94 l0_4 x33_2).f5) ((rd_T94 l0_4 x33_2).f6))) = some r := H
                    have A24 := Aside0.mk A240
                    clear A240
                    by_cases c25 : t108 = true
                    · subst c25
                      have H1 : ((sched_within.f ((rd_T94 l0_4 x33_2).f2) 1 1000).bind fun t109 => (if t109 = true then (if (rd_T94 l0_4 x33_2).f6 = true then (sched_Right.j2 k2 x3_2 x4_2 l0_4 (l0_4.length : Int) x33_2 (decide (((rd_T94 l0_4 x33_2).f0) > a0_0)) a0_0 a0_1 a0_2 a0_3 l0_4 ((rd_T94 l0_4 x33_2).f0) ((rd_T94 l0_4 x33_2).f1) ((rd_T94 l0_4 x33_2).f2) ((rd_T94 l0_4 x33_2).f3) ((rd_T94 l0_4 x33_2).f4) ((rd_T94 l0_4 x33_2).f5) ((rd_T94 l0_4 x33_2).f6)) else (sched_Right.j2 k2 x3_2 x4_2 l0_4 (l0_4.length : Int) x33_2 false a0_0 a0_1 a0_2 a0_3 l0_4 ((rd_T94 l0_4 x33_2).f0) ((rd_T94 l0_4 x33_2).f1) ((rd_T94 l0_4 x33_2).f2) ((rd_T94 l0_4 x33_2).f3) ((rd_T94 l0_4 x33_2).f4) ((rd_T94 l0_4 x33_2).f5) ((rd_T94 l0_4 x33_2).f6))) else (sched_Right.j2 k2 x3_2 x4_2 l0_4 (l0_4.length : Int) x33_2 true a0_0 a0_1 a0_2 a0_3 l0_4 ((rd_T94 l0_4 x33_2).f0) ((rd_T94 l0_4 x33_2).f1) ((rd_T94 l0_4 x33_2).f2) ((rd_T94 l0_4 x33_2).f3) ((rd_T94 l0_4 x33_2).f4) ((rd_T94 l0_4 x33_2).f5) ((rd_T94 l0_4 x33_2).f6)))) = some r := by rw [if_pos rfl] at H; exact H
                      clear H
                      have H := H1
                      clear H1
                      replace H := Option.bind_eq_some_iff.mp H
                      obtain ⟨t109, A260, H⟩ := H
                      replace H : (if t109 = true then (if (rd_T94 l0_4 x33_2).f6 = true then (sched_Right.j2 k2 x3_2 x4_2 l0_4 (l0_4.length : Int) x33_2 (decide (((rd_T94 l0_4 x33_2).f0) > a0_0)) a0_0 a0_1 a0_2 a0_3 l0_4 ((rd_T94 l0_4 x33_2).f0) ((rd_T94 l0_4 x33_2).f1) ((rd_T94 l0_4 x33_2).f2) ((rd_T94 l0_4 x33_2).f3) ((rd_T94 l0_4 x33_2).f4) ((rd_T94 l0_4 x33_2).f5) ((rd_T94 l0_4 x33_2).f6)) else (sched_Right.j2 k2 x3_2 x4_2 l0_4 (l0_4.length : Int) x33_2 false a0_0 a0_1 a0_2 a0_3 l0_4 ((rd_T94 l0_4 x33_2).f0) ((rd_T94 l0_4 x33_2).f1) ((rd_T94 l0_4 x33_2).f2) ((rd_T94 l0_4 x33_2).f3) ((rd_T94 l0_4 x33_2).f4) ((rd_T94 l0_4 x33_2).f5) ((rd_T94 l0_4 x33_2).f6))) else (sched_Right.j2 k2 x3_2 x4_2 l0_4 (l0_4.length : Int) x33_2 true a0_0 a0_1 a0_2 a0_3 l0_4 ((rd_T94 l0_4 x33_2).f0) ((rd_T94 l0_4 x33_2).f1) ((rd_T94 l0_4 x33_2).f2) ((rd_T94 l0_4 x33_2).f3) ((rd_T94 l0_4 x33_2).f4) ((rd_T94 l0_4 x33_2).f5) ((rd_T94 l0_4 x33_2).f6))) = some r := H
                      have A26 := Aside0.mk A260
                      clear A260
                      by_cases c27 : t109 = true
                      · subst c27
                        have H1 : (if (rd_T94 l0_4 x33_2).f6 = true then (sched_Right.j2 k2 x3_2 x4_2 l0_4 (l0_4.length : Int) x33_2 (decide (((rd_T94 l0_4 x33_2).f0) > a0_0)) a0_0 a0_1 a0_2 a0_3 l0_4 ((rd_T94 l0_4 x33_2).f0) ((rd_T94 l0_4 x33_2).f1) ((rd_T94 l0_4 x33_2).f2) ((rd_T94 l0_4 x33_2).f3) ((rd_T94 l0_4 x33_2).f4) ((rd_T94 l0_4 x33_2).f5) ((rd_T94 l0_4 x33_2).f6)) else (sched_Right.j2 k2 x3_2 x4_2 l0_4 (l0_4.length : Int) x33_2 false a0_0 a0_1 a0_2 a0_3 l0_4 ((rd_T94 l0_4 x33_2).f0) ((rd_T94 l0_4 x33_2).f1) ((rd_T94 l0_4 x33_2).f2) ((rd_T94 l0_4 x33_2).f3) ((rd_T94 l0_4 x33_2).f4) ((rd_T94 l0_4 x33_2).f5) ((rd_T94 l0_4 x33_2).f6))) = some r := by rw [if_pos rfl] at H; exact H
                        clear H
                        have H := H1
                        clear H1
                        obtain ⟨bq28, hbq28⟩ : ∃ b_ : Bool, b_ = ((rd_T94 l0_4 x33_2).f6) := ⟨_, rfl⟩
                        replace H : (if bq28 = true then (sched_Right.j2 k2 x3_2 x4_2 l0_4 (l0_4.length : Int) x33_2 (decide (((rd_T94 l0_4 x33_2).f0) > a0_0)) a0_0 a0_1 a0_2 a0_3 l0_4 ((rd_T94 l0_4 x33_2).f0) ((rd_T94 l0_4 x33_2).f1) ((rd_T94 l0_4 x33_2).f2) ((rd_T94 l0_4 x33_2).f3) ((rd_T94 l0_4 x33_2).f4) ((rd_T94 l0_4 x33_2).f5) bq28) else (sched_Right.j2 k2 x3_2 x4_2 l0_4 (l0_4.length : Int) x33_2 false a0_0 a0_1 a0_2 a0_3 l0_4 ((rd_T94 l0_4 x33_2).f0) ((rd_T94 l0_4 x33_2).f1) ((rd_T94 l0_4 x33_2).f2) ((rd_T94 l0_4 x33_2).f3) ((rd_T94 l0_4 x33_2).f4) ((rd_T94 l0_4 x33_2).f5) bq28)) = some r := by rw [← hbq28] at H; exact H
                        have Nbq28 := Aside0.mk hbq28
                        clear hbq28
                        (try rw [← Nbq28.out])
                        by_cases c29 : bq28 = true
                        · subst c29
                          have H1 : (sched_Right.j2 k2 x3_2 x4_2 l0_4 (l0_4.length : Int) x33_2 (decide (((rd_T94 l0_4 x33_2).f0) > a0_0)) a0_0 a0_1 a0_2 a0_3 l0_4 ((rd_T94 l0_4 x33_2).f0) ((rd_T94 l0_4 x33_2).f1) ((rd_T94 l0_4 x33_2).f2) ((rd_T94 l0_4 x33_2).f3) ((rd_T94 l0_4 x33_2).f4) ((rd_T94 l0_4 x33_2).f5) true) = some r := by rw [if_pos rfl] at H; exact H
                          clear H
                          have H := H1
                          clear H1
                          have H' := Aside0.mk H
                          clear H
                          have hnb30 := NB107_101.out
                          have hnc30 := NB101_107.out
                          have hcz31_0 : w21.cell? ⟨gb107, 0, none⟩ = some (.int .i64 0) := (blk_cell BK107.out 0).trans rfl
                          have hcz31_1 : w21.cell? ⟨gb107, 1, none⟩ = some (.int .i64 0) := (blk_cell BK107.out 1).trans rfl
                          have hcz31_2 : w21.cell? ⟨gb107, 2, none⟩ = some (.int .i64 0) := (blk_cell BK107.out 2).trans rfl
                          have hcz31_3 : w21.cell? ⟨gb107, 3, none⟩ = some (.slice none 0 0) := (blk_cell BK107.out 3).trans rfl
                          have hcz31_4 : w21.cell? ⟨gb107, 4, none⟩ = some (.slice none 0 0) := (blk_cell BK107.out 4).trans rfl
                          have hcz31_5 : w21.cell? ⟨gb107, 5, none⟩ = some (.slice none 0 0) := (blk_cell BK107.out 5).trans rfl
                          have hcz31_6 : w21.cell? ⟨gb107, 6, none⟩ = some (.bool false) := (blk_cell BK107.out 6).trans rfl
                          have hfz31_0 := blk_frozen BK107.out 0
                          have hfz31_1 := blk_frozen BK107.out 1
                          have hfz31_2 := blk_frozen BK107.out 2
                          have hfz31_3 := blk_frozen BK107.out 3
                          have hfz31_4 := blk_frozen BK107.out 4
                          have hfz31_5 := blk_frozen BK107.out 5
                          have hfz31_6 := blk_frozen BK107.out 6
                          go_wp2_with (first | ((with_reducible refine gate_callee (f := 41) rfl ?_); refine goesL_ (some 39) rfl rfl Try.func41 (by kernel_rfl) rfl #[.int .i64 ((rd_T94 l0_4 x33_2).f0), .int .i64 1, .int .i64 64] rfl (by (try simp only [List.map_toArray, List.map_cons, List.map_nil]); first | done | rfl | (simp only [List.length_drop, List.length_take]; rfl)) ?_; (with_reducible refine (sched_within.calls ((rd_T94 l0_4 x33_2).f0) 1 64 true _ A24.out).mono ?_); rintro e w' ⟨rfl, ⟨nd, rfl⟩⟩; refine ⟨_, rfl, ?_⟩) | (go_at_call 41; (with_reducible refine (sched_within.calls ((rd_T94 l0_4 x33_2).f2) 1 1000 true _ A26.out).mono ?_); rintro e w' ⟨rfl, ⟨nd, rfl⟩⟩; have hcz32_0 : w21.cell? ⟨gb101, 0, none⟩ = some (.int .i64 a0_0) := (blk_cell BK101.out 0).trans rfl; have hcz32_1 : w21.cell? ⟨gb101, 1, none⟩ = some (.int .i64 a0_1) := (blk_cell BK101.out 1).trans rfl; have hcz32_2 : w21.cell? ⟨gb101, 2, none⟩ = some (.int .i64 a0_2) := (blk_cell BK101.out 2).trans rfl; have hcz32_3 : w21.cell? ⟨gb101, 3, none⟩ = some (.bool a0_3) := (blk_cell BK101.out 3).trans rfl; have hcz32_4 : w21.cell? ⟨gb101, 4, none⟩ = some (.slice (some ad106) l0_4.length c0_4) := (blk_cell BK101.out 4).trans rfl; have hfz32_0 := blk_frozen BK101.out 0; have hfz32_1 := blk_frozen BK101.out 1; have hfz32_2 := blk_frozen BK101.out 2; have hfz32_3 := blk_frozen BK101.out 3; have hfz32_4 := blk_frozen BK101.out 4))
                          go_meet
                          case rel => rw [← Nbq28.out]; exact ⟨_, (decide (((rd_T94 l0_4 x33_2).f0) > a0_0)), (by first | rfl | (simp; done) | (simp [*]; done)), H', ⟨by have := HJ1.out; have := HK2.out; first | omega | exact Nat.le_refl _⟩, ⟨by (with_reducible repeat (first | refine blk_drewN ?_ _ | refine blk_drew ?_ | refine blk_alloc ?_ _)); refine blk_far ?_ NB101_107.out _; (with_reducible repeat (first | refine blk_drewN ?_ _ | refine blk_drew ?_ | refine blk_alloc ?_ _)); refine blk_far ?_ NB101_107.out _; (with_reducible repeat (first | refine blk_drewN ?_ _ | refine blk_drew ?_ | refine blk_alloc ?_ _)); refine blk_far ?_ NB101_107.out _; (with_reducible repeat (first | refine blk_drewN ?_ _ | refine blk_drew ?_ | refine blk_alloc ?_ _)); refine blk_far ?_ NB101_107.out _; (with_reducible repeat (first | refine blk_drewN ?_ _ | refine blk_drew ?_ | refine blk_alloc ?_ _)); refine blk_far ?_ NB101_107.out _; (with_reducible repeat (first | refine blk_drewN ?_ _ | refine blk_drew ?_ | refine blk_alloc ?_ _)); refine blk_far ?_ NB101_107.out _; (with_reducible repeat (first | refine blk_drewN ?_ _ | refine blk_drew ?_ | refine blk_alloc ?_ _)); refine blk_far ?_ NB101_107.out _; (with_reducible repeat (first | refine blk_drewN ?_ _ | refine blk_drew ?_ | refine blk_alloc ?_ _)); exact BK101.out⟩, ⟨by (with_reducible repeat (first | refine blk_drewN ?_ _ | refine blk_drew ?_ | refine blk_alloc ?_ _)); refine blk_put (cs := #[.int .i64 ((rd_T94 l0_4 x33_2).f0), .int .i64 ((rd_T94 l0_4 x33_2).f1), .int .i64 ((rd_T94 l0_4 x33_2).f2), .slice A106_3 ((rd_T94 l0_4 x33_2).f3).length c106_3, .slice A106_4 ((rd_T94 l0_4 x33_2).f4).length c106_4, .slice A106_5 ((rd_T94 l0_4 x33_2).f5).length c106_5, .bool false]) ?_ 6 _ rfl; (with_reducible repeat (first | refine blk_drewN ?_ _ | refine blk_drew ?_ | refine blk_alloc ?_ _)); refine blk_put (cs := #[.int .i64 ((rd_T94 l0_4 x33_2).f0), .int .i64 ((rd_T94 l0_4 x33_2).f1), .int .i64 ((rd_T94 l0_4 x33_2).f2), .slice A106_3 ((rd_T94 l0_4 x33_2).f3).length c106_3, .slice A106_4 ((rd_T94 l0_4 x33_2).f4).length c106_4, .slice none 0 0, .bool false]) ?_ 5 _ rfl; (with_reducible repeat (first | refine blk_drewN ?_ _ | refine blk_drew ?_ | refine blk_alloc ?_ _)); refine blk_put (cs := #[.int .i64 ((rd_T94 l0_4 x33_2).f0), .int .i64 ((rd_T94 l0_4 x33_2).f1), .int .i64 ((rd_T94 l0_4 x33_2).f2), .slice A106_3 ((rd_T94 l0_4 x33_2).f3).length c106_3, .slice none 0 0, .slice none 0 0, .bool false]) ?_ 4 _ rfl; (with_reducible repeat (first | refine blk_drewN ?_ _ | refine blk_drew ?_ | refine blk_alloc ?_ _)); refine blk_put (cs := #[.int .i64 ((rd_T94 l0_4 x33_2).f0), .int .i64 ((rd_T94 l0_4 x33_2).f1), .int .i64 ((rd_T94 l0_4 x33_2).f2), .slice none 0 0, .slice none 0 0, .slice none 0 0, .bool false]) ?_ 3 _ rfl; (with_reducible repeat (first | refine blk_drewN ?_ _ | refine blk_drew ?_ | refine blk_alloc ?_ _)); refine blk_put (cs := #[.int .i64 ((rd_T94 l0_4 x33_2).f0), .int .i64 ((rd_T94 l0_4 x33_2).f1), .int .i64 0, .slice none 0 0, .slice none 0 0, .slice none 0 0, .bool false]) ?_ 2 _ rfl; (with_reducible repeat (first | refine blk_drewN ?_ _ | refine blk_drew ?_ | refine blk_alloc ?_ _)); refine blk_put (cs := #[.int .i64 ((rd_T94 l0_4 x33_2).f0), .int .i64 0, .int .i64 0, .slice none 0 0, .slice none 0 0, .slice none 0 0, .bool false]) ?_ 1 _ rfl; (with_reducible repeat (first | refine blk_drewN ?_ _ | refine blk_drew ?_ | refine blk_alloc ?_ _)); refine blk_put (cs := #[.int .i64 0, .int .i64 0, .int .i64 0, .slice none 0 0, .slice none 0 0, .slice none 0 0, .bool false]) ?_ 0 _ rfl; (with_reducible repeat (first | refine blk_drewN ?_ _ | refine blk_drew ?_ | refine blk_alloc ?_ _)); exact BK107.out⟩, ⟨by repeat (first | (with_reducible first | exact HB.out | apply below_alloc | apply pw_below_drewN | apply below_drew1 | refine below_set ?_ GE101.out | refine below_set ?_ GE107.out) | exact HB.out)⟩⟩
                        · replace c29 := Bool.eq_false_iff.mpr c29
                          subst c29
                          have H1 : (sched_Right.j2 k2 x3_2 x4_2 l0_4 (l0_4.length : Int) x33_2 false a0_0 a0_1 a0_2 a0_3 l0_4 ((rd_T94 l0_4 x33_2).f0) ((rd_T94 l0_4 x33_2).f1) ((rd_T94 l0_4 x33_2).f2) ((rd_T94 l0_4 x33_2).f3) ((rd_T94 l0_4 x33_2).f4) ((rd_T94 l0_4 x33_2).f5) false) = some r := by rw [if_neg (show ¬ (false = true) by decide)] at H; exact H
                          clear H
                          have H := H1
                          clear H1
                          have H' := Aside0.mk H
                          clear H
                          have hnb33 := NB107_101.out
                          have hnc33 := NB101_107.out
                          have hcz34_0 : w21.cell? ⟨gb107, 0, none⟩ = some (.int .i64 0) := (blk_cell BK107.out 0).trans rfl
                          have hcz34_1 : w21.cell? ⟨gb107, 1, none⟩ = some (.int .i64 0) := (blk_cell BK107.out 1).trans rfl
                          have hcz34_2 : w21.cell? ⟨gb107, 2, none⟩ = some (.int .i64 0) := (blk_cell BK107.out 2).trans rfl
                          have hcz34_3 : w21.cell? ⟨gb107, 3, none⟩ = some (.slice none 0 0) := (blk_cell BK107.out 3).trans rfl
                          have hcz34_4 : w21.cell? ⟨gb107, 4, none⟩ = some (.slice none 0 0) := (blk_cell BK107.out 4).trans rfl
                          have hcz34_5 : w21.cell? ⟨gb107, 5, none⟩ = some (.slice none 0 0) := (blk_cell BK107.out 5).trans rfl
                          have hcz34_6 : w21.cell? ⟨gb107, 6, none⟩ = some (.bool false) := (blk_cell BK107.out 6).trans rfl
                          have hfz34_0 := blk_frozen BK107.out 0
                          have hfz34_1 := blk_frozen BK107.out 1
                          have hfz34_2 := blk_frozen BK107.out 2
                          have hfz34_3 := blk_frozen BK107.out 3
                          have hfz34_4 := blk_frozen BK107.out 4
                          have hfz34_5 := blk_frozen BK107.out 5
                          have hfz34_6 := blk_frozen BK107.out 6
                          go_wp2_with (first | ((with_reducible refine gate_callee (f := 41) rfl ?_); refine goesL_ (some 39) rfl rfl Try.func41 (by kernel_rfl) rfl #[.int .i64 ((rd_T94 l0_4 x33_2).f0), .int .i64 1, .int .i64 64] rfl (by (try simp only [List.map_toArray, List.map_cons, List.map_nil]); first | done | rfl | (simp only [List.length_drop, List.length_take]; rfl)) ?_; (with_reducible refine (sched_within.calls ((rd_T94 l0_4 x33_2).f0) 1 64 true _ A24.out).mono ?_); rintro e w' ⟨rfl, ⟨nd, rfl⟩⟩; refine ⟨_, rfl, ?_⟩) | (go_at_call 41; (with_reducible refine (sched_within.calls ((rd_T94 l0_4 x33_2).f2) 1 1000 true _ A26.out).mono ?_); rintro e w' ⟨rfl, ⟨nd, rfl⟩⟩))
                          go_meet
                          case rel => (try rw [← Nbq28.out]); exact ⟨_, (false), (by first | rfl | (simp; done) | (simp [*]; done)), H', ⟨by have := HJ1.out; have := HK2.out; first | omega | exact Nat.le_refl _⟩, ⟨by (with_reducible repeat (first | refine blk_drewN ?_ _ | refine blk_drew ?_ | refine blk_alloc ?_ _)); refine blk_far ?_ NB101_107.out _; (with_reducible repeat (first | refine blk_drewN ?_ _ | refine blk_drew ?_ | refine blk_alloc ?_ _)); refine blk_far ?_ NB101_107.out _; (with_reducible repeat (first | refine blk_drewN ?_ _ | refine blk_drew ?_ | refine blk_alloc ?_ _)); refine blk_far ?_ NB101_107.out _; (with_reducible repeat (first | refine blk_drewN ?_ _ | refine blk_drew ?_ | refine blk_alloc ?_ _)); refine blk_far ?_ NB101_107.out _; (with_reducible repeat (first | refine blk_drewN ?_ _ | refine blk_drew ?_ | refine blk_alloc ?_ _)); refine blk_far ?_ NB101_107.out _; (with_reducible repeat (first | refine blk_drewN ?_ _ | refine blk_drew ?_ | refine blk_alloc ?_ _)); refine blk_far ?_ NB101_107.out _; (with_reducible repeat (first | refine blk_drewN ?_ _ | refine blk_drew ?_ | refine blk_alloc ?_ _)); refine blk_far ?_ NB101_107.out _; (with_reducible repeat (first | refine blk_drewN ?_ _ | refine blk_drew ?_ | refine blk_alloc ?_ _)); exact BK101.out⟩, ⟨by (with_reducible repeat (first | refine blk_drewN ?_ _ | refine blk_drew ?_ | refine blk_alloc ?_ _)); refine blk_put (cs := #[.int .i64 ((rd_T94 l0_4 x33_2).f0), .int .i64 ((rd_T94 l0_4 x33_2).f1), .int .i64 ((rd_T94 l0_4 x33_2).f2), .slice A106_3 ((rd_T94 l0_4 x33_2).f3).length c106_3, .slice A106_4 ((rd_T94 l0_4 x33_2).f4).length c106_4, .slice A106_5 ((rd_T94 l0_4 x33_2).f5).length c106_5, .bool false]) ?_ 6 _ rfl; (with_reducible repeat (first | refine blk_drewN ?_ _ | refine blk_drew ?_ | refine blk_alloc ?_ _)); refine blk_put (cs := #[.int .i64 ((rd_T94 l0_4 x33_2).f0), .int .i64 ((rd_T94 l0_4 x33_2).f1), .int .i64 ((rd_T94 l0_4 x33_2).f2), .slice A106_3 ((rd_T94 l0_4 x33_2).f3).length c106_3, .slice A106_4 ((rd_T94 l0_4 x33_2).f4).length c106_4, .slice none 0 0, .bool false]) ?_ 5 _ rfl; (with_reducible repeat (first | refine blk_drewN ?_ _ | refine blk_drew ?_ | refine blk_alloc ?_ _)); refine blk_put (cs := #[.int .i64 ((rd_T94 l0_4 x33_2).f0), .int .i64 ((rd_T94 l0_4 x33_2).f1), .int .i64 ((rd_T94 l0_4 x33_2).f2), .slice A106_3 ((rd_T94 l0_4 x33_2).f3).length c106_3, .slice none 0 0, .slice none 0 0, .bool false]) ?_ 4 _ rfl; (with_reducible repeat (first | refine blk_drewN ?_ _ | refine blk_drew ?_ | refine blk_alloc ?_ _)); refine blk_put (cs := #[.int .i64 ((rd_T94 l0_4 x33_2).f0), .int .i64 ((rd_T94 l0_4 x33_2).f1), .int .i64 ((rd_T94 l0_4 x33_2).f2), .slice none 0 0, .slice none 0 0, .slice none 0 0, .bool false]) ?_ 3 _ rfl; (with_reducible repeat (first | refine blk_drewN ?_ _ | refine blk_drew ?_ | refine blk_alloc ?_ _)); refine blk_put (cs := #[.int .i64 ((rd_T94 l0_4 x33_2).f0), .int .i64 ((rd_T94 l0_4 x33_2).f1), .int .i64 0, .slice none 0 0, .slice none 0 0, .slice none 0 0, .bool false]) ?_ 2 _ rfl; (with_reducible repeat (first | refine blk_drewN ?_ _ | refine blk_drew ?_ | refine blk_alloc ?_ _)); refine blk_put (cs := #[.int .i64 ((rd_T94 l0_4 x33_2).f0), .int .i64 0, .int .i64 0, .slice none 0 0, .slice none 0 0, .slice none 0 0, .bool false]) ?_ 1 _ rfl; (with_reducible repeat (first | refine blk_drewN ?_ _ | refine blk_drew ?_ | refine blk_alloc ?_ _)); refine blk_put (cs := #[.int .i64 0, .int .i64 0, .int .i64 0, .slice none 0 0, .slice none 0 0, .slice none 0 0, .bool false]) ?_ 0 _ rfl; (with_reducible repeat (first | refine blk_drewN ?_ _ | refine blk_drew ?_ | refine blk_alloc ?_ _)); exact BK107.out⟩, ⟨by repeat (first | (with_reducible first | exact HB.out | apply below_alloc | apply pw_below_drewN | apply below_drew1 | refine below_set ?_ GE101.out | refine below_set ?_ GE107.out) | exact HB.out)⟩⟩
                      · replace c27 := Bool.eq_false_iff.mpr c27
                        subst c27
                        have H1 : (sched_Right.j2 k2 x3_2 x4_2 l0_4 (l0_4.length : Int) x33_2 true a0_0 a0_1 a0_2 a0_3 l0_4 ((rd_T94 l0_4 x33_2).f0) ((rd_T94 l0_4 x33_2).f1) ((rd_T94 l0_4 x33_2).f2) ((rd_T94 l0_4 x33_2).f3) ((rd_T94 l0_4 x33_2).f4) ((rd_T94 l0_4 x33_2).f5) ((rd_T94 l0_4 x33_2).f6)) = some r := by rw [if_neg (show ¬ (false = true) by decide)] at H; exact H
                        clear H
                        have H := H1
                        clear H1
                        have H' := Aside0.mk H
                        clear H
                        have hnb35 := NB107_101.out
                        have hnc35 := NB101_107.out
                        have hcz36_0 : w21.cell? ⟨gb107, 0, none⟩ = some (.int .i64 0) := (blk_cell BK107.out 0).trans rfl
                        have hcz36_1 : w21.cell? ⟨gb107, 1, none⟩ = some (.int .i64 0) := (blk_cell BK107.out 1).trans rfl
                        have hcz36_2 : w21.cell? ⟨gb107, 2, none⟩ = some (.int .i64 0) := (blk_cell BK107.out 2).trans rfl
                        have hcz36_3 : w21.cell? ⟨gb107, 3, none⟩ = some (.slice none 0 0) := (blk_cell BK107.out 3).trans rfl
                        have hcz36_4 : w21.cell? ⟨gb107, 4, none⟩ = some (.slice none 0 0) := (blk_cell BK107.out 4).trans rfl
                        have hcz36_5 : w21.cell? ⟨gb107, 5, none⟩ = some (.slice none 0 0) := (blk_cell BK107.out 5).trans rfl
                        have hcz36_6 : w21.cell? ⟨gb107, 6, none⟩ = some (.bool false) := (blk_cell BK107.out 6).trans rfl
                        have hfz36_0 := blk_frozen BK107.out 0
                        have hfz36_1 := blk_frozen BK107.out 1
                        have hfz36_2 := blk_frozen BK107.out 2
                        have hfz36_3 := blk_frozen BK107.out 3
                        have hfz36_4 := blk_frozen BK107.out 4
                        have hfz36_5 := blk_frozen BK107.out 5
                        have hfz36_6 := blk_frozen BK107.out 6
                        go_wp2_with (first | ((with_reducible refine gate_callee (f := 41) rfl ?_); refine goesL_ (some 39) rfl rfl Try.func41 (by kernel_rfl) rfl #[.int .i64 ((rd_T94 l0_4 x33_2).f0), .int .i64 1, .int .i64 64] rfl (by (try simp only [List.map_toArray, List.map_cons, List.map_nil]); first | done | rfl | (simp only [List.length_drop, List.length_take]; rfl)) ?_; (with_reducible refine (sched_within.calls ((rd_T94 l0_4 x33_2).f0) 1 64 true _ A24.out).mono ?_); rintro e w' ⟨rfl, ⟨nd, rfl⟩⟩; refine ⟨_, rfl, ?_⟩) | (go_at_call 41; (with_reducible refine (sched_within.calls ((rd_T94 l0_4 x33_2).f2) 1 1000 false _ A26.out).mono ?_); rintro e w' ⟨rfl, ⟨nd, rfl⟩⟩))
                        go_meet
                        case rel => exact ⟨_, (true), (by first | rfl | (simp; done) | (simp [*]; done)), H', ⟨by have := HJ1.out; have := HK2.out; first | omega | exact Nat.le_refl _⟩, ⟨by (with_reducible repeat (first | refine blk_drewN ?_ _ | refine blk_drew ?_ | refine blk_alloc ?_ _)); refine blk_far ?_ NB101_107.out _; (with_reducible repeat (first | refine blk_drewN ?_ _ | refine blk_drew ?_ | refine blk_alloc ?_ _)); refine blk_far ?_ NB101_107.out _; (with_reducible repeat (first | refine blk_drewN ?_ _ | refine blk_drew ?_ | refine blk_alloc ?_ _)); refine blk_far ?_ NB101_107.out _; (with_reducible repeat (first | refine blk_drewN ?_ _ | refine blk_drew ?_ | refine blk_alloc ?_ _)); refine blk_far ?_ NB101_107.out _; (with_reducible repeat (first | refine blk_drewN ?_ _ | refine blk_drew ?_ | refine blk_alloc ?_ _)); refine blk_far ?_ NB101_107.out _; (with_reducible repeat (first | refine blk_drewN ?_ _ | refine blk_drew ?_ | refine blk_alloc ?_ _)); refine blk_far ?_ NB101_107.out _; (with_reducible repeat (first | refine blk_drewN ?_ _ | refine blk_drew ?_ | refine blk_alloc ?_ _)); refine blk_far ?_ NB101_107.out _; (with_reducible repeat (first | refine blk_drewN ?_ _ | refine blk_drew ?_ | refine blk_alloc ?_ _)); exact BK101.out⟩, ⟨by (with_reducible repeat (first | refine blk_drewN ?_ _ | refine blk_drew ?_ | refine blk_alloc ?_ _)); refine blk_put (cs := #[.int .i64 ((rd_T94 l0_4 x33_2).f0), .int .i64 ((rd_T94 l0_4 x33_2).f1), .int .i64 ((rd_T94 l0_4 x33_2).f2), .slice A106_3 ((rd_T94 l0_4 x33_2).f3).length c106_3, .slice A106_4 ((rd_T94 l0_4 x33_2).f4).length c106_4, .slice A106_5 ((rd_T94 l0_4 x33_2).f5).length c106_5, .bool false]) ?_ 6 _ rfl; (with_reducible repeat (first | refine blk_drewN ?_ _ | refine blk_drew ?_ | refine blk_alloc ?_ _)); refine blk_put (cs := #[.int .i64 ((rd_T94 l0_4 x33_2).f0), .int .i64 ((rd_T94 l0_4 x33_2).f1), .int .i64 ((rd_T94 l0_4 x33_2).f2), .slice A106_3 ((rd_T94 l0_4 x33_2).f3).length c106_3, .slice A106_4 ((rd_T94 l0_4 x33_2).f4).length c106_4, .slice none 0 0, .bool false]) ?_ 5 _ rfl; (with_reducible repeat (first | refine blk_drewN ?_ _ | refine blk_drew ?_ | refine blk_alloc ?_ _)); refine blk_put (cs := #[.int .i64 ((rd_T94 l0_4 x33_2).f0), .int .i64 ((rd_T94 l0_4 x33_2).f1), .int .i64 ((rd_T94 l0_4 x33_2).f2), .slice A106_3 ((rd_T94 l0_4 x33_2).f3).length c106_3, .slice none 0 0, .slice none 0 0, .bool false]) ?_ 4 _ rfl; (with_reducible repeat (first | refine blk_drewN ?_ _ | refine blk_drew ?_ | refine blk_alloc ?_ _)); refine blk_put (cs := #[.int .i64 ((rd_T94 l0_4 x33_2).f0), .int .i64 ((rd_T94 l0_4 x33_2).f1), .int .i64 ((rd_T94 l0_4 x33_2).f2), .slice none 0 0, .slice none 0 0, .slice none 0 0, .bool false]) ?_ 3 _ rfl; (with_reducible repeat (first | refine blk_drewN ?_ _ | refine blk_drew ?_ | refine blk_alloc ?_ _)); refine blk_put (cs := #[.int .i64 ((rd_T94 l0_4 x33_2).f0), .int .i64 ((rd_T94 l0_4 x33_2).f1), .int .i64 0, .slice none 0 0, .slice none 0 0, .slice none 0 0, .bool false]) ?_ 2 _ rfl; (with_reducible repeat (first | refine blk_drewN ?_ _ | refine blk_drew ?_ | refine blk_alloc ?_ _)); refine blk_put (cs := #[.int .i64 ((rd_T94 l0_4 x33_2).f0), .int .i64 0, .int .i64 0, .slice none 0 0, .slice none 0 0, .slice none 0 0, .bool false]) ?_ 1 _ rfl; (with_reducible repeat (first | refine blk_drewN ?_ _ | refine blk_drew ?_ | refine blk_alloc ?_ _)); refine blk_put (cs := #[.int .i64 0, .int .i64 0, .int .i64 0, .slice none 0 0, .slice none 0 0, .slice none 0 0, .bool false]) ?_ 0 _ rfl; (with_reducible repeat (first | refine blk_drewN ?_ _ | refine blk_drew ?_ | refine blk_alloc ?_ _)); exact BK107.out⟩, ⟨by repeat (first | (with_reducible first | exact HB.out | apply below_alloc | apply pw_below_drewN | apply below_drew1 | refine below_set ?_ GE101.out | refine below_set ?_ GE107.out) | exact HB.out)⟩⟩
                    · replace c25 := Bool.eq_false_iff.mpr c25
                      subst c25
                      have H1 : (sched_Right.j2 k2 x3_2 x4_2 l0_4 (l0_4.length : Int) x33_2 true a0_0 a0_1 a0_2 a0_3 l0_4 ((rd_T94 l0_4 x33_2).f0) ((rd_T94 l0_4 x33_2).f1) ((rd_T94 l0_4 x33_2).f2) ((rd_T94 l0_4 x33_2).f3) ((rd_T94 l0_4 x33_2).f4) ((rd_T94 l0_4 x33_2).f5) ((rd_T94 l0_4 x33_2).f6)) = some r := by rw [if_neg (show ¬ (false = true) by decide)] at H; exact H
                      clear H
                      have H := H1
                      clear H1
                      have H' := Aside0.mk H
                      clear H
                      have hnb37 := NB107_101.out
                      have hnc37 := NB101_107.out
                      have hcz38_0 : w21.cell? ⟨gb107, 0, none⟩ = some (.int .i64 0) := (blk_cell BK107.out 0).trans rfl
                      have hcz38_1 : w21.cell? ⟨gb107, 1, none⟩ = some (.int .i64 0) := (blk_cell BK107.out 1).trans rfl
                      have hcz38_2 : w21.cell? ⟨gb107, 2, none⟩ = some (.int .i64 0) := (blk_cell BK107.out 2).trans rfl
                      have hcz38_3 : w21.cell? ⟨gb107, 3, none⟩ = some (.slice none 0 0) := (blk_cell BK107.out 3).trans rfl
                      have hcz38_4 : w21.cell? ⟨gb107, 4, none⟩ = some (.slice none 0 0) := (blk_cell BK107.out 4).trans rfl
                      have hcz38_5 : w21.cell? ⟨gb107, 5, none⟩ = some (.slice none 0 0) := (blk_cell BK107.out 5).trans rfl
                      have hcz38_6 : w21.cell? ⟨gb107, 6, none⟩ = some (.bool false) := (blk_cell BK107.out 6).trans rfl
                      have hfz38_0 := blk_frozen BK107.out 0
                      have hfz38_1 := blk_frozen BK107.out 1
                      have hfz38_2 := blk_frozen BK107.out 2
                      have hfz38_3 := blk_frozen BK107.out 3
                      have hfz38_4 := blk_frozen BK107.out 4
                      have hfz38_5 := blk_frozen BK107.out 5
                      have hfz38_6 := blk_frozen BK107.out 6
                      go_wp2_with (first | ((with_reducible refine gate_callee (f := 41) rfl ?_); refine goesL_ (some 39) rfl rfl Try.func41 (by kernel_rfl) rfl #[.int .i64 ((rd_T94 l0_4 x33_2).f0), .int .i64 1, .int .i64 64] rfl (by (try simp only [List.map_toArray, List.map_cons, List.map_nil]); first | done | rfl | (simp only [List.length_drop, List.length_take]; rfl)) ?_; (with_reducible refine (sched_within.calls ((rd_T94 l0_4 x33_2).f0) 1 64 false _ A24.out).mono ?_); rintro e w' ⟨rfl, ⟨nd, rfl⟩⟩; refine ⟨_, rfl, ?_⟩))
                      go_meet
                      case rel => exact ⟨_, (true), (by first | rfl | (simp; done) | (simp [*]; done)), H', ⟨by have := HJ1.out; have := HK2.out; first | omega | exact Nat.le_refl _⟩, ⟨by (with_reducible repeat (first | refine blk_drewN ?_ _ | refine blk_drew ?_ | refine blk_alloc ?_ _)); refine blk_far ?_ NB101_107.out _; (with_reducible repeat (first | refine blk_drewN ?_ _ | refine blk_drew ?_ | refine blk_alloc ?_ _)); refine blk_far ?_ NB101_107.out _; (with_reducible repeat (first | refine blk_drewN ?_ _ | refine blk_drew ?_ | refine blk_alloc ?_ _)); refine blk_far ?_ NB101_107.out _; (with_reducible repeat (first | refine blk_drewN ?_ _ | refine blk_drew ?_ | refine blk_alloc ?_ _)); refine blk_far ?_ NB101_107.out _; (with_reducible repeat (first | refine blk_drewN ?_ _ | refine blk_drew ?_ | refine blk_alloc ?_ _)); refine blk_far ?_ NB101_107.out _; (with_reducible repeat (first | refine blk_drewN ?_ _ | refine blk_drew ?_ | refine blk_alloc ?_ _)); refine blk_far ?_ NB101_107.out _; (with_reducible repeat (first | refine blk_drewN ?_ _ | refine blk_drew ?_ | refine blk_alloc ?_ _)); refine blk_far ?_ NB101_107.out _; (with_reducible repeat (first | refine blk_drewN ?_ _ | refine blk_drew ?_ | refine blk_alloc ?_ _)); exact BK101.out⟩, ⟨by (with_reducible repeat (first | refine blk_drewN ?_ _ | refine blk_drew ?_ | refine blk_alloc ?_ _)); refine blk_put (cs := #[.int .i64 ((rd_T94 l0_4 x33_2).f0), .int .i64 ((rd_T94 l0_4 x33_2).f1), .int .i64 ((rd_T94 l0_4 x33_2).f2), .slice A106_3 ((rd_T94 l0_4 x33_2).f3).length c106_3, .slice A106_4 ((rd_T94 l0_4 x33_2).f4).length c106_4, .slice A106_5 ((rd_T94 l0_4 x33_2).f5).length c106_5, .bool false]) ?_ 6 _ rfl; (with_reducible repeat (first | refine blk_drewN ?_ _ | refine blk_drew ?_ | refine blk_alloc ?_ _)); refine blk_put (cs := #[.int .i64 ((rd_T94 l0_4 x33_2).f0), .int .i64 ((rd_T94 l0_4 x33_2).f1), .int .i64 ((rd_T94 l0_4 x33_2).f2), .slice A106_3 ((rd_T94 l0_4 x33_2).f3).length c106_3, .slice A106_4 ((rd_T94 l0_4 x33_2).f4).length c106_4, .slice none 0 0, .bool false]) ?_ 5 _ rfl; (with_reducible repeat (first | refine blk_drewN ?_ _ | refine blk_drew ?_ | refine blk_alloc ?_ _)); refine blk_put (cs := #[.int .i64 ((rd_T94 l0_4 x33_2).f0), .int .i64 ((rd_T94 l0_4 x33_2).f1), .int .i64 ((rd_T94 l0_4 x33_2).f2), .slice A106_3 ((rd_T94 l0_4 x33_2).f3).length c106_3, .slice none 0 0, .slice none 0 0, .bool false]) ?_ 4 _ rfl; (with_reducible repeat (first | refine blk_drewN ?_ _ | refine blk_drew ?_ | refine blk_alloc ?_ _)); refine blk_put (cs := #[.int .i64 ((rd_T94 l0_4 x33_2).f0), .int .i64 ((rd_T94 l0_4 x33_2).f1), .int .i64 ((rd_T94 l0_4 x33_2).f2), .slice none 0 0, .slice none 0 0, .slice none 0 0, .bool false]) ?_ 3 _ rfl; (with_reducible repeat (first | refine blk_drewN ?_ _ | refine blk_drew ?_ | refine blk_alloc ?_ _)); refine blk_put (cs := #[.int .i64 ((rd_T94 l0_4 x33_2).f0), .int .i64 ((rd_T94 l0_4 x33_2).f1), .int .i64 0, .slice none 0 0, .slice none 0 0, .slice none 0 0, .bool false]) ?_ 2 _ rfl; (with_reducible repeat (first | refine blk_drewN ?_ _ | refine blk_drew ?_ | refine blk_alloc ?_ _)); refine blk_put (cs := #[.int .i64 ((rd_T94 l0_4 x33_2).f0), .int .i64 0, .int .i64 0, .slice none 0 0, .slice none 0 0, .slice none 0 0, .bool false]) ?_ 1 _ rfl; (with_reducible repeat (first | refine blk_drewN ?_ _ | refine blk_drew ?_ | refine blk_alloc ?_ _)); refine blk_put (cs := #[.int .i64 0, .int .i64 0, .int .i64 0, .slice none 0 0, .slice none 0 0, .slice none 0 0, .bool false]) ?_ 0 _ rfl; (with_reducible repeat (first | refine blk_drewN ?_ _ | refine blk_drew ?_ | refine blk_alloc ?_ _)); exact BK107.out⟩, ⟨by repeat (first | (with_reducible first | exact HB.out | apply below_alloc | apply pw_below_drewN | apply below_drew1 | refine below_set ?_ GE101.out | refine below_set ?_ GE107.out) | exact HB.out)⟩⟩
                  case rest =>
                    clear HC20
                    try clear c1
                    try clear p1
                    try clear q1
                    try clear hx1
                    try clear c2
                    try clear p2
                    try clear q2
                    try clear c3
                    try clear c4
                    try clear c5
                    try clear c7
                    try clear c9
                    try clear c10
                    try clear p10
                    try clear q10
                    try clear hx10
                    try clear c15
                    try clear c17
                    try clear c17b0
                    try clear c18
                    try clear c18b0
                    try clear c19
                    try clear c19b0
                    try clear c22
                    try clear c25
                    try clear c27
                    try clear q28
                    try clear c29
                    try clear c30
                    try clear c32
                    try clear c33
                    try clear c35
                    try clear c37
                    try clear hcz11_0
                    try clear hcz11_1
                    try clear hcz11_2
                    try clear hcz11_3
                    try clear hcz11_4
                    try clear hcz12_0
                    try clear hcz12_1
                    try clear hcz12_2
                    try clear hcz12_3
                    try clear hcz12_4
                    try clear hcz13_0
                    try clear hcz13_1
                    try clear hcz13_2
                    try clear hcz13_3
                    try clear hcz13_4
                    try clear hcz14_0
                    try clear hcz14_1
                    try clear hcz14_2
                    try clear hcz14_3
                    try clear hcz14_4
                    try clear hcz16_0
                    try clear hcz16_1
                    try clear hcz16_2
                    try clear hcz16_3
                    try clear hcz16_4
                    try clear hcz23_0
                    try clear hcz23_1
                    try clear hcz23_2
                    try clear hcz23_3
                    try clear hcz23_4
                    try clear hcz23_5
                    try clear hcz23_6
                    try clear hcz31_0
                    try clear hcz31_1
                    try clear hcz31_2
                    try clear hcz31_3
                    try clear hcz31_4
                    try clear hcz31_5
                    try clear hcz31_6
                    try clear hcz32_0
                    try clear hcz32_1
                    try clear hcz32_2
                    try clear hcz32_3
                    try clear hcz32_4
                    try clear hcz34_0
                    try clear hcz34_1
                    try clear hcz34_2
                    try clear hcz34_3
                    try clear hcz34_4
                    try clear hcz34_5
                    try clear hcz34_6
                    try clear hcz36_0
                    try clear hcz36_1
                    try clear hcz36_2
                    try clear hcz36_3
                    try clear hcz36_4
                    try clear hcz36_5
                    try clear hcz36_6
                    try clear hcz38_0
                    try clear hcz38_1
                    try clear hcz38_2
                    try clear hcz38_3
                    try clear hcz38_4
                    try clear hcz38_5
                    try clear hcz38_6
                    try clear hfz11_0
                    try clear hfz11_1
                    try clear hfz11_2
                    try clear hfz11_3
                    try clear hfz11_4
                    try clear hfz12_0
                    try clear hfz12_1
                    try clear hfz12_2
                    try clear hfz12_3
                    try clear hfz12_4
                    try clear hfz13_0
                    try clear hfz13_1
                    try clear hfz13_2
                    try clear hfz13_3
                    try clear hfz13_4
                    try clear hfz14_0
                    try clear hfz14_1
                    try clear hfz14_2
                    try clear hfz14_3
                    try clear hfz14_4
                    try clear hfz16_0
                    try clear hfz16_1
                    try clear hfz16_2
                    try clear hfz16_3
                    try clear hfz16_4
                    try clear hfz23_0
                    try clear hfz23_1
                    try clear hfz23_2
                    try clear hfz23_3
                    try clear hfz23_4
                    try clear hfz23_5
                    try clear hfz23_6
                    try clear hfz31_0
                    try clear hfz31_1
                    try clear hfz31_2
                    try clear hfz31_3
                    try clear hfz31_4
                    try clear hfz31_5
                    try clear hfz31_6
                    try clear hfz32_0
                    try clear hfz32_1
                    try clear hfz32_2
                    try clear hfz32_3
                    try clear hfz32_4
                    try clear hfz34_0
                    try clear hfz34_1
                    try clear hfz34_2
                    try clear hfz34_3
                    try clear hfz34_4
                    try clear hfz34_5
                    try clear hfz34_6
                    try clear hfz36_0
                    try clear hfz36_1
                    try clear hfz36_2
                    try clear hfz36_3
                    try clear hfz36_4
                    try clear hfz36_5
                    try clear hfz36_6
                    try clear hfz38_0
                    try clear hfz38_1
                    try clear hfz38_2
                    try clear hfz38_3
                    try clear hfz38_4
                    try clear hfz38_5
                    try clear hfz38_6
                    try clear hx106_0
                    try clear hx106_1
                    try clear hx106_2
                    try clear hx106_3
                    try clear hx106_4
                    try clear hx106_5
                    try clear hx106_6
                    try clear p106
                    try clear p2
                    try clear q106
                    obtain ⟨kq, x57_19, rfl, HA, HJ19, BK101, BK107, HB⟩ := hcut
                    cases kq with
                    | zero => exact absurd HA.out (by simp [sched_Right.j2])
                    | succ kj19 =>
                      have H := HA.out
                      clear HA
                      simp only [sched_Right.j2] at H
                      by_cases c39 : x57_19 = true
                      · subst c39
                        have H1 : (some false) = some r := by rw [if_pos rfl] at H; exact H
                        clear H
                        have H := H1
                        clear H1
                        obtain rfl := Option.some.inj H
                        go_wp2
                        go_ret
                        exact ⟨by first | rfl | (simp [errW_none, errW_some] <;> rfl) | (simp [*, errW_none, errW_some] <;> rfl), by repeat (first | (with_reducible first | exact HB.out | apply below_alloc | apply pw_below_drewN | apply below_drew1 | refine below_set ?_ GE101.out | refine below_set ?_ GE107.out) | exact HB.out)⟩
                      · replace c39 := Bool.eq_false_iff.mpr c39
                        subst c39
                        have H1 : (if ((rd_T94 l0_4 x33_2).f6) = true then (sched_Right.l0 kj19 (wrap64 (x3_2 + ((rd_T94 l0_4 x33_2).f0))) (wrap64 (x4_2 + ((rd_T94 l0_4 x33_2).f2))) l0_4 (l0_4.length : Int) (wrap64 (x33_2 + 1)) a0_0 a0_1 a0_2 a0_3 l0_4) else (sched_Right.l0 kj19 (wrap64 (x3_2 + ((rd_T94 l0_4 x33_2).f0))) x4_2 l0_4 (l0_4.length : Int) (wrap64 (x33_2 + 1)) a0_0 a0_1 a0_2 a0_3 l0_4)) = some r := by rw [if_neg (show ¬ (false = true) by decide)] at H; exact H
                        clear H
                        have H := H1
                        clear H1
                        by_cases c40 : ((rd_T94 l0_4 x33_2).f6) = true
                        · rw [if_pos c40] at H
                          have c40b0 : ((rd_T94 l0_4 x33_2).f6) = true := c40
                          clear c40
                          have H' := Aside0.mk H
                          clear H
                          have hnb41 := NB107_101.out
                          have hnc41 := NB101_107.out
                          have hcz42_0 : wc.cell? ⟨gb107, 0, none⟩ = some (.int .i64 ((rd_T94 l0_4 x33_2).f0)) := (blk_cell BK107.out 0).trans rfl
                          have hcz42_1 : wc.cell? ⟨gb107, 1, none⟩ = some (.int .i64 ((rd_T94 l0_4 x33_2).f1)) := (blk_cell BK107.out 1).trans rfl
                          have hcz42_2 : wc.cell? ⟨gb107, 2, none⟩ = some (.int .i64 ((rd_T94 l0_4 x33_2).f2)) := (blk_cell BK107.out 2).trans rfl
                          have hcz42_3 : wc.cell? ⟨gb107, 3, none⟩ = some (.slice A106_3 ((rd_T94 l0_4 x33_2).f3).length c106_3) := (blk_cell BK107.out 3).trans rfl
                          have hcz42_4 : wc.cell? ⟨gb107, 4, none⟩ = some (.slice A106_4 ((rd_T94 l0_4 x33_2).f4).length c106_4) := (blk_cell BK107.out 4).trans rfl
                          have hcz42_5 : wc.cell? ⟨gb107, 5, none⟩ = some (.slice A106_5 ((rd_T94 l0_4 x33_2).f5).length c106_5) := (blk_cell BK107.out 5).trans rfl
                          have hcz42_6 : wc.cell? ⟨gb107, 6, none⟩ = some (.bool ((rd_T94 l0_4 x33_2).f6)) := (blk_cell BK107.out 6).trans rfl
                          have hfz42_0 := blk_frozen BK107.out 0
                          have hfz42_1 := blk_frozen BK107.out 1
                          have hfz42_2 := blk_frozen BK107.out 2
                          have hfz42_3 := blk_frozen BK107.out 3
                          have hfz42_4 := blk_frozen BK107.out 4
                          have hfz42_5 := blk_frozen BK107.out 5
                          have hfz42_6 := blk_frozen BK107.out 6
                          go_wp2
                          go_roundg kj19
                          case measure => have := HJ1.out; have := HK2.out; have := HJ19.out; omega
                          case rel => exact ⟨(wrap64 (x3_2 + ((rd_T94 l0_4 x33_2).f0))), (wrap64 (x4_2 + ((rd_T94 l0_4 x33_2).f2))), (wrap64 (x33_2 + 1)), (by first | rfl | (simp; done) | (simp [*]; done)), (by first | rfl | (simp; done) | (simp [*]; done)), (by first | rfl | (simp; done) | (simp [*]; done)), H', ⟨by have := HJ1.out; have := HK2.out; have := HJ19.out; omega⟩, ⟨by (with_reducible repeat (first | refine blk_drewN ?_ _ | refine blk_drew ?_ | refine blk_alloc ?_ _)); exact BK101.out⟩, ⟨by repeat (first | (with_reducible first | exact HB.out | apply below_alloc | apply pw_below_drewN | apply below_drew1 | refine below_set ?_ GE101.out | refine below_set ?_ GE107.out) | exact HB.out)⟩⟩
                        · rw [if_neg c40] at H
                          have c40b0 : ((rd_T94 l0_4 x33_2).f6) = false := by simpa using c40
                          clear c40
                          have H' := Aside0.mk H
                          clear H
                          have hnb43 := NB107_101.out
                          have hnc43 := NB101_107.out
                          have hcz44_0 : wc.cell? ⟨gb107, 0, none⟩ = some (.int .i64 ((rd_T94 l0_4 x33_2).f0)) := (blk_cell BK107.out 0).trans rfl
                          have hcz44_1 : wc.cell? ⟨gb107, 1, none⟩ = some (.int .i64 ((rd_T94 l0_4 x33_2).f1)) := (blk_cell BK107.out 1).trans rfl
                          have hcz44_2 : wc.cell? ⟨gb107, 2, none⟩ = some (.int .i64 ((rd_T94 l0_4 x33_2).f2)) := (blk_cell BK107.out 2).trans rfl
                          have hcz44_3 : wc.cell? ⟨gb107, 3, none⟩ = some (.slice A106_3 ((rd_T94 l0_4 x33_2).f3).length c106_3) := (blk_cell BK107.out 3).trans rfl
                          have hcz44_4 : wc.cell? ⟨gb107, 4, none⟩ = some (.slice A106_4 ((rd_T94 l0_4 x33_2).f4).length c106_4) := (blk_cell BK107.out 4).trans rfl
                          have hcz44_5 : wc.cell? ⟨gb107, 5, none⟩ = some (.slice A106_5 ((rd_T94 l0_4 x33_2).f5).length c106_5) := (blk_cell BK107.out 5).trans rfl
                          have hcz44_6 : wc.cell? ⟨gb107, 6, none⟩ = some (.bool ((rd_T94 l0_4 x33_2).f6)) := (blk_cell BK107.out 6).trans rfl
                          have hfz44_0 := blk_frozen BK107.out 0
                          have hfz44_1 := blk_frozen BK107.out 1
                          have hfz44_2 := blk_frozen BK107.out 2
                          have hfz44_3 := blk_frozen BK107.out 3
                          have hfz44_4 := blk_frozen BK107.out 4
                          have hfz44_5 := blk_frozen BK107.out 5
                          have hfz44_6 := blk_frozen BK107.out 6
                          go_wp2
                          go_roundg kj19
                          case measure => have := HJ1.out; have := HK2.out; have := HJ19.out; omega
                          case rel => exact ⟨(wrap64 (x3_2 + ((rd_T94 l0_4 x33_2).f0))), (x4_2), (wrap64 (x33_2 + 1)), (by first | rfl | (simp; done) | (simp [*]; done)), (by first | rfl | (simp; done) | (simp [*]; done)), (by first | rfl | (simp; done) | (simp [*]; done)), H', ⟨by have := HJ1.out; have := HK2.out; have := HJ19.out; omega⟩, ⟨by (with_reducible repeat (first | refine blk_drewN ?_ _ | refine blk_drew ?_ | refine blk_alloc ?_ _)); exact BK101.out⟩, ⟨by repeat (first | (with_reducible first | exact HB.out | apply below_alloc | apply pw_below_drewN | apply below_drew1 | refine below_set ?_ GE101.out | refine below_set ?_ GE107.out) | exact HB.out)⟩⟩
                · rw [if_neg c19] at H
                  exact absurd H (by simp)
              · rw [if_neg c18] at H
                exact absurd H (by simp)
            · rw [if_neg c17] at H
              have c17b0 : decide (x33_2 < (l0_4.length : Int)) = false := decide_eq_false c17
              clear c17
              by_cases c45 : x3_2 ≤ 64
              · rw [if_pos c45] at H
                have c45b0 : decide (x3_2 ≤ 64) = true := decide_eq_true c45
                clear c45
                obtain rfl := Option.some.inj H
                have hcz46_0 : wr.cell? ⟨gb101, 0, none⟩ = some (.int .i64 a0_0) := (blk_cell BK101.out 0).trans rfl
                have hcz46_1 : wr.cell? ⟨gb101, 1, none⟩ = some (.int .i64 a0_1) := (blk_cell BK101.out 1).trans rfl
                have hcz46_2 : wr.cell? ⟨gb101, 2, none⟩ = some (.int .i64 a0_2) := (blk_cell BK101.out 2).trans rfl
                have hcz46_3 : wr.cell? ⟨gb101, 3, none⟩ = some (.bool a0_3) := (blk_cell BK101.out 3).trans rfl
                have hcz46_4 : wr.cell? ⟨gb101, 4, none⟩ = some (.slice A0_4 l0_4.length c0_4) := (blk_cell BK101.out 4).trans rfl
                have hfz46_0 := blk_frozen BK101.out 0
                have hfz46_1 := blk_frozen BK101.out 1
                have hfz46_2 := blk_frozen BK101.out 2
                have hfz46_3 := blk_frozen BK101.out 3
                have hfz46_4 := blk_frozen BK101.out 4
                go_wp2
                go_ret
                exact ⟨by first | rfl | (simp [errW_none, errW_some] <;> rfl) | (simp [*, errW_none, errW_some] <;> rfl), by repeat (first | (with_reducible first | exact HB.out | apply below_alloc | apply pw_below_drewN | apply below_drew1 | refine below_set ?_ GE101.out) | exact HB.out)⟩
              · rw [if_neg c45] at H
                have c45b0 : decide (x3_2 ≤ 64) = false := decide_eq_false c45
                clear c45
                obtain rfl := Option.some.inj H
                go_wp2
                go_ret
                exact ⟨by first | rfl | (simp [errW_none, errW_some] <;> rfl) | (simp [*, errW_none, errW_some] <;> rfl), by repeat (first | (with_reducible first | exact HB.out | apply below_alloc | apply pw_below_drewN | apply below_drew1 | refine below_set ?_ GE101.out) | exact HB.out)⟩

-- NOT PRINTED: function 73 (atomic_LoadUint32)

-- NOT PRINTED: function 71 (atomic_Bool_Load)

-- NOT PRINTED: function 81 (race_Disable)

-- NOT PRINTED: function 82 (atomic_CompareAndSwapInt32)

-- NOT PRINTED: function 83 (race_Enable)

-- NOT PRINTED: function 84 (race_Acquire)

-- NOT PRINTED: function 87 (atomic_AddInt32)

-- NOT PRINTED: function 89 (sync_runtime_canSpin)

-- NOT PRINTED: function 90 (sync_runtime_doSpin)

-- NOT PRINTED: function 91 (sync_throw)

-- NOT PRINTED: function 92 (sync_runtime_nanotime)

-- NOT PRINTED: function 93 (sync_runtime_SemacquireMutex)

-- NOT PRINTED: function 85 (sync_Mutex_lockSlow)

-- NOT PRINTED: function 77 (sync_Mutex_Lock_77)

-- NOT PRINTED: function 74 (sync_Mutex_Lock_74)

-- NOT PRINTED: function 86 (race_ReleaseMerge)

-- NOT PRINTED: function 94 (sync_fatal)

-- NOT PRINTED: function 95 (sync_runtime_Semrelease)

-- NOT PRINTED: function 88 (sync_Mutex_unlockSlow)

-- NOT PRINTED: function 78 (sync_Mutex_Unlock_78)

-- NOT PRINTED: function 75 (sync_Mutex_Unlock_75)

-- NOT PRINTED: function 79 (atomic_StoreUint32)

end Go.Proofs.Ytdaadmjppikebaa.PV
