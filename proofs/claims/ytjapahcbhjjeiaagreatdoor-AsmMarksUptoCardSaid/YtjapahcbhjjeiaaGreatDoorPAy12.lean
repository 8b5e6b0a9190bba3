-- PRINTED by print.py (a twelfth state) out of the translation. Not trusted: Lean checks it.
import Derived.Test.YtjapahcbhjjeiaaGreatDoorPAx0
namespace Go.Proofs.YtjapahcbhjjeiaaGreatDoor.PA
open Go.RowKit Go.Proofs.YtjapahcbhjjeiaaGreatDoorW.PrintWords Go.Proofs.YtjapahcbhjjeiaaGreatDoorW.PrintLast Go.Proofs.YtjapahcbhjjeiaaGreatDoorW.PrintMore
attribute [local go_sem] max2_int min2_int max_two min_two max_three min_three max_four min_four   -- for this text's walks alone
set_option linter.unusedVariables false
set_option linter.unusedSimpArgs false

mutual
def asm_all.l0 : Nat → List (S23) → Int → Option ((List (S23)))
  | 0, _, _ => none
  | k + 1, x1, x2 => if x2 ≤ 20 then (asm_all.l1 k x1 x2 0) else (some x1)
def asm_all.l1 : Nat → List (S23) → Int → Int → Option ((List (S23)))
  | 0, _, _, _ => none
  | k + 1, x1, x2, x3 => if x3 ≤ 28 then ((some (([0, 1, 2, 4, 8] : List Int) : List Int)).bind fun y414 => (asm_all.l2 k x1 x2 x3 y414 (y414.length : Int) 0)) else (asm_all.l0 k x1 (wrap64 (x2 + 1)))
def asm_all.l2 : Nat → List (S23) → Int → Int → List Int → Int → Int → Option ((List (S23)))
  | 0, _, _, _, _, _, _ => none
  | k + 1, x1, x2, x3, x14, x15, x16 => if x16 < x15 then (if 0 ≤ x16 then (if x16 < (x14.length : Int) then ((some (([(⟨x2, x3, 0, 0, 0, 0, rd x14 x16, false⟩ : S23), (⟨x2, x3, 0, 0, 0, 0, rd x14 x16, true⟩ : S23)] : List (S23)) : List (S23))).bind fun y418 => (if x1.length + y418.length < 2199023255552 then (asm_all.l2 k (x1 ++ y418) x2 x3 x14 x15 (wrap64 (x16 + 1))) else (none))) else (none)) else (none)) else (asm_all.l1 k x1 x2 (wrap64 (x3 + 1)))
end
def asm_all.f (k : Nat)  : Option ((List (S23))) := asm_all.l0 k ([] : List (S23)) 1
theorem asm_all.mono_l : ∀ k, (∀ y0 y1, LeO (asm_all.l0 k y0 y1) (asm_all.l0 (k + 1) y0 y1)) ∧ (∀ y0 y1 y2, LeO (asm_all.l1 k y0 y1 y2) (asm_all.l1 (k + 1) y0 y1 y2)) ∧ (∀ y0 y1 y2 y3 y4 y5, LeO (asm_all.l2 k y0 y1 y2 y3 y4 y5) (asm_all.l2 (k + 1) y0 y1 y2 y3 y4 y5))
  | 0 => ⟨fun _ _ r h => by simp [asm_all.l0] at h, fun _ _ _ r h => by simp [asm_all.l1] at h, fun _ _ _ _ _ _ r h => by simp [asm_all.l2] at h⟩
  | k + 1 => by
    obtain ⟨ih0, ih1, ih2⟩ := asm_all.mono_l k
    refine ⟨?_, ?_, ?_⟩
    · intro y0 y1
      unfold asm_all.l0
      repeat' first
      | (with_reducible exact ih0 _ _)
      | (with_reducible exact ih1 _ _ _)
      | (with_reducible exact ih2 _ _ _ _ _ _)
      | (with_reducible exact LeO.refl _)
      | (with_reducible exact LeO.none _)
      | (with_reducible refine LeO.ite ?_ ?_)
      | (with_reducible refine LeO.bind ?_ (fun _ => ?_))
      | exact ih0 _ _
      | exact ih1 _ _ _
      | exact ih2 _ _ _ _ _ _
      | exact LeO.none _
      | refine LeO.ite ?_ ?_
      | refine LeO.bind ?_ (fun _ => ?_)
    · intro y0 y1 y2
      unfold asm_all.l1
      repeat' first
      | (with_reducible exact ih0 _ _)
      | (with_reducible exact ih1 _ _ _)
      | (with_reducible exact ih2 _ _ _ _ _ _)
      | (with_reducible exact LeO.refl _)
      | (with_reducible exact LeO.none _)
      | (with_reducible refine LeO.ite ?_ ?_)
      | (with_reducible refine LeO.bind ?_ (fun _ => ?_))
      | exact ih0 _ _
      | exact ih1 _ _ _
      | exact ih2 _ _ _ _ _ _
      | exact LeO.none _
      | refine LeO.ite ?_ ?_
      | refine LeO.bind ?_ (fun _ => ?_)
    · intro y0 y1 y2 y3 y4 y5
      unfold asm_all.l2
      repeat' first
      | (with_reducible exact ih0 _ _)
      | (with_reducible exact ih1 _ _ _)
      | (with_reducible exact ih2 _ _ _ _ _ _)
      | (with_reducible exact LeO.refl _)
      | (with_reducible exact LeO.none _)
      | (with_reducible refine LeO.ite ?_ ?_)
      | (with_reducible refine LeO.bind ?_ (fun _ => ?_))
      | exact ih0 _ _
      | exact ih1 _ _ _
      | exact ih2 _ _ _ _ _ _
      | exact LeO.none _
      | refine LeO.ite ?_ ?_
      | refine LeO.bind ?_ (fun _ => ?_)
theorem asm_all.mono : ∀ k, LeO (asm_all.f k ) (asm_all.f (k + 1) ) := by
  intro  k
  obtain ⟨ih0, ih1, ih2⟩ := asm_all.mono_l k
  unfold asm_all.f
  repeat' first
      | (with_reducible exact ih0 _ _)
      | (with_reducible exact ih1 _ _ _)
      | (with_reducible exact ih2 _ _ _ _ _ _)
      | (with_reducible exact LeO.refl _)
      | (with_reducible exact LeO.none _)
      | (with_reducible refine LeO.ite ?_ ?_)
      | (with_reducible refine LeO.bind ?_ (fun _ => ?_))
      | exact ih0 _ _
      | exact ih1 _ _ _
      | exact ih2 _ _ _ _ _ _
      | exact LeO.none _
      | refine LeO.ite ?_ ?_
      | refine LeO.bind ?_ (fun _ => ?_)
set_option maxHeartbeats 8000000 in
set_option maxRecDepth 100000 in
theorem asm_all.calls (k : Nat)  (r : List (S23)) (w : World) (h : asm_all.f k  = some r) :
    Calls Tryz.prog 39 #[] w fun e w' => ∃ v0_ : Value, e = .returned (v0_) ∧ Kd.R k23 23 w' w.heap.size (fun _ => True) v0_ r ∧ Below w.heap.size w w' := by
  have hu23 := Tryz.underlying23
  have HB := Aside0.mk (Below.refl w.heap.size w)
  have H : (asm_all.l0 k ([] : List (S23)) 1) = some r := h
  clear h
  have H' := Aside0.mk H
  clear H
  go_enter Tryz.func39, Tryz.ntmps39
  go_wp2
  go_loopg [1, 2] k (fun kq v1 v2 w' => ∃ (x1_1 : List (S23)) (x2_1 : Int), v2 = .int .i64 x2_1 ∧ Aside0 (asm_all.l0 kq x1_1 x2_1 = some r) ∧ Aside0 (kq ≤ k) ∧ Aside0 (Kd.R k23 23 w' w.heap.size (fun _ => True) v1 x1_1) ∧ Aside0 (Below w.heap.size w w'))
  case atStart => exact ⟨(([] : List (S23))), (1), (by first | rfl | (simp; done) | (simp [*]; done)), H', ⟨Nat.le_refl _⟩, ⟨by first | exact Kd.R_nil _ _ _ _ _ | exact Kd.N_nil _ _ _ _ _ | exact Kd.V_nil _ _ _ _ _ | exact Kd.Q_nil _ _ _ _ _ | exact Kd.S_nil _ _ _ _ _⟩, ⟨by repeat (first | (with_reducible first | exact HB.out | apply below_alloc | apply pw_below_drewN | apply below_drew1) | exact HB.out)⟩⟩
  case round =>
    clear H'
    obtain ⟨x1_1, x2_1, rfl, HA, HK1, HO_1, HB⟩ := hrel
    cases gk with
    | zero => exact absurd HA.out (by simp [asm_all.l0])
    | succ k1 =>
      have H := HA.out
      clear HA
      simp only [asm_all.l0] at H
      by_cases c1 : x2_1 ≤ 20
      · rw [if_pos c1] at H
        have c1b0 : decide (x2_1 ≤ 20) = true := decide_eq_true c1
        clear c1
        have H' := Aside0.mk H
        clear H
        go_wp2
        go_loopg [1, 3] k1 (fun kq v1 v3 w' => ∃ (x1_2 : List (S23)) (x3_2 : Int), v3 = .int .i64 x3_2 ∧ Aside0 (asm_all.l1 kq x1_2 x2_1 x3_2 = some r) ∧ Aside0 (kq ≤ k1) ∧ Aside0 (Kd.R k23 23 w' w.heap.size (fun _ => True) v1 x1_2) ∧ Aside0 (Below w.heap.size w w'))
        case atStart => exact ⟨(x1_1), (0), (by first | rfl | (simp; done) | (simp [*]; done)), H', ⟨Nat.le_refl _⟩, ⟨by (with_reducible repeat (first | apply Kd.R_alloc | apply Kd.R_drewN | apply Kd.R_drew)); exact HO_1.out⟩, ⟨by repeat (first | (with_reducible first | exact HB.out | apply below_alloc | apply pw_below_drewN | apply below_drew1) | exact HB.out)⟩⟩
        case round =>
          clear H'
          try clear c1
          try clear c1b0
          obtain ⟨x1_2, x3_2, rfl, HA, HK2, HO_1, HB⟩ := hrel
          cases gk with
          | zero => exact absurd HA.out (by simp [asm_all.l1])
          | succ k2 =>
            have H := HA.out
            clear HA
            simp only [asm_all.l1] at H
            by_cases c2 : x3_2 ≤ 28
            · rw [if_pos c2] at H
              have c2b0 : decide (x3_2 ≤ 28) = true := decide_eq_true c2
              clear c2
              obtain ⟨y414, hy414⟩ : ∃ y_ : List Int, y_ = (([0, 1, 2, 4, 8] : List Int)) := ⟨_, rfl⟩
              replace H : (asm_all.l2 k2 x1_2 x2_1 x3_2 y414 (y414.length : Int) 0) = some r := by first | (rw [hy414]; with_reducible exact H) | (have H2_ := (Option.bind_some _ _).symm.trans H; rw [hy414]; with_reducible exact H2_) | (have H2_ := (Option.bind_some _ _).symm.trans H; with_reducible exact H2_) | with_reducible exact H | (rw [hy414]; exact H) | exact H
              have Ny414 := Aside0.mk hy414
              clear hy414
              have H' := Aside0.mk H
              clear H
              go_wp2_with (first | ((with_reducible refine gate_dst (N := 14) rfl ?_); refine Kd.R_lit (Kd.int .i64) _ 3 ?hg (N := 14) ?hd (xs := ([0, 1, 2, 4, 8] : List Int)) (inner := [.int .i64 0, .int .i64 1, .int .i64 2, .int .i64 4, .int .i64 8]) (ok := fun _ => True) (okp := fun _ => True) ?hr ?hp (fun _ hk => hk) trivial (Below.refl _ _) (Nat.le_refl _) (by simp) ?_; (case hd => rfl); (case hg => rfl); (case hr => first | (go_simp; done) | (go_simp; rfl)); (case hp => exact (Reps.one (show Kd.M (Kd.int .i64) _ _ _ 0 [.int .i64 0] from rfl) (Reps.one (show Kd.M (Kd.int .i64) _ _ _ 1 [.int .i64 1] from rfl) (Reps.one (show Kd.M (Kd.int .i64) _ _ _ 2 [.int .i64 2] from rfl) (Reps.one (show Kd.M (Kd.int .i64) _ _ _ 4 [.int .i64 4] from rfl) (Reps.one (show Kd.M (Kd.int .i64) _ _ _ 8 [.int .i64 8] from rfl) (Reps.none _ _))))))); intro v415 w3 ho4 hb hg_ hnew_; clear hg_ hnew_; (first | rw [← Ny414.out] at ho4 | (simp only [Int.reduceToNat] at ho4; rw [← Ny414.out] at ho4)); have n0_ := Aside0.mk (Kd.R_below (by (with_reducible repeat (first | apply Kd.R_alloc | apply Kd.R_drewN | apply Kd.R_drew)); exact HO_1.out) hb); have n1_ := Aside0.mk (Kd.R_lower ho4 (below_size (by repeat (first | (with_reducible first | exact HB.out | apply below_alloc | apply pw_below_drewN | apply below_drew1) | exact HB.out)))); have n2_ := Aside0.mk (below_step (by repeat (first | (with_reducible first | exact HB.out | apply below_alloc | apply pw_below_drewN | apply below_drew1) | exact HB.out)) hb); clear HO_1; clear HB; have HO_1 := n0_; have HO416 := n1_; have HB := n2_; clear n0_ n1_ n2_; clear hb ho4; obtain ⟨Ao5, co5, eo5⟩ := Kd.R_slice HO416.out; subst eo5))
              go_loopg [1, 16] k2 (fun kq v1 v16 w' => ∃ (x1_3 : List (S23)) (x16_3 : Int), v16 = .int .i64 x16_3 ∧ Aside0 (asm_all.l2 kq x1_3 x2_1 x3_2 y414 (y414.length : Int) x16_3 = some r) ∧ Aside0 (kq ≤ k2) ∧ Aside0 (Kd.R k23 23 w' w.heap.size (fun _ => True) v1 x1_3) ∧ Aside0 (Kd.R (Kd.int .i64) 3 w' w.heap.size (fun _ => True) (.slice Ao5 y414.length co5) y414) ∧ Aside0 (Below w.heap.size w w'))
              case atStart => exact ⟨(x1_2), (0), (by first | rfl | (simp; done) | (simp [*]; done)), H', ⟨Nat.le_refl _⟩, ⟨by (with_reducible repeat (first | apply Kd.R_alloc | apply Kd.R_drewN | apply Kd.R_drew)); exact HO_1.out⟩, ⟨by (with_reducible repeat (first | apply Kd.R_alloc | apply Kd.R_drewN | apply Kd.R_drew)); exact HO416.out⟩, ⟨by repeat (first | (with_reducible first | exact HB.out | apply below_alloc | apply pw_below_drewN | apply below_drew1) | exact HB.out)⟩⟩
              case round =>
                clear H'
                try clear c1
                try clear c1b0
                try clear c2
                try clear c2b0
                try clear p2
                try clear c3
                obtain ⟨x1_3, x16_3, rfl, HA, HK3, HO_1, HO_14, HB⟩ := hrel
                cases gk with
                | zero => exact absurd HA.out (by simp [asm_all.l2])
                | succ k3 =>
                  have H := HA.out
                  clear HA
                  simp only [asm_all.l2] at H
                  by_cases c6 : x16_3 < (y414.length : Int)
                  · rw [if_pos c6] at H
                    have c6b0 : decide (x16_3 < (y414.length : Int)) = true := decide_eq_true c6
                    clear c6
                    by_cases c7 : 0 ≤ x16_3
                    · rw [if_pos c7] at H
                      have c7b0 : decide (0 ≤ x16_3) = true := decide_eq_true c7
                      clear c7
                      by_cases c8 : x16_3 < (y414.length : Int)
                      · rw [if_pos c8] at H
                        have c8b0 : decide (x16_3 < (y414.length : Int)) = true := decide_eq_true c8
                        clear c8
                        obtain ⟨y418, hy418⟩ : ∃ y_ : List (S23), y_ = (([(⟨x2_1, x3_2, 0, 0, 0, 0, rd y414 x16_3, false⟩ : S23), (⟨x2_1, x3_2, 0, 0, 0, 0, rd y414 x16_3, true⟩ : S23)] : List (S23))) := ⟨_, rfl⟩
                        replace H : (if x1_3.length + y418.length < 2199023255552 then (asm_all.l2 k3 (x1_3 ++ y418) x2_1 x3_2 y414 (y414.length : Int) (wrap64 (x16_3 + 1))) else (none)) = some r := by first | (rw [hy418]; with_reducible exact H) | (have H2_ := (Option.bind_some _ _).symm.trans H; rw [hy418]; with_reducible exact H2_) | (have H2_ := (Option.bind_some _ _).symm.trans H; with_reducible exact H2_) | with_reducible exact H | (rw [hy418]; exact H) | exact H
                        have Ny418 := Aside0.mk hy418
                        clear hy418
                        by_cases c9 : x1_3.length + y418.length < 2199023255552
                        · rw [if_pos c9] at H
                          have LMc9 := Aside0.mk c9
                          clear c9
                          obtain ⟨y421, hy421⟩ : ∃ y_ : List (S23), y_ = (x1_3 ++ y418) := ⟨_, rfl⟩
                          replace H : (asm_all.l2 k3 y421 x2_1 x3_2 y414 (y414.length : Int) (wrap64 (x16_3 + 1))) = some r := by first | (rw [hy421]; with_reducible exact H) | (have H2_ := (Option.bind_some _ _).symm.trans H; rw [hy421]; with_reducible exact H2_) | (have H2_ := (Option.bind_some _ _).symm.trans H; with_reducible exact H2_) | with_reducible exact H | (rw [hy421]; exact H) | exact H
                          have Ny421 := Aside0.mk hy421
                          clear hy421
                          have H' := Aside0.mk H
                          clear H
                          have p417 : 0 ≤ (x16_3 : Int) := of_decide_eq_true (by first | (with_reducible assumption) | assumption)
                          have q417 : x16_3 < (y414.length : Int) := of_decide_eq_true (by first | (with_reducible assumption) | assumption)
                          obtain ⟨ad417, e417, hx417_0⟩ := Kd.at_int (Kd.R_reads' HO_14.out).2.2 x16_3 p417 q417
                          cases e417
                          replace p417 := eq_true p417
                          replace q417 := eq_true q417
                          go_wp2_with (first | ((with_reducible refine gate_dst (N := 29) rfl ?_); refine Kd.R_lit k23 _ 23 ?hg (N := 29) ?hd (xs := ([(⟨x2_1, x3_2, 0, 0, 0, 0, rd y414 x16_3, false⟩ : S23), (⟨x2_1, x3_2, 0, 0, 0, 0, rd y414 x16_3, true⟩ : S23)] : List (S23))) (inner := [.int .i64 x2_1, .int .i64 x3_2, .int .i64 0, .int .i64 0, .int .i64 0, .int .i64 0, .int .i64 (rd y414 x16_3), .bool false, .int .i64 x2_1, .int .i64 x3_2, .int .i64 0, .int .i64 0, .int .i64 0, .int .i64 0, .int .i64 (rd y414 x16_3), .bool true]) (ok := fun _ => True) (okp := fun _ => True) ?hr ?hp (fun _ hk => hk) trivial (Below.refl _ _) (Nat.le_refl _) (by simp) ?_; (case hd => rfl); (case hg => rfl); (case hr => first | (go_simp; done) | (go_simp; rfl)); (case hp => exact (Reps.c8 (show Kd.M k23 _ _ _ (⟨x2_1, x3_2, 0, 0, 0, 0, rd y414 x16_3, false⟩ : S23) [.int .i64 x2_1, .int .i64 x3_2, .int .i64 0, .int .i64 0, .int .i64 0, .int .i64 0, .int .i64 (rd y414 x16_3), .bool false] from (k23_mkM _ _ _ (⟨x2_1, x3_2, 0, 0, 0, 0, rd y414 x16_3, false⟩ : S23) )) (Reps.c8 (show Kd.M k23 _ _ _ (⟨x2_1, x3_2, 0, 0, 0, 0, rd y414 x16_3, true⟩ : S23) [.int .i64 x2_1, .int .i64 x3_2, .int .i64 0, .int .i64 0, .int .i64 0, .int .i64 0, .int .i64 (rd y414 x16_3), .bool true] from (k23_mkM _ _ _ (⟨x2_1, x3_2, 0, 0, 0, 0, rd y414 x16_3, true⟩ : S23) )) (Reps.none _ _)))); intro v419 w10 ho11 hb hg_ hnew_; clear hg_ hnew_; (first | rw [← Ny418.out] at ho11 | (simp only [Int.reduceToNat] at ho11; rw [← Ny418.out] at ho11)); have n0_ := Aside0.mk (Kd.R_elder' (by (with_reducible repeat (first | apply Kd.R_alloc | apply Kd.R_drewN | apply Kd.R_drew)); exact HO_1.out) (Kd.R_base ho11) hb); have n1_ := Aside0.mk (Kd.R_below (by (with_reducible repeat (first | apply Kd.R_alloc | apply Kd.R_drewN | apply Kd.R_drew)); exact HO_14.out) hb); have n2_ := Aside0.mk (Kd.R_lower (Kd.R_new' ho11 (Kd.R_lt (by (with_reducible repeat (first | apply Kd.R_alloc | apply Kd.R_drewN | apply Kd.R_drew)); exact HO_1.out))) (below_size (by repeat (first | (with_reducible first | exact HB.out | apply below_alloc | apply pw_below_drewN | apply below_drew1) | exact HB.out)))); have n3_ := Aside0.mk (below_step (by repeat (first | (with_reducible first | exact HB.out | apply below_alloc | apply pw_below_drewN | apply below_drew1) | exact HB.out)) hb); clear HO_1; clear HO_14; clear HB; have HO_1 := n0_; have HO_14 := n1_; have HO420 := n2_; have HB := n3_; clear n0_ n1_ n2_ n3_; clear hb ho11; obtain ⟨Ao13, co13, eo13⟩ := Kd.R_slice HO420.out; subst eo13) | ((with_reducible refine gate_builtin (b := .append) (xs := #[.tmp 20, .tmp 29]) rfl ?_); at_builtin; refine Kd.R_append_rows k23 (w0 := w) w.heap.size rfl (.tmp 20) (.tmp 29) 41 23 (.agg #[(.int .i64 0), (.int .i64 0), (.int .i64 0), (.int .i64 0), (.int .i64 0), (.int .i64 0), (.int .i64 0), (.bool false)]) 64 rfl Tryz.underlying41 info23 rfl (by decide) (by omega) u1 x1_3 y418 _ _ _ (fun k_ => some k_ ≠ (.slice Ao13 y418.length co13 : Value).ownBlock) (fun _ => False) rfl rfl ?aO ?aR (fun _ _ h => h) (fun _ h => h.elim) ?aF ?aB ?aS ?aL ?_; (case aR => repeat (first | exact (Kd.R_reads' HO420.out).2.2 | (with_reducible refine Kd.C_alloc ?_ _) | (with_reducible refine Kd.C_drewN ?_ _) | (with_reducible refine Kd.C_drew ?_))); (case aB => exact (by repeat (first | (with_reducible first | exact HB.out | apply below_alloc | apply pw_below_drewN | apply below_drew1) | exact HB.out))); (case aF => exact (fun k_ hk => Kd.fresh' (Kd.R_lt (by (with_reducible repeat (first | apply Kd.R_alloc | apply Kd.R_drewN | apply Kd.R_drew)); exact HO420.out)) k_ hk)); (case aO => exact (by (with_reducible repeat (first | apply Kd.R_alloc | apply Kd.R_drewN | apply Kd.R_drew)); exact Kd.R_mono HO_1.out (fun _ hk => hk.2))); (case aS => exact (below_size (by repeat (first | (with_reducible first | exact HB.out | apply below_alloc | apply pw_below_drewN | apply below_drew1) | exact HB.out)))); (case aL => have := LMc9.out; omega); intro v422 w12 ho hb hg hat; rw [← Ny421.out] at ho; have n0_ := Aside0.mk (Kd.R_over' (by (with_reducible repeat (first | apply Kd.R_alloc | apply Kd.R_drewN | apply Kd.R_drew)); exact HO_14.out) (Kd.R_typed (by (with_reducible repeat (first | apply Kd.R_alloc | apply Kd.R_drewN | apply Kd.R_drew)); exact HO_1.out)) (by decide) hg); have n1_ := Aside0.mk (Kd.R_after (ok := (fun _ => True)) (by (with_reducible repeat (first | apply Kd.R_alloc | apply Kd.R_drewN | apply Kd.R_drew)); exact HO420.out) hg hat); have n2_ := Aside0.mk (hb); have n3_ := Aside0.mk (ho); clear HO_14; clear HO420; clear HB; clear HO_1; have HO_14 := n0_; have HO420 := n1_; have HB := n2_; have HO423 := n3_; clear n0_ n1_ n2_ n3_; clear ho hb hg hat))
                          go_roundg k3
                          case measure => have := HK1.out; have := HK2.out; have := HK3.out; omega
                          case rel => exact ⟨(y421), (wrap64 (x16_3 + 1)), (by first | rfl | (simp; done) | (simp [*]; done)), H', ⟨by have := HK1.out; have := HK2.out; have := HK3.out; omega⟩, ⟨by (with_reducible repeat (first | apply Kd.R_alloc | apply Kd.R_drewN | apply Kd.R_drew)); exact Kd.R_mono HO423.out (fun _ hk => trivial)⟩, ⟨by (with_reducible repeat (first | apply Kd.R_alloc | apply Kd.R_drewN | apply Kd.R_drew)); exact HO_14.out⟩, ⟨by repeat (first | (with_reducible first | exact HB.out | apply below_alloc | apply pw_below_drewN | apply below_drew1) | exact HB.out)⟩⟩
                        · rw [if_neg c9] at H
                          exact absurd H (by simp)
                      · rw [if_neg c8] at H
                        exact absurd H (by simp)
                    · rw [if_neg c7] at H
                      exact absurd H (by simp)
                  · rw [if_neg c6] at H
                    have c6b0 : decide (x16_3 < (y414.length : Int)) = false := decide_eq_false c6
                    clear c6
                    have H' := Aside0.mk H
                    clear H
                    go_wp2
                    go_roundg k3
                    case measure => have := HK1.out; have := HK2.out; have := HK3.out; omega
                    case rel => exact ⟨(x1_3), (wrap64 (x3_2 + 1)), (by first | rfl | (simp; done) | (simp [*]; done)), H', ⟨by have := HK1.out; have := HK2.out; have := HK3.out; omega⟩, ⟨by (with_reducible repeat (first | apply Kd.R_alloc | apply Kd.R_drewN | apply Kd.R_drew)); exact HO_1.out⟩, ⟨by repeat (first | (with_reducible first | exact HB.out | apply below_alloc | apply pw_below_drewN | apply below_drew1) | exact HB.out)⟩⟩
            · rw [if_neg c2] at H
              have c2b0 : decide (x3_2 ≤ 28) = false := decide_eq_false c2
              clear c2
              have H' := Aside0.mk H
              clear H
              go_wp2
              go_roundg k2
              case measure => have := HK1.out; have := HK2.out; omega
              case rel => exact ⟨(x1_2), (wrap64 (x2_1 + 1)), (by first | rfl | (simp; done) | (simp [*]; done)), H', ⟨by have := HK1.out; have := HK2.out; omega⟩, ⟨by (with_reducible repeat (first | apply Kd.R_alloc | apply Kd.R_drewN | apply Kd.R_drew)); exact HO_1.out⟩, ⟨by repeat (first | (with_reducible first | exact HB.out | apply below_alloc | apply pw_below_drewN | apply below_drew1) | exact HB.out)⟩⟩
      · rw [if_neg c1] at H
        have c1b0 : decide (x2_1 ≤ 20) = false := decide_eq_false c1
        clear c1
        obtain rfl := Option.some.inj H
        go_wp2
        go_ret
        exact ⟨_, by first | rfl | (simp [errW_none, errW_some] <;> rfl) | (simp [*, errW_none, errW_some] <;> rfl), by (with_reducible repeat (first | apply Kd.R_alloc | apply Kd.R_drewN | apply Kd.R_drew)); exact HO_1.out, by repeat (first | (with_reducible first | exact HB.out | apply below_alloc | apply pw_below_drewN | apply below_drew1) | exact HB.out)⟩

def asm_nothing.f (a0 : ByteArray) : Option (Bool) := if a0.toList = ([] : List UInt8) then (some true) else (if 0 < (a0.size : Int) then (some ((bt a0 0) == 35)) else (none))
set_option maxHeartbeats 8000000 in
set_option maxRecDepth 100000 in
theorem asm_nothing.calls (a0 : ByteArray) (r : Bool) (w : World) (h : asm_nothing.f a0 = some r) :
    Calls Tryz.prog 47 #[.string a0] w fun e w' => e = .returned (.bool r) ∧ Drawn0 w w' := by
  have H : (if a0.toList = ([] : List UInt8) then (some true) else (if 0 < (a0.size : Int) then (some ((bt a0 0) == 35)) else (none))) = some r := h
  clear h
  by_cases c2 : a0.toList = ([] : List UInt8)
  · rw [if_pos c2] at H
    have c2b0 : (a0.toList == ([] : List UInt8)) = true := beq_iff_eq.mpr c2
    have c2b1 : (a0.toList != ([] : List UInt8)) = false := bne_eq_false_iff_eq.mpr c2
    clear c2
    obtain rfl := Option.some.inj H
    go_enter Tryz.func47, Tryz.ntmps47
    go_wp2
    go_ret
    exact ⟨by first | rfl | (simp; done) | (simp [*]; done), by repeat (first | exact Drawn0.refl _ | apply Drawn0.step)⟩
  · rw [if_neg c2] at H
    have c2b0 : (a0.toList == ([] : List UInt8)) = false := beq_eq_false_iff_ne.mpr c2
    have c2b1 : (a0.toList != ([] : List UInt8)) = true := bne_iff_ne.mpr c2
    by_cases c3 : 0 < (a0.size : Int)
    · rw [if_pos c3] at H
      have c3b0 : decide (0 < (a0.size : Int)) = true := decide_eq_true c3
      have c3b1 : decide (0 < a0.size) = true := decide_eq_true (by omega)
      clear c3
      obtain rfl := Option.some.inj H
      have p4 : 0 ≤ (0 : Int) := (by omega)
      have q4 : 0 < a0.size := (by have : (0 : Int) < (a0.size : Int) := of_decide_eq_true (by first | (with_reducible assumption) | assumption); omega)
      have hx4 : ∀ h : 0 < a0.size, ((a0[0]'h).toNat : Int) = bt a0 0 := bt_at a0 0
      clear p4
      have qi4 : (0 < (a0.size : Int)) = True := eq_true (of_decide_eq_true (by first | (with_reducible assumption) | assumption))
      replace q4 := eq_true q4
      go_enter Tryz.func47, Tryz.ntmps47
      go_wp2
      go_ret
      exact ⟨by first | rfl | (simp; done) | (simp [*]; done), by repeat (first | exact Drawn0.refl _ | apply Drawn0.step)⟩
    · rw [if_neg c3] at H
      exact absurd H (by simp)


end Go.Proofs.YtjapahcbhjjeiaaGreatDoor.PA
