-- PRINTED by print.py (a twelfth state) out of the translation. Not trusted: Lean checks it.
import Derived.Test.YtjapahcbhjjeiaaGreatDoorPAx0
import Derived.Test.YtjapahcbhjjeiaaGreatDoorG2
namespace Go.Proofs.YtjapahcbhjjeiaaGreatDoor.PA
open Go.RowKit Go.Proofs.YtjapahcbhjjeiaaGreatDoorW.PrintWords Go.Proofs.YtjapahcbhjjeiaaGreatDoorW.PrintLast Go.Proofs.YtjapahcbhjjeiaaGreatDoorW.PrintMore
attribute [local go_sem] max2_int min2_int max_two min_two max_three min_three max_four min_four   -- for this text's walks alone
set_option linter.unusedVariables false
set_option linter.unusedSimpArgs false

def inst_atomic.j0 : Nat → Int → Bool → Int → Int → Int → Int → Int → Int → Int → Bool → Option (Int × Int × Int × Int × Int × Int × Int × Bool × Bool)
  | 0, _, _, _, _, _, _, _, _, _, _ => none
  | k + 1, x0, x23, x233000, x233001, x233002, x233003, x233004, x233005, x233006, x233007 => if x23 = true then (some (x233000, x233001, x233002, x233003, x233004, x233005, x233006, x233007, false)) else ((inst_word_bits.f x0 31 27).bind fun t235 => (if t235 = 2 then ((inst_word_rs2.f x0).bind fun t236 => (some (15, x233001, x233002, x233003, x233004, x233005, x233006, x233007, (t236 == 0)))) else (if t235 = 3 then (some (16, x233001, x233002, x233003, x233004, x233005, x233006, x233007, true)) else (if t235 = 1 then (some (17, 1, x233002, x233003, x233004, x233005, x233006, x233007, true)) else (if (Go.bits .and .i64 t235 3) = 0 then ((inst_pick.f (([2, 3, 5, 4, 6, 7, 8, 9] : List Int)) (wrap64 (Int.tdiv t235 4))).bind fun t240 => (some (17, t240, x233002, x233003, x233004, x233005, x233006, x233007, true))) else (some (x233000, x233001, x233002, x233003, x233004, x233005, x233006, x233007, false)))))))
def inst_atomic.f (k : Nat) (a0 : Int) : Option (Int × Int × Int × Int × Int × Int × Int × Bool × Bool) := (inst_word_f3.f a0).bind fun t228 => (if 0 ≤ t228 then ((inst_word_rd.f a0).bind fun t229 => ((inst_word_rs1.f a0).bind fun t230 => ((inst_word_rs2.f a0).bind fun t231 => ((inst_word_f3.f a0).bind fun t233 => (if t233 = 2 then (inst_atomic.j0 k a0 false 0 0 t229 t230 t231 0 (shl .i64 1 t228) false) else ((inst_word_f3.f a0).bind fun t234 => (inst_atomic.j0 k a0 (t234 != 3) 0 0 t229 t230 t231 0 (shl .i64 1 t228) false))))))) else (none))
theorem inst_atomic.mono_l : ∀ k, (∀ y0 y1 y2 y3 y4 y5 y6 y7 y8 y9, LeO (inst_atomic.j0 k y0 y1 y2 y3 y4 y5 y6 y7 y8 y9) (inst_atomic.j0 (k + 1) y0 y1 y2 y3 y4 y5 y6 y7 y8 y9))
  | 0 => fun _ _ _ _ _ _ _ _ _ _ r h => by simp [inst_atomic.j0] at h
  | k + 1 => by
    have ih0 := inst_atomic.mono_l k
    · intro y0 y1 y2 y3 y4 y5 y6 y7 y8 y9
      unfold inst_atomic.j0
      repeat' first
      | (with_reducible exact ih0 _ _ _ _ _ _ _ _ _ _)
      | (with_reducible exact LeO.refl _)
      | (with_reducible exact LeO.none _)
      | (with_reducible refine LeO.ite ?_ ?_)
      | (with_reducible refine LeO.bind ?_ (fun _ => ?_))
      | exact ih0 _ _ _ _ _ _ _ _ _ _
      | exact LeO.none _
      | refine LeO.ite ?_ ?_
      | refine LeO.bind ?_ (fun _ => ?_)
theorem inst_atomic.mono : ∀ a0 k, LeO (inst_atomic.f k a0) (inst_atomic.f (k + 1) a0) := by
  intro a0 k
  have ih0 := inst_atomic.mono_l k
  unfold inst_atomic.f
  repeat' first
      | (with_reducible exact ih0 _ _ _ _ _ _ _ _ _ _)
      | (with_reducible exact LeO.refl _)
      | (with_reducible exact LeO.none _)
      | (with_reducible refine LeO.ite ?_ ?_)
      | (with_reducible refine LeO.bind ?_ (fun _ => ?_))
      | exact ih0 _ _ _ _ _ _ _ _ _ _
      | exact LeO.none _
      | refine LeO.ite ?_ ?_
      | refine LeO.bind ?_ (fun _ => ?_)
def inst_atomic.T1 : Bool × List (List Nat × List Nat) := (true, [([], []), ([0], [0]), ([1], [1]), ([], []), ([3, 1], [3]), ([], []), ([5, 4], [5]), ([], []), ([7, 6], [7]), ([2, 4, 6, 8], [2, 4, 6, 8]), ([], []), ([10, 9, 8, 0, 1, 2, 3, 4, 5, 6, 7, 8, 9, 10], [9, 10])])
def inst_atomic.B1 : List Nat := [0, 1, 3, 0, 11, 0, 59, 0, 251, 511, 0, 2047]
theorem inst_atomic.tab1 : rtab .any (opsOf Tryz.f98 1) = inst_atomic.T1 := by kernel_rfl
theorem inst_atomic.bits1 : waitsOk inst_atomic.T1.2 inst_atomic.B1 = true := by kernel_rfl
set_option maxHeartbeats 8000000 in
set_option maxRecDepth 100000 in
theorem inst_atomic.calls (k : Nat) (a0 : Int) (r1 : Int) (r2 : Int) (r3 : Int) (r4 : Int) (r5 : Int) (r6 : Int) (r7 : Int) (r8 : Bool) (r9 : Bool) (w : World) (h : inst_atomic.f k a0 = some (r1, r2, r3, r4, r5, r6, r7, r8, r9)) :
    Calls Tryz.prog 98 #[.int .u32 a0] w fun e w' => e = .returned (.tuple #[.agg #[.int .i64 r1, .int .i64 r2, .int .i64 r3, .int .i64 r4, .int .i64 r5, .int .i64 r6, .int .i64 r7, .bool r8], .bool r9]) ∧ Below w.heap.size w w' := by
  have hu23 := Tryz.underlying23
  have HB := Aside0.mk (Below.refl w.heap.size w)
  have H : ((inst_word_f3.f a0).bind fun t228 => (if 0 ≤ t228 then ((inst_word_rd.f a0).bind fun t229 => ((inst_word_rs1.f a0).bind fun t230 => ((inst_word_rs2.f a0).bind fun t231 => ((inst_word_f3.f a0).bind fun t233 => (if t233 = 2 then (inst_atomic.j0 k a0 false 0 0 t229 t230 t231 0 (shl .i64 1 t228) false) else ((inst_word_f3.f a0).bind fun t234 => (inst_atomic.j0 k a0 (t234 != 3) 0 0 t229 t230 t231 0 (shl .i64 1 t228) false))))))) else (none))) = some (r1, r2, r3, r4, r5, r6, r7, r8, r9) := h
  clear h
  replace H := Option.bind_eq_some_iff.mp H
  obtain ⟨t228, A20, H⟩ := H
  replace H : (if 0 ≤ t228 then ((inst_word_rd.f a0).bind fun t229 => ((inst_word_rs1.f a0).bind fun t230 => ((inst_word_rs2.f a0).bind fun t231 => ((inst_word_f3.f a0).bind fun t233 => (if t233 = 2 then (inst_atomic.j0 k a0 false 0 0 t229 t230 t231 0 (shl .i64 1 t228) false) else ((inst_word_f3.f a0).bind fun t234 => (inst_atomic.j0 k a0 (t234 != 3) 0 0 t229 t230 t231 0 (shl .i64 1 t228) false))))))) else (none)) = some (r1, r2, r3, r4, r5, r6, r7, r8, r9) := H
  have A2 := Aside0.mk A20
  clear A20
  by_cases c3 : 0 ≤ t228
  · rw [if_pos c3] at H
    have c3b0 := eq_true c3
    have c3b1 : decide (0 ≤ t228) = true := decide_eq_true c3
    clear c3
    obtain ⟨ji4, hji4⟩ : ∃ j_ : Int, (shl .i64 1 t228) = j_ := ⟨_, rfl⟩
    replace H : ((inst_word_rd.f a0).bind fun t229 => ((inst_word_rs1.f a0).bind fun t230 => ((inst_word_rs2.f a0).bind fun t231 => ((inst_word_f3.f a0).bind fun t233 => (if t233 = 2 then (inst_atomic.j0 k a0 false 0 0 t229 t230 t231 0 ji4 false) else ((inst_word_f3.f a0).bind fun t234 => (inst_atomic.j0 k a0 (t234 != 3) 0 0 t229 t230 t231 0 ji4 false))))))) = some (r1, r2, r3, r4, r5, r6, r7, r8, r9) := by first | (rw [hji4] at H; exact H) | (simp only [hji4] at H ⊢; exact H)
    (try rw [hji4] at A2)
    have hji4_ : (IntKind.i64.wrap (1 * 2 ^ min t228.toNat 64)) = ji4 := hji4
    have hji4z : t228 ≤ 64 → (IntKind.i64.wrap (1 * 2 ^ t228.toNat)) = ji4 := shl_small hji4
    have hji4u : (IntKind.i64.wrap (2 ^ min t228.toNat 64)) = ji4 := by have h_ := hji4_; rw [Int.one_mul] at h_; exact h_
    have hji4v : t228 ≤ 64 → (IntKind.i64.wrap (2 ^ t228.toNat)) = ji4 := fun hle_ => by have h_ := hji4z hle_; rw [Int.one_mul] at h_; exact h_
    have hji4y : (wrap64 (1 * 2 ^ min t228.toNat 64)) = ji4 := (i64_w _).symm.trans hji4_
    have hji4x : t228 ≤ 64 → (wrap64 (1 * 2 ^ t228.toNat)) = ji4 := fun h_ => (i64_w _).symm.trans (hji4z h_)
    replace H := Option.bind_eq_some_iff.mp H
    obtain ⟨t229, A50, H⟩ := H
    replace H : ((inst_word_rs1.f a0).bind fun t230 => ((inst_word_rs2.f a0).bind fun t231 => ((inst_word_f3.f a0).bind fun t233 => (if t233 = 2 then (inst_atomic.j0 k a0 false 0 0 t229 t230 t231 0 ji4 false) else ((inst_word_f3.f a0).bind fun t234 => (inst_atomic.j0 k a0 (t234 != 3) 0 0 t229 t230 t231 0 ji4 false)))))) = some (r1, r2, r3, r4, r5, r6, r7, r8, r9) := H
    have A5 := Aside0.mk A50
    clear A50
    replace H := Option.bind_eq_some_iff.mp H
    obtain ⟨t230, A60, H⟩ := H
    replace H : ((inst_word_rs2.f a0).bind fun t231 => ((inst_word_f3.f a0).bind fun t233 => (if t233 = 2 then (inst_atomic.j0 k a0 false 0 0 t229 t230 t231 0 ji4 false) else ((inst_word_f3.f a0).bind fun t234 => (inst_atomic.j0 k a0 (t234 != 3) 0 0 t229 t230 t231 0 ji4 false))))) = some (r1, r2, r3, r4, r5, r6, r7, r8, r9) := H
    have A6 := Aside0.mk A60
    clear A60
    replace H := Option.bind_eq_some_iff.mp H
    obtain ⟨t231, A70, H⟩ := H
    replace H : ((inst_word_f3.f a0).bind fun t233 => (if t233 = 2 then (inst_atomic.j0 k a0 false 0 0 t229 t230 t231 0 ji4 false) else ((inst_word_f3.f a0).bind fun t234 => (inst_atomic.j0 k a0 (t234 != 3) 0 0 t229 t230 t231 0 ji4 false)))) = some (r1, r2, r3, r4, r5, r6, r7, r8, r9) := H
    have A7 := Aside0.mk A70
    clear A70
    have HC8 := Aside0.mk H
    clear H
    go_enter Tryz.func98, Tryz.ntmps98
    try go_wp2_with (first | ((with_reducible refine gate_dst (N := 2) rfl ?_); refine box_event (by rfl) (N := 2) (by rfl) (cs := #[.int .i64 0, .int .i64 0, .int .i64 0, .int .i64 0, .int .i64 0, .int .i64 0, .int .i64 0, .bool false]) (t := 23) (by first | (go_simp; done) | (go_simp; rfl)) ?_; intro gb227 hg w9 hbox hb; have n0_ := Aside0.mk (below_step (by repeat (first | (with_reducible first | exact HB.out | apply below_alloc | apply pw_below_drewN | apply below_drew1) | exact HB.out)) hb); have n1_ := Aside0.mk (hbox); have n2_ := Aside0.mk ((by rw [hg]; exact (below_size (by repeat (first | (with_reducible first | exact HB.out | apply below_alloc | apply pw_below_drewN | apply below_drew1) | exact HB.out))) : w.heap.size ≤ gb227)); have n3_ := Aside0.mk ((by rw [hg]; exact (below_size (by repeat (first | (with_reducible first | exact HB.out | apply below_alloc | apply pw_below_drewN | apply below_drew1) | exact HB.out))) : w.heap.size ≤ gb227)); clear HB; have HB := n0_; have BK227 := n1_; have GW227 := n2_; have GE227 := n3_; clear n0_ n1_ n2_ n3_; clear hb hbox hg))
    have n0_ := Aside0.mk (blk_drew BK227.out)
    have n1_ := Aside0.mk (below_drew1 HB.out)
    clear BK227
    clear HB
    have BK227 := n0_
    have HB := n1_
    clear n0_ n1_
    refine start_ (n := 12) (S := fun w' => True) (ds := []) #[false, false, false, false, false, false, false, false, false, false, false, false] (by kernel_rfl) rfl rfl trivial (fun hHeld => ?_); refine with_tabW inst_atomic.tab1 inst_atomic.bits1 (fun HT_ HW_ => ?_)
    generalize w9.drew = w10 at BK227 HB hHeld ⊢
    refine pure_ (i := 0) (N := some 6) (v := ?_) (a' := ?_) #[true, false, false, false, false, false, false, false, false, false, false, false] rfl rfl (any_of HT_.out (by kernel_rfl)) (fun _ _ _ h => h) (Or.inl ⟨by rfl, ?_⟩) ?_ ?_
    rotate_left
    · intro w'
      go_simp
      with_reducible rfl
    rotate_left
    · simp only [Act.put, putS]
      rfl
    refine pure_ (i := 3) (N := some 9) (v := ?_) (a' := ?_) #[true, false, false, true, false, false, false, false, false, false, false, false] rfl rfl (any_of HT_.out (by kernel_rfl)) (fun _ _ _ h => h) (Or.inl ⟨by rfl, ?_⟩) ?_ ?_
    rotate_left
    · intro w'
      go_simp
      with_reducible rfl
    rotate_left
    · simp only [Act.put, putS]
      rfl
    refine pure_ (i := 5) (N := some 11) (v := ?_) (a' := ?_) #[true, false, false, true, false, true, false, false, false, false, false, false] rfl rfl (any_of HT_.out (by kernel_rfl)) (fun _ _ _ h => h) (Or.inl ⟨by rfl, ?_⟩) ?_ ?_
    rotate_left
    · intro w'
      go_simp
      with_reducible rfl
    rotate_left
    · simp only [Act.put, putS]
      rfl
    refine pure_ (i := 7) (N := some 13) (v := ?_) (a' := ?_) #[true, false, false, true, false, true, false, true, false, false, false, false] rfl rfl (any_of HT_.out (by kernel_rfl)) (fun _ _ _ h => h) (Or.inl ⟨by rfl, ?_⟩) ?_ ?_
    rotate_left
    · intro w'
      go_simp
      with_reducible rfl
    rotate_left
    · simp only [Act.put, putS]
      rfl
    refine join_ (σ := Nat) 1 #[true, true, true, true, true, true, true, true, true, true, true, false] (fun s_ => [(7, .int .i64 t228), (10, .int .i64 t229), (12, .int .i64 t230), (14, .int .i64 t231), (4, .pointer (some ⟨s_, 0, none⟩)), (8, .int .i64 ji4), (15, .agg #[.int .i64 0, .int .i64 0, .int .i64 t229, .int .i64 t230, .int .i64 t231, .int .i64 0, .int .i64 ji4, .bool false])]) (fun s_ w' => (w'.heap[gb227]? = some (.cells #[.int .i64 0, .int .i64 0, .int .i64 0, .int .i64 0, .int .i64 0, .int .i64 0, .int .i64 0, .bool false] 23 (0, 0))) ∧ (w'.heap[s_]? = some (.cells #[.int .i64 0, .int .i64 0, .int .i64 0, .int .i64 0, .int .i64 0, .int .i64 0, .int .i64 0, .bool false] 23 (0, 0))) ∧ (w.heap.size ≤ s_) ∧ (w.heap.size ≤ s_) ∧ (gb227 ≠ s_) ∧ (s_ ≠ gb227) ∧ (Below w.heap.size w w')) ?_ ?_
    rotate_left
    · intro hJ1_4_6_8_10
      refine join_ (σ := Unit) 2 #[true, true, true, true, true, true, true, true, true, true, false, false] (fun s_ => [(7, .int .i64 t228), (10, .int .i64 t229), (12, .int .i64 t230), (14, .int .i64 t231), (8, .int .i64 ji4), (15, .agg #[.int .i64 0, .int .i64 0, .int .i64 t229, .int .i64 t230, .int .i64 t231, .int .i64 0, .int .i64 ji4, .bool false])]) (fun s_ w' => (w'.heap[gb227]? = some (.cells #[.int .i64 0, .int .i64 0, .int .i64 0, .int .i64 0, .int .i64 0, .int .i64 0, .int .i64 0, .bool false] 23 (0, 0))) ∧ (Below w.heap.size w w')) ?_ ?_
      rotate_left
      · intro hJ1_4_6_8
        refine join_ (σ := Nat) 3 #[true, true, true, true, true, true, true, true, false, false, true, false] (fun s_ => [(7, .int .i64 t228), (10, .int .i64 t229), (12, .int .i64 t230), (4, .pointer (some ⟨s_, 0, none⟩)), (8, .int .i64 ji4)]) (fun s_ w' => (w'.heap[gb227]? = some (.cells #[.int .i64 0, .int .i64 0, .int .i64 0, .int .i64 0, .int .i64 0, .int .i64 0, .int .i64 0, .bool false] 23 (0, 0))) ∧ (w'.heap[s_]? = some (.cells #[.int .i64 0, .int .i64 0, .int .i64 0, .int .i64 0, .int .i64 0, .int .i64 0, .int .i64 0, .bool false] 23 (0, 0))) ∧ (w.heap.size ≤ s_) ∧ (w.heap.size ≤ s_) ∧ (gb227 ≠ s_) ∧ (s_ ≠ gb227) ∧ (Below w.heap.size w w')) ?_ ?_
        rotate_left
        · intro hJ1_4_6_10
          refine join_ (σ := Unit) 4 #[true, true, true, true, true, true, true, true, false, false, false, false] (fun s_ => [(7, .int .i64 t228), (10, .int .i64 t229), (12, .int .i64 t230), (8, .int .i64 ji4)]) (fun s_ w' => (w'.heap[gb227]? = some (.cells #[.int .i64 0, .int .i64 0, .int .i64 0, .int .i64 0, .int .i64 0, .int .i64 0, .int .i64 0, .bool false] 23 (0, 0))) ∧ (Below w.heap.size w w')) ?_ ?_
          rotate_left
          · intro hJ1_4_6
            refine join_ (σ := Nat) 4 #[true, true, true, true, true, true, false, true, false, false, true, false] (fun s_ => [(7, .int .i64 t228), (10, .int .i64 t229), (4, .pointer (some ⟨s_, 0, none⟩)), (8, .int .i64 ji4)]) (fun s_ w' => (w'.heap[gb227]? = some (.cells #[.int .i64 0, .int .i64 0, .int .i64 0, .int .i64 0, .int .i64 0, .int .i64 0, .int .i64 0, .bool false] 23 (0, 0))) ∧ (w'.heap[s_]? = some (.cells #[.int .i64 0, .int .i64 0, .int .i64 0, .int .i64 0, .int .i64 0, .int .i64 0, .int .i64 0, .bool false] 23 (0, 0))) ∧ (w.heap.size ≤ s_) ∧ (w.heap.size ≤ s_) ∧ (gb227 ≠ s_) ∧ (s_ ≠ gb227) ∧ (Below w.heap.size w w')) ?_ ?_
            rotate_left
            · intro hJ1_4_10
              refine join_ (σ := Unit) 5 #[true, true, true, true, true, true, false, true, false, false, false, false] (fun s_ => [(7, .int .i64 t228), (10, .int .i64 t229), (8, .int .i64 ji4)]) (fun s_ w' => (w'.heap[gb227]? = some (.cells #[.int .i64 0, .int .i64 0, .int .i64 0, .int .i64 0, .int .i64 0, .int .i64 0, .int .i64 0, .bool false] 23 (0, 0))) ∧ (Below w.heap.size w w')) ?_ ?_
              rotate_left
              · intro hJ1_4
                refine join_ (σ := Nat) 5 #[true, true, true, true, false, true, false, true, false, false, true, false] (fun s_ => [(7, .int .i64 t228), (4, .pointer (some ⟨s_, 0, none⟩)), (8, .int .i64 ji4)]) (fun s_ w' => (w'.heap[gb227]? = some (.cells #[.int .i64 0, .int .i64 0, .int .i64 0, .int .i64 0, .int .i64 0, .int .i64 0, .int .i64 0, .bool false] 23 (0, 0))) ∧ (w'.heap[s_]? = some (.cells #[.int .i64 0, .int .i64 0, .int .i64 0, .int .i64 0, .int .i64 0, .int .i64 0, .int .i64 0, .bool false] 23 (0, 0))) ∧ (w.heap.size ≤ s_) ∧ (w.heap.size ≤ s_) ∧ (gb227 ≠ s_) ∧ (s_ ≠ gb227) ∧ (Below w.heap.size w w')) ?_ ?_
                rotate_left
                · intro hJ1_10
                  refine join_ (σ := Unit) 6 #[true, true, true, true, false, true, false, true, false, false, false, false] (fun s_ => [(7, .int .i64 t228), (8, .int .i64 ji4)]) (fun s_ w' => (w'.heap[gb227]? = some (.cells #[.int .i64 0, .int .i64 0, .int .i64 0, .int .i64 0, .int .i64 0, .int .i64 0, .int .i64 0, .bool false] 23 (0, 0))) ∧ (Below w.heap.size w w')) ?_ ?_
                  rotate_left
                  · intro hJ1
                    refine join_ (σ := Nat) 7 #[true, false, false, true, false, true, false, true, false, false, true, false] (fun s_ => [(4, .pointer (some ⟨s_, 0, none⟩))]) (fun s_ w' => (w'.heap[gb227]? = some (.cells #[.int .i64 0, .int .i64 0, .int .i64 0, .int .i64 0, .int .i64 0, .int .i64 0, .int .i64 0, .bool false] 23 (0, 0))) ∧ (w'.heap[s_]? = some (.cells #[.int .i64 0, .int .i64 0, .int .i64 0, .int .i64 0, .int .i64 0, .int .i64 0, .int .i64 0, .bool false] 23 (0, 0))) ∧ (w.heap.size ≤ s_) ∧ (w.heap.size ≤ s_) ∧ (gb227 ≠ s_) ∧ (s_ ≠ gb227) ∧ (Below w.heap.size w w')) ?_ ?_
                    rotate_left
                    · intro hJ10
                      refine two_ (i := 1) (j := 10) (Ni := some 7) (Nj := some 4) #[true, true, false, true, false, true, false, true, false, false, false, false] #[true, false, false, true, false, true, false, true, false, false, true, false] rfl rfl rfl rfl (two_of HT_.out (by kernel_rfl)) (by decide) (by decide) (fun K hK => ?_) (fun K hK => ?_)
                      · skip
                        refine goes_ Tryz.func96 (by kernel_rfl) rfl #[.int .u32 a0] (by rfl) rfl rfl (by (try simp only [List.map_toArray, List.map_cons, List.map_nil]); first | done | rfl | (simp only [List.length_drop, List.length_take]; rfl)) ?_
                        with_reducible refine (inst_word_f3.calls a0 t228 _ A2.out).mono ?_
                        rintro e w' ⟨rfl, ⟨nd, rfl⟩⟩
                        refine ⟨_, rfl, ?_⟩
                        refine hK.out _ _ trivial (fun hHeld => ?_)
                        clear hK K
                        refine norm_ (a' := ?_) ?_ ?_
                        rotate_left
                        · show Act.put _ (some 7) _ = _
                          simp only [Act.put, putS]
                          rfl
                        refine pure_ (i := 2) (N := some 8) (v := ?_) (a' := ?_) #[true, true, true, true, false, true, false, true, false, false, false, false] rfl rfl (any_of HT_.out (by kernel_rfl)) (fun _ _ _ h => h) (Or.inl ⟨by rfl, ?_⟩) ?_ ?_
                        rotate_left
                        · intro w'
                          go_simp
                          with_reducible rfl
                        rotate_left
                        · simp only [Act.put, putS]
                          rfl
                        exact norm_ (by first | (simp only [putAll, Act.put, List.setIfInBounds_toArray, List.set_cons_zero, List.set_cons_succ]; done) | (simp only [putAll, Act.put, List.setIfInBounds_toArray, List.set_cons_zero, List.set_cons_succ]; rfl)) (hJ1 () _ ⟨(by (with_reducible repeat (first | refine blk_drewN ?_ _ | refine blk_drew ?_ | refine blk_alloc ?_ _)); exact BK227.out), (by repeat (first | (with_reducible first | exact HB.out | apply below_alloc | apply pw_below_drewN | apply below_drew1 | refine below_set ?_ GE227.out) | exact HB.out))⟩)
                      · skip
                        refine box_step ?hg (N := 4) ?hd (cs := #[.int .i64 0, .int .i64 0, .int .i64 0, .int .i64 0, .int .i64 0, .int .i64 0, .int .i64 0, .bool false]) (t := 23) ?hr ?_; (case hd => rfl); (case hg => rfl); (case hr => first | (go_simp; done) | (go_simp; rfl))
                        intro gb232 hg w11 hbox hb
                        have n0_ := Aside0.mk (blk_below (g := gb227) (o := .cells #[.int .i64 0, .int .i64 0, .int .i64 0, .int .i64 0, .int .i64 0, .int .i64 0, .int .i64 0, .bool false] 23 (0, 0)) (by (with_reducible repeat (first | refine blk_drewN ?_ _ | refine blk_drew ?_ | refine blk_alloc ?_ _)); exact BK227.out) hb)
                        have n1_ := Aside0.mk (below_step (by repeat (first | (with_reducible first | exact HB.out | apply below_alloc | apply pw_below_drewN | apply below_drew1 | refine below_set ?_ GE227.out) | exact HB.out)) hb)
                        have n2_ := Aside0.mk (hbox)
                        have n3_ := Aside0.mk ((by rw [hg]; exact (below_size (by repeat (first | (with_reducible first | exact HB.out | apply below_alloc | apply pw_below_drewN | apply below_drew1 | refine below_set ?_ GE227.out) | exact HB.out))) : w.heap.size ≤ gb232))
                        have n4_ := Aside0.mk ((by rw [hg]; exact (below_size (by repeat (first | (with_reducible first | exact HB.out | apply below_alloc | apply pw_below_drewN | apply below_drew1 | refine below_set ?_ GE227.out) | exact HB.out))) : w.heap.size ≤ gb232))
                        have n5_ := Aside0.mk ((by rw [hg]; exact Nat.ne_of_lt (blk_lt (g := gb227) (o := .cells #[.int .i64 0, .int .i64 0, .int .i64 0, .int .i64 0, .int .i64 0, .int .i64 0, .int .i64 0, .bool false] 23 (0, 0)) (by (with_reducible repeat (first | refine blk_drewN ?_ _ | refine blk_drew ?_ | refine blk_alloc ?_ _)); exact BK227.out)) : gb227 ≠ gb232))
                        have n6_ := Aside0.mk ((by rw [hg]; exact Nat.ne_of_gt (blk_lt (g := gb227) (o := .cells #[.int .i64 0, .int .i64 0, .int .i64 0, .int .i64 0, .int .i64 0, .int .i64 0, .int .i64 0, .bool false] 23 (0, 0)) (by (with_reducible repeat (first | refine blk_drewN ?_ _ | refine blk_drew ?_ | refine blk_alloc ?_ _)); exact BK227.out)) : gb232 ≠ gb227))
                        clear BK227
                        clear HB
                        have BK227 := n0_
                        have HB := n1_
                        have BK232 := n2_
                        have GW232 := n3_
                        have GE232 := n4_
                        have NB227_232 := n5_
                        have NB232_227 := n6_
                        clear n0_ n1_ n2_ n3_ n4_ n5_ n6_
                        clear hb hbox hg
                        refine hK.out _ _ trivial (fun hHeld => ?_)
                        clear hK K
                        refine norm_ (a' := ?_) ?_ ?_
                        rotate_left
                        · show Act.put _ (some 4) _ = _
                          simp only [Act.put, putS]
                          rfl
                        exact norm_ (by first | (simp only [putAll, Act.put, List.setIfInBounds_toArray, List.set_cons_zero, List.set_cons_succ]; done) | (simp only [putAll, Act.put, List.setIfInBounds_toArray, List.set_cons_zero, List.set_cons_succ]; rfl)) (hJ10 (gb232) _ ⟨(by (with_reducible repeat (first | refine blk_drewN ?_ _ | refine blk_drew ?_ | refine blk_alloc ?_ _)); exact BK227.out), (by (with_reducible repeat (first | refine blk_drewN ?_ _ | refine blk_drew ?_ | refine blk_alloc ?_ _)); exact BK232.out), GW232.out, GE232.out, NB227_232.out, NB232_227.out, (by repeat (first | (with_reducible first | exact HB.out | apply below_alloc | apply pw_below_drewN | apply below_drew1 | refine below_set ?_ GE227.out | refine below_set ?_ GE232.out) | exact HB.out))⟩)
                    · skip
                      rintro gb232 w12 ⟨h0_, h1_, h2_, h3_, h4_, h5_, h6_⟩
                      have n0_ : Aside0 (w12.heap[gb227]? = some (.cells #[.int .i64 0, .int .i64 0, .int .i64 0, .int .i64 0, .int .i64 0, .int .i64 0, .int .i64 0, .bool false] 23 (0, 0))) := ⟨h0_⟩
                      have n1_ : Aside0 (w12.heap[gb232]? = some (.cells #[.int .i64 0, .int .i64 0, .int .i64 0, .int .i64 0, .int .i64 0, .int .i64 0, .int .i64 0, .bool false] 23 (0, 0))) := ⟨h1_⟩
                      have n2_ : Aside0 (w.heap.size ≤ gb232) := ⟨h2_⟩
                      have n3_ : Aside0 (w.heap.size ≤ gb232) := ⟨h3_⟩
                      have n4_ : Aside0 (gb227 ≠ gb232) := ⟨h4_⟩
                      have n5_ : Aside0 (gb232 ≠ gb227) := ⟨h5_⟩
                      have n6_ : Aside0 (Below w.heap.size w w12) := ⟨h6_⟩
                      clear BK227
                      clear HB
                      clear h0_ h1_ h2_ h3_ h4_ h5_ h6_
                      have BK227 := n0_
                      have BK232 := n1_
                      have GW232 := n2_
                      have GE232 := n3_
                      have NB227_232 := n4_
                      have NB232_227 := n5_
                      have HB := n6_
                      clear n0_ n1_ n2_ n3_ n4_ n5_ n6_
                      have hHeld := trivial
                      refine norm_ (a' := ?_) ?_ ?_
                      rotate_left
                      · simp only [putAll, Act.put, List.setIfInBounds_toArray, List.set_cons_zero, List.set_cons_succ]
                        rfl
                      refine one_ (i := 1) (N := some 7) #[true, true, false, true, false, true, false, true, false, false, true, false] rfl rfl (one_of HT_.out (by kernel_rfl)) (by decide) (fun K hK => ?_)
                      refine goes_ Tryz.func96 (by kernel_rfl) rfl #[.int .u32 a0] (by rfl) rfl rfl (by (try simp only [List.map_toArray, List.map_cons, List.map_nil]); first | done | rfl | (simp only [List.length_drop, List.length_take]; rfl)) ?_
                      with_reducible refine (inst_word_f3.calls a0 t228 _ A2.out).mono ?_
                      rintro e w' ⟨rfl, ⟨nd, rfl⟩⟩
                      refine ⟨_, rfl, ?_⟩
                      refine hK.out _ _ trivial (fun hHeld => ?_)
                      clear hK K
                      refine norm_ (a' := ?_) ?_ ?_
                      rotate_left
                      · show Act.put _ (some 7) _ = _
                        simp only [Act.put, putS]
                        rfl
                      refine pure_ (i := 2) (N := some 8) (v := ?_) (a' := ?_) #[true, true, true, true, false, true, false, true, false, false, true, false] rfl rfl (any_of HT_.out (by kernel_rfl)) (fun _ _ _ h => h) (Or.inl ⟨by rfl, ?_⟩) ?_ ?_
                      rotate_left
                      · intro w'
                        go_simp
                        with_reducible rfl
                      rotate_left
                      · simp only [Act.put, putS]
                        rfl
                      exact norm_ (by first | (simp only [putAll, Act.put, List.setIfInBounds_toArray, List.set_cons_zero, List.set_cons_succ]; done) | (simp only [putAll, Act.put, List.setIfInBounds_toArray, List.set_cons_zero, List.set_cons_succ]; rfl)) (hJ1_10 (gb232) _ ⟨(by (with_reducible repeat (first | refine blk_drewN ?_ _ | refine blk_drew ?_ | refine blk_alloc ?_ _)); exact BK227.out), (by (with_reducible repeat (first | refine blk_drewN ?_ _ | refine blk_drew ?_ | refine blk_alloc ?_ _)); exact BK232.out), GW232.out, GE232.out, NB227_232.out, NB232_227.out, (by repeat (first | (with_reducible first | exact HB.out | apply below_alloc | apply pw_below_drewN | apply below_drew1 | refine below_set ?_ GE227.out | refine below_set ?_ GE232.out) | exact HB.out))⟩)
                  · skip
                    rintro _ w11 ⟨h0_, h1_⟩
                    have n0_ : Aside0 (w11.heap[gb227]? = some (.cells #[.int .i64 0, .int .i64 0, .int .i64 0, .int .i64 0, .int .i64 0, .int .i64 0, .int .i64 0, .bool false] 23 (0, 0))) := ⟨h0_⟩
                    have n1_ : Aside0 (Below w.heap.size w w11) := ⟨h1_⟩
                    clear BK227
                    clear HB
                    clear h0_ h1_
                    have BK227 := n0_
                    have HB := n1_
                    clear n0_ n1_
                    have hHeld := trivial
                    refine norm_ (a' := ?_) ?_ ?_
                    rotate_left
                    · simp only [putAll, Act.put, List.setIfInBounds_toArray, List.set_cons_zero, List.set_cons_succ]
                      rfl
                    refine two_ (i := 4) (j := 10) (Ni := some 10) (Nj := some 4) #[true, true, true, true, true, true, false, true, false, false, false, false] #[true, true, true, true, false, true, false, true, false, false, true, false] rfl rfl rfl rfl (two_of HT_.out (by kernel_rfl)) (by decide) (by decide) (fun K hK => ?_) (fun K hK => ?_)
                    · skip
                      refine goes_ Tryz.func100 (by kernel_rfl) rfl #[.int .u32 a0] (by rfl) rfl rfl (by (try simp only [List.map_toArray, List.map_cons, List.map_nil]); first | done | rfl | (simp only [List.length_drop, List.length_take]; rfl)) ?_
                      with_reducible refine (inst_word_rd.calls a0 t229 _ A5.out).mono ?_
                      rintro e w' ⟨rfl, ⟨nd, rfl⟩⟩
                      refine ⟨_, rfl, ?_⟩
                      refine hK.out _ _ trivial (fun hHeld => ?_)
                      clear hK K
                      refine norm_ (a' := ?_) ?_ ?_
                      rotate_left
                      · show Act.put _ (some 10) _ = _
                        simp only [Act.put, putS]
                        rfl
                      exact norm_ (by first | (simp only [putAll, Act.put, List.setIfInBounds_toArray, List.set_cons_zero, List.set_cons_succ]; done) | (simp only [putAll, Act.put, List.setIfInBounds_toArray, List.set_cons_zero, List.set_cons_succ]; rfl)) (hJ1_4 () _ ⟨(by (with_reducible repeat (first | refine blk_drewN ?_ _ | refine blk_drew ?_ | refine blk_alloc ?_ _)); exact BK227.out), (by repeat (first | (with_reducible first | exact HB.out | apply below_alloc | apply pw_below_drewN | apply below_drew1 | refine below_set ?_ GE227.out) | exact HB.out))⟩)
                    · skip
                      refine box_step ?hg (N := 4) ?hd (cs := #[.int .i64 0, .int .i64 0, .int .i64 0, .int .i64 0, .int .i64 0, .int .i64 0, .int .i64 0, .bool false]) (t := 23) ?hr ?_; (case hd => rfl); (case hg => rfl); (case hr => first | (go_simp; done) | (go_simp; rfl))
                      intro gb232 hg w12 hbox hb
                      have n0_ := Aside0.mk (blk_below (g := gb227) (o := .cells #[.int .i64 0, .int .i64 0, .int .i64 0, .int .i64 0, .int .i64 0, .int .i64 0, .int .i64 0, .bool false] 23 (0, 0)) (by (with_reducible repeat (first | refine blk_drewN ?_ _ | refine blk_drew ?_ | refine blk_alloc ?_ _)); exact BK227.out) hb)
                      have n1_ := Aside0.mk (below_step (by repeat (first | (with_reducible first | exact HB.out | apply below_alloc | apply pw_below_drewN | apply below_drew1 | refine below_set ?_ GE227.out) | exact HB.out)) hb)
                      have n2_ := Aside0.mk (hbox)
                      have n3_ := Aside0.mk ((by rw [hg]; exact (below_size (by repeat (first | (with_reducible first | exact HB.out | apply below_alloc | apply pw_below_drewN | apply below_drew1 | refine below_set ?_ GE227.out) | exact HB.out))) : w.heap.size ≤ gb232))
                      have n4_ := Aside0.mk ((by rw [hg]; exact (below_size (by repeat (first | (with_reducible first | exact HB.out | apply below_alloc | apply pw_below_drewN | apply below_drew1 | refine below_set ?_ GE227.out) | exact HB.out))) : w.heap.size ≤ gb232))
                      have n5_ := Aside0.mk ((by rw [hg]; exact Nat.ne_of_lt (blk_lt (g := gb227) (o := .cells #[.int .i64 0, .int .i64 0, .int .i64 0, .int .i64 0, .int .i64 0, .int .i64 0, .int .i64 0, .bool false] 23 (0, 0)) (by (with_reducible repeat (first | refine blk_drewN ?_ _ | refine blk_drew ?_ | refine blk_alloc ?_ _)); exact BK227.out)) : gb227 ≠ gb232))
                      have n6_ := Aside0.mk ((by rw [hg]; exact Nat.ne_of_gt (blk_lt (g := gb227) (o := .cells #[.int .i64 0, .int .i64 0, .int .i64 0, .int .i64 0, .int .i64 0, .int .i64 0, .int .i64 0, .bool false] 23 (0, 0)) (by (with_reducible repeat (first | refine blk_drewN ?_ _ | refine blk_drew ?_ | refine blk_alloc ?_ _)); exact BK227.out)) : gb232 ≠ gb227))
                      clear BK227
                      clear HB
                      have BK227 := n0_
                      have HB := n1_
                      have BK232 := n2_
                      have GW232 := n3_
                      have GE232 := n4_
                      have NB227_232 := n5_
                      have NB232_227 := n6_
                      clear n0_ n1_ n2_ n3_ n4_ n5_ n6_
                      clear hb hbox hg
                      refine hK.out _ _ trivial (fun hHeld => ?_)
                      clear hK K
                      refine norm_ (a' := ?_) ?_ ?_
                      rotate_left
                      · show Act.put _ (some 4) _ = _
                        simp only [Act.put, putS]
                        rfl
                      exact norm_ (by first | (simp only [putAll, Act.put, List.setIfInBounds_toArray, List.set_cons_zero, List.set_cons_succ]; done) | (simp only [putAll, Act.put, List.setIfInBounds_toArray, List.set_cons_zero, List.set_cons_succ]; rfl)) (hJ1_10 (gb232) _ ⟨(by (with_reducible repeat (first | refine blk_drewN ?_ _ | refine blk_drew ?_ | refine blk_alloc ?_ _)); exact BK227.out), (by (with_reducible repeat (first | refine blk_drewN ?_ _ | refine blk_drew ?_ | refine blk_alloc ?_ _)); exact BK232.out), GW232.out, GE232.out, NB227_232.out, NB232_227.out, (by repeat (first | (with_reducible first | exact HB.out | apply below_alloc | apply pw_below_drewN | apply below_drew1 | refine below_set ?_ GE227.out | refine below_set ?_ GE232.out) | exact HB.out))⟩)
                · skip
                  rintro gb232 w12 ⟨h0_, h1_, h2_, h3_, h4_, h5_, h6_⟩
                  have n0_ : Aside0 (w12.heap[gb227]? = some (.cells #[.int .i64 0, .int .i64 0, .int .i64 0, .int .i64 0, .int .i64 0, .int .i64 0, .int .i64 0, .bool false] 23 (0, 0))) := ⟨h0_⟩
                  have n1_ : Aside0 (w12.heap[gb232]? = some (.cells #[.int .i64 0, .int .i64 0, .int .i64 0, .int .i64 0, .int .i64 0, .int .i64 0, .int .i64 0, .bool false] 23 (0, 0))) := ⟨h1_⟩
                  have n2_ : Aside0 (w.heap.size ≤ gb232) := ⟨h2_⟩
                  have n3_ : Aside0 (w.heap.size ≤ gb232) := ⟨h3_⟩
                  have n4_ : Aside0 (gb227 ≠ gb232) := ⟨h4_⟩
                  have n5_ : Aside0 (gb232 ≠ gb227) := ⟨h5_⟩
                  have n6_ : Aside0 (Below w.heap.size w w12) := ⟨h6_⟩
                  clear BK227
                  clear HB
                  clear h0_ h1_ h2_ h3_ h4_ h5_ h6_
                  have BK227 := n0_
                  have BK232 := n1_
                  have GW232 := n2_
                  have GE232 := n3_
                  have NB227_232 := n4_
                  have NB232_227 := n5_
                  have HB := n6_
                  clear n0_ n1_ n2_ n3_ n4_ n5_ n6_
                  have hHeld := trivial
                  refine norm_ (a' := ?_) ?_ ?_
                  rotate_left
                  · simp only [putAll, Act.put, List.setIfInBounds_toArray, List.set_cons_zero, List.set_cons_succ]
                    rfl
                  refine one_ (i := 4) (N := some 10) #[true, true, true, true, true, true, false, true, false, false, true, false] rfl rfl (one_of HT_.out (by kernel_rfl)) (by decide) (fun K hK => ?_)
                  refine goes_ Tryz.func100 (by kernel_rfl) rfl #[.int .u32 a0] (by rfl) rfl rfl (by (try simp only [List.map_toArray, List.map_cons, List.map_nil]); first | done | rfl | (simp only [List.length_drop, List.length_take]; rfl)) ?_
                  with_reducible refine (inst_word_rd.calls a0 t229 _ A5.out).mono ?_
                  rintro e w' ⟨rfl, ⟨nd, rfl⟩⟩
                  refine ⟨_, rfl, ?_⟩
                  refine hK.out _ _ trivial (fun hHeld => ?_)
                  clear hK K
                  refine norm_ (a' := ?_) ?_ ?_
                  rotate_left
                  · show Act.put _ (some 10) _ = _
                    simp only [Act.put, putS]
                    rfl
                  exact norm_ (by first | (simp only [putAll, Act.put, List.setIfInBounds_toArray, List.set_cons_zero, List.set_cons_succ]; done) | (simp only [putAll, Act.put, List.setIfInBounds_toArray, List.set_cons_zero, List.set_cons_succ]; rfl)) (hJ1_4_10 (gb232) _ ⟨(by (with_reducible repeat (first | refine blk_drewN ?_ _ | refine blk_drew ?_ | refine blk_alloc ?_ _)); exact BK227.out), (by (with_reducible repeat (first | refine blk_drewN ?_ _ | refine blk_drew ?_ | refine blk_alloc ?_ _)); exact BK232.out), GW232.out, GE232.out, NB227_232.out, NB232_227.out, (by repeat (first | (with_reducible first | exact HB.out | apply below_alloc | apply pw_below_drewN | apply below_drew1 | refine below_set ?_ GE227.out | refine below_set ?_ GE232.out) | exact HB.out))⟩)
              · skip
                rintro _ w11 ⟨h0_, h1_⟩
                have n0_ : Aside0 (w11.heap[gb227]? = some (.cells #[.int .i64 0, .int .i64 0, .int .i64 0, .int .i64 0, .int .i64 0, .int .i64 0, .int .i64 0, .bool false] 23 (0, 0))) := ⟨h0_⟩
                have n1_ : Aside0 (Below w.heap.size w w11) := ⟨h1_⟩
                clear BK227
                clear HB
                clear h0_ h1_
                have BK227 := n0_
                have HB := n1_
                clear n0_ n1_
                have hHeld := trivial
                refine norm_ (a' := ?_) ?_ ?_
                rotate_left
                · simp only [putAll, Act.put, List.setIfInBounds_toArray, List.set_cons_zero, List.set_cons_succ]
                  rfl
                refine two_ (i := 6) (j := 10) (Ni := some 12) (Nj := some 4) #[true, true, true, true, true, true, true, true, false, false, false, false] #[true, true, true, true, true, true, false, true, false, false, true, false] rfl rfl rfl rfl (two_of HT_.out (by kernel_rfl)) (by decide) (by decide) (fun K hK => ?_) (fun K hK => ?_)
                · skip
                  refine goes_ Tryz.func101 (by kernel_rfl) rfl #[.int .u32 a0] (by rfl) rfl rfl (by (try simp only [List.map_toArray, List.map_cons, List.map_nil]); first | done | rfl | (simp only [List.length_drop, List.length_take]; rfl)) ?_
                  with_reducible refine (inst_word_rs1.calls a0 t230 _ A6.out).mono ?_
                  rintro e w' ⟨rfl, ⟨nd, rfl⟩⟩
                  refine ⟨_, rfl, ?_⟩
                  refine hK.out _ _ trivial (fun hHeld => ?_)
                  clear hK K
                  refine norm_ (a' := ?_) ?_ ?_
                  rotate_left
                  · show Act.put _ (some 12) _ = _
                    simp only [Act.put, putS]
                    rfl
                  exact norm_ (by first | (simp only [putAll, Act.put, List.setIfInBounds_toArray, List.set_cons_zero, List.set_cons_succ]; done) | (simp only [putAll, Act.put, List.setIfInBounds_toArray, List.set_cons_zero, List.set_cons_succ]; rfl)) (hJ1_4_6 () _ ⟨(by (with_reducible repeat (first | refine blk_drewN ?_ _ | refine blk_drew ?_ | refine blk_alloc ?_ _)); exact BK227.out), (by repeat (first | (with_reducible first | exact HB.out | apply below_alloc | apply pw_below_drewN | apply below_drew1 | refine below_set ?_ GE227.out) | exact HB.out))⟩)
                · skip
                  refine box_step ?hg (N := 4) ?hd (cs := #[.int .i64 0, .int .i64 0, .int .i64 0, .int .i64 0, .int .i64 0, .int .i64 0, .int .i64 0, .bool false]) (t := 23) ?hr ?_; (case hd => rfl); (case hg => rfl); (case hr => first | (go_simp; done) | (go_simp; rfl))
                  intro gb232 hg w12 hbox hb
                  have n0_ := Aside0.mk (blk_below (g := gb227) (o := .cells #[.int .i64 0, .int .i64 0, .int .i64 0, .int .i64 0, .int .i64 0, .int .i64 0, .int .i64 0, .bool false] 23 (0, 0)) (by (with_reducible repeat (first | refine blk_drewN ?_ _ | refine blk_drew ?_ | refine blk_alloc ?_ _)); exact BK227.out) hb)
                  have n1_ := Aside0.mk (below_step (by repeat (first | (with_reducible first | exact HB.out | apply below_alloc | apply pw_below_drewN | apply below_drew1 | refine below_set ?_ GE227.out) | exact HB.out)) hb)
                  have n2_ := Aside0.mk (hbox)
                  have n3_ := Aside0.mk ((by rw [hg]; exact (below_size (by repeat (first | (with_reducible first | exact HB.out | apply below_alloc | apply pw_below_drewN | apply below_drew1 | refine below_set ?_ GE227.out) | exact HB.out))) : w.heap.size ≤ gb232))
                  have n4_ := Aside0.mk ((by rw [hg]; exact (below_size (by repeat (first | (with_reducible first | exact HB.out | apply below_alloc | apply pw_below_drewN | apply below_drew1 | refine below_set ?_ GE227.out) | exact HB.out))) : w.heap.size ≤ gb232))
                  have n5_ := Aside0.mk ((by rw [hg]; exact Nat.ne_of_lt (blk_lt (g := gb227) (o := .cells #[.int .i64 0, .int .i64 0, .int .i64 0, .int .i64 0, .int .i64 0, .int .i64 0, .int .i64 0, .bool false] 23 (0, 0)) (by (with_reducible repeat (first | refine blk_drewN ?_ _ | refine blk_drew ?_ | refine blk_alloc ?_ _)); exact BK227.out)) : gb227 ≠ gb232))
                  have n6_ := Aside0.mk ((by rw [hg]; exact Nat.ne_of_gt (blk_lt (g := gb227) (o := .cells #[.int .i64 0, .int .i64 0, .int .i64 0, .int .i64 0, .int .i64 0, .int .i64 0, .int .i64 0, .bool false] 23 (0, 0)) (by (with_reducible repeat (first | refine blk_drewN ?_ _ | refine blk_drew ?_ | refine blk_alloc ?_ _)); exact BK227.out)) : gb232 ≠ gb227))
                  clear BK227
                  clear HB
                  have BK227 := n0_
                  have HB := n1_
                  have BK232 := n2_
                  have GW232 := n3_
                  have GE232 := n4_
                  have NB227_232 := n5_
                  have NB232_227 := n6_
                  clear n0_ n1_ n2_ n3_ n4_ n5_ n6_
                  clear hb hbox hg
                  refine hK.out _ _ trivial (fun hHeld => ?_)
                  clear hK K
                  refine norm_ (a' := ?_) ?_ ?_
                  rotate_left
                  · show Act.put _ (some 4) _ = _
                    simp only [Act.put, putS]
                    rfl
                  exact norm_ (by first | (simp only [putAll, Act.put, List.setIfInBounds_toArray, List.set_cons_zero, List.set_cons_succ]; done) | (simp only [putAll, Act.put, List.setIfInBounds_toArray, List.set_cons_zero, List.set_cons_succ]; rfl)) (hJ1_4_10 (gb232) _ ⟨(by (with_reducible repeat (first | refine blk_drewN ?_ _ | refine blk_drew ?_ | refine blk_alloc ?_ _)); exact BK227.out), (by (with_reducible repeat (first | refine blk_drewN ?_ _ | refine blk_drew ?_ | refine blk_alloc ?_ _)); exact BK232.out), GW232.out, GE232.out, NB227_232.out, NB232_227.out, (by repeat (first | (with_reducible first | exact HB.out | apply below_alloc | apply pw_below_drewN | apply below_drew1 | refine below_set ?_ GE227.out | refine below_set ?_ GE232.out) | exact HB.out))⟩)
            · skip
              rintro gb232 w12 ⟨h0_, h1_, h2_, h3_, h4_, h5_, h6_⟩
              have n0_ : Aside0 (w12.heap[gb227]? = some (.cells #[.int .i64 0, .int .i64 0, .int .i64 0, .int .i64 0, .int .i64 0, .int .i64 0, .int .i64 0, .bool false] 23 (0, 0))) := ⟨h0_⟩
              have n1_ : Aside0 (w12.heap[gb232]? = some (.cells #[.int .i64 0, .int .i64 0, .int .i64 0, .int .i64 0, .int .i64 0, .int .i64 0, .int .i64 0, .bool false] 23 (0, 0))) := ⟨h1_⟩
              have n2_ : Aside0 (w.heap.size ≤ gb232) := ⟨h2_⟩
              have n3_ : Aside0 (w.heap.size ≤ gb232) := ⟨h3_⟩
              have n4_ : Aside0 (gb227 ≠ gb232) := ⟨h4_⟩
              have n5_ : Aside0 (gb232 ≠ gb227) := ⟨h5_⟩
              have n6_ : Aside0 (Below w.heap.size w w12) := ⟨h6_⟩
              clear BK227
              clear HB
              clear h0_ h1_ h2_ h3_ h4_ h5_ h6_
              have BK227 := n0_
              have BK232 := n1_
              have GW232 := n2_
              have GE232 := n3_
              have NB227_232 := n4_
              have NB232_227 := n5_
              have HB := n6_
              clear n0_ n1_ n2_ n3_ n4_ n5_ n6_
              have hHeld := trivial
              refine norm_ (a' := ?_) ?_ ?_
              rotate_left
              · simp only [putAll, Act.put, List.setIfInBounds_toArray, List.set_cons_zero, List.set_cons_succ]
                rfl
              refine one_ (i := 6) (N := some 12) #[true, true, true, true, true, true, true, true, false, false, true, false] rfl rfl (one_of HT_.out (by kernel_rfl)) (by decide) (fun K hK => ?_)
              refine goes_ Tryz.func101 (by kernel_rfl) rfl #[.int .u32 a0] (by rfl) rfl rfl (by (try simp only [List.map_toArray, List.map_cons, List.map_nil]); first | done | rfl | (simp only [List.length_drop, List.length_take]; rfl)) ?_
              with_reducible refine (inst_word_rs1.calls a0 t230 _ A6.out).mono ?_
              rintro e w' ⟨rfl, ⟨nd, rfl⟩⟩
              refine ⟨_, rfl, ?_⟩
              refine hK.out _ _ trivial (fun hHeld => ?_)
              clear hK K
              refine norm_ (a' := ?_) ?_ ?_
              rotate_left
              · show Act.put _ (some 12) _ = _
                simp only [Act.put, putS]
                rfl
              exact norm_ (by first | (simp only [putAll, Act.put, List.setIfInBounds_toArray, List.set_cons_zero, List.set_cons_succ]; done) | (simp only [putAll, Act.put, List.setIfInBounds_toArray, List.set_cons_zero, List.set_cons_succ]; rfl)) (hJ1_4_6_10 (gb232) _ ⟨(by (with_reducible repeat (first | refine blk_drewN ?_ _ | refine blk_drew ?_ | refine blk_alloc ?_ _)); exact BK227.out), (by (with_reducible repeat (first | refine blk_drewN ?_ _ | refine blk_drew ?_ | refine blk_alloc ?_ _)); exact BK232.out), GW232.out, GE232.out, NB227_232.out, NB232_227.out, (by repeat (first | (with_reducible first | exact HB.out | apply below_alloc | apply pw_below_drewN | apply below_drew1 | refine below_set ?_ GE227.out | refine below_set ?_ GE232.out) | exact HB.out))⟩)
          · skip
            rintro _ w11 ⟨h0_, h1_⟩
            have n0_ : Aside0 (w11.heap[gb227]? = some (.cells #[.int .i64 0, .int .i64 0, .int .i64 0, .int .i64 0, .int .i64 0, .int .i64 0, .int .i64 0, .bool false] 23 (0, 0))) := ⟨h0_⟩
            have n1_ : Aside0 (Below w.heap.size w w11) := ⟨h1_⟩
            clear BK227
            clear HB
            clear h0_ h1_
            have BK227 := n0_
            have HB := n1_
            clear n0_ n1_
            have hHeld := trivial
            refine norm_ (a' := ?_) ?_ ?_
            rotate_left
            · simp only [putAll, Act.put, List.setIfInBounds_toArray, List.set_cons_zero, List.set_cons_succ]
              rfl
            refine two_ (i := 8) (j := 10) (Ni := some 14) (Nj := some 4) #[true, true, true, true, true, true, true, true, true, false, false, false] #[true, true, true, true, true, true, true, true, false, false, true, false] rfl rfl rfl rfl (two_of HT_.out (by kernel_rfl)) (by decide) (by decide) (fun K hK => ?_) (fun K hK => ?_)
            · skip
              refine goes_ Tryz.func102 (by kernel_rfl) rfl #[.int .u32 a0] (by rfl) rfl rfl (by (try simp only [List.map_toArray, List.map_cons, List.map_nil]); first | done | rfl | (simp only [List.length_drop, List.length_take]; rfl)) ?_
              with_reducible refine (inst_word_rs2.calls a0 t231 _ A7.out).mono ?_
              rintro e w' ⟨rfl, ⟨nd, rfl⟩⟩
              refine ⟨_, rfl, ?_⟩
              refine hK.out _ _ trivial (fun hHeld => ?_)
              clear hK K
              refine norm_ (a' := ?_) ?_ ?_
              rotate_left
              · show Act.put _ (some 14) _ = _
                simp only [Act.put, putS]
                rfl
              refine pure_ (i := 9) (N := some 15) (v := ?_) (a' := ?_) #[true, true, true, true, true, true, true, true, true, true, false, false] rfl rfl (any_of HT_.out (by kernel_rfl)) (fun _ _ _ h => h) (Or.inl ⟨by rfl, ?_⟩) ?_ ?_
              rotate_left
              · intro w'
                go_simp
                with_reducible rfl
              rotate_left
              · simp only [Act.put, putS]
                rfl
              exact norm_ (by first | (simp only [putAll, Act.put, List.setIfInBounds_toArray, List.set_cons_zero, List.set_cons_succ]; done) | (simp only [putAll, Act.put, List.setIfInBounds_toArray, List.set_cons_zero, List.set_cons_succ]; rfl)) (hJ1_4_6_8 () _ ⟨(by (with_reducible repeat (first | refine blk_drewN ?_ _ | refine blk_drew ?_ | refine blk_alloc ?_ _)); exact BK227.out), (by repeat (first | (with_reducible first | exact HB.out | apply below_alloc | apply pw_below_drewN | apply below_drew1 | refine below_set ?_ GE227.out) | exact HB.out))⟩)
            · skip
              refine box_step ?hg (N := 4) ?hd (cs := #[.int .i64 0, .int .i64 0, .int .i64 0, .int .i64 0, .int .i64 0, .int .i64 0, .int .i64 0, .bool false]) (t := 23) ?hr ?_; (case hd => rfl); (case hg => rfl); (case hr => first | (go_simp; done) | (go_simp; rfl))
              intro gb232 hg w12 hbox hb
              have n0_ := Aside0.mk (blk_below (g := gb227) (o := .cells #[.int .i64 0, .int .i64 0, .int .i64 0, .int .i64 0, .int .i64 0, .int .i64 0, .int .i64 0, .bool false] 23 (0, 0)) (by (with_reducible repeat (first | refine blk_drewN ?_ _ | refine blk_drew ?_ | refine blk_alloc ?_ _)); exact BK227.out) hb)
              have n1_ := Aside0.mk (below_step (by repeat (first | (with_reducible first | exact HB.out | apply below_alloc | apply pw_below_drewN | apply below_drew1 | refine below_set ?_ GE227.out) | exact HB.out)) hb)
              have n2_ := Aside0.mk (hbox)
              have n3_ := Aside0.mk ((by rw [hg]; exact (below_size (by repeat (first | (with_reducible first | exact HB.out | apply below_alloc | apply pw_below_drewN | apply below_drew1 | refine below_set ?_ GE227.out) | exact HB.out))) : w.heap.size ≤ gb232))
              have n4_ := Aside0.mk ((by rw [hg]; exact (below_size (by repeat (first | (with_reducible first | exact HB.out | apply below_alloc | apply pw_below_drewN | apply below_drew1 | refine below_set ?_ GE227.out) | exact HB.out))) : w.heap.size ≤ gb232))
              have n5_ := Aside0.mk ((by rw [hg]; exact Nat.ne_of_lt (blk_lt (g := gb227) (o := .cells #[.int .i64 0, .int .i64 0, .int .i64 0, .int .i64 0, .int .i64 0, .int .i64 0, .int .i64 0, .bool false] 23 (0, 0)) (by (with_reducible repeat (first | refine blk_drewN ?_ _ | refine blk_drew ?_ | refine blk_alloc ?_ _)); exact BK227.out)) : gb227 ≠ gb232))
              have n6_ := Aside0.mk ((by rw [hg]; exact Nat.ne_of_gt (blk_lt (g := gb227) (o := .cells #[.int .i64 0, .int .i64 0, .int .i64 0, .int .i64 0, .int .i64 0, .int .i64 0, .int .i64 0, .bool false] 23 (0, 0)) (by (with_reducible repeat (first | refine blk_drewN ?_ _ | refine blk_drew ?_ | refine blk_alloc ?_ _)); exact BK227.out)) : gb232 ≠ gb227))
              clear BK227
              clear HB
              have BK227 := n0_
              have HB := n1_
              have BK232 := n2_
              have GW232 := n3_
              have GE232 := n4_
              have NB227_232 := n5_
              have NB232_227 := n6_
              clear n0_ n1_ n2_ n3_ n4_ n5_ n6_
              clear hb hbox hg
              refine hK.out _ _ trivial (fun hHeld => ?_)
              clear hK K
              refine norm_ (a' := ?_) ?_ ?_
              rotate_left
              · show Act.put _ (some 4) _ = _
                simp only [Act.put, putS]
                rfl
              exact norm_ (by first | (simp only [putAll, Act.put, List.setIfInBounds_toArray, List.set_cons_zero, List.set_cons_succ]; done) | (simp only [putAll, Act.put, List.setIfInBounds_toArray, List.set_cons_zero, List.set_cons_succ]; rfl)) (hJ1_4_6_10 (gb232) _ ⟨(by (with_reducible repeat (first | refine blk_drewN ?_ _ | refine blk_drew ?_ | refine blk_alloc ?_ _)); exact BK227.out), (by (with_reducible repeat (first | refine blk_drewN ?_ _ | refine blk_drew ?_ | refine blk_alloc ?_ _)); exact BK232.out), GW232.out, GE232.out, NB227_232.out, NB232_227.out, (by repeat (first | (with_reducible first | exact HB.out | apply below_alloc | apply pw_below_drewN | apply below_drew1 | refine below_set ?_ GE227.out | refine below_set ?_ GE232.out) | exact HB.out))⟩)
        · skip
          rintro gb232 w12 ⟨h0_, h1_, h2_, h3_, h4_, h5_, h6_⟩
          have n0_ : Aside0 (w12.heap[gb227]? = some (.cells #[.int .i64 0, .int .i64 0, .int .i64 0, .int .i64 0, .int .i64 0, .int .i64 0, .int .i64 0, .bool false] 23 (0, 0))) := ⟨h0_⟩
          have n1_ : Aside0 (w12.heap[gb232]? = some (.cells #[.int .i64 0, .int .i64 0, .int .i64 0, .int .i64 0, .int .i64 0, .int .i64 0, .int .i64 0, .bool false] 23 (0, 0))) := ⟨h1_⟩
          have n2_ : Aside0 (w.heap.size ≤ gb232) := ⟨h2_⟩
          have n3_ : Aside0 (w.heap.size ≤ gb232) := ⟨h3_⟩
          have n4_ : Aside0 (gb227 ≠ gb232) := ⟨h4_⟩
          have n5_ : Aside0 (gb232 ≠ gb227) := ⟨h5_⟩
          have n6_ : Aside0 (Below w.heap.size w w12) := ⟨h6_⟩
          clear BK227
          clear HB
          clear h0_ h1_ h2_ h3_ h4_ h5_ h6_
          have BK227 := n0_
          have BK232 := n1_
          have GW232 := n2_
          have GE232 := n3_
          have NB227_232 := n4_
          have NB232_227 := n5_
          have HB := n6_
          clear n0_ n1_ n2_ n3_ n4_ n5_ n6_
          have hHeld := trivial
          refine norm_ (a' := ?_) ?_ ?_
          rotate_left
          · simp only [putAll, Act.put, List.setIfInBounds_toArray, List.set_cons_zero, List.set_cons_succ]
            rfl
          refine one_ (i := 8) (N := some 14) #[true, true, true, true, true, true, true, true, true, false, true, false] rfl rfl (one_of HT_.out (by kernel_rfl)) (by decide) (fun K hK => ?_)
          refine goes_ Tryz.func102 (by kernel_rfl) rfl #[.int .u32 a0] (by rfl) rfl rfl (by (try simp only [List.map_toArray, List.map_cons, List.map_nil]); first | done | rfl | (simp only [List.length_drop, List.length_take]; rfl)) ?_
          with_reducible refine (inst_word_rs2.calls a0 t231 _ A7.out).mono ?_
          rintro e w' ⟨rfl, ⟨nd, rfl⟩⟩
          refine ⟨_, rfl, ?_⟩
          refine hK.out _ _ trivial (fun hHeld => ?_)
          clear hK K
          refine norm_ (a' := ?_) ?_ ?_
          rotate_left
          · show Act.put _ (some 14) _ = _
            simp only [Act.put, putS]
            rfl
          refine pure_ (i := 9) (N := some 15) (v := ?_) (a' := ?_) #[true, true, true, true, true, true, true, true, true, true, true, false] rfl rfl (any_of HT_.out (by kernel_rfl)) (fun _ _ _ h => h) (Or.inl ⟨by rfl, ?_⟩) ?_ ?_
          rotate_left
          · intro w'
            go_simp
            with_reducible rfl
          rotate_left
          · simp only [Act.put, putS]
            rfl
          exact norm_ (by first | (simp only [putAll, Act.put, List.setIfInBounds_toArray, List.set_cons_zero, List.set_cons_succ]; done) | (simp only [putAll, Act.put, List.setIfInBounds_toArray, List.set_cons_zero, List.set_cons_succ]; rfl)) (hJ1_4_6_8_10 (gb232) _ ⟨(by (with_reducible repeat (first | refine blk_drewN ?_ _ | refine blk_drew ?_ | refine blk_alloc ?_ _)); exact BK227.out), (by (with_reducible repeat (first | refine blk_drewN ?_ _ | refine blk_drew ?_ | refine blk_alloc ?_ _)); exact BK232.out), GW232.out, GE232.out, NB227_232.out, NB232_227.out, (by repeat (first | (with_reducible first | exact HB.out | apply below_alloc | apply pw_below_drewN | apply below_drew1 | refine below_set ?_ GE227.out | refine below_set ?_ GE232.out) | exact HB.out))⟩)
      · skip
        rintro _ w11 ⟨h0_, h1_⟩
        have n0_ : Aside0 (w11.heap[gb227]? = some (.cells #[.int .i64 0, .int .i64 0, .int .i64 0, .int .i64 0, .int .i64 0, .int .i64 0, .int .i64 0, .bool false] 23 (0, 0))) := ⟨h0_⟩
        have n1_ : Aside0 (Below w.heap.size w w11) := ⟨h1_⟩
        clear BK227
        clear HB
        clear h0_ h1_
        have BK227 := n0_
        have HB := n1_
        clear n0_ n1_
        have hHeld := trivial
        refine norm_ (a' := ?_) ?_ ?_
        rotate_left
        · simp only [putAll, Act.put, List.setIfInBounds_toArray, List.set_cons_zero, List.set_cons_succ]
          rfl
        refine one_ (i := 10) (N := some 4) #[true, true, true, true, true, true, true, true, true, true, true, false] rfl rfl (one_of HT_.out (by kernel_rfl)) (by decide) (fun K hK => ?_)
        refine box_step ?hg (N := 4) ?hd (cs := #[.int .i64 0, .int .i64 0, .int .i64 0, .int .i64 0, .int .i64 0, .int .i64 0, .int .i64 0, .bool false]) (t := 23) ?hr ?_; (case hd => rfl); (case hg => rfl); (case hr => first | (go_simp; done) | (go_simp; rfl))
        intro gb232 hg w12 hbox hb
        have n0_ := Aside0.mk (blk_below (g := gb227) (o := .cells #[.int .i64 0, .int .i64 0, .int .i64 0, .int .i64 0, .int .i64 0, .int .i64 0, .int .i64 0, .bool false] 23 (0, 0)) (by (with_reducible repeat (first | refine blk_drewN ?_ _ | refine blk_drew ?_ | refine blk_alloc ?_ _)); exact BK227.out) hb)
        have n1_ := Aside0.mk (below_step (by repeat (first | (with_reducible first | exact HB.out | apply below_alloc | apply pw_below_drewN | apply below_drew1 | refine below_set ?_ GE227.out) | exact HB.out)) hb)
        have n2_ := Aside0.mk (hbox)
        have n3_ := Aside0.mk ((by rw [hg]; exact (below_size (by repeat (first | (with_reducible first | exact HB.out | apply below_alloc | apply pw_below_drewN | apply below_drew1 | refine below_set ?_ GE227.out) | exact HB.out))) : w.heap.size ≤ gb232))
        have n4_ := Aside0.mk ((by rw [hg]; exact (below_size (by repeat (first | (with_reducible first | exact HB.out | apply below_alloc | apply pw_below_drewN | apply below_drew1 | refine below_set ?_ GE227.out) | exact HB.out))) : w.heap.size ≤ gb232))
        have n5_ := Aside0.mk ((by rw [hg]; exact Nat.ne_of_lt (blk_lt (g := gb227) (o := .cells #[.int .i64 0, .int .i64 0, .int .i64 0, .int .i64 0, .int .i64 0, .int .i64 0, .int .i64 0, .bool false] 23 (0, 0)) (by (with_reducible repeat (first | refine blk_drewN ?_ _ | refine blk_drew ?_ | refine blk_alloc ?_ _)); exact BK227.out)) : gb227 ≠ gb232))
        have n6_ := Aside0.mk ((by rw [hg]; exact Nat.ne_of_gt (blk_lt (g := gb227) (o := .cells #[.int .i64 0, .int .i64 0, .int .i64 0, .int .i64 0, .int .i64 0, .int .i64 0, .int .i64 0, .bool false] 23 (0, 0)) (by (with_reducible repeat (first | refine blk_drewN ?_ _ | refine blk_drew ?_ | refine blk_alloc ?_ _)); exact BK227.out)) : gb232 ≠ gb227))
        clear BK227
        clear HB
        have BK227 := n0_
        have HB := n1_
        have BK232 := n2_
        have GW232 := n3_
        have GE232 := n4_
        have NB227_232 := n5_
        have NB232_227 := n6_
        clear n0_ n1_ n2_ n3_ n4_ n5_ n6_
        clear hb hbox hg
        refine hK.out _ _ trivial (fun hHeld => ?_)
        clear hK K
        refine norm_ (a' := ?_) ?_ ?_
        rotate_left
        · show Act.put _ (some 4) _ = _
          simp only [Act.put, putS]
          rfl
        exact norm_ (by first | (simp only [putAll, Act.put, List.setIfInBounds_toArray, List.set_cons_zero, List.set_cons_succ]; done) | (simp only [putAll, Act.put, List.setIfInBounds_toArray, List.set_cons_zero, List.set_cons_succ]; rfl)) (hJ1_4_6_8_10 (gb232) _ ⟨(by (with_reducible repeat (first | refine blk_drewN ?_ _ | refine blk_drew ?_ | refine blk_alloc ?_ _)); exact BK227.out), (by (with_reducible repeat (first | refine blk_drewN ?_ _ | refine blk_drew ?_ | refine blk_alloc ?_ _)); exact BK232.out), GW232.out, GE232.out, NB227_232.out, NB232_227.out, (by repeat (first | (with_reducible first | exact HB.out | apply below_alloc | apply pw_below_drewN | apply below_drew1 | refine below_set ?_ GE227.out | refine below_set ?_ GE232.out) | exact HB.out))⟩)
    rintro gb232 w12 ⟨h0_, h1_, h2_, h3_, h4_, h5_, h6_⟩
    have n0_ : Aside0 (w12.heap[gb227]? = some (.cells #[.int .i64 0, .int .i64 0, .int .i64 0, .int .i64 0, .int .i64 0, .int .i64 0, .int .i64 0, .bool false] 23 (0, 0))) := ⟨h0_⟩
    have n1_ : Aside0 (w12.heap[gb232]? = some (.cells #[.int .i64 0, .int .i64 0, .int .i64 0, .int .i64 0, .int .i64 0, .int .i64 0, .int .i64 0, .bool false] 23 (0, 0))) := ⟨h1_⟩
    have n2_ : Aside0 (w.heap.size ≤ gb232) := ⟨h2_⟩
    have n3_ : Aside0 (w.heap.size ≤ gb232) := ⟨h3_⟩
    have n4_ : Aside0 (gb227 ≠ gb232) := ⟨h4_⟩
    have n5_ : Aside0 (gb232 ≠ gb227) := ⟨h5_⟩
    have n6_ : Aside0 (Below w.heap.size w w12) := ⟨h6_⟩
    clear BK227
    clear HB
    clear h0_ h1_ h2_ h3_ h4_ h5_ h6_
    have BK227 := n0_
    have BK232 := n1_
    have GW232 := n2_
    have GE232 := n3_
    have NB227_232 := n4_
    have NB232_227 := n5_
    have HB := n6_
    clear n0_ n1_ n2_ n3_ n4_ n5_ n6_
    have hHeld := trivial
    refine norm_ (a' := ?_) ?_ ?_
    rotate_left
    · simp only [putAll, Act.put, List.setIfInBounds_toArray, List.set_cons_zero, List.set_cons_succ]
      rfl
    refine one_ (i := 11) (N := none) #[true, true, true, true, true, true, true, true, true, true, true, true] rfl rfl (one_of HT_.out (by kernel_rfl)) (by decide) (fun K hK => ?_)
    have hs13 : w12.cell? ⟨gb232, 0, none⟩ = some (.int .i64 0) := (blk_cell BK232.out 0).trans rfl
    have hfs13 := blk_frozen BK232.out 0
    have hns13_0 := NB227_232.out
    have hms13_0 := NB232_227.out
    have hs14 : w12.cell? ⟨gb232, 1, none⟩ = some (.int .i64 0) := (blk_cell BK232.out 1).trans rfl
    have hfs14 := blk_frozen BK232.out 1
    have hns14_0 := NB227_232.out
    have hms14_0 := NB232_227.out
    have hs15 : w12.cell? ⟨gb232, 2, none⟩ = some (.int .i64 0) := (blk_cell BK232.out 2).trans rfl
    have hfs15 := blk_frozen BK232.out 2
    have hns15_0 := NB227_232.out
    have hms15_0 := NB232_227.out
    have hs16 : w12.cell? ⟨gb232, 3, none⟩ = some (.int .i64 0) := (blk_cell BK232.out 3).trans rfl
    have hfs16 := blk_frozen BK232.out 3
    have hns16_0 := NB227_232.out
    have hms16_0 := NB232_227.out
    have hs17 : w12.cell? ⟨gb232, 4, none⟩ = some (.int .i64 0) := (blk_cell BK232.out 4).trans rfl
    have hfs17 := blk_frozen BK232.out 4
    have hns17_0 := NB227_232.out
    have hms17_0 := NB232_227.out
    have hs18 : w12.cell? ⟨gb232, 5, none⟩ = some (.int .i64 0) := (blk_cell BK232.out 5).trans rfl
    have hfs18 := blk_frozen BK232.out 5
    have hns18_0 := NB227_232.out
    have hms18_0 := NB232_227.out
    have hs19 : w12.cell? ⟨gb232, 6, none⟩ = some (.int .i64 0) := (blk_cell BK232.out 6).trans rfl
    have hfs19 := blk_frozen BK232.out 6
    have hns19_0 := NB227_232.out
    have hms19_0 := NB232_227.out
    have hs20 : w12.cell? ⟨gb232, 7, none⟩ = some (.bool false) := (blk_cell BK232.out 7).trans rfl
    have hfs20 := blk_frozen BK232.out 7
    have hns20_0 := NB227_232.out
    have hms20_0 := NB232_227.out
    refine skip_ (w1 := ?_) (by rfl) rfl ?_ ?_
    rotate_left
    · go_simp
      rfl
    refine hK.out _ _ trivial (fun hHeld => ?_)
    clear hK K
    refine done_ (done_of HT_.out (by kernel_rfl)) ?_
    go_upto_region 2 with (fail)
    go_cut [23] (fun v23 wc => ∃ (kq : Nat) (x23_7 : Bool), v23 = .bool x23_7 ∧ Aside0 (inst_atomic.j0 kq a0 x23_7 0 0 t229 t230 t231 0 ji4 false = some (r1, r2, r3, r4, r5, r6, r7, r8, r9)) ∧ Aside0 (kq ≤ k) ∧ Aside0 (wc.heap[gb227]? = some (.cells #[.int .i64 0, .int .i64 0, .int .i64 0, .int .i64 0, .int .i64 0, .int .i64 0, .int .i64 0, .bool false] 23 (0, 0))) ∧ Aside0 (wc.heap[gb232]? = some (.cells #[.int .i64 0, .int .i64 0, .int .i64 t229, .int .i64 t230, .int .i64 t231, .int .i64 0, .int .i64 ji4, .bool false] 23 (0, 0))) ∧ Aside0 (Below w.heap.size w wc))
    case first =>
      have H := HC8.out
      clear HC8
      replace H := Option.bind_eq_some_iff.mp H
      obtain ⟨t233, A210, H⟩ := H
      replace H : (if t233 = 2 then (inst_atomic.j0 k a0 false 0 0 t229 t230 t231 0 ji4 false) else ((inst_word_f3.f a0).bind fun t234 => (inst_atomic.j0 k a0 (t234 != 3) 0 0 t229 t230 t231 0 ji4 false))) = some (r1, r2, r3, r4, r5, r6, r7, r8, r9) := H
      have A21 := Aside0.mk A210
      clear A210
      by_cases c22 : t233 = 2
      · rw [if_pos c22] at H
        have c22b0 : (t233 == 2) = true := beq_iff_eq.mpr c22
        have c22b1 : (t233 != 2) = false := bne_eq_false_iff_eq.mpr c22
        clear c22
        (first | rw [c22b0] | (simp only [i64_w, i32_w]; rw [c22b0]) | skip)
        have H' := Aside0.mk H
        clear H
        go_wp2_with (first | ((with_reducible refine gate_callee (f := 96) rfl ?_); refine goesL_ (some 17) rfl rfl Tryz.func96 (by kernel_rfl) rfl #[.int .u32 a0] rfl (by (try simp only [List.map_toArray, List.map_cons, List.map_nil]); first | done | rfl | (simp only [List.length_drop, List.length_take]; rfl)) ?_; (with_reducible refine (inst_word_f3.calls a0 t233 _ A21.out).mono ?_); rintro e w' ⟨rfl, ⟨nd, rfl⟩⟩; refine ⟨_, rfl, ?_⟩))
        go_meet
        case rel => exact ⟨_, (false), (by first | rfl | (simp; done) | (simp [*]; done)), H', ⟨by first | omega | exact Nat.le_refl _⟩, ⟨by (with_reducible repeat (first | refine blk_drewN ?_ _ | refine blk_drew ?_ | refine blk_alloc ?_ _)); refine blk_far ?_ NB227_232.out _; (with_reducible repeat (first | refine blk_drewN ?_ _ | refine blk_drew ?_ | refine blk_alloc ?_ _)); refine blk_far ?_ NB227_232.out _; (with_reducible repeat (first | refine blk_drewN ?_ _ | refine blk_drew ?_ | refine blk_alloc ?_ _)); refine blk_far ?_ NB227_232.out _; (with_reducible repeat (first | refine blk_drewN ?_ _ | refine blk_drew ?_ | refine blk_alloc ?_ _)); refine blk_far ?_ NB227_232.out _; (with_reducible repeat (first | refine blk_drewN ?_ _ | refine blk_drew ?_ | refine blk_alloc ?_ _)); refine blk_far ?_ NB227_232.out _; (with_reducible repeat (first | refine blk_drewN ?_ _ | refine blk_drew ?_ | refine blk_alloc ?_ _)); refine blk_far ?_ NB227_232.out _; (with_reducible repeat (first | refine blk_drewN ?_ _ | refine blk_drew ?_ | refine blk_alloc ?_ _)); refine blk_far ?_ NB227_232.out _; (with_reducible repeat (first | refine blk_drewN ?_ _ | refine blk_drew ?_ | refine blk_alloc ?_ _)); refine blk_far ?_ NB227_232.out _; (with_reducible repeat (first | refine blk_drewN ?_ _ | refine blk_drew ?_ | refine blk_alloc ?_ _)); exact BK227.out⟩, ⟨by (with_reducible repeat (first | refine blk_drewN ?_ _ | refine blk_drew ?_ | refine blk_alloc ?_ _)); refine blk_put (cs := #[.int .i64 0, .int .i64 0, .int .i64 t229, .int .i64 t230, .int .i64 t231, .int .i64 0, .int .i64 ji4, .bool false]) ?_ 7 _ rfl; (with_reducible repeat (first | refine blk_drewN ?_ _ | refine blk_drew ?_ | refine blk_alloc ?_ _)); refine blk_put (cs := #[.int .i64 0, .int .i64 0, .int .i64 t229, .int .i64 t230, .int .i64 t231, .int .i64 0, .int .i64 0, .bool false]) ?_ 6 _ rfl; (with_reducible repeat (first | refine blk_drewN ?_ _ | refine blk_drew ?_ | refine blk_alloc ?_ _)); refine blk_put (cs := #[.int .i64 0, .int .i64 0, .int .i64 t229, .int .i64 t230, .int .i64 t231, .int .i64 0, .int .i64 0, .bool false]) ?_ 5 _ rfl; (with_reducible repeat (first | refine blk_drewN ?_ _ | refine blk_drew ?_ | refine blk_alloc ?_ _)); refine blk_put (cs := #[.int .i64 0, .int .i64 0, .int .i64 t229, .int .i64 t230, .int .i64 0, .int .i64 0, .int .i64 0, .bool false]) ?_ 4 _ rfl; (with_reducible repeat (first | refine blk_drewN ?_ _ | refine blk_drew ?_ | refine blk_alloc ?_ _)); refine blk_put (cs := #[.int .i64 0, .int .i64 0, .int .i64 t229, .int .i64 0, .int .i64 0, .int .i64 0, .int .i64 0, .bool false]) ?_ 3 _ rfl; (with_reducible repeat (first | refine blk_drewN ?_ _ | refine blk_drew ?_ | refine blk_alloc ?_ _)); refine blk_put (cs := #[.int .i64 0, .int .i64 0, .int .i64 0, .int .i64 0, .int .i64 0, .int .i64 0, .int .i64 0, .bool false]) ?_ 2 _ rfl; (with_reducible repeat (first | refine blk_drewN ?_ _ | refine blk_drew ?_ | refine blk_alloc ?_ _)); refine blk_put (cs := #[.int .i64 0, .int .i64 0, .int .i64 0, .int .i64 0, .int .i64 0, .int .i64 0, .int .i64 0, .bool false]) ?_ 1 _ rfl; (with_reducible repeat (first | refine blk_drewN ?_ _ | refine blk_drew ?_ | refine blk_alloc ?_ _)); refine blk_put (cs := #[.int .i64 0, .int .i64 0, .int .i64 0, .int .i64 0, .int .i64 0, .int .i64 0, .int .i64 0, .bool false]) ?_ 0 _ rfl; (with_reducible repeat (first | refine blk_drewN ?_ _ | refine blk_drew ?_ | refine blk_alloc ?_ _)); exact BK232.out⟩, ⟨by repeat (first | (with_reducible first | exact HB.out | apply below_alloc | apply pw_below_drewN | apply below_drew1 | refine below_set ?_ GE227.out | refine below_set ?_ GE232.out) | exact HB.out)⟩⟩
      · rw [if_neg c22] at H
        have c22b0 : (t233 == 2) = false := beq_eq_false_iff_ne.mpr c22
        have c22b1 : (t233 != 2) = true := bne_iff_ne.mpr c22
        (first | rw [c22b0] | (simp only [i64_w, i32_w]; rw [c22b0]) | skip)
        replace H := Option.bind_eq_some_iff.mp H
        obtain ⟨t234, A230, H⟩ := H
        replace H : (inst_atomic.j0 k a0 (t234 != 3) 0 0 t229 t230 t231 0 ji4 false) = some (r1, r2, r3, r4, r5, r6, r7, r8, r9) := H
        have A23 := Aside0.mk A230
        clear A230
        have H' := Aside0.mk H
        clear H
        go_wp2_with (first | ((with_reducible refine gate_callee (f := 96) rfl ?_); refine goesL_ (some 17) rfl rfl Tryz.func96 (by kernel_rfl) rfl #[.int .u32 a0] rfl (by (try simp only [List.map_toArray, List.map_cons, List.map_nil]); first | done | rfl | (simp only [List.length_drop, List.length_take]; rfl)) ?_; (with_reducible refine (inst_word_f3.calls a0 t233 _ A21.out).mono ?_); rintro e w' ⟨rfl, ⟨nd, rfl⟩⟩; refine ⟨_, rfl, ?_⟩) | (go_at_call 96; (with_reducible refine (inst_word_f3.calls a0 t234 _ A23.out).mono ?_); rintro e w' ⟨rfl, ⟨nd, rfl⟩⟩))
        go_meet
        case rel => exact ⟨_, ((t234 != 3)), (by first | rfl | (simp; done) | (simp [*]; done)), H', ⟨by first | omega | exact Nat.le_refl _⟩, ⟨by (with_reducible repeat (first | refine blk_drewN ?_ _ | refine blk_drew ?_ | refine blk_alloc ?_ _)); refine blk_far ?_ NB227_232.out _; (with_reducible repeat (first | refine blk_drewN ?_ _ | refine blk_drew ?_ | refine blk_alloc ?_ _)); refine blk_far ?_ NB227_232.out _; (with_reducible repeat (first | refine blk_drewN ?_ _ | refine blk_drew ?_ | refine blk_alloc ?_ _)); refine blk_far ?_ NB227_232.out _; (with_reducible repeat (first | refine blk_drewN ?_ _ | refine blk_drew ?_ | refine blk_alloc ?_ _)); refine blk_far ?_ NB227_232.out _; (with_reducible repeat (first | refine blk_drewN ?_ _ | refine blk_drew ?_ | refine blk_alloc ?_ _)); refine blk_far ?_ NB227_232.out _; (with_reducible repeat (first | refine blk_drewN ?_ _ | refine blk_drew ?_ | refine blk_alloc ?_ _)); refine blk_far ?_ NB227_232.out _; (with_reducible repeat (first | refine blk_drewN ?_ _ | refine blk_drew ?_ | refine blk_alloc ?_ _)); refine blk_far ?_ NB227_232.out _; (with_reducible repeat (first | refine blk_drewN ?_ _ | refine blk_drew ?_ | refine blk_alloc ?_ _)); refine blk_far ?_ NB227_232.out _; (with_reducible repeat (first | refine blk_drewN ?_ _ | refine blk_drew ?_ | refine blk_alloc ?_ _)); exact BK227.out⟩, ⟨by (with_reducible repeat (first | refine blk_drewN ?_ _ | refine blk_drew ?_ | refine blk_alloc ?_ _)); refine blk_put (cs := #[.int .i64 0, .int .i64 0, .int .i64 t229, .int .i64 t230, .int .i64 t231, .int .i64 0, .int .i64 ji4, .bool false]) ?_ 7 _ rfl; (with_reducible repeat (first | refine blk_drewN ?_ _ | refine blk_drew ?_ | refine blk_alloc ?_ _)); refine blk_put (cs := #[.int .i64 0, .int .i64 0, .int .i64 t229, .int .i64 t230, .int .i64 t231, .int .i64 0, .int .i64 0, .bool false]) ?_ 6 _ rfl; (with_reducible repeat (first | refine blk_drewN ?_ _ | refine blk_drew ?_ | refine blk_alloc ?_ _)); refine blk_put (cs := #[.int .i64 0, .int .i64 0, .int .i64 t229, .int .i64 t230, .int .i64 t231, .int .i64 0, .int .i64 0, .bool false]) ?_ 5 _ rfl; (with_reducible repeat (first | refine blk_drewN ?_ _ | refine blk_drew ?_ | refine blk_alloc ?_ _)); refine blk_put (cs := #[.int .i64 0, .int .i64 0, .int .i64 t229, .int .i64 t230, .int .i64 0, .int .i64 0, .int .i64 0, .bool false]) ?_ 4 _ rfl; (with_reducible repeat (first | refine blk_drewN ?_ _ | refine blk_drew ?_ | refine blk_alloc ?_ _)); refine blk_put (cs := #[.int .i64 0, .int .i64 0, .int .i64 t229, .int .i64 0, .int .i64 0, .int .i64 0, .int .i64 0, .bool false]) ?_ 3 _ rfl; (with_reducible repeat (first | refine blk_drewN ?_ _ | refine blk_drew ?_ | refine blk_alloc ?_ _)); refine blk_put (cs := #[.int .i64 0, .int .i64 0, .int .i64 0, .int .i64 0, .int .i64 0, .int .i64 0, .int .i64 0, .bool false]) ?_ 2 _ rfl; (with_reducible repeat (first | refine blk_drewN ?_ _ | refine blk_drew ?_ | refine blk_alloc ?_ _)); refine blk_put (cs := #[.int .i64 0, .int .i64 0, .int .i64 0, .int .i64 0, .int .i64 0, .int .i64 0, .int .i64 0, .bool false]) ?_ 1 _ rfl; (with_reducible repeat (first | refine blk_drewN ?_ _ | refine blk_drew ?_ | refine blk_alloc ?_ _)); refine blk_put (cs := #[.int .i64 0, .int .i64 0, .int .i64 0, .int .i64 0, .int .i64 0, .int .i64 0, .int .i64 0, .bool false]) ?_ 0 _ rfl; (with_reducible repeat (first | refine blk_drewN ?_ _ | refine blk_drew ?_ | refine blk_alloc ?_ _)); exact BK232.out⟩, ⟨by repeat (first | (with_reducible first | exact HB.out | apply below_alloc | apply pw_below_drewN | apply below_drew1 | refine below_set ?_ GE227.out | refine below_set ?_ GE232.out) | exact HB.out)⟩⟩
    case rest =>
      clear HC8
      try clear c1
      try clear c2
      try clear p2
      try clear c9
      try clear c10
      try clear c22
      try clear c22b0
      try clear c22b1
      obtain ⟨kq, x23_7, rfl, HA, HJ7, BK227, BK232, HB⟩ := hcut
      cases kq with
      | zero => exact absurd HA.out (by simp [inst_atomic.j0])
      | succ kj7 =>
        have H := HA.out
        clear HA
        simp only [inst_atomic.j0] at H
        by_cases c24 : x23_7 = true
        · subst c24
          have H1 : (some (0, 0, t229, t230, t231, 0, ji4, false, false)) = some (r1, r2, r3, r4, r5, r6, r7, r8, r9) := by rw [if_pos rfl] at H; exact H
          clear H
          have H := H1
          clear H1
          simp only [Option.some.injEq, Prod.mk.injEq] at H
          obtain ⟨rfl, rfl, rfl, rfl, rfl, rfl, rfl, rfl, rfl⟩ := H
          have hnb25 := NB232_227.out
          have hnc25 := NB227_232.out
          have hcz26_0 : wc.cell? ⟨gb232, 0, none⟩ = some (.int .i64 0) := (blk_cell BK232.out 0).trans rfl
          have hcz26_1 : wc.cell? ⟨gb232, 1, none⟩ = some (.int .i64 0) := (blk_cell BK232.out 1).trans rfl
          have hcz26_2 : wc.cell? ⟨gb232, 2, none⟩ = some (.int .i64 t229) := (blk_cell BK232.out 2).trans rfl
          have hcz26_3 : wc.cell? ⟨gb232, 3, none⟩ = some (.int .i64 t230) := (blk_cell BK232.out 3).trans rfl
          have hcz26_4 : wc.cell? ⟨gb232, 4, none⟩ = some (.int .i64 t231) := (blk_cell BK232.out 4).trans rfl
          have hcz26_5 : wc.cell? ⟨gb232, 5, none⟩ = some (.int .i64 0) := (blk_cell BK232.out 5).trans rfl
          have hcz26_6 : wc.cell? ⟨gb232, 6, none⟩ = some (.int .i64 ji4) := (blk_cell BK232.out 6).trans rfl
          have hcz26_7 : wc.cell? ⟨gb232, 7, none⟩ = some (.bool false) := (blk_cell BK232.out 7).trans rfl
          have hfz26_0 := blk_frozen BK232.out 0
          have hfz26_1 := blk_frozen BK232.out 1
          have hfz26_2 := blk_frozen BK232.out 2
          have hfz26_3 := blk_frozen BK232.out 3
          have hfz26_4 := blk_frozen BK232.out 4
          have hfz26_5 := blk_frozen BK232.out 5
          have hfz26_6 := blk_frozen BK232.out 6
          have hfz26_7 := blk_frozen BK232.out 7
          have hcz27_0 : wc.cell? ⟨gb227, 0, none⟩ = some (.int .i64 0) := (blk_cell BK227.out 0).trans rfl
          have hcz27_1 : wc.cell? ⟨gb227, 1, none⟩ = some (.int .i64 0) := (blk_cell BK227.out 1).trans rfl
          have hcz27_2 : wc.cell? ⟨gb227, 2, none⟩ = some (.int .i64 0) := (blk_cell BK227.out 2).trans rfl
          have hcz27_3 : wc.cell? ⟨gb227, 3, none⟩ = some (.int .i64 0) := (blk_cell BK227.out 3).trans rfl
          have hcz27_4 : wc.cell? ⟨gb227, 4, none⟩ = some (.int .i64 0) := (blk_cell BK227.out 4).trans rfl
          have hcz27_5 : wc.cell? ⟨gb227, 5, none⟩ = some (.int .i64 0) := (blk_cell BK227.out 5).trans rfl
          have hcz27_6 : wc.cell? ⟨gb227, 6, none⟩ = some (.int .i64 0) := (blk_cell BK227.out 6).trans rfl
          have hcz27_7 : wc.cell? ⟨gb227, 7, none⟩ = some (.bool false) := (blk_cell BK227.out 7).trans rfl
          have hfz27_0 := blk_frozen BK227.out 0
          have hfz27_1 := blk_frozen BK227.out 1
          have hfz27_2 := blk_frozen BK227.out 2
          have hfz27_3 := blk_frozen BK227.out 3
          have hfz27_4 := blk_frozen BK227.out 4
          have hfz27_5 := blk_frozen BK227.out 5
          have hfz27_6 := blk_frozen BK227.out 6
          have hfz27_7 := blk_frozen BK227.out 7
          go_wp2
          refine bodyPost_ret (results_ct rfl _ _ gb227 23 #[.int .i64 0, .int .i64 0, .int .i64 t229, .int .i64 t230, .int .i64 t231, .int .i64 0, .int .i64 ji4, .bool false] (0, 0) _ rfl (by (with_reducible repeat (first | refine blk_drewN ?_ _ | refine blk_drew ?_ | refine blk_alloc ?_ _)); refine blk_put (cs := #[.int .i64 0, .int .i64 0, .int .i64 t229, .int .i64 t230, .int .i64 t231, .int .i64 0, .int .i64 ji4, .bool false]) ?_ 7 _ rfl; (with_reducible repeat (first | refine blk_drewN ?_ _ | refine blk_drew ?_ | refine blk_alloc ?_ _)); refine blk_put (cs := #[.int .i64 0, .int .i64 0, .int .i64 t229, .int .i64 t230, .int .i64 t231, .int .i64 0, .int .i64 0, .bool false]) ?_ 6 _ rfl; (with_reducible repeat (first | refine blk_drewN ?_ _ | refine blk_drew ?_ | refine blk_alloc ?_ _)); refine blk_put (cs := #[.int .i64 0, .int .i64 0, .int .i64 t229, .int .i64 t230, .int .i64 t231, .int .i64 0, .int .i64 0, .bool false]) ?_ 5 _ rfl; (with_reducible repeat (first | refine blk_drewN ?_ _ | refine blk_drew ?_ | refine blk_alloc ?_ _)); refine blk_put (cs := #[.int .i64 0, .int .i64 0, .int .i64 t229, .int .i64 t230, .int .i64 0, .int .i64 0, .int .i64 0, .bool false]) ?_ 4 _ rfl; (with_reducible repeat (first | refine blk_drewN ?_ _ | refine blk_drew ?_ | refine blk_alloc ?_ _)); refine blk_put (cs := #[.int .i64 0, .int .i64 0, .int .i64 t229, .int .i64 0, .int .i64 0, .int .i64 0, .int .i64 0, .bool false]) ?_ 3 _ rfl; (with_reducible repeat (first | refine blk_drewN ?_ _ | refine blk_drew ?_ | refine blk_alloc ?_ _)); refine blk_put (cs := #[.int .i64 0, .int .i64 0, .int .i64 0, .int .i64 0, .int .i64 0, .int .i64 0, .int .i64 0, .bool false]) ?_ 2 _ rfl; (with_reducible repeat (first | refine blk_drewN ?_ _ | refine blk_drew ?_ | refine blk_alloc ?_ _)); refine blk_put (cs := #[.int .i64 0, .int .i64 0, .int .i64 0, .int .i64 0, .int .i64 0, .int .i64 0, .int .i64 0, .bool false]) ?_ 1 _ rfl; (with_reducible repeat (first | refine blk_drewN ?_ _ | refine blk_drew ?_ | refine blk_alloc ?_ _)); refine blk_put (cs := #[.int .i64 0, .int .i64 0, .int .i64 0, .int .i64 0, .int .i64 0, .int .i64 0, .int .i64 0, .bool false]) ?_ 0 _ rfl; (with_reducible repeat (first | refine blk_drewN ?_ _ | refine blk_drew ?_ | refine blk_alloc ?_ _)); exact BK227.out) Tryz.underlying23 rfl (by kernel_rfl)) rfl ?_
          exact ⟨by first | rfl | (simp [errW_none, errW_some] <;> rfl) | (simp only [← hji4]; first | rfl | (simp [errW_none, errW_some] <;> rfl)) | (simp [*, errW_none, errW_some] <;> rfl), by repeat (first | (with_reducible first | exact HB.out | apply below_alloc | apply pw_below_drewN | apply below_drew1 | refine below_set ?_ GE227.out | refine below_set ?_ GE232.out) | exact HB.out)⟩
        · replace c24 := Bool.eq_false_iff.mpr c24
          subst c24
          have H1 : ((inst_word_bits.f a0 31 27).bind fun t235 => (if t235 = 2 then ((inst_word_rs2.f a0).bind fun t236 => (some (15, 0, t229, t230, t231, 0, ji4, false, (t236 == 0)))) else (if t235 = 3 then (some (16, 0, t229, t230, t231, 0, ji4, false, true)) else (if t235 = 1 then (some (17, 1, t229, t230, t231, 0, ji4, false, true)) else (if (Go.bits .and .i64 t235 3) = 0 then ((inst_pick.f (([2, 3, 5, 4, 6, 7, 8, 9] : List Int)) (wrap64 (Int.tdiv t235 4))).bind fun t240 => (some (17, t240, t229, t230, t231, 0, ji4, false, true))) else (some (0, 0, t229, t230, t231, 0, ji4, false, false))))))) = some (r1, r2, r3, r4, r5, r6, r7, r8, r9) := by rw [if_neg (show ¬ (false = true) by decide)] at H; exact H
          clear H
          have H := H1
          clear H1
          replace H := Option.bind_eq_some_iff.mp H
          obtain ⟨t235, A280, H⟩ := H
          replace H : (if t235 = 2 then ((inst_word_rs2.f a0).bind fun t236 => (some (15, 0, t229, t230, t231, 0, ji4, false, (t236 == 0)))) else (if t235 = 3 then (some (16, 0, t229, t230, t231, 0, ji4, false, true)) else (if t235 = 1 then (some (17, 1, t229, t230, t231, 0, ji4, false, true)) else (if (Go.bits .and .i64 t235 3) = 0 then ((inst_pick.f (([2, 3, 5, 4, 6, 7, 8, 9] : List Int)) (wrap64 (Int.tdiv t235 4))).bind fun t240 => (some (17, t240, t229, t230, t231, 0, ji4, false, true))) else (some (0, 0, t229, t230, t231, 0, ji4, false, false)))))) = some (r1, r2, r3, r4, r5, r6, r7, r8, r9) := H
          have A28 := Aside0.mk A280
          clear A280
          by_cases c29 : t235 = 2
          · rw [if_pos c29] at H
            have c29b0 : (t235 == 2) = true := beq_iff_eq.mpr c29
            have c29b1 : (t235 != 2) = false := bne_eq_false_iff_eq.mpr c29
            clear c29
            replace H := Option.bind_eq_some_iff.mp H
            obtain ⟨t236, A300, H⟩ := H
            replace H : (some (15, 0, t229, t230, t231, 0, ji4, false, (t236 == 0))) = some (r1, r2, r3, r4, r5, r6, r7, r8, r9) := H
            have A30 := Aside0.mk A300
            clear A300
            simp only [Option.some.injEq, Prod.mk.injEq] at H
            obtain ⟨rfl, rfl, rfl, rfl, rfl, rfl, rfl, rfl, rfl⟩ := H
            try go_wp2_with (first | ((with_reducible refine gate_callee (f := 131) rfl ?_); refine goesL_ (some 26) rfl rfl Tryz.func131 (by kernel_rfl) rfl #[.int .u32 a0, .int .i64 31, .int .i64 27] rfl (by (try simp only [List.map_toArray, List.map_cons, List.map_nil]); first | done | rfl | (simp only [List.length_drop, List.length_take]; rfl)) ?_; (with_reducible refine (inst_word_bits.calls a0 31 27 t235 _ A28.out).mono ?_); rintro e w' ⟨rfl, ⟨nd, rfl⟩⟩; refine ⟨_, rfl, ?_⟩; (try (rw [drewN_self wc]; generalize hq_ : World.drewN wc _ = wc; have n0_ : Aside0 (wc.heap[gb227]? = some (.cells #[.int .i64 0, .int .i64 0, .int .i64 0, .int .i64 0, .int .i64 0, .int .i64 0, .int .i64 0, .bool false] 23 (0, 0))) := ⟨by rw [← hq_]; exact (by (with_reducible repeat (first | refine blk_drewN ?_ _ | refine blk_drew ?_ | refine blk_alloc ?_ _)); exact BK227.out)⟩; have n1_ : Aside0 (wc.heap[gb232]? = some (.cells #[.int .i64 0, .int .i64 0, .int .i64 t229, .int .i64 t230, .int .i64 t231, .int .i64 0, .int .i64 ji4, .bool false] 23 (0, 0))) := ⟨by rw [← hq_]; exact (by (with_reducible repeat (first | refine blk_drewN ?_ _ | refine blk_drew ?_ | refine blk_alloc ?_ _)); exact BK232.out)⟩; have n2_ : Aside0 (Below w.heap.size w wc) := ⟨by rw [← hq_]; exact (by repeat (first | (with_reducible first | exact HB.out | apply below_alloc | apply pw_below_drewN | apply below_drew1 | refine below_set ?_ GE227.out | refine below_set ?_ GE232.out) | exact HB.out))⟩; clear BK227 BK232 HB hq_; have BK227 := n0_; have BK232 := n1_; have HB := n2_; clear n0_ n1_ n2_)); have hnb31 := NB232_227.out; have hnc31 := NB227_232.out; have hcz32_0 : wc.cell? ⟨gb232, 0, none⟩ = some (.int .i64 0) := (blk_cell BK232.out 0).trans rfl; have hcz32_1 : wc.cell? ⟨gb232, 1, none⟩ = some (.int .i64 0) := (blk_cell BK232.out 1).trans rfl; have hcz32_2 : wc.cell? ⟨gb232, 2, none⟩ = some (.int .i64 t229) := (blk_cell BK232.out 2).trans rfl; have hcz32_3 : wc.cell? ⟨gb232, 3, none⟩ = some (.int .i64 t230) := (blk_cell BK232.out 3).trans rfl; have hcz32_4 : wc.cell? ⟨gb232, 4, none⟩ = some (.int .i64 t231) := (blk_cell BK232.out 4).trans rfl; have hcz32_5 : wc.cell? ⟨gb232, 5, none⟩ = some (.int .i64 0) := (blk_cell BK232.out 5).trans rfl; have hcz32_6 : wc.cell? ⟨gb232, 6, none⟩ = some (.int .i64 ji4) := (blk_cell BK232.out 6).trans rfl; have hcz32_7 : wc.cell? ⟨gb232, 7, none⟩ = some (.bool false) := (blk_cell BK232.out 7).trans rfl; have hfz32_0 := blk_frozen BK232.out 0; have hfz32_1 := blk_frozen BK232.out 1; have hfz32_2 := blk_frozen BK232.out 2; have hfz32_3 := blk_frozen BK232.out 3; have hfz32_4 := blk_frozen BK232.out 4; have hfz32_5 := blk_frozen BK232.out 5; have hfz32_6 := blk_frozen BK232.out 6; have hfz32_7 := blk_frozen BK232.out 7))
            have n0_ : Aside0 ((wc.setCell ⟨gb232, 0, none⟩ (.int .i64 15)).heap[gb227]? = some (.cells #[.int .i64 0, .int .i64 0, .int .i64 0, .int .i64 0, .int .i64 0, .int .i64 0, .int .i64 0, .bool false] 23 (0, 0))) := ⟨by (with_reducible repeat (first | refine blk_drewN ?_ _ | refine blk_drew ?_ | refine blk_alloc ?_ _)); refine blk_far ?_ NB227_232.out _; (with_reducible repeat (first | refine blk_drewN ?_ _ | refine blk_drew ?_ | refine blk_alloc ?_ _)); exact BK227.out⟩
            have n1_ : Aside0 ((wc.setCell ⟨gb232, 0, none⟩ (.int .i64 15)).heap[gb232]? = some (.cells #[.int .i64 15, .int .i64 0, .int .i64 t229, .int .i64 t230, .int .i64 t231, .int .i64 0, .int .i64 ji4, .bool false] 23 (0, 0))) := ⟨by (with_reducible repeat (first | refine blk_drewN ?_ _ | refine blk_drew ?_ | refine blk_alloc ?_ _)); refine blk_put (cs := #[.int .i64 0, .int .i64 0, .int .i64 t229, .int .i64 t230, .int .i64 t231, .int .i64 0, .int .i64 ji4, .bool false]) ?_ 0 _ rfl; (with_reducible repeat (first | refine blk_drewN ?_ _ | refine blk_drew ?_ | refine blk_alloc ?_ _)); exact BK232.out⟩
            have n2_ : Aside0 (Below w.heap.size w (wc.setCell ⟨gb232, 0, none⟩ (.int .i64 15))) := ⟨by repeat (first | (with_reducible first | exact HB.out | apply below_alloc | apply pw_below_drewN | apply below_drew1 | refine below_set ?_ GE227.out | refine below_set ?_ GE232.out) | exact HB.out)⟩
            (try clear BK227)
            (try clear BK232)
            (try clear HB)
            generalize (wc.setCell ⟨gb232, 0, none⟩ (.int .i64 15)) = w33 at n0_ n1_ n2_ ⊢
            have BK227 := n0_
            have BK232 := n1_
            have HB := n2_
            clear n0_ n1_ n2_
            have n0_ := Aside0.mk (blk_drew BK227.out)
            have n1_ := Aside0.mk (blk_drew BK232.out)
            have n2_ := Aside0.mk (below_drew1 HB.out)
            clear BK227
            clear BK232
            clear HB
            have BK227 := n0_
            have BK232 := n1_
            have HB := n2_
            clear n0_ n1_ n2_
            refine start_ (n := 6) (S := fun w' => w'.cell? ⟨gb232, 0, none⟩ = some (.int .i64 15) ∧ w'.cell? ⟨gb232, 1, none⟩ = some (.int .i64 0) ∧ w'.cell? ⟨gb232, 2, none⟩ = some (.int .i64 t229) ∧ w'.cell? ⟨gb232, 3, none⟩ = some (.int .i64 t230) ∧ w'.cell? ⟨gb232, 4, none⟩ = some (.int .i64 t231) ∧ w'.cell? ⟨gb232, 5, none⟩ = some (.int .i64 0) ∧ w'.cell? ⟨gb232, 6, none⟩ = some (.int .i64 ji4) ∧ w'.cell? ⟨gb232, 7, none⟩ = some (.bool false)) (ds := []) #[false, false, false, false, false, false] (by kernel_rfl) rfl rfl ⟨(blk_cell BK232.out 0).trans rfl, (blk_cell BK232.out 1).trans rfl, (blk_cell BK232.out 2).trans rfl, (blk_cell BK232.out 3).trans rfl, (blk_cell BK232.out 4).trans rfl, (blk_cell BK232.out 5).trans rfl, (blk_cell BK232.out 6).trans rfl, (blk_cell BK232.out 7).trans rfl⟩ (fun hHeld => ?_)
            generalize w33.drew = w34 at BK227 BK232 HB hHeld ⊢
            refine pure_ (i := 1) (N := some 42) (v := ?_) (a' := ?_) #[false, true, false, false, false, false] rfl rfl (by kernel_rfl) (fun _ _ _ h => h) (Or.inl ⟨by rfl, ?_⟩) ?_ ?_
            rotate_left
            · intro w'
              go_simp
              with_reducible rfl
            rotate_left
            · simp only [Act.put, putS]
              rfl
            refine take_ (i := 0) (N := some 41) (v := ?_) (a' := ?_) #[true, true, false, false, false, false] rfl rfl (by kernel_rfl) (fun _ _ _ h => h) (Or.inl ⟨by rfl, ?_⟩) hHeld ?_ ?_
            rotate_left
            · rintro w' ⟨s0, s1, s2, s3, s4, s5, s6, s7⟩
              go_simp
              with_reducible rfl
            rotate_left
            · simp only [Act.put, putS]
              rfl
            refine one_ (i := 2) (N := some 43) #[true, true, true, false, false, false] rfl rfl (by kernel_rfl) (by decide) (fun K hK => ?_)
            refine goes_ Tryz.func102 (by kernel_rfl) rfl #[.int .u32 a0] (by rfl) rfl rfl (by (try simp only [List.map_toArray, List.map_cons, List.map_nil]); first | done | rfl | (simp only [List.length_drop, List.length_take]; rfl)) ?_
            with_reducible refine (inst_word_rs2.calls a0 t236 _ A30.out).mono ?_
            rintro e w' ⟨rfl, ⟨nd, rfl⟩⟩
            refine ⟨_, rfl, ?_⟩
            refine hK.out _ _ ⟨(blk_cell BK232.out 0).trans rfl, (blk_cell BK232.out 1).trans rfl, (blk_cell BK232.out 2).trans rfl, (blk_cell BK232.out 3).trans rfl, (blk_cell BK232.out 4).trans rfl, (blk_cell BK232.out 5).trans rfl, (blk_cell BK232.out 6).trans rfl, (blk_cell BK232.out 7).trans rfl⟩ (fun hHeld => ?_)
            clear hK K
            refine norm_ (a' := ?_) ?_ ?_
            rotate_left
            · show Act.put _ (some 43) _ = _
              simp only [Act.put, putS]
              rfl
            refine pure_ (i := 3) (N := some 44) (v := ?_) (a' := ?_) #[true, true, true, true, false, false] rfl rfl (by kernel_rfl) (fun _ _ _ h => h) (Or.inl ⟨by rfl, ?_⟩) ?_ ?_
            rotate_left
            · intro w'
              go_simp
              with_reducible rfl
            rotate_left
            · simp only [Act.put, putS]
              rfl
            refine one_ (i := 4) (N := none) #[true, true, true, true, true, false] rfl rfl (by kernel_rfl) (by decide) (fun K hK => ?_)
            have hs35 : w34.cell? ⟨gb227, 0, none⟩ = some (.int .i64 0) := (blk_cell BK227.out 0).trans rfl
            have hfs35 := blk_frozen BK227.out 0
            have hns35_1 := NB232_227.out
            have hms35_1 := NB227_232.out
            have hs36 : w34.cell? ⟨gb227, 1, none⟩ = some (.int .i64 0) := (blk_cell BK227.out 1).trans rfl
            have hfs36 := blk_frozen BK227.out 1
            have hns36_1 := NB232_227.out
            have hms36_1 := NB227_232.out
            have hs37 : w34.cell? ⟨gb227, 2, none⟩ = some (.int .i64 0) := (blk_cell BK227.out 2).trans rfl
            have hfs37 := blk_frozen BK227.out 2
            have hns37_1 := NB232_227.out
            have hms37_1 := NB227_232.out
            have hs38 : w34.cell? ⟨gb227, 3, none⟩ = some (.int .i64 0) := (blk_cell BK227.out 3).trans rfl
            have hfs38 := blk_frozen BK227.out 3
            have hns38_1 := NB232_227.out
            have hms38_1 := NB227_232.out
            have hs39 : w34.cell? ⟨gb227, 4, none⟩ = some (.int .i64 0) := (blk_cell BK227.out 4).trans rfl
            have hfs39 := blk_frozen BK227.out 4
            have hns39_1 := NB232_227.out
            have hms39_1 := NB227_232.out
            have hs40 : w34.cell? ⟨gb227, 5, none⟩ = some (.int .i64 0) := (blk_cell BK227.out 5).trans rfl
            have hfs40 := blk_frozen BK227.out 5
            have hns40_1 := NB232_227.out
            have hms40_1 := NB227_232.out
            have hs41 : w34.cell? ⟨gb227, 6, none⟩ = some (.int .i64 0) := (blk_cell BK227.out 6).trans rfl
            have hfs41 := blk_frozen BK227.out 6
            have hns41_1 := NB232_227.out
            have hms41_1 := NB227_232.out
            have hs42 : w34.cell? ⟨gb227, 7, none⟩ = some (.bool false) := (blk_cell BK227.out 7).trans rfl
            have hfs42 := blk_frozen BK227.out 7
            have hns42_1 := NB232_227.out
            have hms42_1 := NB227_232.out
            refine skip_ (w1 := ?_) (by rfl) rfl ?_ ?_
            rotate_left
            · go_simp
              rfl
            refine hK.out _ _ ⟨((cell_far (p := ⟨gb227, _, none⟩) NB232_227.out _).trans (((cell_far (p := ⟨gb227, _, none⟩) NB232_227.out _).trans (((cell_far (p := ⟨gb227, _, none⟩) NB232_227.out _).trans (((cell_far (p := ⟨gb227, _, none⟩) NB232_227.out _).trans (((cell_far (p := ⟨gb227, _, none⟩) NB232_227.out _).trans (((cell_far (p := ⟨gb227, _, none⟩) NB232_227.out _).trans (((cell_far (p := ⟨gb227, _, none⟩) NB232_227.out _).trans (((cell_far (p := ⟨gb227, _, none⟩) NB232_227.out _).trans (hHeld.1)))))))))))))))), ((cell_far (p := ⟨gb227, _, none⟩) NB232_227.out _).trans (((cell_far (p := ⟨gb227, _, none⟩) NB232_227.out _).trans (((cell_far (p := ⟨gb227, _, none⟩) NB232_227.out _).trans (((cell_far (p := ⟨gb227, _, none⟩) NB232_227.out _).trans (((cell_far (p := ⟨gb227, _, none⟩) NB232_227.out _).trans (((cell_far (p := ⟨gb227, _, none⟩) NB232_227.out _).trans (((cell_far (p := ⟨gb227, _, none⟩) NB232_227.out _).trans (((cell_far (p := ⟨gb227, _, none⟩) NB232_227.out _).trans (hHeld.2.1)))))))))))))))), ((cell_far (p := ⟨gb227, _, none⟩) NB232_227.out _).trans (((cell_far (p := ⟨gb227, _, none⟩) NB232_227.out _).trans (((cell_far (p := ⟨gb227, _, none⟩) NB232_227.out _).trans (((cell_far (p := ⟨gb227, _, none⟩) NB232_227.out _).trans (((cell_far (p := ⟨gb227, _, none⟩) NB232_227.out _).trans (((cell_far (p := ⟨gb227, _, none⟩) NB232_227.out _).trans (((cell_far (p := ⟨gb227, _, none⟩) NB232_227.out _).trans (((cell_far (p := ⟨gb227, _, none⟩) NB232_227.out _).trans (hHeld.2.2.1)))))))))))))))), ((cell_far (p := ⟨gb227, _, none⟩) NB232_227.out _).trans (((cell_far (p := ⟨gb227, _, none⟩) NB232_227.out _).trans (((cell_far (p := ⟨gb227, _, none⟩) NB232_227.out _).trans (((cell_far (p := ⟨gb227, _, none⟩) NB232_227.out _).trans (((cell_far (p := ⟨gb227, _, none⟩) NB232_227.out _).trans (((cell_far (p := ⟨gb227, _, none⟩) NB232_227.out _).trans (((cell_far (p := ⟨gb227, _, none⟩) NB232_227.out _).trans (((cell_far (p := ⟨gb227, _, none⟩) NB232_227.out _).trans (hHeld.2.2.2.1)))))))))))))))), ((cell_far (p := ⟨gb227, _, none⟩) NB232_227.out _).trans (((cell_far (p := ⟨gb227, _, none⟩) NB232_227.out _).trans (((cell_far (p := ⟨gb227, _, none⟩) NB232_227.out _).trans (((cell_far (p := ⟨gb227, _, none⟩) NB232_227.out _).trans (((cell_far (p := ⟨gb227, _, none⟩) NB232_227.out _).trans (((cell_far (p := ⟨gb227, _, none⟩) NB232_227.out _).trans (((cell_far (p := ⟨gb227, _, none⟩) NB232_227.out _).trans (((cell_far (p := ⟨gb227, _, none⟩) NB232_227.out _).trans (hHeld.2.2.2.2.1)))))))))))))))), ((cell_far (p := ⟨gb227, _, none⟩) NB232_227.out _).trans (((cell_far (p := ⟨gb227, _, none⟩) NB232_227.out _).trans (((cell_far (p := ⟨gb227, _, none⟩) NB232_227.out _).trans (((cell_far (p := ⟨gb227, _, none⟩) NB232_227.out _).trans (((cell_far (p := ⟨gb227, _, none⟩) NB232_227.out _).trans (((cell_far (p := ⟨gb227, _, none⟩) NB232_227.out _).trans (((cell_far (p := ⟨gb227, _, none⟩) NB232_227.out _).trans (((cell_far (p := ⟨gb227, _, none⟩) NB232_227.out _).trans (hHeld.2.2.2.2.2.1)))))))))))))))), ((cell_far (p := ⟨gb227, _, none⟩) NB232_227.out _).trans (((cell_far (p := ⟨gb227, _, none⟩) NB232_227.out _).trans (((cell_far (p := ⟨gb227, _, none⟩) NB232_227.out _).trans (((cell_far (p := ⟨gb227, _, none⟩) NB232_227.out _).trans (((cell_far (p := ⟨gb227, _, none⟩) NB232_227.out _).trans (((cell_far (p := ⟨gb227, _, none⟩) NB232_227.out _).trans (((cell_far (p := ⟨gb227, _, none⟩) NB232_227.out _).trans (((cell_far (p := ⟨gb227, _, none⟩) NB232_227.out _).trans (hHeld.2.2.2.2.2.2.1)))))))))))))))), ((cell_far (p := ⟨gb227, _, none⟩) NB232_227.out _).trans (((cell_far (p := ⟨gb227, _, none⟩) NB232_227.out _).trans (((cell_far (p := ⟨gb227, _, none⟩) NB232_227.out _).trans (((cell_far (p := ⟨gb227, _, none⟩) NB232_227.out _).trans (((cell_far (p := ⟨gb227, _, none⟩) NB232_227.out _).trans (((cell_far (p := ⟨gb227, _, none⟩) NB232_227.out _).trans (((cell_far (p := ⟨gb227, _, none⟩) NB232_227.out _).trans (((cell_far (p := ⟨gb227, _, none⟩) NB232_227.out _).trans (hHeld.2.2.2.2.2.2.2))))))))))))))))⟩ (fun hHeld => ?_)
            clear hK K
            refine pure_ (i := 5) (N := some 3) (v := ?_) (a' := ?_) #[true, true, true, true, true, true] rfl rfl (by kernel_rfl) (fun _ _ _ h => h) (Or.inl ⟨by rfl, ?_⟩) ?_ ?_
            rotate_left
            · intro w'
              go_simp
              with_reducible rfl
            rotate_left
            · simp only [Act.put, putS]
              rfl
            refine done_ (by kernel_rfl) ?_
            try go_wp2
            refine bodyPost_ret (results_ct rfl _ _ gb227 23 #[.int .i64 15, .int .i64 0, .int .i64 t229, .int .i64 t230, .int .i64 t231, .int .i64 0, .int .i64 ji4, .bool false] (0, 0) _ rfl (by (with_reducible repeat (first | refine blk_drewN ?_ _ | refine blk_drew ?_ | refine blk_alloc ?_ _)); refine blk_put (cs := #[.int .i64 15, .int .i64 0, .int .i64 t229, .int .i64 t230, .int .i64 t231, .int .i64 0, .int .i64 ji4, .bool false]) ?_ 7 _ rfl; (with_reducible repeat (first | refine blk_drewN ?_ _ | refine blk_drew ?_ | refine blk_alloc ?_ _)); refine blk_put (cs := #[.int .i64 15, .int .i64 0, .int .i64 t229, .int .i64 t230, .int .i64 t231, .int .i64 0, .int .i64 0, .bool false]) ?_ 6 _ rfl; (with_reducible repeat (first | refine blk_drewN ?_ _ | refine blk_drew ?_ | refine blk_alloc ?_ _)); refine blk_put (cs := #[.int .i64 15, .int .i64 0, .int .i64 t229, .int .i64 t230, .int .i64 t231, .int .i64 0, .int .i64 0, .bool false]) ?_ 5 _ rfl; (with_reducible repeat (first | refine blk_drewN ?_ _ | refine blk_drew ?_ | refine blk_alloc ?_ _)); refine blk_put (cs := #[.int .i64 15, .int .i64 0, .int .i64 t229, .int .i64 t230, .int .i64 0, .int .i64 0, .int .i64 0, .bool false]) ?_ 4 _ rfl; (with_reducible repeat (first | refine blk_drewN ?_ _ | refine blk_drew ?_ | refine blk_alloc ?_ _)); refine blk_put (cs := #[.int .i64 15, .int .i64 0, .int .i64 t229, .int .i64 0, .int .i64 0, .int .i64 0, .int .i64 0, .bool false]) ?_ 3 _ rfl; (with_reducible repeat (first | refine blk_drewN ?_ _ | refine blk_drew ?_ | refine blk_alloc ?_ _)); refine blk_put (cs := #[.int .i64 15, .int .i64 0, .int .i64 0, .int .i64 0, .int .i64 0, .int .i64 0, .int .i64 0, .bool false]) ?_ 2 _ rfl; (with_reducible repeat (first | refine blk_drewN ?_ _ | refine blk_drew ?_ | refine blk_alloc ?_ _)); refine blk_put (cs := #[.int .i64 15, .int .i64 0, .int .i64 0, .int .i64 0, .int .i64 0, .int .i64 0, .int .i64 0, .bool false]) ?_ 1 _ rfl; (with_reducible repeat (first | refine blk_drewN ?_ _ | refine blk_drew ?_ | refine blk_alloc ?_ _)); refine blk_put (cs := #[.int .i64 0, .int .i64 0, .int .i64 0, .int .i64 0, .int .i64 0, .int .i64 0, .int .i64 0, .bool false]) ?_ 0 _ rfl; (with_reducible repeat (first | refine blk_drewN ?_ _ | refine blk_drew ?_ | refine blk_alloc ?_ _)); exact BK227.out) Tryz.underlying23 rfl (by kernel_rfl)) rfl ?_
            exact ⟨by first | rfl | (simp [errW_none, errW_some] <;> rfl) | (simp only [← hji4]; first | rfl | (simp [errW_none, errW_some] <;> rfl)) | (simp [*, errW_none, errW_some] <;> rfl), by repeat (first | (with_reducible first | exact HB.out | apply below_alloc | apply pw_below_drewN | apply below_drew1 | refine below_set ?_ GE227.out | refine below_set ?_ GE232.out) | exact HB.out)⟩
          · rw [if_neg c29] at H
            have c29b0 : (t235 == 2) = false := beq_eq_false_iff_ne.mpr c29
            have c29b1 : (t235 != 2) = true := bne_iff_ne.mpr c29
            by_cases c43 : t235 = 3
            · rw [if_pos c43] at H
              have c43b0 : (t235 == 3) = true := beq_iff_eq.mpr c43
              have c43b1 : (t235 != 3) = false := bne_eq_false_iff_eq.mpr c43
              clear c43
              simp only [Option.some.injEq, Prod.mk.injEq] at H
              obtain ⟨rfl, rfl, rfl, rfl, rfl, rfl, rfl, rfl, rfl⟩ := H
              go_wp2_with (first | ((with_reducible refine gate_callee (f := 131) rfl ?_); refine goesL_ (some 26) rfl rfl Tryz.func131 (by kernel_rfl) rfl #[.int .u32 a0, .int .i64 31, .int .i64 27] rfl (by (try simp only [List.map_toArray, List.map_cons, List.map_nil]); first | done | rfl | (simp only [List.length_drop, List.length_take]; rfl)) ?_; (with_reducible refine (inst_word_bits.calls a0 31 27 t235 _ A28.out).mono ?_); rintro e w' ⟨rfl, ⟨nd, rfl⟩⟩; refine ⟨_, rfl, ?_⟩; (try (rw [drewN_self wc]; generalize hq_ : World.drewN wc _ = wc; have n0_ : Aside0 (wc.heap[gb227]? = some (.cells #[.int .i64 0, .int .i64 0, .int .i64 0, .int .i64 0, .int .i64 0, .int .i64 0, .int .i64 0, .bool false] 23 (0, 0))) := ⟨by rw [← hq_]; exact (by (with_reducible repeat (first | refine blk_drewN ?_ _ | refine blk_drew ?_ | refine blk_alloc ?_ _)); exact BK227.out)⟩; have n1_ : Aside0 (wc.heap[gb232]? = some (.cells #[.int .i64 0, .int .i64 0, .int .i64 t229, .int .i64 t230, .int .i64 t231, .int .i64 0, .int .i64 ji4, .bool false] 23 (0, 0))) := ⟨by rw [← hq_]; exact (by (with_reducible repeat (first | refine blk_drewN ?_ _ | refine blk_drew ?_ | refine blk_alloc ?_ _)); exact BK232.out)⟩; have n2_ : Aside0 (Below w.heap.size w wc) := ⟨by rw [← hq_]; exact (by repeat (first | (with_reducible first | exact HB.out | apply below_alloc | apply pw_below_drewN | apply below_drew1 | refine below_set ?_ GE227.out | refine below_set ?_ GE232.out) | exact HB.out))⟩; clear BK227 BK232 HB hq_; have BK227 := n0_; have BK232 := n1_; have HB := n2_; clear n0_ n1_ n2_)); have hnb44 := NB232_227.out; have hnc44 := NB227_232.out; have hcz45_0 : wc.cell? ⟨gb232, 0, none⟩ = some (.int .i64 0) := (blk_cell BK232.out 0).trans rfl; have hcz45_1 : wc.cell? ⟨gb232, 1, none⟩ = some (.int .i64 0) := (blk_cell BK232.out 1).trans rfl; have hcz45_2 : wc.cell? ⟨gb232, 2, none⟩ = some (.int .i64 t229) := (blk_cell BK232.out 2).trans rfl; have hcz45_3 : wc.cell? ⟨gb232, 3, none⟩ = some (.int .i64 t230) := (blk_cell BK232.out 3).trans rfl; have hcz45_4 : wc.cell? ⟨gb232, 4, none⟩ = some (.int .i64 t231) := (blk_cell BK232.out 4).trans rfl; have hcz45_5 : wc.cell? ⟨gb232, 5, none⟩ = some (.int .i64 0) := (blk_cell BK232.out 5).trans rfl; have hcz45_6 : wc.cell? ⟨gb232, 6, none⟩ = some (.int .i64 ji4) := (blk_cell BK232.out 6).trans rfl; have hcz45_7 : wc.cell? ⟨gb232, 7, none⟩ = some (.bool false) := (blk_cell BK232.out 7).trans rfl; have hfz45_0 := blk_frozen BK232.out 0; have hfz45_1 := blk_frozen BK232.out 1; have hfz45_2 := blk_frozen BK232.out 2; have hfz45_3 := blk_frozen BK232.out 3; have hfz45_4 := blk_frozen BK232.out 4; have hfz45_5 := blk_frozen BK232.out 5; have hfz45_6 := blk_frozen BK232.out 6; have hfz45_7 := blk_frozen BK232.out 7; have hcz46_0 : wc.cell? ⟨gb227, 0, none⟩ = some (.int .i64 0) := (blk_cell BK227.out 0).trans rfl; have hcz46_1 : wc.cell? ⟨gb227, 1, none⟩ = some (.int .i64 0) := (blk_cell BK227.out 1).trans rfl; have hcz46_2 : wc.cell? ⟨gb227, 2, none⟩ = some (.int .i64 0) := (blk_cell BK227.out 2).trans rfl; have hcz46_3 : wc.cell? ⟨gb227, 3, none⟩ = some (.int .i64 0) := (blk_cell BK227.out 3).trans rfl; have hcz46_4 : wc.cell? ⟨gb227, 4, none⟩ = some (.int .i64 0) := (blk_cell BK227.out 4).trans rfl; have hcz46_5 : wc.cell? ⟨gb227, 5, none⟩ = some (.int .i64 0) := (blk_cell BK227.out 5).trans rfl; have hcz46_6 : wc.cell? ⟨gb227, 6, none⟩ = some (.int .i64 0) := (blk_cell BK227.out 6).trans rfl; have hcz46_7 : wc.cell? ⟨gb227, 7, none⟩ = some (.bool false) := (blk_cell BK227.out 7).trans rfl; have hfz46_0 := blk_frozen BK227.out 0; have hfz46_1 := blk_frozen BK227.out 1; have hfz46_2 := blk_frozen BK227.out 2; have hfz46_3 := blk_frozen BK227.out 3; have hfz46_4 := blk_frozen BK227.out 4; have hfz46_5 := blk_frozen BK227.out 5; have hfz46_6 := blk_frozen BK227.out 6; have hfz46_7 := blk_frozen BK227.out 7))
              refine bodyPost_ret (results_ct rfl _ _ gb227 23 #[.int .i64 16, .int .i64 0, .int .i64 t229, .int .i64 t230, .int .i64 t231, .int .i64 0, .int .i64 ji4, .bool false] (0, 0) _ rfl (by (with_reducible repeat (first | refine blk_drewN ?_ _ | refine blk_drew ?_ | refine blk_alloc ?_ _)); refine blk_put (cs := #[.int .i64 16, .int .i64 0, .int .i64 t229, .int .i64 t230, .int .i64 t231, .int .i64 0, .int .i64 ji4, .bool false]) ?_ 7 _ rfl; (with_reducible repeat (first | refine blk_drewN ?_ _ | refine blk_drew ?_ | refine blk_alloc ?_ _)); refine blk_put (cs := #[.int .i64 16, .int .i64 0, .int .i64 t229, .int .i64 t230, .int .i64 t231, .int .i64 0, .int .i64 0, .bool false]) ?_ 6 _ rfl; (with_reducible repeat (first | refine blk_drewN ?_ _ | refine blk_drew ?_ | refine blk_alloc ?_ _)); refine blk_put (cs := #[.int .i64 16, .int .i64 0, .int .i64 t229, .int .i64 t230, .int .i64 t231, .int .i64 0, .int .i64 0, .bool false]) ?_ 5 _ rfl; (with_reducible repeat (first | refine blk_drewN ?_ _ | refine blk_drew ?_ | refine blk_alloc ?_ _)); refine blk_put (cs := #[.int .i64 16, .int .i64 0, .int .i64 t229, .int .i64 t230, .int .i64 0, .int .i64 0, .int .i64 0, .bool false]) ?_ 4 _ rfl; (with_reducible repeat (first | refine blk_drewN ?_ _ | refine blk_drew ?_ | refine blk_alloc ?_ _)); refine blk_put (cs := #[.int .i64 16, .int .i64 0, .int .i64 t229, .int .i64 0, .int .i64 0, .int .i64 0, .int .i64 0, .bool false]) ?_ 3 _ rfl; (with_reducible repeat (first | refine blk_drewN ?_ _ | refine blk_drew ?_ | refine blk_alloc ?_ _)); refine blk_put (cs := #[.int .i64 16, .int .i64 0, .int .i64 0, .int .i64 0, .int .i64 0, .int .i64 0, .int .i64 0, .bool false]) ?_ 2 _ rfl; (with_reducible repeat (first | refine blk_drewN ?_ _ | refine blk_drew ?_ | refine blk_alloc ?_ _)); refine blk_put (cs := #[.int .i64 16, .int .i64 0, .int .i64 0, .int .i64 0, .int .i64 0, .int .i64 0, .int .i64 0, .bool false]) ?_ 1 _ rfl; (with_reducible repeat (first | refine blk_drewN ?_ _ | refine blk_drew ?_ | refine blk_alloc ?_ _)); refine blk_put (cs := #[.int .i64 0, .int .i64 0, .int .i64 0, .int .i64 0, .int .i64 0, .int .i64 0, .int .i64 0, .bool false]) ?_ 0 _ rfl; (with_reducible repeat (first | refine blk_drewN ?_ _ | refine blk_drew ?_ | refine blk_alloc ?_ _)); refine blk_far ?_ NB227_232.out _; (with_reducible repeat (first | refine blk_drewN ?_ _ | refine blk_drew ?_ | refine blk_alloc ?_ _)); exact BK227.out) Tryz.underlying23 rfl (by kernel_rfl)) rfl ?_
              exact ⟨by first | rfl | (simp [errW_none, errW_some] <;> rfl) | (simp only [← hji4]; first | rfl | (simp [errW_none, errW_some] <;> rfl)) | (simp [*, errW_none, errW_some] <;> rfl), by repeat (first | (with_reducible first | exact HB.out | apply below_alloc | apply pw_below_drewN | apply below_drew1 | refine below_set ?_ GE227.out | refine below_set ?_ GE232.out) | exact HB.out)⟩
            · rw [if_neg c43] at H
              have c43b0 : (t235 == 3) = false := beq_eq_false_iff_ne.mpr c43
              have c43b1 : (t235 != 3) = true := bne_iff_ne.mpr c43
              by_cases c47 : t235 = 1
              · rw [if_pos c47] at H
                have c47b0 : (t235 == 1) = true := beq_iff_eq.mpr c47
                have c47b1 : (t235 != 1) = false := bne_eq_false_iff_eq.mpr c47
                clear c47
                simp only [Option.some.injEq, Prod.mk.injEq] at H
                obtain ⟨rfl, rfl, rfl, rfl, rfl, rfl, rfl, rfl, rfl⟩ := H
                go_wp2_with (first | ((with_reducible refine gate_callee (f := 131) rfl ?_); refine goesL_ (some 26) rfl rfl Tryz.func131 (by kernel_rfl) rfl #[.int .u32 a0, .int .i64 31, .int .i64 27] rfl (by (try simp only [List.map_toArray, List.map_cons, List.map_nil]); first | done | rfl | (simp only [List.length_drop, List.length_take]; rfl)) ?_; (with_reducible refine (inst_word_bits.calls a0 31 27 t235 _ A28.out).mono ?_); rintro e w' ⟨rfl, ⟨nd, rfl⟩⟩; refine ⟨_, rfl, ?_⟩; (try (rw [drewN_self wc]; generalize hq_ : World.drewN wc _ = wc; have n0_ : Aside0 (wc.heap[gb227]? = some (.cells #[.int .i64 0, .int .i64 0, .int .i64 0, .int .i64 0, .int .i64 0, .int .i64 0, .int .i64 0, .bool false] 23 (0, 0))) := ⟨by rw [← hq_]; exact (by (with_reducible repeat (first | refine blk_drewN ?_ _ | refine blk_drew ?_ | refine blk_alloc ?_ _)); exact BK227.out)⟩; have n1_ : Aside0 (wc.heap[gb232]? = some (.cells #[.int .i64 0, .int .i64 0, .int .i64 t229, .int .i64 t230, .int .i64 t231, .int .i64 0, .int .i64 ji4, .bool false] 23 (0, 0))) := ⟨by rw [← hq_]; exact (by (with_reducible repeat (first | refine blk_drewN ?_ _ | refine blk_drew ?_ | refine blk_alloc ?_ _)); exact BK232.out)⟩; have n2_ : Aside0 (Below w.heap.size w wc) := ⟨by rw [← hq_]; exact (by repeat (first | (with_reducible first | exact HB.out | apply below_alloc | apply pw_below_drewN | apply below_drew1 | refine below_set ?_ GE227.out | refine below_set ?_ GE232.out) | exact HB.out))⟩; clear BK227 BK232 HB hq_; have BK227 := n0_; have BK232 := n1_; have HB := n2_; clear n0_ n1_ n2_)); have hnb48 := NB232_227.out; have hnc48 := NB227_232.out; have hcz49_0 : wc.cell? ⟨gb232, 0, none⟩ = some (.int .i64 0) := (blk_cell BK232.out 0).trans rfl; have hcz49_1 : wc.cell? ⟨gb232, 1, none⟩ = some (.int .i64 0) := (blk_cell BK232.out 1).trans rfl; have hcz49_2 : wc.cell? ⟨gb232, 2, none⟩ = some (.int .i64 t229) := (blk_cell BK232.out 2).trans rfl; have hcz49_3 : wc.cell? ⟨gb232, 3, none⟩ = some (.int .i64 t230) := (blk_cell BK232.out 3).trans rfl; have hcz49_4 : wc.cell? ⟨gb232, 4, none⟩ = some (.int .i64 t231) := (blk_cell BK232.out 4).trans rfl; have hcz49_5 : wc.cell? ⟨gb232, 5, none⟩ = some (.int .i64 0) := (blk_cell BK232.out 5).trans rfl; have hcz49_6 : wc.cell? ⟨gb232, 6, none⟩ = some (.int .i64 ji4) := (blk_cell BK232.out 6).trans rfl; have hcz49_7 : wc.cell? ⟨gb232, 7, none⟩ = some (.bool false) := (blk_cell BK232.out 7).trans rfl; have hfz49_0 := blk_frozen BK232.out 0; have hfz49_1 := blk_frozen BK232.out 1; have hfz49_2 := blk_frozen BK232.out 2; have hfz49_3 := blk_frozen BK232.out 3; have hfz49_4 := blk_frozen BK232.out 4; have hfz49_5 := blk_frozen BK232.out 5; have hfz49_6 := blk_frozen BK232.out 6; have hfz49_7 := blk_frozen BK232.out 7; have hcz50_0 : wc.cell? ⟨gb227, 0, none⟩ = some (.int .i64 0) := (blk_cell BK227.out 0).trans rfl; have hcz50_1 : wc.cell? ⟨gb227, 1, none⟩ = some (.int .i64 0) := (blk_cell BK227.out 1).trans rfl; have hcz50_2 : wc.cell? ⟨gb227, 2, none⟩ = some (.int .i64 0) := (blk_cell BK227.out 2).trans rfl; have hcz50_3 : wc.cell? ⟨gb227, 3, none⟩ = some (.int .i64 0) := (blk_cell BK227.out 3).trans rfl; have hcz50_4 : wc.cell? ⟨gb227, 4, none⟩ = some (.int .i64 0) := (blk_cell BK227.out 4).trans rfl; have hcz50_5 : wc.cell? ⟨gb227, 5, none⟩ = some (.int .i64 0) := (blk_cell BK227.out 5).trans rfl; have hcz50_6 : wc.cell? ⟨gb227, 6, none⟩ = some (.int .i64 0) := (blk_cell BK227.out 6).trans rfl; have hcz50_7 : wc.cell? ⟨gb227, 7, none⟩ = some (.bool false) := (blk_cell BK227.out 7).trans rfl; have hfz50_0 := blk_frozen BK227.out 0; have hfz50_1 := blk_frozen BK227.out 1; have hfz50_2 := blk_frozen BK227.out 2; have hfz50_3 := blk_frozen BK227.out 3; have hfz50_4 := blk_frozen BK227.out 4; have hfz50_5 := blk_frozen BK227.out 5; have hfz50_6 := blk_frozen BK227.out 6; have hfz50_7 := blk_frozen BK227.out 7))
                refine bodyPost_ret (results_ct rfl _ _ gb227 23 #[.int .i64 17, .int .i64 1, .int .i64 t229, .int .i64 t230, .int .i64 t231, .int .i64 0, .int .i64 ji4, .bool false] (0, 0) _ rfl (by (with_reducible repeat (first | refine blk_drewN ?_ _ | refine blk_drew ?_ | refine blk_alloc ?_ _)); refine blk_put (cs := #[.int .i64 17, .int .i64 1, .int .i64 t229, .int .i64 t230, .int .i64 t231, .int .i64 0, .int .i64 ji4, .bool false]) ?_ 7 _ rfl; (with_reducible repeat (first | refine blk_drewN ?_ _ | refine blk_drew ?_ | refine blk_alloc ?_ _)); refine blk_put (cs := #[.int .i64 17, .int .i64 1, .int .i64 t229, .int .i64 t230, .int .i64 t231, .int .i64 0, .int .i64 0, .bool false]) ?_ 6 _ rfl; (with_reducible repeat (first | refine blk_drewN ?_ _ | refine blk_drew ?_ | refine blk_alloc ?_ _)); refine blk_put (cs := #[.int .i64 17, .int .i64 1, .int .i64 t229, .int .i64 t230, .int .i64 t231, .int .i64 0, .int .i64 0, .bool false]) ?_ 5 _ rfl; (with_reducible repeat (first | refine blk_drewN ?_ _ | refine blk_drew ?_ | refine blk_alloc ?_ _)); refine blk_put (cs := #[.int .i64 17, .int .i64 1, .int .i64 t229, .int .i64 t230, .int .i64 0, .int .i64 0, .int .i64 0, .bool false]) ?_ 4 _ rfl; (with_reducible repeat (first | refine blk_drewN ?_ _ | refine blk_drew ?_ | refine blk_alloc ?_ _)); refine blk_put (cs := #[.int .i64 17, .int .i64 1, .int .i64 t229, .int .i64 0, .int .i64 0, .int .i64 0, .int .i64 0, .bool false]) ?_ 3 _ rfl; (with_reducible repeat (first | refine blk_drewN ?_ _ | refine blk_drew ?_ | refine blk_alloc ?_ _)); refine blk_put (cs := #[.int .i64 17, .int .i64 1, .int .i64 0, .int .i64 0, .int .i64 0, .int .i64 0, .int .i64 0, .bool false]) ?_ 2 _ rfl; (with_reducible repeat (first | refine blk_drewN ?_ _ | refine blk_drew ?_ | refine blk_alloc ?_ _)); refine blk_put (cs := #[.int .i64 17, .int .i64 0, .int .i64 0, .int .i64 0, .int .i64 0, .int .i64 0, .int .i64 0, .bool false]) ?_ 1 _ rfl; (with_reducible repeat (first | refine blk_drewN ?_ _ | refine blk_drew ?_ | refine blk_alloc ?_ _)); refine blk_put (cs := #[.int .i64 0, .int .i64 0, .int .i64 0, .int .i64 0, .int .i64 0, .int .i64 0, .int .i64 0, .bool false]) ?_ 0 _ rfl; (with_reducible repeat (first | refine blk_drewN ?_ _ | refine blk_drew ?_ | refine blk_alloc ?_ _)); refine blk_far ?_ NB227_232.out _; (with_reducible repeat (first | refine blk_drewN ?_ _ | refine blk_drew ?_ | refine blk_alloc ?_ _)); refine blk_far ?_ NB227_232.out _; (with_reducible repeat (first | refine blk_drewN ?_ _ | refine blk_drew ?_ | refine blk_alloc ?_ _)); exact BK227.out) Tryz.underlying23 rfl (by kernel_rfl)) rfl ?_
                exact ⟨by first | rfl | (simp [errW_none, errW_some] <;> rfl) | (simp only [← hji4]; first | rfl | (simp [errW_none, errW_some] <;> rfl)) | (simp [*, errW_none, errW_some] <;> rfl), by repeat (first | (with_reducible first | exact HB.out | apply below_alloc | apply pw_below_drewN | apply below_drew1 | refine below_set ?_ GE227.out | refine below_set ?_ GE232.out) | exact HB.out)⟩
              · rw [if_neg c47] at H
                have c47b0 : (t235 == 1) = false := beq_eq_false_iff_ne.mpr c47
                have c47b1 : (t235 != 1) = true := bne_iff_ne.mpr c47
                by_cases c51 : (Go.bits .and .i64 t235 3) = 0
                · rw [if_pos c51] at H
                  have c51b0 : ((Go.bits .and .i64 t235 3) == 0) = true := beq_iff_eq.mpr c51
                  have c51b1 : ((Go.bits .and .i64 t235 3) != 0) = false := bne_eq_false_iff_eq.mpr c51
                  clear c51
                  obtain ⟨y237, hy237⟩ : ∃ y_ : List Int, y_ = (([2, 3, 5, 4, 6, 7, 8, 9] : List Int)) := ⟨_, rfl⟩
                  replace H : ((inst_pick.f y237 (wrap64 (Int.tdiv t235 4))).bind fun t240 => (some (17, t240, t229, t230, t231, 0, ji4, false, true))) = some (r1, r2, r3, r4, r5, r6, r7, r8, r9) := by first | (rw [hy237]; with_reducible exact H) | (have H2_ := (Option.bind_some _ _).symm.trans H; rw [hy237]; with_reducible exact H2_) | (have H2_ := (Option.bind_some _ _).symm.trans H; with_reducible exact H2_) | with_reducible exact H | (rw [hy237]; exact H) | exact H
                  have Ny237 := Aside0.mk hy237
                  clear hy237
                  replace H := Option.bind_eq_some_iff.mp H
                  obtain ⟨t240, A520, H⟩ := H
                  replace H : (some (17, t240, t229, t230, t231, 0, ji4, false, true)) = some (r1, r2, r3, r4, r5, r6, r7, r8, r9) := H
                  have A52 := Aside0.mk A520
                  clear A520
                  simp only [Option.some.injEq, Prod.mk.injEq] at H
                  obtain ⟨rfl, rfl, rfl, rfl, rfl, rfl, rfl, rfl, rfl⟩ := H
                  go_wp2_with (first | ((with_reducible refine gate_callee (f := 131) rfl ?_); refine goesL_ (some 26) rfl rfl Tryz.func131 (by kernel_rfl) rfl #[.int .u32 a0, .int .i64 31, .int .i64 27] rfl (by (try simp only [List.map_toArray, List.map_cons, List.map_nil]); first | done | rfl | (simp only [List.length_drop, List.length_take]; rfl)) ?_; (with_reducible refine (inst_word_bits.calls a0 31 27 t235 _ A28.out).mono ?_); rintro e w' ⟨rfl, ⟨nd, rfl⟩⟩; refine ⟨_, rfl, ?_⟩; (try (rw [drewN_self wc]; generalize hq_ : World.drewN wc _ = wc; have n0_ : Aside0 (wc.heap[gb227]? = some (.cells #[.int .i64 0, .int .i64 0, .int .i64 0, .int .i64 0, .int .i64 0, .int .i64 0, .int .i64 0, .bool false] 23 (0, 0))) := ⟨by rw [← hq_]; exact (by (with_reducible repeat (first | refine blk_drewN ?_ _ | refine blk_drew ?_ | refine blk_alloc ?_ _)); exact BK227.out)⟩; have n1_ : Aside0 (wc.heap[gb232]? = some (.cells #[.int .i64 0, .int .i64 0, .int .i64 t229, .int .i64 t230, .int .i64 t231, .int .i64 0, .int .i64 ji4, .bool false] 23 (0, 0))) := ⟨by rw [← hq_]; exact (by (with_reducible repeat (first | refine blk_drewN ?_ _ | refine blk_drew ?_ | refine blk_alloc ?_ _)); exact BK232.out)⟩; have n2_ : Aside0 (Below w.heap.size w wc) := ⟨by rw [← hq_]; exact (by repeat (first | (with_reducible first | exact HB.out | apply below_alloc | apply pw_below_drewN | apply below_drew1 | refine below_set ?_ GE227.out | refine below_set ?_ GE232.out) | exact HB.out))⟩; clear BK227 BK232 HB hq_; have BK227 := n0_; have BK232 := n1_; have HB := n2_; clear n0_ n1_ n2_)); have hnb53 := NB232_227.out; have hnc53 := NB227_232.out; have hcz54_0 : wc.cell? ⟨gb232, 0, none⟩ = some (.int .i64 0) := (blk_cell BK232.out 0).trans rfl; have hcz54_1 : wc.cell? ⟨gb232, 1, none⟩ = some (.int .i64 0) := (blk_cell BK232.out 1).trans rfl; have hcz54_2 : wc.cell? ⟨gb232, 2, none⟩ = some (.int .i64 t229) := (blk_cell BK232.out 2).trans rfl; have hcz54_3 : wc.cell? ⟨gb232, 3, none⟩ = some (.int .i64 t230) := (blk_cell BK232.out 3).trans rfl; have hcz54_4 : wc.cell? ⟨gb232, 4, none⟩ = some (.int .i64 t231) := (blk_cell BK232.out 4).trans rfl; have hcz54_5 : wc.cell? ⟨gb232, 5, none⟩ = some (.int .i64 0) := (blk_cell BK232.out 5).trans rfl; have hcz54_6 : wc.cell? ⟨gb232, 6, none⟩ = some (.int .i64 ji4) := (blk_cell BK232.out 6).trans rfl; have hcz54_7 : wc.cell? ⟨gb232, 7, none⟩ = some (.bool false) := (blk_cell BK232.out 7).trans rfl; have hfz54_0 := blk_frozen BK232.out 0; have hfz54_1 := blk_frozen BK232.out 1; have hfz54_2 := blk_frozen BK232.out 2; have hfz54_3 := blk_frozen BK232.out 3; have hfz54_4 := blk_frozen BK232.out 4; have hfz54_5 := blk_frozen BK232.out 5; have hfz54_6 := blk_frozen BK232.out 6; have hfz54_7 := blk_frozen BK232.out 7) | ((with_reducible refine gate_dst (N := 33) rfl ?_); refine Kd.R_lit (Kd.int .i64) _ 3 ?hg (N := 33) ?hd (xs := ([2, 3, 5, 4, 6, 7, 8, 9] : List Int)) (inner := [.int .i64 2, .int .i64 3, .int .i64 5, .int .i64 4, .int .i64 6, .int .i64 7, .int .i64 8, .int .i64 9]) (ok := fun _ => True) (okp := fun _ => True) ?hr ?hp (fun _ hk => hk) trivial (Below.refl _ _) (Nat.le_refl _) (by simp) ?_; (case hd => rfl); (case hg => rfl); (case hr => first | (go_simp; done) | (go_simp; rfl)); (case hp => exact (Reps.one (show Kd.M (Kd.int .i64) _ _ _ 2 [.int .i64 2] from rfl) (Reps.one (show Kd.M (Kd.int .i64) _ _ _ 3 [.int .i64 3] from rfl) (Reps.one (show Kd.M (Kd.int .i64) _ _ _ 5 [.int .i64 5] from rfl) (Reps.one (show Kd.M (Kd.int .i64) _ _ _ 4 [.int .i64 4] from rfl) (Reps.one (show Kd.M (Kd.int .i64) _ _ _ 6 [.int .i64 6] from rfl) (Reps.one (show Kd.M (Kd.int .i64) _ _ _ 7 [.int .i64 7] from rfl) (Reps.one (show Kd.M (Kd.int .i64) _ _ _ 8 [.int .i64 8] from rfl) (Reps.one (show Kd.M (Kd.int .i64) _ _ _ 9 [.int .i64 9] from rfl) (Reps.none _ _)))))))))); intro v238 w55 ho56 hb hg_ hnew_; clear hg_ hnew_; (first | rw [← Ny237.out] at ho56 | (simp only [Int.reduceToNat] at ho56; rw [← Ny237.out] at ho56)); have n0_ := Aside0.mk (Kd.R_lower ho56 (below_size (by repeat (first | (with_reducible first | exact HB.out | apply below_alloc | apply pw_below_drewN | apply below_drew1 | refine below_set ?_ GE227.out | refine below_set ?_ GE232.out) | exact HB.out)))); have n1_ := Aside0.mk (blk_below (g := gb227) (o := .cells #[.int .i64 0, .int .i64 0, .int .i64 0, .int .i64 0, .int .i64 0, .int .i64 0, .int .i64 0, .bool false] 23 (0, 0)) (by (with_reducible repeat (first | refine blk_drewN ?_ _ | refine blk_drew ?_ | refine blk_alloc ?_ _)); refine blk_far ?_ NB227_232.out _; (with_reducible repeat (first | refine blk_drewN ?_ _ | refine blk_drew ?_ | refine blk_alloc ?_ _)); exact BK227.out) hb); have n2_ := Aside0.mk (blk_below (g := gb232) (o := .cells #[.int .i64 17, .int .i64 0, .int .i64 t229, .int .i64 t230, .int .i64 t231, .int .i64 0, .int .i64 ji4, .bool false] 23 (0, 0)) (by (with_reducible repeat (first | refine blk_drewN ?_ _ | refine blk_drew ?_ | refine blk_alloc ?_ _)); refine blk_put (cs := #[.int .i64 0, .int .i64 0, .int .i64 t229, .int .i64 t230, .int .i64 t231, .int .i64 0, .int .i64 ji4, .bool false]) ?_ 0 _ rfl; (with_reducible repeat (first | refine blk_drewN ?_ _ | refine blk_drew ?_ | refine blk_alloc ?_ _)); exact BK232.out) hb); have n3_ := Aside0.mk (below_step (by repeat (first | (with_reducible first | exact HB.out | apply below_alloc | apply pw_below_drewN | apply below_drew1 | refine below_set ?_ GE227.out | refine below_set ?_ GE232.out) | exact HB.out)) hb); clear BK227; clear BK232; clear HB; have HO239 := n0_; have BK227 := n1_; have BK232 := n2_; have HB := n3_; clear n0_ n1_ n2_ n3_; clear hb ho56; obtain ⟨Ao57, co57, eo57⟩ := Kd.R_slice HO239.out; subst eo57) | ((with_reducible refine gate_callee (f := 130) rfl ?_); refine goesL_ (some 36) rfl rfl Tryz.func130 (by kernel_rfl) rfl #[.slice Ao57 y237.length co57, .int .i64 (wrap64 (Int.tdiv t235 4))] rfl (by (try simp only [List.map_toArray, List.map_cons, List.map_nil]); first | done | rfl | (simp only [List.length_drop, List.length_take]; rfl)) ?_; (with_reducible refine (inst_pick.calls _ _ y237 (wrap64 (Int.tdiv t235 4)) t240 _ ?side1 ?side2 A52.out).mono ?_); (case side1 => repeat (first | exact (Kd.R_reads' HO239.out).2.2 | (with_reducible refine Kd.C_alloc ?_ _) | (with_reducible refine Kd.C_drewN ?_ _) | (with_reducible refine Kd.C_drew ?_))); (case side2 => exact (Kd.R_reads' HO239.out).2.1); rintro e w' ⟨rfl, ⟨nd, rfl⟩⟩; refine ⟨_, rfl, ?_⟩; (try (rw [drewN_self w55]; generalize hq_ : World.drewN w55 _ = w55; have n0_ : Aside0 (Kd.R (Kd.int .i64) 3 w55 w.heap.size (fun _ => True) (.slice Ao57 y237.length co57) y237) := ⟨by rw [← hq_]; exact (by (with_reducible repeat (first | apply Kd.R_alloc | apply Kd.R_drewN | apply Kd.R_drew)); exact HO239.out)⟩; have n1_ : Aside0 (w55.heap[gb227]? = some (.cells #[.int .i64 0, .int .i64 0, .int .i64 0, .int .i64 0, .int .i64 0, .int .i64 0, .int .i64 0, .bool false] 23 (0, 0))) := ⟨by rw [← hq_]; exact (by (with_reducible repeat (first | refine blk_drewN ?_ _ | refine blk_drew ?_ | refine blk_alloc ?_ _)); exact BK227.out)⟩; have n2_ : Aside0 (w55.heap[gb232]? = some (.cells #[.int .i64 17, .int .i64 0, .int .i64 t229, .int .i64 t230, .int .i64 t231, .int .i64 0, .int .i64 ji4, .bool false] 23 (0, 0))) := ⟨by rw [← hq_]; exact (by (with_reducible repeat (first | refine blk_drewN ?_ _ | refine blk_drew ?_ | refine blk_alloc ?_ _)); exact BK232.out)⟩; have n3_ : Aside0 (Below w.heap.size w w55) := ⟨by rw [← hq_]; exact (by repeat (first | (with_reducible first | exact HB.out | apply below_alloc | apply pw_below_drewN | apply below_drew1 | refine below_set ?_ GE227.out | refine below_set ?_ GE232.out) | exact HB.out))⟩; clear HO239 BK227 BK232 HB hq_; have HO239 := n0_; have BK227 := n1_; have BK232 := n2_; have HB := n3_; clear n0_ n1_ n2_ n3_)); have hcz58_0 : w55.cell? ⟨gb232, 0, none⟩ = some (.int .i64 17) := (blk_cell BK232.out 0).trans rfl; have hcz58_1 : w55.cell? ⟨gb232, 1, none⟩ = some (.int .i64 0) := (blk_cell BK232.out 1).trans rfl; have hcz58_2 : w55.cell? ⟨gb232, 2, none⟩ = some (.int .i64 t229) := (blk_cell BK232.out 2).trans rfl; have hcz58_3 : w55.cell? ⟨gb232, 3, none⟩ = some (.int .i64 t230) := (blk_cell BK232.out 3).trans rfl; have hcz58_4 : w55.cell? ⟨gb232, 4, none⟩ = some (.int .i64 t231) := (blk_cell BK232.out 4).trans rfl; have hcz58_5 : w55.cell? ⟨gb232, 5, none⟩ = some (.int .i64 0) := (blk_cell BK232.out 5).trans rfl; have hcz58_6 : w55.cell? ⟨gb232, 6, none⟩ = some (.int .i64 ji4) := (blk_cell BK232.out 6).trans rfl; have hcz58_7 : w55.cell? ⟨gb232, 7, none⟩ = some (.bool false) := (blk_cell BK232.out 7).trans rfl; have hfz58_0 := blk_frozen BK232.out 0; have hfz58_1 := blk_frozen BK232.out 1; have hfz58_2 := blk_frozen BK232.out 2; have hfz58_3 := blk_frozen BK232.out 3; have hfz58_4 := blk_frozen BK232.out 4; have hfz58_5 := blk_frozen BK232.out 5; have hfz58_6 := blk_frozen BK232.out 6; have hfz58_7 := blk_frozen BK232.out 7; have hcz59_0 : w55.cell? ⟨gb227, 0, none⟩ = some (.int .i64 0) := (blk_cell BK227.out 0).trans rfl; have hcz59_1 : w55.cell? ⟨gb227, 1, none⟩ = some (.int .i64 0) := (blk_cell BK227.out 1).trans rfl; have hcz59_2 : w55.cell? ⟨gb227, 2, none⟩ = some (.int .i64 0) := (blk_cell BK227.out 2).trans rfl; have hcz59_3 : w55.cell? ⟨gb227, 3, none⟩ = some (.int .i64 0) := (blk_cell BK227.out 3).trans rfl; have hcz59_4 : w55.cell? ⟨gb227, 4, none⟩ = some (.int .i64 0) := (blk_cell BK227.out 4).trans rfl; have hcz59_5 : w55.cell? ⟨gb227, 5, none⟩ = some (.int .i64 0) := (blk_cell BK227.out 5).trans rfl; have hcz59_6 : w55.cell? ⟨gb227, 6, none⟩ = some (.int .i64 0) := (blk_cell BK227.out 6).trans rfl; have hcz59_7 : w55.cell? ⟨gb227, 7, none⟩ = some (.bool false) := (blk_cell BK227.out 7).trans rfl; have hfz59_0 := blk_frozen BK227.out 0; have hfz59_1 := blk_frozen BK227.out 1; have hfz59_2 := blk_frozen BK227.out 2; have hfz59_3 := blk_frozen BK227.out 3; have hfz59_4 := blk_frozen BK227.out 4; have hfz59_5 := blk_frozen BK227.out 5; have hfz59_6 := blk_frozen BK227.out 6; have hfz59_7 := blk_frozen BK227.out 7))
                  refine bodyPost_ret (results_ct rfl _ _ gb227 23 #[.int .i64 17, .int .i64 t240, .int .i64 t229, .int .i64 t230, .int .i64 t231, .int .i64 0, .int .i64 ji4, .bool false] (0, 0) _ rfl (by (with_reducible repeat (first | refine blk_drewN ?_ _ | refine blk_drew ?_ | refine blk_alloc ?_ _)); refine blk_put (cs := #[.int .i64 17, .int .i64 t240, .int .i64 t229, .int .i64 t230, .int .i64 t231, .int .i64 0, .int .i64 ji4, .bool false]) ?_ 7 _ rfl; (with_reducible repeat (first | refine blk_drewN ?_ _ | refine blk_drew ?_ | refine blk_alloc ?_ _)); refine blk_put (cs := #[.int .i64 17, .int .i64 t240, .int .i64 t229, .int .i64 t230, .int .i64 t231, .int .i64 0, .int .i64 0, .bool false]) ?_ 6 _ rfl; (with_reducible repeat (first | refine blk_drewN ?_ _ | refine blk_drew ?_ | refine blk_alloc ?_ _)); refine blk_put (cs := #[.int .i64 17, .int .i64 t240, .int .i64 t229, .int .i64 t230, .int .i64 t231, .int .i64 0, .int .i64 0, .bool false]) ?_ 5 _ rfl; (with_reducible repeat (first | refine blk_drewN ?_ _ | refine blk_drew ?_ | refine blk_alloc ?_ _)); refine blk_put (cs := #[.int .i64 17, .int .i64 t240, .int .i64 t229, .int .i64 t230, .int .i64 0, .int .i64 0, .int .i64 0, .bool false]) ?_ 4 _ rfl; (with_reducible repeat (first | refine blk_drewN ?_ _ | refine blk_drew ?_ | refine blk_alloc ?_ _)); refine blk_put (cs := #[.int .i64 17, .int .i64 t240, .int .i64 t229, .int .i64 0, .int .i64 0, .int .i64 0, .int .i64 0, .bool false]) ?_ 3 _ rfl; (with_reducible repeat (first | refine blk_drewN ?_ _ | refine blk_drew ?_ | refine blk_alloc ?_ _)); refine blk_put (cs := #[.int .i64 17, .int .i64 t240, .int .i64 0, .int .i64 0, .int .i64 0, .int .i64 0, .int .i64 0, .bool false]) ?_ 2 _ rfl; (with_reducible repeat (first | refine blk_drewN ?_ _ | refine blk_drew ?_ | refine blk_alloc ?_ _)); refine blk_put (cs := #[.int .i64 17, .int .i64 0, .int .i64 0, .int .i64 0, .int .i64 0, .int .i64 0, .int .i64 0, .bool false]) ?_ 1 _ rfl; (with_reducible repeat (first | refine blk_drewN ?_ _ | refine blk_drew ?_ | refine blk_alloc ?_ _)); refine blk_put (cs := #[.int .i64 0, .int .i64 0, .int .i64 0, .int .i64 0, .int .i64 0, .int .i64 0, .int .i64 0, .bool false]) ?_ 0 _ rfl; (with_reducible repeat (first | refine blk_drewN ?_ _ | refine blk_drew ?_ | refine blk_alloc ?_ _)); refine blk_far ?_ NB227_232.out _; (with_reducible repeat (first | refine blk_drewN ?_ _ | refine blk_drew ?_ | refine blk_alloc ?_ _)); exact BK227.out) Tryz.underlying23 rfl (by kernel_rfl)) rfl ?_
                  exact ⟨by first | rfl | (simp [errW_none, errW_some] <;> rfl) | (simp only [← hji4]; first | rfl | (simp [errW_none, errW_some] <;> rfl)) | (simp [*, errW_none, errW_some] <;> rfl), by repeat (first | (with_reducible first | exact HB.out | apply below_alloc | apply pw_below_drewN | apply below_drew1 | refine below_set ?_ GE227.out | refine below_set ?_ GE232.out) | exact HB.out)⟩
                · rw [if_neg c51] at H
                  have c51b0 : ((Go.bits .and .i64 t235 3) == 0) = false := beq_eq_false_iff_ne.mpr c51
                  have c51b1 : ((Go.bits .and .i64 t235 3) != 0) = true := bne_iff_ne.mpr c51
                  simp only [Option.some.injEq, Prod.mk.injEq] at H
                  obtain ⟨rfl, rfl, rfl, rfl, rfl, rfl, rfl, rfl, rfl⟩ := H
                  go_wp2_with (first | ((with_reducible refine gate_callee (f := 131) rfl ?_); refine goesL_ (some 26) rfl rfl Tryz.func131 (by kernel_rfl) rfl #[.int .u32 a0, .int .i64 31, .int .i64 27] rfl (by (try simp only [List.map_toArray, List.map_cons, List.map_nil]); first | done | rfl | (simp only [List.length_drop, List.length_take]; rfl)) ?_; (with_reducible refine (inst_word_bits.calls a0 31 27 t235 _ A28.out).mono ?_); rintro e w' ⟨rfl, ⟨nd, rfl⟩⟩; refine ⟨_, rfl, ?_⟩; (try (rw [drewN_self wc]; generalize hq_ : World.drewN wc _ = wc; have n0_ : Aside0 (wc.heap[gb227]? = some (.cells #[.int .i64 0, .int .i64 0, .int .i64 0, .int .i64 0, .int .i64 0, .int .i64 0, .int .i64 0, .bool false] 23 (0, 0))) := ⟨by rw [← hq_]; exact (by (with_reducible repeat (first | refine blk_drewN ?_ _ | refine blk_drew ?_ | refine blk_alloc ?_ _)); exact BK227.out)⟩; have n1_ : Aside0 (wc.heap[gb232]? = some (.cells #[.int .i64 0, .int .i64 0, .int .i64 t229, .int .i64 t230, .int .i64 t231, .int .i64 0, .int .i64 ji4, .bool false] 23 (0, 0))) := ⟨by rw [← hq_]; exact (by (with_reducible repeat (first | refine blk_drewN ?_ _ | refine blk_drew ?_ | refine blk_alloc ?_ _)); exact BK232.out)⟩; have n2_ : Aside0 (Below w.heap.size w wc) := ⟨by rw [← hq_]; exact (by repeat (first | (with_reducible first | exact HB.out | apply below_alloc | apply pw_below_drewN | apply below_drew1 | refine below_set ?_ GE227.out | refine below_set ?_ GE232.out) | exact HB.out))⟩; clear BK227 BK232 HB hq_; have BK227 := n0_; have BK232 := n1_; have HB := n2_; clear n0_ n1_ n2_)); have hnb60 := NB232_227.out; have hnc60 := NB227_232.out; have hcz61_0 : wc.cell? ⟨gb232, 0, none⟩ = some (.int .i64 0) := (blk_cell BK232.out 0).trans rfl; have hcz61_1 : wc.cell? ⟨gb232, 1, none⟩ = some (.int .i64 0) := (blk_cell BK232.out 1).trans rfl; have hcz61_2 : wc.cell? ⟨gb232, 2, none⟩ = some (.int .i64 t229) := (blk_cell BK232.out 2).trans rfl; have hcz61_3 : wc.cell? ⟨gb232, 3, none⟩ = some (.int .i64 t230) := (blk_cell BK232.out 3).trans rfl; have hcz61_4 : wc.cell? ⟨gb232, 4, none⟩ = some (.int .i64 t231) := (blk_cell BK232.out 4).trans rfl; have hcz61_5 : wc.cell? ⟨gb232, 5, none⟩ = some (.int .i64 0) := (blk_cell BK232.out 5).trans rfl; have hcz61_6 : wc.cell? ⟨gb232, 6, none⟩ = some (.int .i64 ji4) := (blk_cell BK232.out 6).trans rfl; have hcz61_7 : wc.cell? ⟨gb232, 7, none⟩ = some (.bool false) := (blk_cell BK232.out 7).trans rfl; have hfz61_0 := blk_frozen BK232.out 0; have hfz61_1 := blk_frozen BK232.out 1; have hfz61_2 := blk_frozen BK232.out 2; have hfz61_3 := blk_frozen BK232.out 3; have hfz61_4 := blk_frozen BK232.out 4; have hfz61_5 := blk_frozen BK232.out 5; have hfz61_6 := blk_frozen BK232.out 6; have hfz61_7 := blk_frozen BK232.out 7; have hcz62_0 : wc.cell? ⟨gb227, 0, none⟩ = some (.int .i64 0) := (blk_cell BK227.out 0).trans rfl; have hcz62_1 : wc.cell? ⟨gb227, 1, none⟩ = some (.int .i64 0) := (blk_cell BK227.out 1).trans rfl; have hcz62_2 : wc.cell? ⟨gb227, 2, none⟩ = some (.int .i64 0) := (blk_cell BK227.out 2).trans rfl; have hcz62_3 : wc.cell? ⟨gb227, 3, none⟩ = some (.int .i64 0) := (blk_cell BK227.out 3).trans rfl; have hcz62_4 : wc.cell? ⟨gb227, 4, none⟩ = some (.int .i64 0) := (blk_cell BK227.out 4).trans rfl; have hcz62_5 : wc.cell? ⟨gb227, 5, none⟩ = some (.int .i64 0) := (blk_cell BK227.out 5).trans rfl; have hcz62_6 : wc.cell? ⟨gb227, 6, none⟩ = some (.int .i64 0) := (blk_cell BK227.out 6).trans rfl; have hcz62_7 : wc.cell? ⟨gb227, 7, none⟩ = some (.bool false) := (blk_cell BK227.out 7).trans rfl; have hfz62_0 := blk_frozen BK227.out 0; have hfz62_1 := blk_frozen BK227.out 1; have hfz62_2 := blk_frozen BK227.out 2; have hfz62_3 := blk_frozen BK227.out 3; have hfz62_4 := blk_frozen BK227.out 4; have hfz62_5 := blk_frozen BK227.out 5; have hfz62_6 := blk_frozen BK227.out 6; have hfz62_7 := blk_frozen BK227.out 7))
                  refine bodyPost_ret (results_ct rfl _ _ gb227 23 #[.int .i64 0, .int .i64 0, .int .i64 t229, .int .i64 t230, .int .i64 t231, .int .i64 0, .int .i64 ji4, .bool false] (0, 0) _ rfl (by (with_reducible repeat (first | refine blk_drewN ?_ _ | refine blk_drew ?_ | refine blk_alloc ?_ _)); refine blk_put (cs := #[.int .i64 0, .int .i64 0, .int .i64 t229, .int .i64 t230, .int .i64 t231, .int .i64 0, .int .i64 ji4, .bool false]) ?_ 7 _ rfl; (with_reducible repeat (first | refine blk_drewN ?_ _ | refine blk_drew ?_ | refine blk_alloc ?_ _)); refine blk_put (cs := #[.int .i64 0, .int .i64 0, .int .i64 t229, .int .i64 t230, .int .i64 t231, .int .i64 0, .int .i64 0, .bool false]) ?_ 6 _ rfl; (with_reducible repeat (first | refine blk_drewN ?_ _ | refine blk_drew ?_ | refine blk_alloc ?_ _)); refine blk_put (cs := #[.int .i64 0, .int .i64 0, .int .i64 t229, .int .i64 t230, .int .i64 t231, .int .i64 0, .int .i64 0, .bool false]) ?_ 5 _ rfl; (with_reducible repeat (first | refine blk_drewN ?_ _ | refine blk_drew ?_ | refine blk_alloc ?_ _)); refine blk_put (cs := #[.int .i64 0, .int .i64 0, .int .i64 t229, .int .i64 t230, .int .i64 0, .int .i64 0, .int .i64 0, .bool false]) ?_ 4 _ rfl; (with_reducible repeat (first | refine blk_drewN ?_ _ | refine blk_drew ?_ | refine blk_alloc ?_ _)); refine blk_put (cs := #[.int .i64 0, .int .i64 0, .int .i64 t229, .int .i64 0, .int .i64 0, .int .i64 0, .int .i64 0, .bool false]) ?_ 3 _ rfl; (with_reducible repeat (first | refine blk_drewN ?_ _ | refine blk_drew ?_ | refine blk_alloc ?_ _)); refine blk_put (cs := #[.int .i64 0, .int .i64 0, .int .i64 0, .int .i64 0, .int .i64 0, .int .i64 0, .int .i64 0, .bool false]) ?_ 2 _ rfl; (with_reducible repeat (first | refine blk_drewN ?_ _ | refine blk_drew ?_ | refine blk_alloc ?_ _)); refine blk_put (cs := #[.int .i64 0, .int .i64 0, .int .i64 0, .int .i64 0, .int .i64 0, .int .i64 0, .int .i64 0, .bool false]) ?_ 1 _ rfl; (with_reducible repeat (first | refine blk_drewN ?_ _ | refine blk_drew ?_ | refine blk_alloc ?_ _)); refine blk_put (cs := #[.int .i64 0, .int .i64 0, .int .i64 0, .int .i64 0, .int .i64 0, .int .i64 0, .int .i64 0, .bool false]) ?_ 0 _ rfl; (with_reducible repeat (first | refine blk_drewN ?_ _ | refine blk_drew ?_ | refine blk_alloc ?_ _)); exact BK227.out) Tryz.underlying23 rfl (by kernel_rfl)) rfl ?_
                  exact ⟨by first | rfl | (simp [errW_none, errW_some] <;> rfl) | (simp only [← hji4]; first | rfl | (simp [errW_none, errW_some] <;> rfl)) | (simp [*, errW_none, errW_some] <;> rfl), by repeat (first | (with_reducible first | exact HB.out | apply below_alloc | apply pw_below_drewN | apply below_drew1 | refine below_set ?_ GE227.out | refine below_set ?_ GE232.out) | exact HB.out)⟩
  · rw [if_neg c3] at H
    exact absurd H (by simp)


end Go.Proofs.YtjapahcbhjjeiaaGreatDoor.PA
