-- PRINTED by print.py (a twelfth state) out of the translation. Not trusted: Lean checks it.
import Derived.Test.YtjapahcbhjjeiaaGreatDoorPAx0
namespace Go.Proofs.YtjapahcbhjjeiaaGreatDoor.PA
open Go.RowKit Go.Proofs.YtjapahcbhjjeiaaGreatDoorW.PrintWords Go.Proofs.YtjapahcbhjjeiaaGreatDoorW.PrintLast Go.Proofs.YtjapahcbhjjeiaaGreatDoorW.PrintMore
attribute [local go_sem] max2_int min2_int max_two min_two max_three min_three max_four min_four   -- for this text's walks alone
set_option linter.unusedVariables false
set_option maxHeartbeats 8000000
set_option linter.unusedSimpArgs false

def inst_put.f (a0 : Int) (a1 : Int) (a2 : Int) : Option (Int) := if 0 ≤ (wrap64 ((wrap64 (a1 - a2)) + 1)) then (if 0 ≤ a2 then (some (shl .u32 (Go.bits .and .u32 ((a0) % 4294967296) (((shl .u32 1 (wrap64 ((wrap64 (a1 - a2)) + 1))) - 1) % 4294967296)) a2)) else (none)) else (none)
set_option maxRecDepth 100000 in
theorem inst_put.calls (a0 : Int) (a1 : Int) (a2 : Int) (r : Int) (w : World) (h : inst_put.f a0 a1 a2 = some r) :
    Calls Tryz.prog 64 #[.int .i64 a0, .int .i64 a1, .int .i64 a2] w fun e w' => e = .returned (.int .u32 r) ∧ Drawn0 w w' := by
  have H : (if 0 ≤ (wrap64 ((wrap64 (a1 - a2)) + 1)) then (if 0 ≤ a2 then (some (shl .u32 (Go.bits .and .u32 ((a0) % 4294967296) (((shl .u32 1 (wrap64 ((wrap64 (a1 - a2)) + 1))) - 1) % 4294967296)) a2)) else (none)) else (none)) = some r := h
  clear h
  obtain ⟨ji4, hji4⟩ : ∃ j_ : Int, (wrap64 ((wrap64 (a1 - a2)) + 1)) = j_ := ⟨_, rfl⟩
  replace H : (if 0 ≤ (ji4) then (if 0 ≤ a2 then (some (shl .u32 (Go.bits .and .u32 ((a0) % 4294967296) (((shl .u32 1 (ji4)) - 1) % 4294967296)) a2)) else (none)) else (none)) = some r := by first | (rw [hji4] at H; exact H) | (simp only [hji4] at H ⊢; exact H)
  have hji4w : (IntKind.i64.wrap ((wrap64 (a1 - a2)) + 1)) = ji4 := (i64_w _).trans hji4
  by_cases c5 : 0 ≤ (ji4)
  · rw [if_pos c5] at H
    have c5b0 := eq_true c5
    have c5b1 : decide (0 ≤ (ji4)) = true := decide_eq_true c5
    clear c5
    obtain ⟨ji6, hji6⟩ : ∃ j_ : Int, (shl .u32 1 (ji4)) = j_ := ⟨_, rfl⟩
    replace H : (if 0 ≤ a2 then (some (shl .u32 (Go.bits .and .u32 ((a0) % 4294967296) (((ji6) - 1) % 4294967296)) a2)) else (none)) = some r := by first | (rw [hji6] at H; exact H) | (simp only [hji6] at H ⊢; exact H)
    have hji6_ : (IntKind.u32.wrap (1 * 2 ^ min (ji4).toNat 32)) = ji6 := hji6
    have hji6z : (ji4) ≤ 32 → (IntKind.u32.wrap (1 * 2 ^ (ji4).toNat)) = ji6 := shl_small hji6
    have hji6u : (IntKind.u32.wrap (2 ^ min (ji4).toNat 32)) = ji6 := by have h_ := hji6_; rw [Int.one_mul] at h_; exact h_
    have hji6v : (ji4) ≤ 32 → (IntKind.u32.wrap (2 ^ (ji4).toNat)) = ji6 := fun hle_ => by have h_ := hji6z hle_; rw [Int.one_mul] at h_; exact h_
    by_cases c7 : 0 ≤ a2
    · rw [if_pos c7] at H
      have c7b0 := eq_true c7
      have c7b1 : decide (0 ≤ a2) = true := decide_eq_true c7
      clear c7
      obtain ⟨ji8, hji8⟩ : ∃ j_ : Int, (shl .u32 (Go.bits .and .u32 ((a0) % 4294967296) (((ji6) - 1) % 4294967296)) a2) = j_ := ⟨_, rfl⟩
      replace H : (some ji8) = some r := by first | (rw [hji8] at H; exact H) | (simp only [hji8] at H ⊢; exact H)
      have hji8_ : (IntKind.u32.wrap ((Go.bits .and .u32 ((a0) % 4294967296) (((ji6) - 1) % 4294967296)) * 2 ^ min a2.toNat 32)) = ji8 := hji8
      have hji8z : a2 ≤ 32 → (IntKind.u32.wrap ((Go.bits .and .u32 ((a0) % 4294967296) (((ji6) - 1) % 4294967296)) * 2 ^ a2.toNat)) = ji8 := shl_small hji8
      obtain rfl := Option.some.inj H
      go_enter Tryz.func64, Tryz.ntmps64
      go_wp2
      go_ret
      exact ⟨by first | rfl | (simp; done) | (simp only [← hji4, ← hji6, ← hji8] <;> (first | rfl | simp)) | (simp [*]; done), by repeat (first | exact Drawn0.refl _ | apply Drawn0.step)⟩
    · rw [if_neg c7] at H
      exact absurd H (by simp)
  · rw [if_neg c5] at H
    exact absurd H (by simp)

def slices_Index_int_int.l0 : Nat → List Int → Int → Int → Int → Option (Int)
  | 0, _, _, _, _ => none
  | k + 1, x0, x1, x7, x8 => if x8 < x7 then (if 0 ≤ x8 then (if x8 < (x0.length : Int) then (if x1 = (rd x0 x8) then (some x8) else (slices_Index_int_int.l0 k x0 x1 x7 (wrap64 (x8 + 1)))) else (none)) else (none)) else (some (-1))
def slices_Index_int_int.f (k : Nat) (l0 : List Int) (a1 : Int) : Option (Int) := slices_Index_int_int.l0 k l0 a1 (l0.length : Int) 0
theorem slices_Index_int_int.mono_l : ∀ k, (∀ y0 y1 y2 y3, LeO (slices_Index_int_int.l0 k y0 y1 y2 y3) (slices_Index_int_int.l0 (k + 1) y0 y1 y2 y3))
  | 0 => fun _ _ _ _ r h => by simp [slices_Index_int_int.l0] at h
  | k + 1 => by
    have ih0 := slices_Index_int_int.mono_l k
    · intro y0 y1 y2 y3
      unfold slices_Index_int_int.l0
      repeat' first
      | (with_reducible exact ih0 _ _ _ _)
      | (with_reducible exact LeO.refl _)
      | (with_reducible exact LeO.none _)
      | (with_reducible refine LeO.ite ?_ ?_)
      | (with_reducible refine LeO.bind ?_ (fun _ => ?_))
      | exact ih0 _ _ _ _
      | exact LeO.none _
      | refine LeO.ite ?_ ?_
      | refine LeO.bind ?_ (fun _ => ?_)
theorem slices_Index_int_int.mono : ∀ a0 a1 k, LeO (slices_Index_int_int.f k a0 a1) (slices_Index_int_int.f (k + 1) a0 a1) := by
  intro a0 a1 k
  have ih0 := slices_Index_int_int.mono_l k
  unfold slices_Index_int_int.f
  repeat' first
      | (with_reducible exact ih0 _ _ _ _)
      | (with_reducible exact LeO.refl _)
      | (with_reducible exact LeO.none _)
      | (with_reducible refine LeO.ite ?_ ?_)
      | (with_reducible refine LeO.bind ?_ (fun _ => ?_))
      | exact ih0 _ _ _ _
      | exact LeO.none _
      | refine LeO.ite ?_ ?_
      | refine LeO.bind ?_ (fun _ => ?_)
set_option maxRecDepth 100000 in
theorem slices_Index_int_int.calls (k : Nat) (A0 : Option Addr) (c0 : Nat) (l0 : List Int) (a1 : Int) (r : Int) (w : World) (hr0 : Kd.C (Kd.int .i64) w A0 l0.length l0) (hc0 : l0.length ≤ c0) (h : slices_Index_int_int.f k l0 a1 = some r) :
    Calls Tryz.prog 65 #[.slice A0 l0.length c0, .int .i64 a1] w fun e w' => e = .returned (.int .i64 r) ∧ Drawn0 w w' := by
  have HR0 := Aside0.mk hr0
  have HC0 := Aside0.mk hc0
  clear hr0 hc0
  have H : (slices_Index_int_int.l0 k l0 a1 (l0.length : Int) 0) = some r := h
  clear h
  have H' := Aside0.mk H
  clear H
  go_enter Tryz.func65, Tryz.ntmps65
  go_wp2
  go_loopg [8] k (fun kq v8 w' => ∃ (x8_1 : Int), v8 = .int .i64 x8_1 ∧ Aside0 (slices_Index_int_int.l0 kq l0 a1 (l0.length : Int) x8_1 = some r) ∧ Aside0 (kq ≤ k) ∧ Drawn0 w w')
  case atStart => exact ⟨(0), (by first | rfl | (simp; done) | (simp [*]; done)), H', ⟨Nat.le_refl _⟩, by repeat (first | exact Drawn0.refl _ | apply Drawn0.step)⟩
  case round =>
    clear H'
    try clear p2
    obtain ⟨x8_1, rfl, HA, HK1, ⟨m1, rfl⟩⟩ := hrel
    cases gk with
    | zero => exact absurd HA.out (by simp [slices_Index_int_int.l0])
    | succ k1 =>
      have H := HA.out
      clear HA
      simp only [slices_Index_int_int.l0] at H
      by_cases c3 : x8_1 < (l0.length : Int)
      · rw [if_pos c3] at H
        have c3b0 : decide (x8_1 < (l0.length : Int)) = true := decide_eq_true c3
        clear c3
        by_cases c4 : 0 ≤ x8_1
        · rw [if_pos c4] at H
          have c4b0 : decide (0 ≤ x8_1) = true := decide_eq_true c4
          clear c4
          by_cases c5 : x8_1 < (l0.length : Int)
          · rw [if_pos c5] at H
            have c5b0 : decide (x8_1 < (l0.length : Int)) = true := decide_eq_true c5
            clear c5
            by_cases c6 : a1 = (rd l0 x8_1)
            · rw [if_pos c6] at H
              have c6b0 : (a1 == (rd l0 x8_1)) = true := beq_iff_eq.mpr c6
              have c6b1 : (a1 != (rd l0 x8_1)) = false := bne_eq_false_iff_eq.mpr c6
              clear c6
              obtain rfl := Option.some.inj H
              have p101 : 0 ≤ (x8_1 : Int) := of_decide_eq_true (by first | (with_reducible assumption) | assumption)
              have q101 : x8_1 < (l0.length : Int) := of_decide_eq_true (by first | (with_reducible assumption) | assumption)
              obtain ⟨ad101, e101, hx101_0⟩ := Kd.at_int HR0.out x8_1 p101 q101
              cases e101
              replace p101 := eq_true p101
              replace q101 := eq_true q101
              go_wp2
              go_ret
              exact ⟨by first | rfl | (simp; done) | (simp [*]; done), by repeat (first | exact Drawn0.refl _ | apply Drawn0.step)⟩
            · rw [if_neg c6] at H
              have c6b0 : (a1 == (rd l0 x8_1)) = false := beq_eq_false_iff_ne.mpr c6
              have c6b1 : (a1 != (rd l0 x8_1)) = true := bne_iff_ne.mpr c6
              have H' := Aside0.mk H
              clear H
              have p101 : 0 ≤ (x8_1 : Int) := of_decide_eq_true (by first | (with_reducible assumption) | assumption)
              have q101 : x8_1 < (l0.length : Int) := of_decide_eq_true (by first | (with_reducible assumption) | assumption)
              obtain ⟨ad101, e101, hx101_0⟩ := Kd.at_int HR0.out x8_1 p101 q101
              cases e101
              replace p101 := eq_true p101
              replace q101 := eq_true q101
              go_wp2
              go_roundg k1
              case measure => have := HK1.out; omega
              case rel => exact ⟨(wrap64 (x8_1 + 1)), (by first | rfl | (simp; done) | (simp [*]; done)), H', ⟨by have := HK1.out; omega⟩, by repeat (first | exact Drawn0.refl _ | apply Drawn0.step)⟩
          · rw [if_neg c5] at H
            exact absurd H (by simp)
        · rw [if_neg c4] at H
          exact absurd H (by simp)
      · rw [if_neg c3] at H
        have c3b0 : decide (x8_1 < (l0.length : Int)) = false := decide_eq_false c3
        clear c3
        obtain rfl := Option.some.inj H
        go_wp2
        go_ret
        exact ⟨by first | rfl | (simp; done) | (simp [*]; done), by repeat (first | exact Drawn0.refl _ | apply Drawn0.step)⟩

mutual
def inst_encodeImmediate.j1 : Nat → Int → Int → Int → Int → Int → Int → Int → Int → Bool → Option (Int)
  | 0, _, _, _, _, _, _, _, _, _ => none
  | k + 1, x3, x103000, x103001, x103002, x103003, x103004, x103005, x103006, x103007 => if x103001 = 19 then (some (Go.bits .or .u32 27 x3)) else (if x103001 = 21 then (some (Go.bits .or .u32 4123 x3)) else (if x103001 = 22 then (some (Go.bits .or .u32 20507 x3)) else (if x103001 = 23 then (some (Go.bits .or .u32 1073762331 x3)) else (if x103001 = 3 then (some (Go.bits .or .u32 4115 x3)) else (if x103001 = 7 then (some (Go.bits .or .u32 20499 x3)) else (if x103001 = 8 then (some (Go.bits .or .u32 1073762323 x3)) else ((slices_Index_int_int.f k (([1, 0, 4, 5, 6, 0, 9, 10] : List Int)) x103001).bind fun t111 => ((inst_put.f t111 14 12).bind fun t112 => (some (Go.bits .or .u32 (Go.bits .or .u32 19 x3) t112))))))))))
def inst_encodeImmediate.j0 : Nat → Int → Int → Bool → Int → Int → Int → Int → Int → Int → Int → Bool → Option (Int)
  | 0, _, _, _, _, _, _, _, _, _, _, _ => none
  | k + 1, x3, x9, x10, x103000, x103001, x103002, x103003, x103004, x103005, x103006, x103007 => if x10 = true then ((inst_put.f x103005 25 20).bind fun t104 => (inst_encodeImmediate.j1 k t104 x103000 x103001 x103002 x103003 x103004 x103005 x103006 x103007)) else (if x9 = 21 then ((inst_put.f x103005 24 20).bind fun t105 => (inst_encodeImmediate.j1 k t105 x103000 x103001 x103002 x103003 x103004 x103005 x103006 x103007)) else (if x9 = 22 then ((inst_put.f x103005 24 20).bind fun t106 => (inst_encodeImmediate.j1 k t106 x103000 x103001 x103002 x103003 x103004 x103005 x103006 x103007)) else (if x9 = 23 then ((inst_put.f x103005 24 20).bind fun t107 => (inst_encodeImmediate.j1 k t107 x103000 x103001 x103002 x103003 x103004 x103005 x103006 x103007)) else (inst_encodeImmediate.j1 k x3 x103000 x103001 x103002 x103003 x103004 x103005 x103006 x103007))))
end
def inst_encodeImmediate.f (k : Nat) (a0_0 : Int) (a0_1 : Int) (a0_2 : Int) (a0_3 : Int) (a0_4 : Int) (a0_5 : Int) (a0_6 : Int) (a0_7 : Bool) : Option (Int) := (inst_put.f a0_5 31 20).bind fun t103 => (if a0_1 = 3 then (inst_encodeImmediate.j0 k t103 a0_1 (a0_1 == 3) a0_0 a0_1 a0_2 a0_3 a0_4 a0_5 a0_6 a0_7) else (if a0_1 = 7 then (inst_encodeImmediate.j0 k t103 a0_1 (a0_1 == 7) a0_0 a0_1 a0_2 a0_3 a0_4 a0_5 a0_6 a0_7) else (inst_encodeImmediate.j0 k t103 a0_1 (a0_1 == 8) a0_0 a0_1 a0_2 a0_3 a0_4 a0_5 a0_6 a0_7)))
theorem inst_encodeImmediate.mono_l : ∀ k, (∀ y0 y1 y2 y3 y4 y5 y6 y7 y8, LeO (inst_encodeImmediate.j1 k y0 y1 y2 y3 y4 y5 y6 y7 y8) (inst_encodeImmediate.j1 (k + 1) y0 y1 y2 y3 y4 y5 y6 y7 y8)) ∧ (∀ y0 y1 y2 y3 y4 y5 y6 y7 y8 y9 y10, LeO (inst_encodeImmediate.j0 k y0 y1 y2 y3 y4 y5 y6 y7 y8 y9 y10) (inst_encodeImmediate.j0 (k + 1) y0 y1 y2 y3 y4 y5 y6 y7 y8 y9 y10))
  | 0 => ⟨fun _ _ _ _ _ _ _ _ _ r h => by simp [inst_encodeImmediate.j1] at h, fun _ _ _ _ _ _ _ _ _ _ _ r h => by simp [inst_encodeImmediate.j0] at h⟩
  | k + 1 => by
    obtain ⟨ih0, ih1⟩ := inst_encodeImmediate.mono_l k
    refine ⟨?_, ?_⟩
    · intro y0 y1 y2 y3 y4 y5 y6 y7 y8
      unfold inst_encodeImmediate.j1
      repeat' first
      | (with_reducible exact ih0 _ _ _ _ _ _ _ _ _)
      | (with_reducible exact ih1 _ _ _ _ _ _ _ _ _ _ _)
      | (with_reducible exact slices_Index_int_int.mono _ _ _)
      | (with_reducible exact LeO.refl _)
      | (with_reducible exact LeO.none _)
      | (with_reducible refine LeO.ite ?_ ?_)
      | (with_reducible refine LeO.bind ?_ (fun _ => ?_))
      | exact ih0 _ _ _ _ _ _ _ _ _
      | exact ih1 _ _ _ _ _ _ _ _ _ _ _
      | exact slices_Index_int_int.mono _ _ _
      | exact LeO.none _
      | refine LeO.ite ?_ ?_
      | refine LeO.bind ?_ (fun _ => ?_)
    · intro y0 y1 y2 y3 y4 y5 y6 y7 y8 y9 y10
      unfold inst_encodeImmediate.j0
      repeat' first
      | (with_reducible exact ih0 _ _ _ _ _ _ _ _ _)
      | (with_reducible exact ih1 _ _ _ _ _ _ _ _ _ _ _)
      | (with_reducible exact slices_Index_int_int.mono _ _ _)
      | (with_reducible exact LeO.refl _)
      | (with_reducible exact LeO.none _)
      | (with_reducible refine LeO.ite ?_ ?_)
      | (with_reducible refine LeO.bind ?_ (fun _ => ?_))
      | exact ih0 _ _ _ _ _ _ _ _ _
      | exact ih1 _ _ _ _ _ _ _ _ _ _ _
      | exact slices_Index_int_int.mono _ _ _
      | exact LeO.none _
      | refine LeO.ite ?_ ?_
      | refine LeO.bind ?_ (fun _ => ?_)
theorem inst_encodeImmediate.mono : ∀ a0 a1 a2 a3 a4 a5 a6 a7 k, LeO (inst_encodeImmediate.f k a0 a1 a2 a3 a4 a5 a6 a7) (inst_encodeImmediate.f (k + 1) a0 a1 a2 a3 a4 a5 a6 a7) := by
  intro a0 a1 a2 a3 a4 a5 a6 a7 k
  obtain ⟨ih0, ih1⟩ := inst_encodeImmediate.mono_l k
  unfold inst_encodeImmediate.f
  repeat' first
      | (with_reducible exact ih0 _ _ _ _ _ _ _ _ _)
      | (with_reducible exact ih1 _ _ _ _ _ _ _ _ _ _ _)
      | (with_reducible exact slices_Index_int_int.mono _ _ _)
      | (with_reducible exact LeO.refl _)
      | (with_reducible exact LeO.none _)
      | (with_reducible refine LeO.ite ?_ ?_)
      | (with_reducible refine LeO.bind ?_ (fun _ => ?_))
      | exact ih0 _ _ _ _ _ _ _ _ _
      | exact ih1 _ _ _ _ _ _ _ _ _ _ _
      | exact slices_Index_int_int.mono _ _ _
      | exact LeO.none _
      | refine LeO.ite ?_ ?_
      | refine LeO.bind ?_ (fun _ => ?_)
set_option maxRecDepth 100000 in
theorem inst_encodeImmediate.calls (k : Nat) (a0_0 : Int) (a0_1 : Int) (a0_2 : Int) (a0_3 : Int) (a0_4 : Int) (a0_5 : Int) (a0_6 : Int) (a0_7 : Bool) (r : Int) (w : World) (h : inst_encodeImmediate.f k a0_0 a0_1 a0_2 a0_3 a0_4 a0_5 a0_6 a0_7 = some r) :
    Calls Tryz.prog 66 #[.agg #[.int .i64 a0_0, .int .i64 a0_1, .int .i64 a0_2, .int .i64 a0_3, .int .i64 a0_4, .int .i64 a0_5, .int .i64 a0_6, .bool a0_7]] w fun e w' => e = .returned (.int .u32 r) ∧ Below w.heap.size w w' := by
  have hu23 := Tryz.underlying23
  have HB := Aside0.mk (Below.refl w.heap.size w)
  have H : ((inst_put.f a0_5 31 20).bind fun t103 => (if a0_1 = 3 then (inst_encodeImmediate.j0 k t103 a0_1 (a0_1 == 3) a0_0 a0_1 a0_2 a0_3 a0_4 a0_5 a0_6 a0_7) else (if a0_1 = 7 then (inst_encodeImmediate.j0 k t103 a0_1 (a0_1 == 7) a0_0 a0_1 a0_2 a0_3 a0_4 a0_5 a0_6 a0_7) else (inst_encodeImmediate.j0 k t103 a0_1 (a0_1 == 8) a0_0 a0_1 a0_2 a0_3 a0_4 a0_5 a0_6 a0_7)))) = some r := h
  clear h
  replace H := Option.bind_eq_some_iff.mp H
  obtain ⟨t103, A20, H⟩ := H
  replace H : (if a0_1 = 3 then (inst_encodeImmediate.j0 k t103 a0_1 (a0_1 == 3) a0_0 a0_1 a0_2 a0_3 a0_4 a0_5 a0_6 a0_7) else (if a0_1 = 7 then (inst_encodeImmediate.j0 k t103 a0_1 (a0_1 == 7) a0_0 a0_1 a0_2 a0_3 a0_4 a0_5 a0_6 a0_7) else (inst_encodeImmediate.j0 k t103 a0_1 (a0_1 == 8) a0_0 a0_1 a0_2 a0_3 a0_4 a0_5 a0_6 a0_7))) = some r := H
  have A2 := Aside0.mk A20
  clear A20
  have HC3 := Aside0.mk H
  clear H
  go_enter Tryz.func66, Tryz.ntmps66
  go_upto_block 0 with (first | ((with_reducible refine gate_dst (N := 1) rfl ?_); refine box_event (by rfl) (N := 1) (by rfl) (cs := #[.int .i64 a0_0, .int .i64 a0_1, .int .i64 a0_2, .int .i64 a0_3, .int .i64 a0_4, .int .i64 a0_5, .int .i64 a0_6, .bool a0_7]) (t := 23) (by first | (go_simp; done) | (go_simp; rfl)) ?_; intro gb102 hg w4 hbox hb; have n0_ := Aside0.mk (below_step (by repeat (first | (with_reducible first | exact HB.out | apply below_alloc | apply pw_below_drewN | apply below_drew1) | exact HB.out)) hb); have n1_ := Aside0.mk (hbox); have n2_ := Aside0.mk ((by rw [hg]; exact (below_size (by repeat (first | (with_reducible first | exact HB.out | apply below_alloc | apply pw_below_drewN | apply below_drew1) | exact HB.out))) : w.heap.size ≤ gb102)); have n3_ := Aside0.mk ((by rw [hg]; exact (below_size (by repeat (first | (with_reducible first | exact HB.out | apply below_alloc | apply pw_below_drewN | apply below_drew1) | exact HB.out))) : w.heap.size ≤ gb102)); clear HB; have HB := n0_; have BK102 := n1_; have GW102 := n2_; have GE102 := n3_; clear n0_ n1_ n2_ n3_; clear hb hbox hg; have hcz5_0 : w4.cell? ⟨gb102, 0, none⟩ = some (.int .i64 a0_0) := (blk_cell BK102.out 0).trans rfl; have hcz5_1 : w4.cell? ⟨gb102, 1, none⟩ = some (.int .i64 a0_1) := (blk_cell BK102.out 1).trans rfl; have hcz5_2 : w4.cell? ⟨gb102, 2, none⟩ = some (.int .i64 a0_2) := (blk_cell BK102.out 2).trans rfl; have hcz5_3 : w4.cell? ⟨gb102, 3, none⟩ = some (.int .i64 a0_3) := (blk_cell BK102.out 3).trans rfl; have hcz5_4 : w4.cell? ⟨gb102, 4, none⟩ = some (.int .i64 a0_4) := (blk_cell BK102.out 4).trans rfl; have hcz5_5 : w4.cell? ⟨gb102, 5, none⟩ = some (.int .i64 a0_5) := (blk_cell BK102.out 5).trans rfl; have hcz5_6 : w4.cell? ⟨gb102, 6, none⟩ = some (.int .i64 a0_6) := (blk_cell BK102.out 6).trans rfl; have hcz5_7 : w4.cell? ⟨gb102, 7, none⟩ = some (.bool a0_7) := (blk_cell BK102.out 7).trans rfl; have hfz5_0 := blk_frozen BK102.out 0; have hfz5_1 := blk_frozen BK102.out 1; have hfz5_2 := blk_frozen BK102.out 2; have hfz5_3 := blk_frozen BK102.out 3; have hfz5_4 := blk_frozen BK102.out 4; have hfz5_5 := blk_frozen BK102.out 5; have hfz5_6 := blk_frozen BK102.out 6; have hfz5_7 := blk_frozen BK102.out 7) | ((with_reducible refine gate_callee (f := 64) rfl ?_); refine goesL_ (some 7) rfl rfl Tryz.func64 (by kernel_rfl) rfl #[.int .i64 a0_5, .int .i64 31, .int .i64 20] rfl (by (try simp only [List.map_toArray, List.map_cons, List.map_nil]); first | done | rfl | (simp only [List.length_drop, List.length_take]; rfl)) ?_; (with_reducible refine (inst_put.calls a0_5 31 20 t103 _ A2.out).mono ?_); rintro e w' ⟨rfl, ⟨nd, rfl⟩⟩; refine ⟨_, rfl, ?_⟩))
  (try simp only [Act.put, List.setIfInBounds_toArray, List.set_cons_zero, List.set_cons_succ])
  go_cut [3] (fun v3 wc => ∃ (kq : Nat) (x3_2 : Int), v3 = .int .u32 x3_2 ∧ Aside0 (inst_encodeImmediate.j1 kq x3_2 a0_0 a0_1 a0_2 a0_3 a0_4 a0_5 a0_6 a0_7 = some r) ∧ Aside0 (kq ≤ k) ∧ Aside0 (wc.heap[gb102]? = some (.cells #[.int .i64 a0_0, .int .i64 a0_1, .int .i64 a0_2, .int .i64 a0_3, .int .i64 a0_4, .int .i64 a0_5, .int .i64 a0_6, .bool a0_7] 23 (0, 0))) ∧ Aside0 (Below w.heap.size w wc))
  case first =>
    have H := HC3.out
    clear HC3
    have HC6 := Aside0.mk H
    clear H
    go_upto_if 10 with (fail)
    go_cut [10] (fun v10 wc => ∃ (kq : Nat) (x10_5 : Bool), v10 = .bool x10_5 ∧ Aside0 (inst_encodeImmediate.j0 kq t103 a0_1 x10_5 a0_0 a0_1 a0_2 a0_3 a0_4 a0_5 a0_6 a0_7 = some r) ∧ Aside0 (kq ≤ k) ∧ Aside0 (wc.heap[gb102]? = some (.cells #[.int .i64 a0_0, .int .i64 a0_1, .int .i64 a0_2, .int .i64 a0_3, .int .i64 a0_4, .int .i64 a0_5, .int .i64 a0_6, .bool a0_7] 23 (0, 0))) ∧ Aside0 (Below w.heap.size w wc))
    case first =>
      have H := HC6.out
      clear HC6
      by_cases c7 : a0_1 = 3
      · rw [if_pos c7] at H
        have c7b0 : (a0_1 == 3) = true := beq_iff_eq.mpr c7
        have c7b1 : (a0_1 != 3) = false := bne_eq_false_iff_eq.mpr c7
        clear c7
        (first | rw [c7b0] | (simp only [i64_w, i32_w]; rw [c7b0]) | skip)
        have H' := Aside0.mk H
        clear H
        go_wp2
        go_meet
        case rel => exact ⟨_, ((a0_1 == 3)), (by first | rfl | (simp; done) | (simp [*]; done)), H', ⟨by first | omega | exact Nat.le_refl _⟩, ⟨by (with_reducible repeat (first | refine blk_drewN ?_ _ | refine blk_drew ?_ | refine blk_alloc ?_ _)); exact BK102.out⟩, ⟨by repeat (first | (with_reducible first | exact HB.out | apply below_alloc | apply pw_below_drewN | apply below_drew1 | refine below_set ?_ GE102.out) | exact HB.out)⟩⟩
      · rw [if_neg c7] at H
        have c7b0 : (a0_1 == 3) = false := beq_eq_false_iff_ne.mpr c7
        have c7b1 : (a0_1 != 3) = true := bne_iff_ne.mpr c7
        (first | rw [c7b0] | (simp only [i64_w, i32_w]; rw [c7b0]) | skip)
        by_cases c8 : a0_1 = 7
        · rw [if_pos c8] at H
          have c8b0 : (a0_1 == 7) = true := beq_iff_eq.mpr c8
          have c8b1 : (a0_1 != 7) = false := bne_eq_false_iff_eq.mpr c8
          clear c8
          have H' := Aside0.mk H
          clear H
          go_wp2
          go_meet
          case rel => exact ⟨_, ((a0_1 == 7)), (by first | rfl | (simp; done) | (simp [*]; done)), H', ⟨by first | omega | exact Nat.le_refl _⟩, ⟨by (with_reducible repeat (first | refine blk_drewN ?_ _ | refine blk_drew ?_ | refine blk_alloc ?_ _)); exact BK102.out⟩, ⟨by repeat (first | (with_reducible first | exact HB.out | apply below_alloc | apply pw_below_drewN | apply below_drew1 | refine below_set ?_ GE102.out) | exact HB.out)⟩⟩
        · rw [if_neg c8] at H
          have c8b0 : (a0_1 == 7) = false := beq_eq_false_iff_ne.mpr c8
          have c8b1 : (a0_1 != 7) = true := bne_iff_ne.mpr c8
          have H' := Aside0.mk H
          clear H
          go_wp2
          go_meet
          case rel => exact ⟨_, ((a0_1 == 8)), (by first | rfl | (simp; done) | (simp [*]; done)), H', ⟨by first | omega | exact Nat.le_refl _⟩, ⟨by (with_reducible repeat (first | refine blk_drewN ?_ _ | refine blk_drew ?_ | refine blk_alloc ?_ _)); exact BK102.out⟩, ⟨by repeat (first | (with_reducible first | exact HB.out | apply below_alloc | apply pw_below_drewN | apply below_drew1 | refine below_set ?_ GE102.out) | exact HB.out)⟩⟩
    case rest =>
      clear HC6
      try clear p2
      try clear c6
      try clear c7
      try clear c7b0
      try clear c7b1
      try clear c8
      try clear c8b0
      try clear c8b1
      try clear hcz5_0
      try clear hcz5_1
      try clear hcz5_2
      try clear hcz5_3
      try clear hcz5_4
      try clear hcz5_5
      try clear hcz5_6
      try clear hcz5_7
      try clear hfz5_0
      try clear hfz5_1
      try clear hfz5_2
      try clear hfz5_3
      try clear hfz5_4
      try clear hfz5_5
      try clear hfz5_6
      try clear hfz5_7
      obtain ⟨kq, x10_5, rfl, HA, HJ5, BK102, HB⟩ := hcut
      cases kq with
      | zero => exact absurd HA.out (by simp [inst_encodeImmediate.j0])
      | succ kj5 =>
        have H := HA.out
        clear HA
        simp only [inst_encodeImmediate.j0] at H
        by_cases c9 : x10_5 = true
        · subst c9
          have H1 : ((inst_put.f a0_5 25 20).bind fun t104 => (inst_encodeImmediate.j1 kj5 t104 a0_0 a0_1 a0_2 a0_3 a0_4 a0_5 a0_6 a0_7)) = some r := by rw [if_pos rfl] at H; exact H
          clear H
          have H := H1
          clear H1
          replace H := Option.bind_eq_some_iff.mp H
          obtain ⟨t104, A100, H⟩ := H
          replace H : (inst_encodeImmediate.j1 kj5 t104 a0_0 a0_1 a0_2 a0_3 a0_4 a0_5 a0_6 a0_7) = some r := H
          have A10 := Aside0.mk A100
          clear A100
          have H' := Aside0.mk H
          clear H
          have hcz11_0 : wc.cell? ⟨gb102, 0, none⟩ = some (.int .i64 a0_0) := (blk_cell BK102.out 0).trans rfl
          have hcz11_1 : wc.cell? ⟨gb102, 1, none⟩ = some (.int .i64 a0_1) := (blk_cell BK102.out 1).trans rfl
          have hcz11_2 : wc.cell? ⟨gb102, 2, none⟩ = some (.int .i64 a0_2) := (blk_cell BK102.out 2).trans rfl
          have hcz11_3 : wc.cell? ⟨gb102, 3, none⟩ = some (.int .i64 a0_3) := (blk_cell BK102.out 3).trans rfl
          have hcz11_4 : wc.cell? ⟨gb102, 4, none⟩ = some (.int .i64 a0_4) := (blk_cell BK102.out 4).trans rfl
          have hcz11_5 : wc.cell? ⟨gb102, 5, none⟩ = some (.int .i64 a0_5) := (blk_cell BK102.out 5).trans rfl
          have hcz11_6 : wc.cell? ⟨gb102, 6, none⟩ = some (.int .i64 a0_6) := (blk_cell BK102.out 6).trans rfl
          have hcz11_7 : wc.cell? ⟨gb102, 7, none⟩ = some (.bool a0_7) := (blk_cell BK102.out 7).trans rfl
          have hfz11_0 := blk_frozen BK102.out 0
          have hfz11_1 := blk_frozen BK102.out 1
          have hfz11_2 := blk_frozen BK102.out 2
          have hfz11_3 := blk_frozen BK102.out 3
          have hfz11_4 := blk_frozen BK102.out 4
          have hfz11_5 := blk_frozen BK102.out 5
          have hfz11_6 := blk_frozen BK102.out 6
          have hfz11_7 := blk_frozen BK102.out 7
          go_wp2_with (first | ((with_reducible refine gate_callee (f := 64) rfl ?_); refine goesL_ (some 16) rfl rfl Tryz.func64 (by kernel_rfl) rfl #[.int .i64 a0_5, .int .i64 25, .int .i64 20] rfl (by (try simp only [List.map_toArray, List.map_cons, List.map_nil]); first | done | rfl | (simp only [List.length_drop, List.length_take]; rfl)) ?_; (with_reducible refine (inst_put.calls a0_5 25 20 t104 _ A10.out).mono ?_); rintro e w' ⟨rfl, ⟨nd, rfl⟩⟩; refine ⟨_, rfl, ?_⟩))
          go_meet
          case rel => exact ⟨_, (t104), (by first | rfl | (simp; done) | (simp [*]; done)), H', ⟨by have := HJ5.out; first | omega | exact Nat.le_refl _⟩, ⟨by (with_reducible repeat (first | refine blk_drewN ?_ _ | refine blk_drew ?_ | refine blk_alloc ?_ _)); exact BK102.out⟩, ⟨by repeat (first | (with_reducible first | exact HB.out | apply below_alloc | apply pw_below_drewN | apply below_drew1 | refine below_set ?_ GE102.out) | exact HB.out)⟩⟩
        · replace c9 := Bool.eq_false_iff.mpr c9
          subst c9
          have H1 : (if a0_1 = 21 then ((inst_put.f a0_5 24 20).bind fun t105 => (inst_encodeImmediate.j1 kj5 t105 a0_0 a0_1 a0_2 a0_3 a0_4 a0_5 a0_6 a0_7)) else (if a0_1 = 22 then ((inst_put.f a0_5 24 20).bind fun t106 => (inst_encodeImmediate.j1 kj5 t106 a0_0 a0_1 a0_2 a0_3 a0_4 a0_5 a0_6 a0_7)) else (if a0_1 = 23 then ((inst_put.f a0_5 24 20).bind fun t107 => (inst_encodeImmediate.j1 kj5 t107 a0_0 a0_1 a0_2 a0_3 a0_4 a0_5 a0_6 a0_7)) else (inst_encodeImmediate.j1 kj5 t103 a0_0 a0_1 a0_2 a0_3 a0_4 a0_5 a0_6 a0_7)))) = some r := by rw [if_neg (show ¬ (false = true) by decide)] at H; exact H
          clear H
          have H := H1
          clear H1
          by_cases c12 : a0_1 = 21
          · rw [if_pos c12] at H
            have c12b0 : (a0_1 == 21) = true := beq_iff_eq.mpr c12
            have c12b1 : (a0_1 != 21) = false := bne_eq_false_iff_eq.mpr c12
            clear c12
            replace H := Option.bind_eq_some_iff.mp H
            obtain ⟨t105, A130, H⟩ := H
            replace H : (inst_encodeImmediate.j1 kj5 t105 a0_0 a0_1 a0_2 a0_3 a0_4 a0_5 a0_6 a0_7) = some r := H
            have A13 := Aside0.mk A130
            clear A130
            have H' := Aside0.mk H
            clear H
            have hcz14_0 : wc.cell? ⟨gb102, 0, none⟩ = some (.int .i64 a0_0) := (blk_cell BK102.out 0).trans rfl
            have hcz14_1 : wc.cell? ⟨gb102, 1, none⟩ = some (.int .i64 a0_1) := (blk_cell BK102.out 1).trans rfl
            have hcz14_2 : wc.cell? ⟨gb102, 2, none⟩ = some (.int .i64 a0_2) := (blk_cell BK102.out 2).trans rfl
            have hcz14_3 : wc.cell? ⟨gb102, 3, none⟩ = some (.int .i64 a0_3) := (blk_cell BK102.out 3).trans rfl
            have hcz14_4 : wc.cell? ⟨gb102, 4, none⟩ = some (.int .i64 a0_4) := (blk_cell BK102.out 4).trans rfl
            have hcz14_5 : wc.cell? ⟨gb102, 5, none⟩ = some (.int .i64 a0_5) := (blk_cell BK102.out 5).trans rfl
            have hcz14_6 : wc.cell? ⟨gb102, 6, none⟩ = some (.int .i64 a0_6) := (blk_cell BK102.out 6).trans rfl
            have hcz14_7 : wc.cell? ⟨gb102, 7, none⟩ = some (.bool a0_7) := (blk_cell BK102.out 7).trans rfl
            have hfz14_0 := blk_frozen BK102.out 0
            have hfz14_1 := blk_frozen BK102.out 1
            have hfz14_2 := blk_frozen BK102.out 2
            have hfz14_3 := blk_frozen BK102.out 3
            have hfz14_4 := blk_frozen BK102.out 4
            have hfz14_5 := blk_frozen BK102.out 5
            have hfz14_6 := blk_frozen BK102.out 6
            have hfz14_7 := blk_frozen BK102.out 7
            go_wp2_with (first | ((with_reducible refine gate_callee (f := 64) rfl ?_); refine goesL_ (some 23) rfl rfl Tryz.func64 (by kernel_rfl) rfl #[.int .i64 a0_5, .int .i64 24, .int .i64 20] rfl (by (try simp only [List.map_toArray, List.map_cons, List.map_nil]); first | done | rfl | (simp only [List.length_drop, List.length_take]; rfl)) ?_; (with_reducible refine (inst_put.calls a0_5 24 20 t105 _ A13.out).mono ?_); rintro e w' ⟨rfl, ⟨nd, rfl⟩⟩; refine ⟨_, rfl, ?_⟩))
            go_meet
            case rel => exact ⟨_, (t105), (by first | rfl | (simp; done) | (simp [*]; done)), H', ⟨by have := HJ5.out; first | omega | exact Nat.le_refl _⟩, ⟨by (with_reducible repeat (first | refine blk_drewN ?_ _ | refine blk_drew ?_ | refine blk_alloc ?_ _)); exact BK102.out⟩, ⟨by repeat (first | (with_reducible first | exact HB.out | apply below_alloc | apply pw_below_drewN | apply below_drew1 | refine below_set ?_ GE102.out) | exact HB.out)⟩⟩
          · rw [if_neg c12] at H
            have c12b0 : (a0_1 == 21) = false := beq_eq_false_iff_ne.mpr c12
            have c12b1 : (a0_1 != 21) = true := bne_iff_ne.mpr c12
            by_cases c15 : a0_1 = 22
            · rw [if_pos c15] at H
              have c15b0 : (a0_1 == 22) = true := beq_iff_eq.mpr c15
              have c15b1 : (a0_1 != 22) = false := bne_eq_false_iff_eq.mpr c15
              clear c15
              replace H := Option.bind_eq_some_iff.mp H
              obtain ⟨t106, A160, H⟩ := H
              replace H : (inst_encodeImmediate.j1 kj5 t106 a0_0 a0_1 a0_2 a0_3 a0_4 a0_5 a0_6 a0_7) = some r := H
              have A16 := Aside0.mk A160
              clear A160
              have H' := Aside0.mk H
              clear H
              have hcz17_0 : wc.cell? ⟨gb102, 0, none⟩ = some (.int .i64 a0_0) := (blk_cell BK102.out 0).trans rfl
              have hcz17_1 : wc.cell? ⟨gb102, 1, none⟩ = some (.int .i64 a0_1) := (blk_cell BK102.out 1).trans rfl
              have hcz17_2 : wc.cell? ⟨gb102, 2, none⟩ = some (.int .i64 a0_2) := (blk_cell BK102.out 2).trans rfl
              have hcz17_3 : wc.cell? ⟨gb102, 3, none⟩ = some (.int .i64 a0_3) := (blk_cell BK102.out 3).trans rfl
              have hcz17_4 : wc.cell? ⟨gb102, 4, none⟩ = some (.int .i64 a0_4) := (blk_cell BK102.out 4).trans rfl
              have hcz17_5 : wc.cell? ⟨gb102, 5, none⟩ = some (.int .i64 a0_5) := (blk_cell BK102.out 5).trans rfl
              have hcz17_6 : wc.cell? ⟨gb102, 6, none⟩ = some (.int .i64 a0_6) := (blk_cell BK102.out 6).trans rfl
              have hcz17_7 : wc.cell? ⟨gb102, 7, none⟩ = some (.bool a0_7) := (blk_cell BK102.out 7).trans rfl
              have hfz17_0 := blk_frozen BK102.out 0
              have hfz17_1 := blk_frozen BK102.out 1
              have hfz17_2 := blk_frozen BK102.out 2
              have hfz17_3 := blk_frozen BK102.out 3
              have hfz17_4 := blk_frozen BK102.out 4
              have hfz17_5 := blk_frozen BK102.out 5
              have hfz17_6 := blk_frozen BK102.out 6
              have hfz17_7 := blk_frozen BK102.out 7
              go_wp2_with (first | ((with_reducible refine gate_callee (f := 64) rfl ?_); refine goesL_ (some 23) rfl rfl Tryz.func64 (by kernel_rfl) rfl #[.int .i64 a0_5, .int .i64 24, .int .i64 20] rfl (by (try simp only [List.map_toArray, List.map_cons, List.map_nil]); first | done | rfl | (simp only [List.length_drop, List.length_take]; rfl)) ?_; (with_reducible refine (inst_put.calls a0_5 24 20 t106 _ A16.out).mono ?_); rintro e w' ⟨rfl, ⟨nd, rfl⟩⟩; refine ⟨_, rfl, ?_⟩))
              go_meet
              case rel => exact ⟨_, (t106), (by first | rfl | (simp; done) | (simp [*]; done)), H', ⟨by have := HJ5.out; first | omega | exact Nat.le_refl _⟩, ⟨by (with_reducible repeat (first | refine blk_drewN ?_ _ | refine blk_drew ?_ | refine blk_alloc ?_ _)); exact BK102.out⟩, ⟨by repeat (first | (with_reducible first | exact HB.out | apply below_alloc | apply pw_below_drewN | apply below_drew1 | refine below_set ?_ GE102.out) | exact HB.out)⟩⟩
            · rw [if_neg c15] at H
              have c15b0 : (a0_1 == 22) = false := beq_eq_false_iff_ne.mpr c15
              have c15b1 : (a0_1 != 22) = true := bne_iff_ne.mpr c15
              by_cases c18 : a0_1 = 23
              · rw [if_pos c18] at H
                have c18b0 : (a0_1 == 23) = true := beq_iff_eq.mpr c18
                have c18b1 : (a0_1 != 23) = false := bne_eq_false_iff_eq.mpr c18
                clear c18
                replace H := Option.bind_eq_some_iff.mp H
                obtain ⟨t107, A190, H⟩ := H
                replace H : (inst_encodeImmediate.j1 kj5 t107 a0_0 a0_1 a0_2 a0_3 a0_4 a0_5 a0_6 a0_7) = some r := H
                have A19 := Aside0.mk A190
                clear A190
                have H' := Aside0.mk H
                clear H
                have hcz20_0 : wc.cell? ⟨gb102, 0, none⟩ = some (.int .i64 a0_0) := (blk_cell BK102.out 0).trans rfl
                have hcz20_1 : wc.cell? ⟨gb102, 1, none⟩ = some (.int .i64 a0_1) := (blk_cell BK102.out 1).trans rfl
                have hcz20_2 : wc.cell? ⟨gb102, 2, none⟩ = some (.int .i64 a0_2) := (blk_cell BK102.out 2).trans rfl
                have hcz20_3 : wc.cell? ⟨gb102, 3, none⟩ = some (.int .i64 a0_3) := (blk_cell BK102.out 3).trans rfl
                have hcz20_4 : wc.cell? ⟨gb102, 4, none⟩ = some (.int .i64 a0_4) := (blk_cell BK102.out 4).trans rfl
                have hcz20_5 : wc.cell? ⟨gb102, 5, none⟩ = some (.int .i64 a0_5) := (blk_cell BK102.out 5).trans rfl
                have hcz20_6 : wc.cell? ⟨gb102, 6, none⟩ = some (.int .i64 a0_6) := (blk_cell BK102.out 6).trans rfl
                have hcz20_7 : wc.cell? ⟨gb102, 7, none⟩ = some (.bool a0_7) := (blk_cell BK102.out 7).trans rfl
                have hfz20_0 := blk_frozen BK102.out 0
                have hfz20_1 := blk_frozen BK102.out 1
                have hfz20_2 := blk_frozen BK102.out 2
                have hfz20_3 := blk_frozen BK102.out 3
                have hfz20_4 := blk_frozen BK102.out 4
                have hfz20_5 := blk_frozen BK102.out 5
                have hfz20_6 := blk_frozen BK102.out 6
                have hfz20_7 := blk_frozen BK102.out 7
                go_wp2_with (first | ((with_reducible refine gate_callee (f := 64) rfl ?_); refine goesL_ (some 23) rfl rfl Tryz.func64 (by kernel_rfl) rfl #[.int .i64 a0_5, .int .i64 24, .int .i64 20] rfl (by (try simp only [List.map_toArray, List.map_cons, List.map_nil]); first | done | rfl | (simp only [List.length_drop, List.length_take]; rfl)) ?_; (with_reducible refine (inst_put.calls a0_5 24 20 t107 _ A19.out).mono ?_); rintro e w' ⟨rfl, ⟨nd, rfl⟩⟩; refine ⟨_, rfl, ?_⟩))
                go_meet
                case rel => exact ⟨_, (t107), (by first | rfl | (simp; done) | (simp [*]; done)), H', ⟨by have := HJ5.out; first | omega | exact Nat.le_refl _⟩, ⟨by (with_reducible repeat (first | refine blk_drewN ?_ _ | refine blk_drew ?_ | refine blk_alloc ?_ _)); exact BK102.out⟩, ⟨by repeat (first | (with_reducible first | exact HB.out | apply below_alloc | apply pw_below_drewN | apply below_drew1 | refine below_set ?_ GE102.out) | exact HB.out)⟩⟩
              · rw [if_neg c18] at H
                have c18b0 : (a0_1 == 23) = false := beq_eq_false_iff_ne.mpr c18
                have c18b1 : (a0_1 != 23) = true := bne_iff_ne.mpr c18
                have H' := Aside0.mk H
                clear H
                go_wp2
                go_meet
                case rel => exact ⟨_, (t103), (by first | rfl | (simp; done) | (simp [*]; done)), H', ⟨by have := HJ5.out; first | omega | exact Nat.le_refl _⟩, ⟨by (with_reducible repeat (first | refine blk_drewN ?_ _ | refine blk_drew ?_ | refine blk_alloc ?_ _)); exact BK102.out⟩, ⟨by repeat (first | (with_reducible first | exact HB.out | apply below_alloc | apply pw_below_drewN | apply below_drew1 | refine below_set ?_ GE102.out) | exact HB.out)⟩⟩
  case rest =>
    clear HC3
    try clear c1
    try clear p2
    try clear c6
    try clear c7
    try clear c7b0
    try clear c7b1
    try clear c8
    try clear c8b0
    try clear c8b1
    try clear c9
    try clear c12
    try clear c12b0
    try clear c12b1
    try clear c15
    try clear c15b0
    try clear c15b1
    try clear c18
    try clear c18b0
    try clear c18b1
    try clear hcz11_0
    try clear hcz11_1
    try clear hcz11_2
    try clear hcz11_3
    try clear hcz11_4
    try clear hcz11_5
    try clear hcz11_6
    try clear hcz11_7
    try clear hcz14_0
    try clear hcz14_1
    try clear hcz14_2
    try clear hcz14_3
    try clear hcz14_4
    try clear hcz14_5
    try clear hcz14_6
    try clear hcz14_7
    try clear hcz17_0
    try clear hcz17_1
    try clear hcz17_2
    try clear hcz17_3
    try clear hcz17_4
    try clear hcz17_5
    try clear hcz17_6
    try clear hcz17_7
    try clear hcz20_0
    try clear hcz20_1
    try clear hcz20_2
    try clear hcz20_3
    try clear hcz20_4
    try clear hcz20_5
    try clear hcz20_6
    try clear hcz20_7
    try clear hcz5_0
    try clear hcz5_1
    try clear hcz5_2
    try clear hcz5_3
    try clear hcz5_4
    try clear hcz5_5
    try clear hcz5_6
    try clear hcz5_7
    try clear hfz11_0
    try clear hfz11_1
    try clear hfz11_2
    try clear hfz11_3
    try clear hfz11_4
    try clear hfz11_5
    try clear hfz11_6
    try clear hfz11_7
    try clear hfz14_0
    try clear hfz14_1
    try clear hfz14_2
    try clear hfz14_3
    try clear hfz14_4
    try clear hfz14_5
    try clear hfz14_6
    try clear hfz14_7
    try clear hfz17_0
    try clear hfz17_1
    try clear hfz17_2
    try clear hfz17_3
    try clear hfz17_4
    try clear hfz17_5
    try clear hfz17_6
    try clear hfz17_7
    try clear hfz20_0
    try clear hfz20_1
    try clear hfz20_2
    try clear hfz20_3
    try clear hfz20_4
    try clear hfz20_5
    try clear hfz20_6
    try clear hfz20_7
    try clear hfz5_0
    try clear hfz5_1
    try clear hfz5_2
    try clear hfz5_3
    try clear hfz5_4
    try clear hfz5_5
    try clear hfz5_6
    try clear hfz5_7
    try clear p2
    obtain ⟨kq, x3_2, rfl, HA, HJ2, BK102, HB⟩ := hcut
    cases kq with
    | zero => exact absurd HA.out (by simp [inst_encodeImmediate.j1])
    | succ kj2 =>
      have H := HA.out
      clear HA
      simp only [inst_encodeImmediate.j1] at H
      by_cases c21 : a0_1 = 19
      · rw [if_pos c21] at H
        have c21b0 : (a0_1 == 19) = true := beq_iff_eq.mpr c21
        have c21b1 : (a0_1 != 19) = false := bne_eq_false_iff_eq.mpr c21
        clear c21
        obtain rfl := Option.some.inj H
        have hcz22_0 : wc.cell? ⟨gb102, 0, none⟩ = some (.int .i64 a0_0) := (blk_cell BK102.out 0).trans rfl
        have hcz22_1 : wc.cell? ⟨gb102, 1, none⟩ = some (.int .i64 a0_1) := (blk_cell BK102.out 1).trans rfl
        have hcz22_2 : wc.cell? ⟨gb102, 2, none⟩ = some (.int .i64 a0_2) := (blk_cell BK102.out 2).trans rfl
        have hcz22_3 : wc.cell? ⟨gb102, 3, none⟩ = some (.int .i64 a0_3) := (blk_cell BK102.out 3).trans rfl
        have hcz22_4 : wc.cell? ⟨gb102, 4, none⟩ = some (.int .i64 a0_4) := (blk_cell BK102.out 4).trans rfl
        have hcz22_5 : wc.cell? ⟨gb102, 5, none⟩ = some (.int .i64 a0_5) := (blk_cell BK102.out 5).trans rfl
        have hcz22_6 : wc.cell? ⟨gb102, 6, none⟩ = some (.int .i64 a0_6) := (blk_cell BK102.out 6).trans rfl
        have hcz22_7 : wc.cell? ⟨gb102, 7, none⟩ = some (.bool a0_7) := (blk_cell BK102.out 7).trans rfl
        have hfz22_0 := blk_frozen BK102.out 0
        have hfz22_1 := blk_frozen BK102.out 1
        have hfz22_2 := blk_frozen BK102.out 2
        have hfz22_3 := blk_frozen BK102.out 3
        have hfz22_4 := blk_frozen BK102.out 4
        have hfz22_5 := blk_frozen BK102.out 5
        have hfz22_6 := blk_frozen BK102.out 6
        have hfz22_7 := blk_frozen BK102.out 7
        go_wp2
        go_ret
        exact ⟨by first | rfl | (simp [errW_none, errW_some] <;> rfl) | (simp [*, errW_none, errW_some] <;> rfl), by repeat (first | (with_reducible first | exact HB.out | apply below_alloc | apply pw_below_drewN | apply below_drew1 | refine below_set ?_ GE102.out) | exact HB.out)⟩
      · rw [if_neg c21] at H
        have c21b0 : (a0_1 == 19) = false := beq_eq_false_iff_ne.mpr c21
        have c21b1 : (a0_1 != 19) = true := bne_iff_ne.mpr c21
        by_cases c23 : a0_1 = 21
        · rw [if_pos c23] at H
          have c23b0 : (a0_1 == 21) = true := beq_iff_eq.mpr c23
          have c23b1 : (a0_1 != 21) = false := bne_eq_false_iff_eq.mpr c23
          clear c23
          obtain rfl := Option.some.inj H
          have hcz24_0 : wc.cell? ⟨gb102, 0, none⟩ = some (.int .i64 a0_0) := (blk_cell BK102.out 0).trans rfl
          have hcz24_1 : wc.cell? ⟨gb102, 1, none⟩ = some (.int .i64 a0_1) := (blk_cell BK102.out 1).trans rfl
          have hcz24_2 : wc.cell? ⟨gb102, 2, none⟩ = some (.int .i64 a0_2) := (blk_cell BK102.out 2).trans rfl
          have hcz24_3 : wc.cell? ⟨gb102, 3, none⟩ = some (.int .i64 a0_3) := (blk_cell BK102.out 3).trans rfl
          have hcz24_4 : wc.cell? ⟨gb102, 4, none⟩ = some (.int .i64 a0_4) := (blk_cell BK102.out 4).trans rfl
          have hcz24_5 : wc.cell? ⟨gb102, 5, none⟩ = some (.int .i64 a0_5) := (blk_cell BK102.out 5).trans rfl
          have hcz24_6 : wc.cell? ⟨gb102, 6, none⟩ = some (.int .i64 a0_6) := (blk_cell BK102.out 6).trans rfl
          have hcz24_7 : wc.cell? ⟨gb102, 7, none⟩ = some (.bool a0_7) := (blk_cell BK102.out 7).trans rfl
          have hfz24_0 := blk_frozen BK102.out 0
          have hfz24_1 := blk_frozen BK102.out 1
          have hfz24_2 := blk_frozen BK102.out 2
          have hfz24_3 := blk_frozen BK102.out 3
          have hfz24_4 := blk_frozen BK102.out 4
          have hfz24_5 := blk_frozen BK102.out 5
          have hfz24_6 := blk_frozen BK102.out 6
          have hfz24_7 := blk_frozen BK102.out 7
          go_wp2
          go_ret
          exact ⟨by first | rfl | (simp [errW_none, errW_some] <;> rfl) | (simp [*, errW_none, errW_some] <;> rfl), by repeat (first | (with_reducible first | exact HB.out | apply below_alloc | apply pw_below_drewN | apply below_drew1 | refine below_set ?_ GE102.out) | exact HB.out)⟩
        · rw [if_neg c23] at H
          have c23b0 : (a0_1 == 21) = false := beq_eq_false_iff_ne.mpr c23
          have c23b1 : (a0_1 != 21) = true := bne_iff_ne.mpr c23
          by_cases c25 : a0_1 = 22
          · rw [if_pos c25] at H
            have c25b0 : (a0_1 == 22) = true := beq_iff_eq.mpr c25
            have c25b1 : (a0_1 != 22) = false := bne_eq_false_iff_eq.mpr c25
            clear c25
            obtain rfl := Option.some.inj H
            have hcz26_0 : wc.cell? ⟨gb102, 0, none⟩ = some (.int .i64 a0_0) := (blk_cell BK102.out 0).trans rfl
            have hcz26_1 : wc.cell? ⟨gb102, 1, none⟩ = some (.int .i64 a0_1) := (blk_cell BK102.out 1).trans rfl
            have hcz26_2 : wc.cell? ⟨gb102, 2, none⟩ = some (.int .i64 a0_2) := (blk_cell BK102.out 2).trans rfl
            have hcz26_3 : wc.cell? ⟨gb102, 3, none⟩ = some (.int .i64 a0_3) := (blk_cell BK102.out 3).trans rfl
            have hcz26_4 : wc.cell? ⟨gb102, 4, none⟩ = some (.int .i64 a0_4) := (blk_cell BK102.out 4).trans rfl
            have hcz26_5 : wc.cell? ⟨gb102, 5, none⟩ = some (.int .i64 a0_5) := (blk_cell BK102.out 5).trans rfl
            have hcz26_6 : wc.cell? ⟨gb102, 6, none⟩ = some (.int .i64 a0_6) := (blk_cell BK102.out 6).trans rfl
            have hcz26_7 : wc.cell? ⟨gb102, 7, none⟩ = some (.bool a0_7) := (blk_cell BK102.out 7).trans rfl
            have hfz26_0 := blk_frozen BK102.out 0
            have hfz26_1 := blk_frozen BK102.out 1
            have hfz26_2 := blk_frozen BK102.out 2
            have hfz26_3 := blk_frozen BK102.out 3
            have hfz26_4 := blk_frozen BK102.out 4
            have hfz26_5 := blk_frozen BK102.out 5
            have hfz26_6 := blk_frozen BK102.out 6
            have hfz26_7 := blk_frozen BK102.out 7
            go_wp2
            go_ret
            exact ⟨by first | rfl | (simp [errW_none, errW_some] <;> rfl) | (simp [*, errW_none, errW_some] <;> rfl), by repeat (first | (with_reducible first | exact HB.out | apply below_alloc | apply pw_below_drewN | apply below_drew1 | refine below_set ?_ GE102.out) | exact HB.out)⟩
          · rw [if_neg c25] at H
            have c25b0 : (a0_1 == 22) = false := beq_eq_false_iff_ne.mpr c25
            have c25b1 : (a0_1 != 22) = true := bne_iff_ne.mpr c25
            by_cases c27 : a0_1 = 23
            · rw [if_pos c27] at H
              have c27b0 : (a0_1 == 23) = true := beq_iff_eq.mpr c27
              have c27b1 : (a0_1 != 23) = false := bne_eq_false_iff_eq.mpr c27
              clear c27
              obtain rfl := Option.some.inj H
              have hcz28_0 : wc.cell? ⟨gb102, 0, none⟩ = some (.int .i64 a0_0) := (blk_cell BK102.out 0).trans rfl
              have hcz28_1 : wc.cell? ⟨gb102, 1, none⟩ = some (.int .i64 a0_1) := (blk_cell BK102.out 1).trans rfl
              have hcz28_2 : wc.cell? ⟨gb102, 2, none⟩ = some (.int .i64 a0_2) := (blk_cell BK102.out 2).trans rfl
              have hcz28_3 : wc.cell? ⟨gb102, 3, none⟩ = some (.int .i64 a0_3) := (blk_cell BK102.out 3).trans rfl
              have hcz28_4 : wc.cell? ⟨gb102, 4, none⟩ = some (.int .i64 a0_4) := (blk_cell BK102.out 4).trans rfl
              have hcz28_5 : wc.cell? ⟨gb102, 5, none⟩ = some (.int .i64 a0_5) := (blk_cell BK102.out 5).trans rfl
              have hcz28_6 : wc.cell? ⟨gb102, 6, none⟩ = some (.int .i64 a0_6) := (blk_cell BK102.out 6).trans rfl
              have hcz28_7 : wc.cell? ⟨gb102, 7, none⟩ = some (.bool a0_7) := (blk_cell BK102.out 7).trans rfl
              have hfz28_0 := blk_frozen BK102.out 0
              have hfz28_1 := blk_frozen BK102.out 1
              have hfz28_2 := blk_frozen BK102.out 2
              have hfz28_3 := blk_frozen BK102.out 3
              have hfz28_4 := blk_frozen BK102.out 4
              have hfz28_5 := blk_frozen BK102.out 5
              have hfz28_6 := blk_frozen BK102.out 6
              have hfz28_7 := blk_frozen BK102.out 7
              go_wp2
              go_ret
              exact ⟨by first | rfl | (simp [errW_none, errW_some] <;> rfl) | (simp [*, errW_none, errW_some] <;> rfl), by repeat (first | (with_reducible first | exact HB.out | apply below_alloc | apply pw_below_drewN | apply below_drew1 | refine below_set ?_ GE102.out) | exact HB.out)⟩
            · rw [if_neg c27] at H
              have c27b0 : (a0_1 == 23) = false := beq_eq_false_iff_ne.mpr c27
              have c27b1 : (a0_1 != 23) = true := bne_iff_ne.mpr c27
              by_cases c29 : a0_1 = 3
              · rw [if_pos c29] at H
                have c29b0 : (a0_1 == 3) = true := beq_iff_eq.mpr c29
                have c29b1 : (a0_1 != 3) = false := bne_eq_false_iff_eq.mpr c29
                clear c29
                obtain rfl := Option.some.inj H
                have hcz30_0 : wc.cell? ⟨gb102, 0, none⟩ = some (.int .i64 a0_0) := (blk_cell BK102.out 0).trans rfl
                have hcz30_1 : wc.cell? ⟨gb102, 1, none⟩ = some (.int .i64 a0_1) := (blk_cell BK102.out 1).trans rfl
                have hcz30_2 : wc.cell? ⟨gb102, 2, none⟩ = some (.int .i64 a0_2) := (blk_cell BK102.out 2).trans rfl
                have hcz30_3 : wc.cell? ⟨gb102, 3, none⟩ = some (.int .i64 a0_3) := (blk_cell BK102.out 3).trans rfl
                have hcz30_4 : wc.cell? ⟨gb102, 4, none⟩ = some (.int .i64 a0_4) := (blk_cell BK102.out 4).trans rfl
                have hcz30_5 : wc.cell? ⟨gb102, 5, none⟩ = some (.int .i64 a0_5) := (blk_cell BK102.out 5).trans rfl
                have hcz30_6 : wc.cell? ⟨gb102, 6, none⟩ = some (.int .i64 a0_6) := (blk_cell BK102.out 6).trans rfl
                have hcz30_7 : wc.cell? ⟨gb102, 7, none⟩ = some (.bool a0_7) := (blk_cell BK102.out 7).trans rfl
                have hfz30_0 := blk_frozen BK102.out 0
                have hfz30_1 := blk_frozen BK102.out 1
                have hfz30_2 := blk_frozen BK102.out 2
                have hfz30_3 := blk_frozen BK102.out 3
                have hfz30_4 := blk_frozen BK102.out 4
                have hfz30_5 := blk_frozen BK102.out 5
                have hfz30_6 := blk_frozen BK102.out 6
                have hfz30_7 := blk_frozen BK102.out 7
                go_wp2
                go_ret
                exact ⟨by first | rfl | (simp [errW_none, errW_some] <;> rfl) | (simp [*, errW_none, errW_some] <;> rfl), by repeat (first | (with_reducible first | exact HB.out | apply below_alloc | apply pw_below_drewN | apply below_drew1 | refine below_set ?_ GE102.out) | exact HB.out)⟩
              · rw [if_neg c29] at H
                have c29b0 : (a0_1 == 3) = false := beq_eq_false_iff_ne.mpr c29
                have c29b1 : (a0_1 != 3) = true := bne_iff_ne.mpr c29
                by_cases c31 : a0_1 = 7
                · rw [if_pos c31] at H
                  have c31b0 : (a0_1 == 7) = true := beq_iff_eq.mpr c31
                  have c31b1 : (a0_1 != 7) = false := bne_eq_false_iff_eq.mpr c31
                  clear c31
                  obtain rfl := Option.some.inj H
                  have hcz32_0 : wc.cell? ⟨gb102, 0, none⟩ = some (.int .i64 a0_0) := (blk_cell BK102.out 0).trans rfl
                  have hcz32_1 : wc.cell? ⟨gb102, 1, none⟩ = some (.int .i64 a0_1) := (blk_cell BK102.out 1).trans rfl
                  have hcz32_2 : wc.cell? ⟨gb102, 2, none⟩ = some (.int .i64 a0_2) := (blk_cell BK102.out 2).trans rfl
                  have hcz32_3 : wc.cell? ⟨gb102, 3, none⟩ = some (.int .i64 a0_3) := (blk_cell BK102.out 3).trans rfl
                  have hcz32_4 : wc.cell? ⟨gb102, 4, none⟩ = some (.int .i64 a0_4) := (blk_cell BK102.out 4).trans rfl
                  have hcz32_5 : wc.cell? ⟨gb102, 5, none⟩ = some (.int .i64 a0_5) := (blk_cell BK102.out 5).trans rfl
                  have hcz32_6 : wc.cell? ⟨gb102, 6, none⟩ = some (.int .i64 a0_6) := (blk_cell BK102.out 6).trans rfl
                  have hcz32_7 : wc.cell? ⟨gb102, 7, none⟩ = some (.bool a0_7) := (blk_cell BK102.out 7).trans rfl
                  have hfz32_0 := blk_frozen BK102.out 0
                  have hfz32_1 := blk_frozen BK102.out 1
                  have hfz32_2 := blk_frozen BK102.out 2
                  have hfz32_3 := blk_frozen BK102.out 3
                  have hfz32_4 := blk_frozen BK102.out 4
                  have hfz32_5 := blk_frozen BK102.out 5
                  have hfz32_6 := blk_frozen BK102.out 6
                  have hfz32_7 := blk_frozen BK102.out 7
                  go_wp2
                  go_ret
                  exact ⟨by first | rfl | (simp [errW_none, errW_some] <;> rfl) | (simp [*, errW_none, errW_some] <;> rfl), by repeat (first | (with_reducible first | exact HB.out | apply below_alloc | apply pw_below_drewN | apply below_drew1 | refine below_set ?_ GE102.out) | exact HB.out)⟩
                · rw [if_neg c31] at H
                  have c31b0 : (a0_1 == 7) = false := beq_eq_false_iff_ne.mpr c31
                  have c31b1 : (a0_1 != 7) = true := bne_iff_ne.mpr c31
                  by_cases c33 : a0_1 = 8
                  · rw [if_pos c33] at H
                    have c33b0 : (a0_1 == 8) = true := beq_iff_eq.mpr c33
                    have c33b1 : (a0_1 != 8) = false := bne_eq_false_iff_eq.mpr c33
                    clear c33
                    obtain rfl := Option.some.inj H
                    have hcz34_0 : wc.cell? ⟨gb102, 0, none⟩ = some (.int .i64 a0_0) := (blk_cell BK102.out 0).trans rfl
                    have hcz34_1 : wc.cell? ⟨gb102, 1, none⟩ = some (.int .i64 a0_1) := (blk_cell BK102.out 1).trans rfl
                    have hcz34_2 : wc.cell? ⟨gb102, 2, none⟩ = some (.int .i64 a0_2) := (blk_cell BK102.out 2).trans rfl
                    have hcz34_3 : wc.cell? ⟨gb102, 3, none⟩ = some (.int .i64 a0_3) := (blk_cell BK102.out 3).trans rfl
                    have hcz34_4 : wc.cell? ⟨gb102, 4, none⟩ = some (.int .i64 a0_4) := (blk_cell BK102.out 4).trans rfl
                    have hcz34_5 : wc.cell? ⟨gb102, 5, none⟩ = some (.int .i64 a0_5) := (blk_cell BK102.out 5).trans rfl
                    have hcz34_6 : wc.cell? ⟨gb102, 6, none⟩ = some (.int .i64 a0_6) := (blk_cell BK102.out 6).trans rfl
                    have hcz34_7 : wc.cell? ⟨gb102, 7, none⟩ = some (.bool a0_7) := (blk_cell BK102.out 7).trans rfl
                    have hfz34_0 := blk_frozen BK102.out 0
                    have hfz34_1 := blk_frozen BK102.out 1
                    have hfz34_2 := blk_frozen BK102.out 2
                    have hfz34_3 := blk_frozen BK102.out 3
                    have hfz34_4 := blk_frozen BK102.out 4
                    have hfz34_5 := blk_frozen BK102.out 5
                    have hfz34_6 := blk_frozen BK102.out 6
                    have hfz34_7 := blk_frozen BK102.out 7
                    go_wp2
                    go_ret
                    exact ⟨by first | rfl | (simp [errW_none, errW_some] <;> rfl) | (simp [*, errW_none, errW_some] <;> rfl), by repeat (first | (with_reducible first | exact HB.out | apply below_alloc | apply pw_below_drewN | apply below_drew1 | refine below_set ?_ GE102.out) | exact HB.out)⟩
                  · rw [if_neg c33] at H
                    have c33b0 : (a0_1 == 8) = false := beq_eq_false_iff_ne.mpr c33
                    have c33b1 : (a0_1 != 8) = true := bne_iff_ne.mpr c33
                    obtain ⟨y108, hy108⟩ : ∃ y_ : List Int, y_ = (([1, 0, 4, 5, 6, 0, 9, 10] : List Int)) := ⟨_, rfl⟩
                    replace H : ((slices_Index_int_int.f kj2 y108 a0_1).bind fun t111 => ((inst_put.f t111 14 12).bind fun t112 => (some (Go.bits .or .u32 (Go.bits .or .u32 19 x3_2) t112)))) = some r := by first | (rw [hy108]; with_reducible exact H) | (have H2_ := (Option.bind_some _ _).symm.trans H; rw [hy108]; with_reducible exact H2_) | (have H2_ := (Option.bind_some _ _).symm.trans H; with_reducible exact H2_) | with_reducible exact H | (rw [hy108]; exact H) | exact H
                    have Ny108 := Aside0.mk hy108
                    clear hy108
                    replace H := Option.bind_eq_some_iff.mp H
                    obtain ⟨t111, A350, H⟩ := H
                    replace H : ((inst_put.f t111 14 12).bind fun t112 => (some (Go.bits .or .u32 (Go.bits .or .u32 19 x3_2) t112))) = some r := H
                    have A35 := Aside0.mk A350
                    clear A350
                    replace H := Option.bind_eq_some_iff.mp H
                    obtain ⟨t112, A360, H⟩ := H
                    replace H : (some (Go.bits .or .u32 (Go.bits .or .u32 19 x3_2) t112)) = some r := H
                    have A36 := Aside0.mk A360
                    clear A360
                    obtain rfl := Option.some.inj H
                    have hcz37_0 : wc.cell? ⟨gb102, 0, none⟩ = some (.int .i64 a0_0) := (blk_cell BK102.out 0).trans rfl
                    have hcz37_1 : wc.cell? ⟨gb102, 1, none⟩ = some (.int .i64 a0_1) := (blk_cell BK102.out 1).trans rfl
                    have hcz37_2 : wc.cell? ⟨gb102, 2, none⟩ = some (.int .i64 a0_2) := (blk_cell BK102.out 2).trans rfl
                    have hcz37_3 : wc.cell? ⟨gb102, 3, none⟩ = some (.int .i64 a0_3) := (blk_cell BK102.out 3).trans rfl
                    have hcz37_4 : wc.cell? ⟨gb102, 4, none⟩ = some (.int .i64 a0_4) := (blk_cell BK102.out 4).trans rfl
                    have hcz37_5 : wc.cell? ⟨gb102, 5, none⟩ = some (.int .i64 a0_5) := (blk_cell BK102.out 5).trans rfl
                    have hcz37_6 : wc.cell? ⟨gb102, 6, none⟩ = some (.int .i64 a0_6) := (blk_cell BK102.out 6).trans rfl
                    have hcz37_7 : wc.cell? ⟨gb102, 7, none⟩ = some (.bool a0_7) := (blk_cell BK102.out 7).trans rfl
                    have hfz37_0 := blk_frozen BK102.out 0
                    have hfz37_1 := blk_frozen BK102.out 1
                    have hfz37_2 := blk_frozen BK102.out 2
                    have hfz37_3 := blk_frozen BK102.out 3
                    have hfz37_4 := blk_frozen BK102.out 4
                    have hfz37_5 := blk_frozen BK102.out 5
                    have hfz37_6 := blk_frozen BK102.out 6
                    have hfz37_7 := blk_frozen BK102.out 7
                    go_wp2_with (first | ((with_reducible refine gate_dst (N := 54) rfl ?_); refine Kd.R_lit (Kd.int .i64) _ 3 ?hg (N := 54) ?hd (xs := ([1, 0, 4, 5, 6, 0, 9, 10] : List Int)) (inner := [.int .i64 1, .int .i64 0, .int .i64 4, .int .i64 5, .int .i64 6, .int .i64 0, .int .i64 9, .int .i64 10]) (ok := fun _ => True) (okp := fun _ => True) ?hr ?hp (fun _ hk => hk) trivial (Below.refl _ _) (Nat.le_refl _) (by simp) ?_; (case hd => rfl); (case hg => rfl); (case hr => first | (go_simp; done) | (go_simp; rfl)); (case hp => exact (Reps.one (show Kd.M (Kd.int .i64) _ _ _ 1 [.int .i64 1] from rfl) (Reps.one (show Kd.M (Kd.int .i64) _ _ _ 0 [.int .i64 0] from rfl) (Reps.one (show Kd.M (Kd.int .i64) _ _ _ 4 [.int .i64 4] from rfl) (Reps.one (show Kd.M (Kd.int .i64) _ _ _ 5 [.int .i64 5] from rfl) (Reps.one (show Kd.M (Kd.int .i64) _ _ _ 6 [.int .i64 6] from rfl) (Reps.one (show Kd.M (Kd.int .i64) _ _ _ 0 [.int .i64 0] from rfl) (Reps.one (show Kd.M (Kd.int .i64) _ _ _ 9 [.int .i64 9] from rfl) (Reps.one (show Kd.M (Kd.int .i64) _ _ _ 10 [.int .i64 10] from rfl) (Reps.none _ _)))))))))); intro v109 w38 ho39 hb hg_ hnew_; clear hg_ hnew_; (first | rw [← Ny108.out] at ho39 | (simp only [Int.reduceToNat] at ho39; rw [← Ny108.out] at ho39)); have n0_ := Aside0.mk (Kd.R_lower ho39 (below_size (by repeat (first | (with_reducible first | exact HB.out | apply below_alloc | apply pw_below_drewN | apply below_drew1 | refine below_set ?_ GE102.out) | exact HB.out)))); have n1_ := Aside0.mk (blk_below (g := gb102) (o := .cells #[.int .i64 a0_0, .int .i64 a0_1, .int .i64 a0_2, .int .i64 a0_3, .int .i64 a0_4, .int .i64 a0_5, .int .i64 a0_6, .bool a0_7] 23 (0, 0)) (by (with_reducible repeat (first | refine blk_drewN ?_ _ | refine blk_drew ?_ | refine blk_alloc ?_ _)); exact BK102.out) hb); have n2_ := Aside0.mk (below_step (by repeat (first | (with_reducible first | exact HB.out | apply below_alloc | apply pw_below_drewN | apply below_drew1 | refine below_set ?_ GE102.out) | exact HB.out)) hb); clear BK102; clear HB; have HO110 := n0_; have BK102 := n1_; have HB := n2_; clear n0_ n1_ n2_; clear hb ho39; have hcz40_0 : w38.cell? ⟨gb102, 0, none⟩ = some (.int .i64 a0_0) := (blk_cell BK102.out 0).trans rfl; have hcz40_1 : w38.cell? ⟨gb102, 1, none⟩ = some (.int .i64 a0_1) := (blk_cell BK102.out 1).trans rfl; have hcz40_2 : w38.cell? ⟨gb102, 2, none⟩ = some (.int .i64 a0_2) := (blk_cell BK102.out 2).trans rfl; have hcz40_3 : w38.cell? ⟨gb102, 3, none⟩ = some (.int .i64 a0_3) := (blk_cell BK102.out 3).trans rfl; have hcz40_4 : w38.cell? ⟨gb102, 4, none⟩ = some (.int .i64 a0_4) := (blk_cell BK102.out 4).trans rfl; have hcz40_5 : w38.cell? ⟨gb102, 5, none⟩ = some (.int .i64 a0_5) := (blk_cell BK102.out 5).trans rfl; have hcz40_6 : w38.cell? ⟨gb102, 6, none⟩ = some (.int .i64 a0_6) := (blk_cell BK102.out 6).trans rfl; have hcz40_7 : w38.cell? ⟨gb102, 7, none⟩ = some (.bool a0_7) := (blk_cell BK102.out 7).trans rfl; have hfz40_0 := blk_frozen BK102.out 0; have hfz40_1 := blk_frozen BK102.out 1; have hfz40_2 := blk_frozen BK102.out 2; have hfz40_3 := blk_frozen BK102.out 3; have hfz40_4 := blk_frozen BK102.out 4; have hfz40_5 := blk_frozen BK102.out 5; have hfz40_6 := blk_frozen BK102.out 6; have hfz40_7 := blk_frozen BK102.out 7; obtain ⟨Ao41, co41, eo41⟩ := Kd.R_slice HO110.out; subst eo41) | ((with_reducible refine gate_callee (f := 65) rfl ?_); refine goesL_ (some 57) rfl rfl Tryz.func65 (by kernel_rfl) rfl #[.slice Ao41 y108.length co41, .int .i64 a0_1] rfl (by (try simp only [List.map_toArray, List.map_cons, List.map_nil]); first | done | rfl | (simp only [List.length_drop, List.length_take]; rfl)) ?_; (with_reducible refine (slices_Index_int_int.calls kj2 _ _ y108 a0_1 t111 _ ?side1 ?side2 A35.out).mono ?_); (case side1 => repeat (first | exact (Kd.R_reads' HO110.out).2.2 | (with_reducible refine Kd.C_alloc ?_ _) | (with_reducible refine Kd.C_drewN ?_ _) | (with_reducible refine Kd.C_drew ?_))); (case side2 => exact (Kd.R_reads' HO110.out).2.1); rintro e w' ⟨rfl, ⟨nd, rfl⟩⟩; refine ⟨_, rfl, ?_⟩) | ((with_reducible refine gate_callee (f := 64) rfl ?_); refine goesL_ (some 61) rfl rfl Tryz.func64 (by kernel_rfl) rfl #[.int .i64 t111, .int .i64 14, .int .i64 12] rfl (by (try simp only [List.map_toArray, List.map_cons, List.map_nil]); first | done | rfl | (simp only [List.length_drop, List.length_take]; rfl)) ?_; (with_reducible refine (inst_put.calls t111 14 12 t112 _ A36.out).mono ?_); rintro e w' ⟨rfl, ⟨nd, rfl⟩⟩; refine ⟨_, rfl, ?_⟩))
                    go_ret
                    exact ⟨by first | rfl | (simp [errW_none, errW_some] <;> rfl) | (simp [*, errW_none, errW_some] <;> rfl), by repeat (first | (with_reducible first | exact HB.out | apply below_alloc | apply pw_below_drewN | apply below_drew1 | refine below_set ?_ GE102.out) | exact HB.out)⟩

def inst_word_bits.f (a0 : Int) (a1 : Int) (a2 : Int) : Option (Int) := if 0 ≤ a2 then (if 0 ≤ (wrap64 ((wrap64 (a1 - a2)) + 1)) then (some (Go.bits .and .i64 (wrap64 (shr .u32 a0 a2)) (wrap64 ((shl .i64 1 (wrap64 ((wrap64 (a1 - a2)) + 1))) - 1)))) else (none)) else (none)
set_option maxRecDepth 100000 in
theorem inst_word_bits.calls (a0 : Int) (a1 : Int) (a2 : Int) (r : Int) (w : World) (h : inst_word_bits.f a0 a1 a2 = some r) :
    Calls Tryz.prog 131 #[.int .u32 a0, .int .i64 a1, .int .i64 a2] w fun e w' => e = .returned (.int .i64 r) ∧ Drawn0 w w' := by
  have H : (if 0 ≤ a2 then (if 0 ≤ (wrap64 ((wrap64 (a1 - a2)) + 1)) then (some (Go.bits .and .i64 (wrap64 (shr .u32 a0 a2)) (wrap64 ((shl .i64 1 (wrap64 ((wrap64 (a1 - a2)) + 1))) - 1)))) else (none)) else (none)) = some r := h
  clear h
  by_cases c4 : 0 ≤ a2
  · rw [if_pos c4] at H
    have c4b0 := eq_true c4
    have c4b1 : decide (0 ≤ a2) = true := decide_eq_true c4
    clear c4
    obtain ⟨ji5, hji5⟩ : ∃ j_ : Int, (shr .u32 a0 a2) = j_ := ⟨_, rfl⟩
    replace H : (if 0 ≤ (wrap64 ((wrap64 (a1 - a2)) + 1)) then (some (Go.bits .and .i64 (wrap64 (ji5)) (wrap64 ((shl .i64 1 (wrap64 ((wrap64 (a1 - a2)) + 1))) - 1)))) else (none)) = some r := by first | (rw [hji5] at H; exact H) | (simp only [hji5] at H ⊢; exact H)
    have hji5_ : (a0 / 2 ^ min a2.toNat 32) = ji5 := hji5
    have hji5z : a2 ≤ 32 → (a0 / 2 ^ a2.toNat) = ji5 := shr_small hji5
    obtain ⟨ji6, hji6⟩ : ∃ j_ : Int, (wrap64 ((wrap64 (a1 - a2)) + 1)) = j_ := ⟨_, rfl⟩
    replace H : (if 0 ≤ (ji6) then (some (Go.bits .and .i64 (wrap64 (ji5)) (wrap64 ((shl .i64 1 (ji6)) - 1)))) else (none)) = some r := by first | (rw [hji6] at H; exact H) | (simp only [hji6] at H ⊢; exact H)
    have hji6w : (IntKind.i64.wrap ((wrap64 (a1 - a2)) + 1)) = ji6 := (i64_w _).trans hji6
    by_cases c7 : 0 ≤ (ji6)
    · rw [if_pos c7] at H
      have c7b0 := eq_true c7
      have c7b1 : decide (0 ≤ (ji6)) = true := decide_eq_true c7
      clear c7
      obtain ⟨ji8, hji8⟩ : ∃ j_ : Int, (shl .i64 1 (ji6)) = j_ := ⟨_, rfl⟩
      replace H : (some (Go.bits .and .i64 (wrap64 (ji5)) (wrap64 ((ji8) - 1)))) = some r := by first | (rw [hji8] at H; exact H) | (simp only [hji8] at H ⊢; exact H)
      have hji8_ : (IntKind.i64.wrap (1 * 2 ^ min (ji6).toNat 64)) = ji8 := hji8
      have hji8z : (ji6) ≤ 64 → (IntKind.i64.wrap (1 * 2 ^ (ji6).toNat)) = ji8 := shl_small hji8
      have hji8u : (IntKind.i64.wrap (2 ^ min (ji6).toNat 64)) = ji8 := by have h_ := hji8_; rw [Int.one_mul] at h_; exact h_
      have hji8v : (ji6) ≤ 64 → (IntKind.i64.wrap (2 ^ (ji6).toNat)) = ji8 := fun hle_ => by have h_ := hji8z hle_; rw [Int.one_mul] at h_; exact h_
      have hji8y : (wrap64 (1 * 2 ^ min (ji6).toNat 64)) = ji8 := (i64_w _).symm.trans hji8_
      have hji8x : (ji6) ≤ 64 → (wrap64 (1 * 2 ^ (ji6).toNat)) = ji8 := fun h_ => (i64_w _).symm.trans (hji8z h_)
      obtain rfl := Option.some.inj H
      go_enter Tryz.func131, Tryz.ntmps131
      go_wp2
      repeat (go_quiet (fail); try go_wp2)
      go_ret
      exact ⟨by first | rfl | (simp; done) | (simp only [← hji5, ← hji6, ← hji8] <;> (first | rfl | simp)) | (simp [*]; done), by repeat (first | exact Drawn0.refl _ | apply Drawn0.step)⟩
    · rw [if_neg c7] at H
      exact absurd H (by simp)
  · rw [if_neg c4] at H
    exact absurd H (by simp)

end Go.Proofs.YtjapahcbhjjeiaaGreatDoor.PA
