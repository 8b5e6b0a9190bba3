-- PRINTED by print.py (a twelfth state) out of the translation. Not trusted: Lean checks it.
import Derived.Test.YtjapahcbhjjeiaaGreatDoorPAx0
namespace Go.Proofs.YtjapahcbhjjeiaaGreatDoor.PA
open Go.RowKit Go.Proofs.YtjapahcbhjjeiaaGreatDoorW.PrintWords Go.Proofs.YtjapahcbhjjeiaaGreatDoorW.PrintLast Go.Proofs.YtjapahcbhjjeiaaGreatDoorW.PrintMore
attribute [local go_sem] max2_int min2_int max_two min_two max_three min_three max_four min_four   -- for this text's walks alone
set_option linter.unusedVariables false
set_option linter.unusedSimpArgs false

def citadelref22_Dec.f : Nat → Int → Option (ByteArray)
  | 0, _ => none
  | k + 1, a0 => if a0 < 0 then ((citadelref22_Dec.f k (wrap64 (-a0))).bind fun t404 => (if 1 + t404.size ≤ 9223372036854775807 then (some ((⟨#[45]⟩ : ByteArray) ++ t404)) else (none))) else (if a0 < 10 then (if 0 ≤ a0 then (if a0 ≤ (wrap64 (a0 + 1)) then (if (wrap64 (a0 + 1)) ≤ 10 then (some ((⟨#[48, 49, 50, 51, 52, 53, 54, 55, 56, 57]⟩ : ByteArray).extract (a0 : Int).toNat ((wrap64 (a0 + 1)) : Int).toNat)) else (none)) else (none)) else (none)) else ((citadelref22_Dec.f k (wrap64 (Int.tdiv a0 10))).bind fun t405 => ((citadelref22_Dec.f k (Int.tmod a0 10)).bind fun t406 => (if t405.size + t406.size ≤ 9223372036854775807 then (some (t405 ++ t406)) else (none)))))
theorem citadelref22_Dec.mono_l : ∀ k, (∀ y0, LeO (citadelref22_Dec.f k y0) (citadelref22_Dec.f (k + 1) y0))
  | 0 => fun _ r h => by simp [citadelref22_Dec.f] at h
  | k + 1 => by
    have ih0 := citadelref22_Dec.mono_l k
    · intro y0
      unfold citadelref22_Dec.f
      repeat' first
      | (with_reducible exact ih0 _)
      | (with_reducible exact LeO.refl _)
      | (with_reducible exact LeO.none _)
      | (with_reducible refine LeO.ite ?_ ?_)
      | (with_reducible refine LeO.bind ?_ (fun _ => ?_))
      | exact ih0 _
      | exact LeO.none _
      | refine LeO.ite ?_ ?_
      | refine LeO.bind ?_ (fun _ => ?_)
theorem citadelref22_Dec.mono : ∀ a0 k, LeO (citadelref22_Dec.f k a0) (citadelref22_Dec.f (k + 1) a0) := by
  intro a0 k
  have ih0 := citadelref22_Dec.mono_l k
  exact ih0 a0
set_option maxHeartbeats 8000000 in
set_option maxRecDepth 100000 in
theorem citadelref22_Dec.calls (k : Nat) : ∀ (a0 : Int) (r : ByteArray) (w : World) (h : citadelref22_Dec.f k a0 = some r),
    Calls Tryz.prog 17 #[.int .i64 a0] w fun e w' => e = .returned (.string r) ∧ Drawn0 w w' := by
  induction k using Nat.strongRecOn with
  | _ k ih =>
  intro a0 r w h
  cases k with
  | zero => exact absurd h (by simp [citadelref22_Dec.f])
  | succ k =>
  simp only [citadelref22_Dec.f] at h
  have H : (if a0 < 0 then ((citadelref22_Dec.f k (wrap64 (-a0))).bind fun t404 => (if 1 + t404.size ≤ 9223372036854775807 then (some ((⟨#[45]⟩ : ByteArray) ++ t404)) else (none))) else (if a0 < 10 then (if 0 ≤ a0 then (if a0 ≤ (wrap64 (a0 + 1)) then (if (wrap64 (a0 + 1)) ≤ 10 then (some ((⟨#[48, 49, 50, 51, 52, 53, 54, 55, 56, 57]⟩ : ByteArray).extract (a0 : Int).toNat ((wrap64 (a0 + 1)) : Int).toNat)) else (none)) else (none)) else (none)) else ((citadelref22_Dec.f k (wrap64 (Int.tdiv a0 10))).bind fun t405 => ((citadelref22_Dec.f k (Int.tmod a0 10)).bind fun t406 => (if t405.size + t406.size ≤ 9223372036854775807 then (some (t405 ++ t406)) else (none)))))) = some r := h
  clear h
  by_cases c2 : a0 < 0
  · rw [if_pos c2] at H
    have c2b0 : decide (a0 < 0) = true := decide_eq_true c2
    clear c2
    replace H := Option.bind_eq_some_iff.mp H
    obtain ⟨t404, A30, H⟩ := H
    replace H : (if 1 + t404.size ≤ 9223372036854775807 then (some ((⟨#[45]⟩ : ByteArray) ++ t404)) else (none)) = some r := H
    have A3 := Aside0.mk A30
    clear A30
    by_cases c4 : 1 + t404.size ≤ 9223372036854775807
    · rw [if_pos c4] at H
      have c4b0 := eq_true c4
      have c4b1 : decide (1 + t404.size ≤ 9223372036854775807) = true := decide_eq_true c4
      try have c4b2 : (9223372036854775807 < 1 + t404.size) = False := eq_false (Nat.not_lt.2 c4)
      obtain rfl := Option.some.inj H
      go_enter Tryz.func17, Tryz.ntmps17
      go_wp2_with (first | ((with_reducible refine gate_callee (f := 17) rfl ?_); refine goesL_ (some 7) rfl rfl Tryz.func17 (by kernel_rfl) rfl #[.int .i64 (wrap64 (-a0))] rfl (by (try simp only [List.map_toArray, List.map_cons, List.map_nil]); first | done | rfl | (simp only [List.length_drop, List.length_take]; rfl)) ?_; (with_reducible refine (ih k (by omega) (wrap64 (-a0)) t404 _ A3.out).mono ?_); rintro e w' ⟨rfl, ⟨nd, rfl⟩⟩; refine ⟨_, rfl, ?_⟩))
      go_ret
      exact ⟨by first | rfl | (simp; done) | (simp [*]; done), by repeat (first | exact Drawn0.refl _ | apply Drawn0.step)⟩
    · rw [if_neg c4] at H
      exact absurd H (by simp)
  · rw [if_neg c2] at H
    have c2b0 : decide (a0 < 0) = false := decide_eq_false c2
    clear c2
    by_cases c5 : a0 < 10
    · rw [if_pos c5] at H
      have c5b0 : decide (a0 < 10) = true := decide_eq_true c5
      clear c5
      by_cases c6 : 0 ≤ a0
      · rw [if_pos c6] at H
        have c6b0 := eq_true c6
        have c6b1 : decide (0 ≤ a0) = true := decide_eq_true c6
        clear c6
        by_cases c7 : a0 ≤ (wrap64 (a0 + 1))
        · rw [if_pos c7] at H
          have c7b0 := eq_true c7
          have c7b1 : decide (a0 ≤ (wrap64 (a0 + 1))) = true := decide_eq_true c7
          by_cases c8 : (wrap64 (a0 + 1)) ≤ 10
          · rw [if_pos c8] at H
            have c8b0 := eq_true c8
            have c8b1 : decide ((wrap64 (a0 + 1)) ≤ 10) = true := decide_eq_true c8
            obtain rfl := Option.some.inj H
            go_enter Tryz.func17, Tryz.ntmps17
            go_wp2
            go_ret
            exact ⟨by first | rfl | (simp; done) | (simp [*]; done), by repeat (first | exact Drawn0.refl _ | apply Drawn0.step)⟩
          · rw [if_neg c8] at H
            exact absurd H (by simp)
        · rw [if_neg c7] at H
          exact absurd H (by simp)
      · rw [if_neg c6] at H
        exact absurd H (by simp)
    · rw [if_neg c5] at H
      have c5b0 : decide (a0 < 10) = false := decide_eq_false c5
      clear c5
      replace H := Option.bind_eq_some_iff.mp H
      obtain ⟨t405, A90, H⟩ := H
      replace H : ((citadelref22_Dec.f k (Int.tmod a0 10)).bind fun t406 => (if t405.size + t406.size ≤ 9223372036854775807 then (some (t405 ++ t406)) else (none))) = some r := H
      have A9 := Aside0.mk A90
      clear A90
      replace H := Option.bind_eq_some_iff.mp H
      obtain ⟨t406, A100, H⟩ := H
      replace H : (if t405.size + t406.size ≤ 9223372036854775807 then (some (t405 ++ t406)) else (none)) = some r := H
      have A10 := Aside0.mk A100
      clear A100
      by_cases c11 : t405.size + t406.size ≤ 9223372036854775807
      · rw [if_pos c11] at H
        have c11b0 := eq_true c11
        have c11b1 : decide (t405.size + t406.size ≤ 9223372036854775807) = true := decide_eq_true c11
        try have c11b2 : (9223372036854775807 < t405.size + t406.size) = False := eq_false (Nat.not_lt.2 c11)
        obtain rfl := Option.some.inj H
        go_enter Tryz.func17, Tryz.ntmps17
        go_wp2_with (first | ((with_reducible refine gate_callee (f := 17) rfl ?_); refine goesL_ (some 17) rfl rfl Tryz.func17 (by kernel_rfl) rfl #[.int .i64 (wrap64 (Int.tdiv a0 10))] rfl (by (try simp only [List.map_toArray, List.map_cons, List.map_nil]); first | done | rfl | (simp only [List.length_drop, List.length_take]; rfl)) ?_; (with_reducible refine (ih k (by omega) (wrap64 (Int.tdiv a0 10)) t405 _ A9.out).mono ?_); rintro e w' ⟨rfl, ⟨nd, rfl⟩⟩; refine ⟨_, rfl, ?_⟩) | ((with_reducible refine gate_callee (f := 17) rfl ?_); refine goesL_ (some 20) rfl rfl Tryz.func17 (by kernel_rfl) rfl #[.int .i64 (Int.tmod a0 10)] rfl (by (try simp only [List.map_toArray, List.map_cons, List.map_nil]); first | done | rfl | (simp only [List.length_drop, List.length_take]; rfl)) ?_; (with_reducible refine (ih k (by omega) (Int.tmod a0 10) t406 _ A10.out).mono ?_); rintro e w' ⟨rfl, ⟨nd, rfl⟩⟩; refine ⟨_, rfl, ?_⟩))
        go_ret
        exact ⟨by first | rfl | (simp; done) | (simp [*]; done), by repeat (first | exact Drawn0.refl _ | apply Drawn0.step)⟩
      · rw [if_neg c11] at H
        exact absurd H (by simp)

def citadelref02_in.f (a0 : Int) (a1 : Int) (a2 : Int) : Option (Bool) := if a0 ≥ a1 then (some (decide (a0 ≤ a2))) else (some false)
set_option maxHeartbeats 8000000 in
set_option maxRecDepth 100000 in
theorem citadelref02_in.calls (a0 : Int) (a1 : Int) (a2 : Int) (r : Bool) (w : World) (h : citadelref02_in.f a0 a1 a2 = some r) :
    Calls Tryz.prog 50 #[.int .i64 a0, .int .i64 a1, .int .i64 a2] w fun e w' => e = .returned (.bool r) ∧ Drawn0 w w' := by
  have H : (if a0 ≥ a1 then (some (decide (a0 ≤ a2))) else (some false)) = some r := h
  clear h
  by_cases c4 : a0 ≥ a1
  · rw [if_pos c4] at H
    have c4b0 : decide (a1 ≤ a0) = true := decide_eq_true c4
    clear c4
    obtain rfl := Option.some.inj H
    go_enter Tryz.func50, Tryz.ntmps50
    go_wp2
    go_ret
    exact ⟨by first | rfl | (simp; done) | (simp [*]; done), by repeat (first | exact Drawn0.refl _ | apply Drawn0.step)⟩
  · rw [if_neg c4] at H
    have c4b0 : decide (a1 ≤ a0) = false := decide_eq_false c4
    clear c4
    obtain rfl := Option.some.inj H
    go_enter Tryz.func50, Tryz.ntmps50
    go_wp2
    go_ret
    exact ⟨by first | rfl | (simp; done) | (simp [*]; done), by repeat (first | exact Drawn0.refl _ | apply Drawn0.step)⟩

def citadelref02_at.f (a0 : Int) (a1 : Int) (a2 : Int) : Option (Int) := if 0 ≤ (IntKind.u64.wrap (a1)) then (if (shl .i64 1 (IntKind.u64.wrap (a1))) = 0 then (none) else (if (Int.tmod a0 (shl .i64 1 (IntKind.u64.wrap (a1)))) < 0 then (if 0 ≤ (IntKind.u64.wrap (a2)) then (some (shl .u32 ((wrap64 ((Int.tmod a0 (shl .i64 1 (IntKind.u64.wrap (a1)))) + (shl .i64 1 (IntKind.u64.wrap (a1))))) % 4294967296) (IntKind.u64.wrap (a2)))) else (none)) else (if 0 ≤ (IntKind.u64.wrap (a2)) then (some (shl .u32 ((Int.tmod a0 (shl .i64 1 (IntKind.u64.wrap (a1)))) % 4294967296) (IntKind.u64.wrap (a2)))) else (none)))) else (none)
set_option maxHeartbeats 8000000 in
set_option maxRecDepth 100000 in
theorem citadelref02_at.calls (a0 : Int) (a1 : Int) (a2 : Int) (r : Int) (w : World) (h : citadelref02_at.f a0 a1 a2 = some r) :
    Calls Tryz.prog 76 #[.int .i64 a0, .int .i64 a1, .int .i64 a2] w fun e w' => e = .returned (.int .u32 r) ∧ Drawn0 w w' := by
  have H : (if 0 ≤ (IntKind.u64.wrap (a1)) then (if (shl .i64 1 (IntKind.u64.wrap (a1))) = 0 then (none) else (if (Int.tmod a0 (shl .i64 1 (IntKind.u64.wrap (a1)))) < 0 then (if 0 ≤ (IntKind.u64.wrap (a2)) then (some (shl .u32 ((wrap64 ((Int.tmod a0 (shl .i64 1 (IntKind.u64.wrap (a1)))) + (shl .i64 1 (IntKind.u64.wrap (a1))))) % 4294967296) (IntKind.u64.wrap (a2)))) else (none)) else (if 0 ≤ (IntKind.u64.wrap (a2)) then (some (shl .u32 ((Int.tmod a0 (shl .i64 1 (IntKind.u64.wrap (a1)))) % 4294967296) (IntKind.u64.wrap (a2)))) else (none)))) else (none)) = some r := h
  clear h
  obtain ⟨ji4, hji4⟩ : ∃ j_ : Int, (IntKind.u64.wrap (a1)) = j_ := ⟨_, rfl⟩
  replace H : (if 0 ≤ (ji4) then (if (shl .i64 1 (ji4)) = 0 then (none) else (if (Int.tmod a0 (shl .i64 1 (ji4))) < 0 then (if 0 ≤ (IntKind.u64.wrap (a2)) then (some (shl .u32 ((wrap64 ((Int.tmod a0 (shl .i64 1 (ji4))) + (shl .i64 1 (ji4)))) % 4294967296) (IntKind.u64.wrap (a2)))) else (none)) else (if 0 ≤ (IntKind.u64.wrap (a2)) then (some (shl .u32 ((Int.tmod a0 (shl .i64 1 (ji4))) % 4294967296) (IntKind.u64.wrap (a2)))) else (none)))) else (none)) = some r := by first | (rw [hji4] at H; exact H) | (simp only [hji4] at H ⊢; exact H)
  by_cases c5 : 0 ≤ (ji4)
  · rw [if_pos c5] at H
    have c5b0 := eq_true c5
    have c5b1 : decide (0 ≤ (ji4)) = true := decide_eq_true c5
    clear c5
    obtain ⟨ji6, hji6⟩ : ∃ j_ : Int, (shl .i64 1 (ji4)) = j_ := ⟨_, rfl⟩
    replace H : (if (ji6) = 0 then (none) else (if (Int.tmod a0 (ji6)) < 0 then (if 0 ≤ (IntKind.u64.wrap (a2)) then (some (shl .u32 ((wrap64 ((Int.tmod a0 (ji6)) + (ji6))) % 4294967296) (IntKind.u64.wrap (a2)))) else (none)) else (if 0 ≤ (IntKind.u64.wrap (a2)) then (some (shl .u32 ((Int.tmod a0 (ji6)) % 4294967296) (IntKind.u64.wrap (a2)))) else (none)))) = some r := by first | (rw [hji6] at H; exact H) | (simp only [hji6] at H ⊢; exact H)
    have hji6_ : (IntKind.i64.wrap (1 * 2 ^ min (ji4).toNat 64)) = ji6 := hji6
    have hji6z : (ji4) ≤ 64 → (IntKind.i64.wrap (1 * 2 ^ (ji4).toNat)) = ji6 := shl_small hji6
    have hji6u : (IntKind.i64.wrap (2 ^ min (ji4).toNat 64)) = ji6 := by have h_ := hji6_; rw [Int.one_mul] at h_; exact h_
    have hji6v : (ji4) ≤ 64 → (IntKind.i64.wrap (2 ^ (ji4).toNat)) = ji6 := fun hle_ => by have h_ := hji6z hle_; rw [Int.one_mul] at h_; exact h_
    have hji6y : (wrap64 (1 * 2 ^ min (ji4).toNat 64)) = ji6 := (i64_w _).symm.trans hji6_
    have hji6x : (ji4) ≤ 64 → (wrap64 (1 * 2 ^ (ji4).toNat)) = ji6 := fun h_ => (i64_w _).symm.trans (hji6z h_)
    by_cases c7 : (ji6) = 0
    · rw [if_pos c7] at H
      exact absurd H (by simp)
    · rw [if_neg c7] at H
      have c7b0 : ((ji6) == 0) = false := beq_eq_false_iff_ne.mpr c7
      have c7b1 : ((ji6) != 0) = true := bne_iff_ne.mpr c7
      by_cases c8 : (Int.tmod a0 (ji6)) < 0
      · rw [if_pos c8] at H
        have c8b0 : decide ((Int.tmod a0 (ji6)) < 0) = true := decide_eq_true c8
        clear c8
        have c9b0 := eq_true (of_decide_eq_true (by first | (with_reducible assumption) | assumption) : 0 ≤ (ji4))
        obtain ⟨ji11, hji11⟩ : ∃ j_ : Int, (IntKind.u64.wrap (a2)) = j_ := ⟨_, rfl⟩
        replace H : (if 0 ≤ (ji11) then (some (shl .u32 ((wrap64 ((Int.tmod a0 (ji6)) + (ji6))) % 4294967296) (ji11))) else (none)) = some r := by first | (rw [hji11] at H; exact H) | (simp only [hji11] at H ⊢; exact H)
        by_cases c12 : 0 ≤ (ji11)
        · rw [if_pos c12] at H
          have c12b0 := eq_true c12
          have c12b1 : decide (0 ≤ (ji11)) = true := decide_eq_true c12
          clear c12
          obtain ⟨ji13, hji13⟩ : ∃ j_ : Int, (shl .u32 ((wrap64 ((Int.tmod a0 (ji6)) + (ji6))) % 4294967296) (ji11)) = j_ := ⟨_, rfl⟩
          replace H : (some ji13) = some r := by first | (rw [hji13] at H; exact H) | (simp only [hji13] at H ⊢; exact H)
          have hji13_ : (IntKind.u32.wrap (((wrap64 ((Int.tmod a0 (ji6)) + (ji6))) % 4294967296) * 2 ^ min (ji11).toNat 32)) = ji13 := hji13
          have hji13z : (ji11) ≤ 32 → (IntKind.u32.wrap (((wrap64 ((Int.tmod a0 (ji6)) + (ji6))) % 4294967296) * 2 ^ (ji11).toNat)) = ji13 := shl_small hji13
          obtain rfl := Option.some.inj H
          go_enter Tryz.func76, Tryz.ntmps76
          go_wp2
          go_ret
          exact ⟨by first | rfl | (simp; done) | (simp only [← hji4, ← hji6, ← hji11, ← hji13] <;> (first | rfl | simp)) | (simp [*]; done), by repeat (first | exact Drawn0.refl _ | apply Drawn0.step)⟩
        · rw [if_neg c12] at H
          exact absurd H (by simp)
      · rw [if_neg c8] at H
        have c8b0 : decide ((Int.tmod a0 (ji6)) < 0) = false := decide_eq_false c8
        clear c8
        obtain ⟨ji14, hji14⟩ : ∃ j_ : Int, (IntKind.u64.wrap (a2)) = j_ := ⟨_, rfl⟩
        replace H : (if 0 ≤ (ji14) then (some (shl .u32 ((Int.tmod a0 (ji6)) % 4294967296) (ji14))) else (none)) = some r := by first | (rw [hji14] at H; exact H) | (simp only [hji14] at H ⊢; exact H)
        by_cases c15 : 0 ≤ (ji14)
        · rw [if_pos c15] at H
          have c15b0 := eq_true c15
          have c15b1 : decide (0 ≤ (ji14)) = true := decide_eq_true c15
          clear c15
          obtain ⟨ji16, hji16⟩ : ∃ j_ : Int, (shl .u32 ((Int.tmod a0 (ji6)) % 4294967296) (ji14)) = j_ := ⟨_, rfl⟩
          replace H : (some ji16) = some r := by first | (rw [hji16] at H; exact H) | (simp only [hji16] at H ⊢; exact H)
          have hji16_ : (IntKind.u32.wrap (((Int.tmod a0 (ji6)) % 4294967296) * 2 ^ min (ji14).toNat 32)) = ji16 := hji16
          have hji16z : (ji14) ≤ 32 → (IntKind.u32.wrap (((Int.tmod a0 (ji6)) % 4294967296) * 2 ^ (ji14).toNat)) = ji16 := shl_small hji16
          obtain rfl := Option.some.inj H
          go_enter Tryz.func76, Tryz.ntmps76
          go_wp2
          go_ret
          exact ⟨by first | rfl | (simp; done) | (simp only [← hji4, ← hji6, ← hji14, ← hji16] <;> (first | rfl | simp)) | (simp [*]; done), by repeat (first | exact Drawn0.refl _ | apply Drawn0.step)⟩
        · rw [if_neg c15] at H
          exact absurd H (by simp)
  · rw [if_neg c5] at H
    exact absurd H (by simp)

def citadelref02_pick.f (l0 : List Int) (a1 : Int) : Option (Int) := if a1 < 0 then (some 0) else (if a1 ≥ (l0.length : Int) then (some 0) else (if 0 ≤ a1 then (if a1 < (l0.length : Int) then (some (rd l0 a1)) else (none)) else (none)))
set_option maxHeartbeats 8000000 in
set_option maxRecDepth 100000 in
theorem citadelref02_pick.calls (A0 : Option Addr) (c0 : Nat) (l0 : List Int) (a1 : Int) (r : Int) (w : World) (hr0 : Kd.C (Kd.int .i64) w A0 l0.length l0) (hc0 : l0.length ≤ c0) (h : citadelref02_pick.f l0 a1 = some r) :
    Calls Tryz.prog 77 #[.slice A0 l0.length c0, .int .i64 a1] w fun e w' => e = .returned (.int .i64 r) ∧ Drawn0 w w' := by
  have HR0 := Aside0.mk hr0
  have HC0 := Aside0.mk hc0
  clear hr0 hc0
  have H : (if a1 < 0 then (some 0) else (if a1 ≥ (l0.length : Int) then (some 0) else (if 0 ≤ a1 then (if a1 < (l0.length : Int) then (some (rd l0 a1)) else (none)) else (none)))) = some r := h
  clear h
  by_cases c3 : a1 < 0
  · rw [if_pos c3] at H
    have c3b0 : decide (a1 < 0) = true := decide_eq_true c3
    clear c3
    obtain rfl := Option.some.inj H
    go_enter Tryz.func77, Tryz.ntmps77
    go_wp2
    go_ret
    exact ⟨by first | rfl | (simp; done) | (simp [*]; done), by repeat (first | exact Drawn0.refl _ | apply Drawn0.step)⟩
  · rw [if_neg c3] at H
    have c3b0 : decide (a1 < 0) = false := decide_eq_false c3
    clear c3
    by_cases c4 : a1 ≥ (l0.length : Int)
    · rw [if_pos c4] at H
      have c4b0 : decide ((l0.length : Int) ≤ a1) = true := decide_eq_true c4
      clear c4
      obtain rfl := Option.some.inj H
      go_enter Tryz.func77, Tryz.ntmps77
      go_wp2
      go_ret
      exact ⟨by first | rfl | (simp; done) | (simp [*]; done), by repeat (first | exact Drawn0.refl _ | apply Drawn0.step)⟩
    · rw [if_neg c4] at H
      have c4b0 : decide ((l0.length : Int) ≤ a1) = false := decide_eq_false c4
      clear c4
      by_cases c5 : 0 ≤ a1
      · rw [if_pos c5] at H
        have c5b0 : decide (0 ≤ a1) = true := decide_eq_true c5
        clear c5
        by_cases c6 : a1 < (l0.length : Int)
        · rw [if_pos c6] at H
          have c6b0 : decide (a1 < (l0.length : Int)) = true := decide_eq_true c6
          clear c6
          obtain rfl := Option.some.inj H
          have p407 : 0 ≤ (a1 : Int) := of_decide_eq_true (by first | (with_reducible assumption) | assumption)
          have q407 : a1 < (l0.length : Int) := of_decide_eq_true (by first | (with_reducible assumption) | assumption)
          obtain ⟨ad407, e407, hx407_0⟩ := Kd.at_int HR0.out a1 p407 q407
          cases e407
          replace p407 := eq_true p407
          replace q407 := eq_true q407
          go_enter Tryz.func77, Tryz.ntmps77
          go_wp2
          go_ret
          exact ⟨by first | rfl | (simp; done) | (simp [*]; done), by repeat (first | exact Drawn0.refl _ | apply Drawn0.step)⟩
        · rw [if_neg c6] at H
          exact absurd H (by simp)
      · rw [if_neg c5] at H
        exact absurd H (by simp)

def citadelref02_bits.f (a0 : Int) (a1 : Int) (a2 : Int) : Option (Int) := if 0 ≤ (IntKind.u64.wrap (a2)) then (if 0 ≤ (IntKind.u64.wrap (wrap64 ((wrap64 (a1 - a2)) + 1))) then (if (shl .i64 1 (IntKind.u64.wrap (wrap64 ((wrap64 (a1 - a2)) + 1)))) = 0 then (none) else (some (Int.tmod (wrap64 (shr .u32 a0 (IntKind.u64.wrap (a2)))) (shl .i64 1 (IntKind.u64.wrap (wrap64 ((wrap64 (a1 - a2)) + 1))))))) else (none)) else (none)
set_option maxHeartbeats 8000000 in
set_option maxRecDepth 100000 in
theorem citadelref02_bits.calls (a0 : Int) (a1 : Int) (a2 : Int) (r : Int) (w : World) (h : citadelref02_bits.f a0 a1 a2 = some r) :
    Calls Tryz.prog 79 #[.int .u32 a0, .int .i64 a1, .int .i64 a2] w fun e w' => e = .returned (.int .i64 r) ∧ Drawn0 w w' := by
  have H : (if 0 ≤ (IntKind.u64.wrap (a2)) then (if 0 ≤ (IntKind.u64.wrap (wrap64 ((wrap64 (a1 - a2)) + 1))) then (if (shl .i64 1 (IntKind.u64.wrap (wrap64 ((wrap64 (a1 - a2)) + 1)))) = 0 then (none) else (some (Int.tmod (wrap64 (shr .u32 a0 (IntKind.u64.wrap (a2)))) (shl .i64 1 (IntKind.u64.wrap (wrap64 ((wrap64 (a1 - a2)) + 1))))))) else (none)) else (none)) = some r := h
  clear h
  obtain ⟨ji4, hji4⟩ : ∃ j_ : Int, (IntKind.u64.wrap (a2)) = j_ := ⟨_, rfl⟩
  replace H : (if 0 ≤ (ji4) then (if 0 ≤ (IntKind.u64.wrap (wrap64 ((wrap64 (a1 - a2)) + 1))) then (if (shl .i64 1 (IntKind.u64.wrap (wrap64 ((wrap64 (a1 - a2)) + 1)))) = 0 then (none) else (some (Int.tmod (wrap64 (shr .u32 a0 (ji4))) (shl .i64 1 (IntKind.u64.wrap (wrap64 ((wrap64 (a1 - a2)) + 1))))))) else (none)) else (none)) = some r := by first | (rw [hji4] at H; exact H) | (simp only [hji4] at H ⊢; exact H)
  by_cases c5 : 0 ≤ (ji4)
  · rw [if_pos c5] at H
    have c5b0 := eq_true c5
    have c5b1 : decide (0 ≤ (ji4)) = true := decide_eq_true c5
    clear c5
    obtain ⟨ji6, hji6⟩ : ∃ j_ : Int, (shr .u32 a0 (ji4)) = j_ := ⟨_, rfl⟩
    replace H : (if 0 ≤ (IntKind.u64.wrap (wrap64 ((wrap64 (a1 - a2)) + 1))) then (if (shl .i64 1 (IntKind.u64.wrap (wrap64 ((wrap64 (a1 - a2)) + 1)))) = 0 then (none) else (some (Int.tmod (wrap64 (ji6)) (shl .i64 1 (IntKind.u64.wrap (wrap64 ((wrap64 (a1 - a2)) + 1))))))) else (none)) = some r := by first | (rw [hji6] at H; exact H) | (simp only [hji6] at H ⊢; exact H)
    have hji6_ : (a0 / 2 ^ min (ji4).toNat 32) = ji6 := hji6
    have hji6z : (ji4) ≤ 32 → (a0 / 2 ^ (ji4).toNat) = ji6 := shr_small hji6
    obtain ⟨ji7, hji7⟩ : ∃ j_ : Int, (IntKind.u64.wrap (wrap64 ((wrap64 (a1 - a2)) + 1))) = j_ := ⟨_, rfl⟩
    replace H : (if 0 ≤ (ji7) then (if (shl .i64 1 (ji7)) = 0 then (none) else (some (Int.tmod (wrap64 (ji6)) (shl .i64 1 (ji7))))) else (none)) = some r := by first | (rw [hji7] at H; exact H) | (simp only [hji7] at H ⊢; exact H)
    by_cases c8 : 0 ≤ (ji7)
    · rw [if_pos c8] at H
      have c8b0 := eq_true c8
      have c8b1 : decide (0 ≤ (ji7)) = true := decide_eq_true c8
      clear c8
      obtain ⟨ji9, hji9⟩ : ∃ j_ : Int, (shl .i64 1 (ji7)) = j_ := ⟨_, rfl⟩
      replace H : (if (ji9) = 0 then (none) else (some (Int.tmod (wrap64 (ji6)) (ji9)))) = some r := by first | (rw [hji9] at H; exact H) | (simp only [hji9] at H ⊢; exact H)
      have hji9_ : (IntKind.i64.wrap (1 * 2 ^ min (ji7).toNat 64)) = ji9 := hji9
      have hji9z : (ji7) ≤ 64 → (IntKind.i64.wrap (1 * 2 ^ (ji7).toNat)) = ji9 := shl_small hji9
      have hji9u : (IntKind.i64.wrap (2 ^ min (ji7).toNat 64)) = ji9 := by have h_ := hji9_; rw [Int.one_mul] at h_; exact h_
      have hji9v : (ji7) ≤ 64 → (IntKind.i64.wrap (2 ^ (ji7).toNat)) = ji9 := fun hle_ => by have h_ := hji9z hle_; rw [Int.one_mul] at h_; exact h_
      have hji9y : (wrap64 (1 * 2 ^ min (ji7).toNat 64)) = ji9 := (i64_w _).symm.trans hji9_
      have hji9x : (ji7) ≤ 64 → (wrap64 (1 * 2 ^ (ji7).toNat)) = ji9 := fun h_ => (i64_w _).symm.trans (hji9z h_)
      by_cases c10 : (ji9) = 0
      · rw [if_pos c10] at H
        exact absurd H (by simp)
      · rw [if_neg c10] at H
        have c10b0 : ((ji9) == 0) = false := beq_eq_false_iff_ne.mpr c10
        have c10b1 : ((ji9) != 0) = true := bne_iff_ne.mpr c10
        obtain rfl := Option.some.inj H
        go_enter Tryz.func79, Tryz.ntmps79
        go_wp2
        go_ret
        exact ⟨by first | rfl | (simp; done) | (simp only [← hji4, ← hji6, ← hji7, ← hji9] <;> (first | rfl | simp)) | (simp [*]; done), by repeat (first | exact Drawn0.refl _ | apply Drawn0.step)⟩
    · rw [if_neg c8] at H
      exact absurd H (by simp)
  · rw [if_neg c5] at H
    exact absurd H (by simp)

def citadelref02_signed.f (a0 : Int) (a1 : Int) : Option (Int) := if 0 ≤ (IntKind.u64.wrap (wrap64 (a1 - 1))) then (if a0 ≥ (shl .i64 1 (IntKind.u64.wrap (wrap64 (a1 - 1)))) then (if 0 ≤ (IntKind.u64.wrap (a1)) then (some (wrap64 (a0 - (shl .i64 1 (IntKind.u64.wrap (a1)))))) else (none)) else (some a0)) else (none)
set_option maxHeartbeats 8000000 in
set_option maxRecDepth 100000 in
theorem citadelref02_signed.calls (a0 : Int) (a1 : Int) (r : Int) (w : World) (h : citadelref02_signed.f a0 a1 = some r) :
    Calls Tryz.prog 117 #[.int .i64 a0, .int .i64 a1] w fun e w' => e = .returned (.int .i64 r) ∧ Drawn0 w w' := by
  have H : (if 0 ≤ (IntKind.u64.wrap (wrap64 (a1 - 1))) then (if a0 ≥ (shl .i64 1 (IntKind.u64.wrap (wrap64 (a1 - 1)))) then (if 0 ≤ (IntKind.u64.wrap (a1)) then (some (wrap64 (a0 - (shl .i64 1 (IntKind.u64.wrap (a1)))))) else (none)) else (some a0)) else (none)) = some r := h
  clear h
  obtain ⟨ji3, hji3⟩ : ∃ j_ : Int, (IntKind.u64.wrap (wrap64 (a1 - 1))) = j_ := ⟨_, rfl⟩
  replace H : (if 0 ≤ (ji3) then (if a0 ≥ (shl .i64 1 (ji3)) then (if 0 ≤ (IntKind.u64.wrap (a1)) then (some (wrap64 (a0 - (shl .i64 1 (IntKind.u64.wrap (a1)))))) else (none)) else (some a0)) else (none)) = some r := by first | (rw [hji3] at H; exact H) | (simp only [hji3] at H ⊢; exact H)
  by_cases c4 : 0 ≤ (ji3)
  · rw [if_pos c4] at H
    have c4b0 := eq_true c4
    have c4b1 : decide (0 ≤ (ji3)) = true := decide_eq_true c4
    clear c4
    obtain ⟨ji5, hji5⟩ : ∃ j_ : Int, (shl .i64 1 (ji3)) = j_ := ⟨_, rfl⟩
    replace H : (if a0 ≥ (ji5) then (if 0 ≤ (IntKind.u64.wrap (a1)) then (some (wrap64 (a0 - (shl .i64 1 (IntKind.u64.wrap (a1)))))) else (none)) else (some a0)) = some r := by first | (rw [hji5] at H; exact H) | (simp only [hji5] at H ⊢; exact H)
    have hji5_ : (IntKind.i64.wrap (1 * 2 ^ min (ji3).toNat 64)) = ji5 := hji5
    have hji5z : (ji3) ≤ 64 → (IntKind.i64.wrap (1 * 2 ^ (ji3).toNat)) = ji5 := shl_small hji5
    have hji5u : (IntKind.i64.wrap (2 ^ min (ji3).toNat 64)) = ji5 := by have h_ := hji5_; rw [Int.one_mul] at h_; exact h_
    have hji5v : (ji3) ≤ 64 → (IntKind.i64.wrap (2 ^ (ji3).toNat)) = ji5 := fun hle_ => by have h_ := hji5z hle_; rw [Int.one_mul] at h_; exact h_
    have hji5y : (wrap64 (1 * 2 ^ min (ji3).toNat 64)) = ji5 := (i64_w _).symm.trans hji5_
    have hji5x : (ji3) ≤ 64 → (wrap64 (1 * 2 ^ (ji3).toNat)) = ji5 := fun h_ => (i64_w _).symm.trans (hji5z h_)
    by_cases c6 : a0 ≥ (ji5)
    · rw [if_pos c6] at H
      have c6b0 : decide ((ji5) ≤ a0) = true := decide_eq_true c6
      clear c6
      obtain ⟨ji7, hji7⟩ : ∃ j_ : Int, (IntKind.u64.wrap (a1)) = j_ := ⟨_, rfl⟩
      replace H : (if 0 ≤ (ji7) then (some (wrap64 (a0 - (shl .i64 1 (ji7))))) else (none)) = some r := by first | (rw [hji7] at H; exact H) | (simp only [hji7] at H ⊢; exact H)
      by_cases c8 : 0 ≤ (ji7)
      · rw [if_pos c8] at H
        have c8b0 := eq_true c8
        have c8b1 : decide (0 ≤ (ji7)) = true := decide_eq_true c8
        clear c8
        obtain ⟨ji9, hji9⟩ : ∃ j_ : Int, (shl .i64 1 (ji7)) = j_ := ⟨_, rfl⟩
        replace H : (some (wrap64 (a0 - (ji9)))) = some r := by first | (rw [hji9] at H; exact H) | (simp only [hji9] at H ⊢; exact H)
        have hji9_ : (IntKind.i64.wrap (1 * 2 ^ min (ji7).toNat 64)) = ji9 := hji9
        have hji9z : (ji7) ≤ 64 → (IntKind.i64.wrap (1 * 2 ^ (ji7).toNat)) = ji9 := shl_small hji9
        have hji9u : (IntKind.i64.wrap (2 ^ min (ji7).toNat 64)) = ji9 := by have h_ := hji9_; rw [Int.one_mul] at h_; exact h_
        have hji9v : (ji7) ≤ 64 → (IntKind.i64.wrap (2 ^ (ji7).toNat)) = ji9 := fun hle_ => by have h_ := hji9z hle_; rw [Int.one_mul] at h_; exact h_
        have hji9y : (wrap64 (1 * 2 ^ min (ji7).toNat 64)) = ji9 := (i64_w _).symm.trans hji9_
        have hji9x : (ji7) ≤ 64 → (wrap64 (1 * 2 ^ (ji7).toNat)) = ji9 := fun h_ => (i64_w _).symm.trans (hji9z h_)
        obtain rfl := Option.some.inj H
        go_enter Tryz.func117, Tryz.ntmps117
        go_wp2
        go_ret
        exact ⟨by first | rfl | (simp; done) | (simp only [← hji3, ← hji5, ← hji7, ← hji9] <;> (first | rfl | simp)) | (simp [*]; done), by repeat (first | exact Drawn0.refl _ | apply Drawn0.step)⟩
      · rw [if_neg c8] at H
        exact absurd H (by simp)
    · rw [if_neg c6] at H
      have c6b0 : decide ((ji5) ≤ a0) = false := decide_eq_false c6
      clear c6
      obtain rfl := Option.some.inj H
      go_enter Tryz.func117, Tryz.ntmps117
      go_wp2
      go_ret
      exact ⟨by first | rfl | (simp; done) | (simp only [← hji3, ← hji5] <;> (first | rfl | simp)) | (simp [*]; done), by repeat (first | exact Drawn0.refl _ | apply Drawn0.step)⟩
  · rw [if_neg c4] at H
    exact absurd H (by simp)

def citadellaw00_Place.f (a0 : Int) (a1 : Int) : Option (Int) := if a1 = 0 then (none) else (if (Int.tmod a0 a1) < 0 then (some (wrap64 ((Int.tmod a0 a1) + a1))) else (some (Int.tmod a0 a1)))
set_option maxHeartbeats 8000000 in
set_option maxRecDepth 100000 in
theorem citadellaw00_Place.calls (a0 : Int) (a1 : Int) (r : Int) (w : World) (h : citadellaw00_Place.f a0 a1 = some r) :
    Calls Tryz.prog 16 #[.int .i64 a0, .int .i64 a1] w fun e w' => e = .returned (.int .i64 r) ∧ Drawn0 w w' := by
  have H : (if a1 = 0 then (none) else (if (Int.tmod a0 a1) < 0 then (some (wrap64 ((Int.tmod a0 a1) + a1))) else (some (Int.tmod a0 a1)))) = some r := h
  clear h
  by_cases c3 : a1 = 0
  · rw [if_pos c3] at H
    exact absurd H (by simp)
  · rw [if_neg c3] at H
    have c3b0 : (a1 == 0) = false := beq_eq_false_iff_ne.mpr c3
    have c3b1 : (a1 != 0) = true := bne_iff_ne.mpr c3
    by_cases c4 : (Int.tmod a0 a1) < 0
    · rw [if_pos c4] at H
      have c4b0 : decide ((Int.tmod a0 a1) < 0) = true := decide_eq_true c4
      clear c4
      obtain rfl := Option.some.inj H
      go_enter Tryz.func16, Tryz.ntmps16
      go_wp2
      go_ret
      exact ⟨by first | rfl | (simp; done) | (simp [*]; done), by repeat (first | exact Drawn0.refl _ | apply Drawn0.step)⟩
    · rw [if_neg c4] at H
      have c4b0 : decide ((Int.tmod a0 a1) < 0) = false := decide_eq_false c4
      clear c4
      obtain rfl := Option.some.inj H
      go_enter Tryz.func16, Tryz.ntmps16
      go_wp2
      go_ret
      exact ⟨by first | rfl | (simp; done) | (simp [*]; done), by repeat (first | exact Drawn0.refl _ | apply Drawn0.step)⟩


end Go.Proofs.YtjapahcbhjjeiaaGreatDoor.PA
