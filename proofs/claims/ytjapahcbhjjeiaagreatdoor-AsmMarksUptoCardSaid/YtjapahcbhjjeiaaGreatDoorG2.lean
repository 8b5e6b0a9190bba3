/- Several texts in one. -/
import Derived.Test.YtjapahcbhjjeiaaGreatDoorF1
import Derived.Test.YtjapahcbhjjeiaaGreatDoorE7
import Derived.Test.YtjapahcbhjjeiaaGreatDoorPAx1
import Derived.Test.YtjapahcbhjjeiaaGreatDoorPAx0
/- The fields of a word, as the code reads them: inst's bits, op, rd, f3, rs1, rs2, f7, and the immediates. -/
namespace Go.Proofs.YtjapahcbhjjeiaaGreatDoor.AS
open Go.RowKit Go.Proofs.YtjapahcbhjjeiaaGreatDoorW.PrintWords Go.Proofs.YtjapahcbhjjeiaaGreatDoorW.PrintLast Go.Proofs.YtjapahcbhjjeiaaGreatDoorW.PrintMore Go.Proofs.YtjapahcbhjjeiaaGreatDoor.PA
set_option linter.unusedVariables false
set_option linter.unusedSimpArgs false

theorem w64 {n : Int} (h0 : -9223372036854775808 ≤ n) (h1 : n < 9223372036854775808) : wrap64 n = n := by rw [← i64_w, IntKind.wrap_i64]; omega
theorem wi64 {n : Int} (h0 : -9223372036854775808 ≤ n) (h1 : n < 9223372036854775808) : IntKind.i64.wrap n = n := by rw [IntKind.wrap_i64]; omega
theorem wu32 {n : Int} (h0 : 0 ≤ n) (h1 : n < 4294967296) : IntKind.u32.wrap n = n := by rw [IntKind.wrap_u32]; omega
theorem pow_b {n : Nat} (h : n ≤ 32) : (1 : Int) ≤ 2 ^ n ∧ (2 : Int) ^ n ≤ 4294967296 := by
  have h1 : (2 : Nat) ^ n ≤ 2 ^ 32 := Nat.pow_le_pow_right (by omega) h
  have h2 : 1 ≤ (2 : Nat) ^ n := Nat.one_le_two_pow
  have e : ((2 : Int) ^ n) = (((2 : Nat) ^ n : Nat) : Int) := by simp
  omega

theorem and_i64 (x : Int) (n : Nat) (h0 : 0 ≤ x) (h1 : x < 9223372036854775808) (hn : n ≤ 63) : Go.bits .and .i64 x (2 ^ n - 1) = x % 2 ^ n :=
  bits_mask .i64 63 (by decide) (fun m a b => wi64 (by omega) b) n hn x h0 h1

theorem bits_ok (w : Int) (hi lo : Nat) (h : lo ≤ hi) (h31 : hi ≤ 31) (w0 : 0 ≤ w) (w1 : w < 4294967296) : inst_word_bits.f w hi lo = some (fl w hi lo) := by
  unfold inst_word_bits.f
  rw [if_pos (by omega), w64 (n := (hi : Int) - lo) (by omega) (by omega), w64 (n := (hi : Int) - lo + 1) (by omega) (by omega), if_pos (by omega)]
  congr 1
  have e1 : ((hi : Int) - lo + 1).toNat = hi - lo + 1 := by omega
  have e2 : ((lo : Nat) : Int).toNat = lo := by omega
  have hp := pow_b (n := hi - lo + 1) (by omega)
  have hq := pow_b (n := lo) (by omega)
  unfold shl shr
  rw [e1, e2, Nat.min_eq_left (by show lo ≤ 32; omega), Nat.min_eq_left (by show hi - lo + 1 ≤ 64; omega), Int.one_mul, wi64 (n := (2 : Int) ^ (hi - lo + 1)) (by omega) (by omega), w64 (n := (2 : Int) ^ (hi - lo + 1) - 1) (by omega) (by omega)]
  have d0 : 0 ≤ w / 2 ^ lo := Int.ediv_nonneg w0 (by omega)
  have d1 : w / 2 ^ lo ≤ w := Int.ediv_le_self _ w0
  rw [w64 (n := w / 2 ^ lo) (by omega) (by omega), and_i64 _ _ d0 (by omega) (by omega)]
  rfl

theorem bits_calls {w : Int} (hi lo : Nat) (W : World) (w0 : 0 ≤ w) (w1 : w < 4294967296) (h : lo ≤ hi) (h31 : hi ≤ 31) :
    Calls Tryz.prog 131 #[.int .u32 w, .int .i64 hi, .int .i64 lo] W fun e w' => e = .returned (.int .i64 (fl w hi lo)) ∧ Drawn0 W w' := inst_word_bits.calls w hi lo _ W (bits_ok w hi lo h h31 w0 w1)

end Go.Proofs.YtjapahcbhjjeiaaGreatDoor.AS

-- PRINTED by print.py (a twelfth state) out of the translation. Not trusted: Lean checks it.
namespace Go.Proofs.YtjapahcbhjjeiaaGreatDoor.PA
open Go.RowKit Go.Proofs.YtjapahcbhjjeiaaGreatDoorW.PrintWords Go.Proofs.YtjapahcbhjjeiaaGreatDoorW.PrintLast Go.Proofs.YtjapahcbhjjeiaaGreatDoorW.PrintMore
attribute [local go_sem] max2_int min2_int max_two min_two max_three min_three max_four min_four   -- for this text's walks alone
set_option linter.unusedVariables false
set_option maxHeartbeats 8000000
set_option linter.unusedSimpArgs false

def inst_pick.f (l0 : List Int) (a1 : Int) : Option (Int) := if a1 < 0 then (some 0) else (if a1 ≥ (l0.length : Int) then (some 0) else (if 0 ≤ a1 then (if a1 < (l0.length : Int) then (some (rd l0 a1)) else (none)) else (none)))
set_option maxRecDepth 100000 in
theorem inst_pick.calls (A0 : Option Addr) (c0 : Nat) (l0 : List Int) (a1 : Int) (r : Int) (w : World) (hr0 : Kd.C (Kd.int .i64) w A0 l0.length l0) (hc0 : l0.length ≤ c0) (h : inst_pick.f l0 a1 = some r) :
    Calls Tryz.prog 130 #[.slice A0 l0.length c0, .int .i64 a1] w fun e w' => e = .returned (.int .i64 r) ∧ Drawn0 w w' := by
  have HR0 := Aside0.mk hr0
  have HC0 := Aside0.mk hc0
  clear hr0 hc0
  have H : (if a1 < 0 then (some 0) else (if a1 ≥ (l0.length : Int) then (some 0) else (if 0 ≤ a1 then (if a1 < (l0.length : Int) then (some (rd l0 a1)) else (none)) else (none)))) = some r := h
  clear h
  by_cases c3 : a1 < 0
  · rw [if_pos c3] at H
    have c3b0 : decide (a1 < 0) = true := decide_eq_true c3
    clear c3
    obtain rfl := Option.some.inj H
    go_enter Tryz.func130, Tryz.ntmps130
    go_wp2
    go_ret
    exact ⟨by first | rfl | (simp; done) | (simp [*]; done), by repeat (first | exact Drawn0.refl _ | apply Drawn0.step)⟩
  · rw [if_neg c3] at H
    have c3b0 : decide (a1 < 0) = false := decide_eq_false c3
    clear c3
    by_cases c4 : a1 ≥ (l0.length : Int)
    · rw [if_pos c4] at H
      have c4b0 : decide ((l0.length : Int) ≤ a1) = true := decide_eq_true c4
      clear c4
      obtain rfl := Option.some.inj H
      go_enter Tryz.func130, Tryz.ntmps130
      go_wp2
      go_ret
      exact ⟨by first | rfl | (simp; done) | (simp [*]; done), by repeat (first | exact Drawn0.refl _ | apply Drawn0.step)⟩
    · rw [if_neg c4] at H
      have c4b0 : decide ((l0.length : Int) ≤ a1) = false := decide_eq_false c4
      clear c4
      by_cases c5 : 0 ≤ a1
      · rw [if_pos c5] at H
        have c5b0 : decide (0 ≤ a1) = true := decide_eq_true c5
        clear c5
        by_cases c6 : a1 < (l0.length : Int)
        · rw [if_pos c6] at H
          have c6b0 : decide (a1 < (l0.length : Int)) = true := decide_eq_true c6
          clear c6
          obtain rfl := Option.some.inj H
          have p116 : 0 ≤ (a1 : Int) := of_decide_eq_true (by first | (with_reducible assumption) | assumption)
          have q116 : a1 < (l0.length : Int) := of_decide_eq_true (by first | (with_reducible assumption) | assumption)
          obtain ⟨ad116, e116, hx116_0⟩ := Kd.at_int HR0.out a1 p116 q116
          cases e116
          replace p116 := eq_true p116
          replace q116 := eq_true q116
          go_enter Tryz.func130, Tryz.ntmps130
          go_wp2
          go_ret
          exact ⟨by first | rfl | (simp; done) | (simp [*]; done), by repeat (first | exact Drawn0.refl _ | apply Drawn0.step)⟩
        · rw [if_neg c6] at H
          exact absurd H (by simp)
      · rw [if_neg c5] at H
        exact absurd H (by simp)

end Go.Proofs.YtjapahcbhjjeiaaGreatDoor.PA

/- The walks of inst's small functions: the fields, the immediates, pick, register. -/
namespace Go.Proofs.YtjapahcbhjjeiaaGreatDoor.AS
open Go.RowKit Go.Proofs.YtjapahcbhjjeiaaGreatDoorW.PrintWords Go.Proofs.YtjapahcbhjjeiaaGreatDoorW.PrintLast Go.Proofs.YtjapahcbhjjeiaaGreatDoorW.PrintMore Go.Proofs.YtjapahcbhjjeiaaGreatDoor.PA
set_option linter.unusedVariables false
set_option maxRecDepth 100000
set_option linter.unusedSimpArgs false

theorem bits_lit {w : Int} {hi lo : Int} (hi' lo' : Nat) (W : World) (w0 : 0 ≤ w) (w1 : w < 4294967296) (h : lo' ≤ hi') (h31 : hi' ≤ 31) (e1 : hi = (hi' : Int)) (e2 : lo = (lo' : Int)) :
    Calls Tryz.prog 131 #[.int .u32 w, .int .i64 hi, .int .i64 lo] W fun e w' => e = .returned (.int .i64 (fl w hi' lo')) ∧ Drawn0 W w' := by
  subst e1; subst e2
  exact bits_calls hi' lo' W w0 w1 h h31

theorem op_calls {w : Int} (W : World) (w0 : 0 ≤ w) (w1 : w < 4294967296) : Calls Tryz.prog 95 #[.int .u32 w] W fun e w' => e = .returned (.int .i64 (opW w)) ∧ Drawn0 W w' := by
  go_enter Tryz.func95, Tryz.ntmps95
  go_wp2_with (go_at_call 131; refine (bits_lit 6 0 _ w0 w1 (by decide) (by decide) rfl rfl).mono ?_; rintro e w' ⟨rfl, ⟨nd, rfl⟩⟩)
  go_wp2
  go_ret
  exact ⟨rfl, by repeat (first | exact Drawn0.refl _ | apply Drawn0.step)⟩

theorem f3_calls {w : Int} (W : World) (w0 : 0 ≤ w) (w1 : w < 4294967296) : Calls Tryz.prog 96 #[.int .u32 w] W fun e w' => e = .returned (.int .i64 (f3W w)) ∧ Drawn0 W w' := by
  go_enter Tryz.func96, Tryz.ntmps96
  go_wp2_with (go_at_call 131; refine (bits_lit 14 12 _ w0 w1 (by decide) (by decide) rfl rfl).mono ?_; rintro e w' ⟨rfl, ⟨nd, rfl⟩⟩)
  go_wp2
  go_ret
  exact ⟨rfl, by repeat (first | exact Drawn0.refl _ | apply Drawn0.step)⟩

theorem rd_calls {w : Int} (W : World) (w0 : 0 ≤ w) (w1 : w < 4294967296) : Calls Tryz.prog 100 #[.int .u32 w] W fun e w' => e = .returned (.int .i64 (rdW w)) ∧ Drawn0 W w' := by
  go_enter Tryz.func100, Tryz.ntmps100
  go_wp2_with (go_at_call 131; refine (bits_lit 11 7 _ w0 w1 (by decide) (by decide) rfl rfl).mono ?_; rintro e w' ⟨rfl, ⟨nd, rfl⟩⟩)
  go_wp2
  go_ret
  exact ⟨rfl, by repeat (first | exact Drawn0.refl _ | apply Drawn0.step)⟩

theorem rs1_calls {w : Int} (W : World) (w0 : 0 ≤ w) (w1 : w < 4294967296) : Calls Tryz.prog 101 #[.int .u32 w] W fun e w' => e = .returned (.int .i64 (rs1W w)) ∧ Drawn0 W w' := by
  go_enter Tryz.func101, Tryz.ntmps101
  go_wp2_with (go_at_call 131; refine (bits_lit 19 15 _ w0 w1 (by decide) (by decide) rfl rfl).mono ?_; rintro e w' ⟨rfl, ⟨nd, rfl⟩⟩)
  go_wp2
  go_ret
  exact ⟨rfl, by repeat (first | exact Drawn0.refl _ | apply Drawn0.step)⟩

theorem rs2_calls {w : Int} (W : World) (w0 : 0 ≤ w) (w1 : w < 4294967296) : Calls Tryz.prog 102 #[.int .u32 w] W fun e w' => e = .returned (.int .i64 (rs2W w)) ∧ Drawn0 W w' := by
  go_enter Tryz.func102, Tryz.ntmps102
  go_wp2_with (go_at_call 131; refine (bits_lit 24 20 _ w0 w1 (by decide) (by decide) rfl rfl).mono ?_; rintro e w' ⟨rfl, ⟨nd, rfl⟩⟩)
  go_wp2
  go_ret
  exact ⟨rfl, by repeat (first | exact Drawn0.refl _ | apply Drawn0.step)⟩

theorem f7_calls {w : Int} (W : World) (w0 : 0 ≤ w) (w1 : w < 4294967296) : Calls Tryz.prog 129 #[.int .u32 w] W fun e w' => e = .returned (.int .i64 (f7W w)) ∧ Drawn0 W w' := by
  go_enter Tryz.func129, Tryz.ntmps129
  go_wp2_with (go_at_call 131; refine (bits_lit 31 25 _ w0 w1 (by decide) (by decide) rfl rfl).mono ?_; rintro e w' ⟨rfl, ⟨nd, rfl⟩⟩)
  go_wp2
  go_ret
  exact ⟨rfl, by repeat (first | exact Drawn0.refl _ | apply Drawn0.step)⟩

theorem or64 {x y : Int} (i : Nat) (hx0 : 0 ≤ x) (hx : x % 2 ^ i = 0) (hx1 : x < 9223372036854775808) (hy0 : 0 ≤ y) (hy : y < 2 ^ i) (hy1 : y < 9223372036854775808) : Go.bits .or .i64 x y = x + y :=
  bits_join .i64 63 (by decide) (fun m a b => wi64 (by omega) b) i x y hx0 hx hx1 hy0 hy hy1

theorem signed12 {v x : Int} (W : World) (hv : v = x) (v0 : 0 ≤ x) (v1 : x < 4096) : Calls Tryz.prog 155 #[.int .i64 v, .int .i64 12] W fun e w' => e = .returned (.int .i64 (sx x 12)) ∧ Drawn0 W w' := by
  subst hv
  have e : wrap64 (v * 4503599627370496) / 4503599627370496 = sx v 12 := by rw [← i64_w, IntKind.wrap_i64]; unfold sx; omega
  go_enter Tryz.func155, Tryz.ntmps155
  go_wp2
  go_ret
  exact ⟨rfl, by repeat (first | exact Drawn0.refl _ | apply Drawn0.step)⟩

theorem signed13 {v x : Int} (W : World) (hv : v = x) (v0 : 0 ≤ x) (v1 : x < 8192) : Calls Tryz.prog 155 #[.int .i64 v, .int .i64 13] W fun e w' => e = .returned (.int .i64 (sx x 13)) ∧ Drawn0 W w' := by
  subst hv
  have e : wrap64 (v * 2251799813685248) / 2251799813685248 = sx v 13 := by rw [← i64_w, IntKind.wrap_i64]; unfold sx; omega
  go_enter Tryz.func155, Tryz.ntmps155
  go_wp2
  go_ret
  exact ⟨rfl, by repeat (first | exact Drawn0.refl _ | apply Drawn0.step)⟩

theorem signed21 {v x : Int} (W : World) (hv : v = x) (v0 : 0 ≤ x) (v1 : x < 2097152) : Calls Tryz.prog 155 #[.int .i64 v, .int .i64 21] W fun e w' => e = .returned (.int .i64 (sx x 21)) ∧ Drawn0 W w' := by
  subst hv
  have e : wrap64 (v * 8796093022208) / 8796093022208 = sx v 21 := by rw [← i64_w, IntKind.wrap_i64]; unfold sx; omega
  go_enter Tryz.func155, Tryz.ntmps155
  go_wp2
  go_ret
  exact ⟨rfl, by repeat (first | exact Drawn0.refl _ | apply Drawn0.step)⟩

theorem signed32 {v x : Int} (W : World) (hv : v = x) (v0 : 0 ≤ x) (v1 : x < 4294967296) : Calls Tryz.prog 155 #[.int .i64 v, .int .i64 32] W fun e w' => e = .returned (.int .i64 (sx x 32)) ∧ Drawn0 W w' := by
  subst hv
  have e : wrap64 (v * 4294967296) / 4294967296 = sx v 32 := by rw [← i64_w, IntKind.wrap_i64]; unfold sx; omega
  go_enter Tryz.func155, Tryz.ntmps155
  go_wp2
  go_ret
  exact ⟨rfl, by repeat (first | exact Drawn0.refl _ | apply Drawn0.step)⟩

theorem i_calls {w : Int} (W : World) (w0 : 0 ≤ w) (w1 : w < 4294967296) : Calls Tryz.prog 134 #[.int .u32 w] W fun e w' => e = .returned (.int .i64 (iW w)) ∧ Drawn0 W w' := by
  have H1 : Aside0 (0 ≤ fl w 31 20 ∧ fl w 31 20 < 4096) := ⟨fl_b w 31 20⟩
  go_enter Tryz.func134, Tryz.ntmps134
  go_wp2_with fail
  refine (bits_lit 31 20 _ w0 w1 (by decide) (by decide) rfl rfl).mono ?_
  rintro e w' ⟨rfl, ⟨nd, rfl⟩⟩
  go_wp2_with fail
  refine (signed12 _ rfl H1.out.1 H1.out.2).mono ?_
  rintro e w' ⟨rfl, ⟨nd, rfl⟩⟩
  go_wp2_with fail
  go_ret
  exact ⟨rfl, by repeat (first | exact Drawn0.refl _ | apply Drawn0.step)⟩

theorem u_calls {w : Int} (W : World) (w0 : 0 ≤ w) (w1 : w < 4294967296) : Calls Tryz.prog 132 #[.int .u32 w] W fun e w' => e = .returned (.int .i64 (uW w)) ∧ Drawn0 W w' := by
  have H1 : Aside0 (0 ≤ fl w 31 12 ∧ fl w 31 12 < 1048576) := ⟨fl_b w 31 12⟩
  go_enter Tryz.func132, Tryz.ntmps132
  go_wp2_with fail
  refine (bits_lit 31 12 _ w0 w1 (by decide) (by decide) rfl rfl).mono ?_
  rintro e w' ⟨rfl, ⟨nd, rfl⟩⟩
  go_wp2_with fail
  refine (signed32 _ (x := fl w 31 12 * 4096) (w64 (by have := H1.out; omega) (by have := H1.out; omega)) (by have := H1.out; omega) (by have := H1.out; omega)).mono ?_
  rintro e w' ⟨rfl, ⟨nd, rfl⟩⟩
  go_wp2_with fail
  go_ret
  exact ⟨rfl, by repeat (first | exact Drawn0.refl _ | apply Drawn0.step)⟩

theorem b_calls {w : Int} (W : World) (w0 : 0 ≤ w) (w1 : w < 4294967296) : Calls Tryz.prog 135 #[.int .u32 w] W fun e w' => e = .returned (.int .i64 (bW w)) ∧ Drawn0 W w' := by
  have H0 : Aside0 (0 ≤ fl w 31 31 ∧ fl w 31 31 < 2) := ⟨fl_b w 31 31⟩
  have H1 : Aside0 (0 ≤ fl w 7 7 ∧ fl w 7 7 < 2) := ⟨fl_b w 7 7⟩
  have H2 : Aside0 (0 ≤ fl w 30 25 ∧ fl w 30 25 < 64) := ⟨fl_b w 30 25⟩
  have H3 : Aside0 (0 ≤ fl w 11 8 ∧ fl w 11 8 < 16) := ⟨fl_b w 11 8⟩
  have HE : Aside0 (Go.bits .or .i64 (Go.bits .or .i64 (Go.bits .or .i64 (wrap64 (fl w 31 31 * 4096)) (wrap64 (fl w 7 7 * 2048))) (wrap64 (fl w 30 25 * 32))) (wrap64 (fl w 11 8 * 2)) = fl w 31 31 * 4096 + fl w 7 7 * 2048 + fl w 30 25 * 32 + fl w 11 8 * 2) := ⟨by
    have b0 := H0.out
    have b1 := H1.out
    have b2 := H2.out
    have b3 := H3.out
    rw [w64 (n := fl w 31 31 * 4096) (by omega) (by omega)]
    rw [w64 (n := fl w 7 7 * 2048) (by omega) (by omega)]
    rw [w64 (n := fl w 30 25 * 32) (by omega) (by omega)]
    rw [w64 (n := fl w 11 8 * 2) (by omega) (by omega)]
    rw [or64 (x := fl w 31 31 * 4096) (y := fl w 7 7 * 2048) 12 (by omega) (by omega) (by omega) (by omega) (by omega) (by omega)]
    rw [or64 (x := fl w 31 31 * 4096 + fl w 7 7 * 2048) (y := fl w 30 25 * 32) 11 (by omega) (by omega) (by omega) (by omega) (by omega) (by omega)]
    rw [or64 (x := fl w 31 31 * 4096 + fl w 7 7 * 2048 + fl w 30 25 * 32) (y := fl w 11 8 * 2) 5 (by omega) (by omega) (by omega) (by omega) (by omega) (by omega)]
  ⟩
  go_enter Tryz.func135, Tryz.ntmps135
  go_wp2_with fail
  refine (bits_lit 31 31 _ w0 w1 (by decide) (by decide) rfl rfl).mono ?_
  rintro e w' ⟨rfl, ⟨nd, rfl⟩⟩
  go_wp2_with fail
  refine (bits_lit 7 7 _ w0 w1 (by decide) (by decide) rfl rfl).mono ?_
  rintro e w' ⟨rfl, ⟨nd, rfl⟩⟩
  go_wp2_with fail
  refine (bits_lit 30 25 _ w0 w1 (by decide) (by decide) rfl rfl).mono ?_
  rintro e w' ⟨rfl, ⟨nd, rfl⟩⟩
  go_wp2_with fail
  refine (bits_lit 11 8 _ w0 w1 (by decide) (by decide) rfl rfl).mono ?_
  rintro e w' ⟨rfl, ⟨nd, rfl⟩⟩
  go_wp2_with fail
  refine (signed13 _ HE.out (by have := H0.out; have := H1.out; have := H2.out; have := H3.out; omega) (by have := H0.out; have := H1.out; have := H2.out; have := H3.out; omega)).mono ?_
  rintro e w' ⟨rfl, ⟨nd, rfl⟩⟩
  go_wp2_with fail
  go_ret
  exact ⟨rfl, by repeat (first | exact Drawn0.refl _ | apply Drawn0.step)⟩

theorem j_calls {w : Int} (W : World) (w0 : 0 ≤ w) (w1 : w < 4294967296) : Calls Tryz.prog 133 #[.int .u32 w] W fun e w' => e = .returned (.int .i64 (jW w)) ∧ Drawn0 W w' := by
  have H0 : Aside0 (0 ≤ fl w 31 31 ∧ fl w 31 31 < 2) := ⟨fl_b w 31 31⟩
  have H1 : Aside0 (0 ≤ fl w 19 12 ∧ fl w 19 12 < 256) := ⟨fl_b w 19 12⟩
  have H2 : Aside0 (0 ≤ fl w 20 20 ∧ fl w 20 20 < 2) := ⟨fl_b w 20 20⟩
  have H3 : Aside0 (0 ≤ fl w 30 21 ∧ fl w 30 21 < 1024) := ⟨fl_b w 30 21⟩
  have HE : Aside0 (Go.bits .or .i64 (Go.bits .or .i64 (Go.bits .or .i64 (wrap64 (fl w 31 31 * 1048576)) (wrap64 (fl w 19 12 * 4096))) (wrap64 (fl w 20 20 * 2048))) (wrap64 (fl w 30 21 * 2)) = fl w 31 31 * 1048576 + fl w 19 12 * 4096 + fl w 20 20 * 2048 + fl w 30 21 * 2) := ⟨by
    have b0 := H0.out
    have b1 := H1.out
    have b2 := H2.out
    have b3 := H3.out
    rw [w64 (n := fl w 31 31 * 1048576) (by omega) (by omega)]
    rw [w64 (n := fl w 19 12 * 4096) (by omega) (by omega)]
    rw [w64 (n := fl w 20 20 * 2048) (by omega) (by omega)]
    rw [w64 (n := fl w 30 21 * 2) (by omega) (by omega)]
    rw [or64 (x := fl w 31 31 * 1048576) (y := fl w 19 12 * 4096) 20 (by omega) (by omega) (by omega) (by omega) (by omega) (by omega)]
    rw [or64 (x := fl w 31 31 * 1048576 + fl w 19 12 * 4096) (y := fl w 20 20 * 2048) 12 (by omega) (by omega) (by omega) (by omega) (by omega) (by omega)]
    rw [or64 (x := fl w 31 31 * 1048576 + fl w 19 12 * 4096 + fl w 20 20 * 2048) (y := fl w 30 21 * 2) 11 (by omega) (by omega) (by omega) (by omega) (by omega) (by omega)]
  ⟩
  go_enter Tryz.func133, Tryz.ntmps133
  go_wp2_with fail
  refine (bits_lit 31 31 _ w0 w1 (by decide) (by decide) rfl rfl).mono ?_
  rintro e w' ⟨rfl, ⟨nd, rfl⟩⟩
  go_wp2_with fail
  refine (bits_lit 19 12 _ w0 w1 (by decide) (by decide) rfl rfl).mono ?_
  rintro e w' ⟨rfl, ⟨nd, rfl⟩⟩
  go_wp2_with fail
  refine (bits_lit 20 20 _ w0 w1 (by decide) (by decide) rfl rfl).mono ?_
  rintro e w' ⟨rfl, ⟨nd, rfl⟩⟩
  go_wp2_with fail
  refine (bits_lit 30 21 _ w0 w1 (by decide) (by decide) rfl rfl).mono ?_
  rintro e w' ⟨rfl, ⟨nd, rfl⟩⟩
  go_wp2_with fail
  refine (signed21 _ HE.out (by have := H0.out; have := H1.out; have := H2.out; have := H3.out; omega) (by have := H0.out; have := H1.out; have := H2.out; have := H3.out; omega)).mono ?_
  rintro e w' ⟨rfl, ⟨nd, rfl⟩⟩
  go_wp2_with fail
  go_ret
  exact ⟨rfl, by repeat (first | exact Drawn0.refl _ | apply Drawn0.step)⟩

theorem s_calls {w : Int} (W : World) (w0 : 0 ≤ w) (w1 : w < 4294967296) : Calls Tryz.prog 136 #[.int .u32 w] W fun e w' => e = .returned (.int .i64 (sW w)) ∧ Drawn0 W w' := by
  have H0 := Aside0.mk (f7W_b w)
  have H1 := Aside0.mk (rdW_b w)
  have HE : Aside0 (Go.bits .or .i64 (wrap64 (f7W w * 32)) (rdW w) = f7W w * 32 + rdW w) := ⟨by
    have b0 := H0.out
    have b1 := H1.out
    rw [w64 (n := f7W w * 32) (by omega) (by omega)]
    rw [or64 (x := f7W w * 32) (y := rdW w) 5 (by omega) (by omega) (by omega) (by omega) (by omega) (by omega)]⟩
  go_enter Tryz.func136, Tryz.ntmps136
  go_wp2_with fail
  refine (f7_calls _ w0 w1).mono ?_
  rintro e w' ⟨rfl, ⟨nd, rfl⟩⟩
  go_wp2_with fail
  refine (rd_calls _ w0 w1).mono ?_
  rintro e w' ⟨rfl, ⟨nd, rfl⟩⟩
  go_wp2_with fail
  refine (signed12 _ HE.out (by have := H0.out; have := H1.out; omega) (by have := H0.out; have := H1.out; omega)).mono ?_
  rintro e w' ⟨rfl, ⟨nd, rfl⟩⟩
  go_wp2_with fail
  go_ret
  exact ⟨rfl, by repeat (first | exact Drawn0.refl _ | apply Drawn0.step)⟩

theorem none_calls {w : Int} (W : World) : Calls Tryz.prog 137 #[.int .u32 w] W fun e w' => e = .returned (.int .i64 0) ∧ Drawn0 W w' := by
  go_enter Tryz.func137, Tryz.ntmps137
  go_wp2
  go_ret
  exact ⟨rfl, by repeat (first | exact Drawn0.refl _ | apply Drawn0.step)⟩

end Go.Proofs.YtjapahcbhjjeiaaGreatDoor.AS

/- The walks of inst.pick and inst.register. -/
namespace Go.Proofs.YtjapahcbhjjeiaaGreatDoor.AS
open Go.RowKit Go.Proofs.YtjapahcbhjjeiaaGreatDoorW.PrintWords Go.Proofs.YtjapahcbhjjeiaaGreatDoorW.PrintLast Go.Proofs.YtjapahcbhjjeiaaGreatDoorW.PrintMore Go.Proofs.YtjapahcbhjjeiaaGreatDoor.PA
set_option linter.unusedVariables false
set_option linter.unusedSimpArgs false

theorem lit_C (w : World) (xs : List Int) (hl : xs.length ≤ 1000) : Kd.C (Kd.int .i64) (w.alloc (.cells (xs.map (Value.int .i64)).toArray 3)) (some ⟨w.heap.size, 0, none⟩) xs.length xs := by
  refine ⟨rfl, by omega, fun _ => ⟨_, rfl, fun j p hj => ⟨[.int .i64 p], rfl, rfl, ?_⟩⟩⟩
  intro i u hu
  match i, hu with
  | 0, hu =>
    simp only [List.getElem?_cons_zero, Option.some.injEq] at hu
    subst hu
    have e : ((⟨w.heap.size, 0, none⟩ : Addr).add (j * 1 + 0)) = ⟨w.heap.size, j, none⟩ := by unfold Addr.add; split <;> simp_all
    show (w.alloc _).cell? ((⟨w.heap.size, 0, none⟩ : Addr).add (j * 1 + 0)) = _
    rw [e, blk_cell (blk_new w _) j]
    simp [hj]

theorem pick_eq (xs : List Int) (i : Int) : inst_pick.f xs i = some (pickL xs i) := by
  unfold inst_pick.f pickL
  by_cases c : i < 0
  · rw [if_pos c, if_pos (.inl c)]
  · rw [if_neg c]
    by_cases d : i ≥ (xs.length : Int)
    · rw [if_pos d, if_pos (.inr d)]
    · rw [if_neg d, if_pos (by omega), if_pos (by omega), if_neg (by omega)]
      rfl

theorem pick_at {W : World} {A : Option Addr} {n c : Nat} (xs : List Int) (i : Int) (hC : Kd.C (Kd.int .i64) W A xs.length xs) (hn : n = xs.length) (hc : n ≤ c) :
    Calls Tryz.prog 130 #[.slice A n c, .int .i64 i] W fun e w' => e = .returned (.int .i64 (pickL xs i)) ∧ Drawn0 W w' := by
  subst hn
  exact inst_pick.calls A c xs i _ W hC hc (pick_eq xs i)

set_option maxRecDepth 100000 in
set_option maxHeartbeats 1000000 in
theorem register_calls {w : Int} (W : World) (w0 : 0 ≤ w) (w1 : w < 4294967296) : Calls Tryz.prog 94 #[.int .u32 w] W fun e w' => e = .returned (.int .i64 (registerL (decide (opW w = 0x33)) (f3W w) (f7W w))) ∧ Below W.heap.size W w' := by
  obtain ⟨f7, hf7⟩ : ∃ x, x = f7W w := ⟨_, rfl⟩
  obtain ⟨f3, hf3⟩ : ∃ x, x = f3W w := ⟨_, rfl⟩
  obtain ⟨op, hop⟩ : ∃ x, x = opW w := ⟨_, rfl⟩
  have O : ∀ W, Calls Tryz.prog 95 #[.int .u32 w] W fun e w' => e = .returned (.int .i64 op) ∧ Drawn0 W w' := fun W => by rw [hop]; exact op_calls W w0 w1
  have F3 : ∀ W, Calls Tryz.prog 96 #[.int .u32 w] W fun e w' => e = .returned (.int .i64 f3) ∧ Drawn0 W w' := fun W => by rw [hf3]; exact f3_calls W w0 w1
  have F7 : ∀ W, Calls Tryz.prog 129 #[.int .u32 w] W fun e w' => e = .returned (.int .i64 f7) ∧ Drawn0 W w' := fun W => by rw [hf7]; exact f7_calls W w0 w1
  rw [← hf7, ← hf3, ← hop]
  clear hf7 hf3 hop w0 w1
  obtain ⟨wd, hwd⟩ : ∃ b, b = decide (op = 0x33) := ⟨_, rfl⟩
  rw [← hwd]
  by_cases ho : op = 51
  · by_cases h0 : f7 = 0
    · obtain rfl : wd = true := by rw [hwd]; simp [ho]
      clear hwd; subst ho; subst h0
      have e : registerL true f3 0 = pickL [1, 3, 4, 5, 6, 7, 9, 10] f3 := by unfold registerL; simp
      rw [e]
      clear e
      go_enter Tryz.func94, Tryz.ntmps94
      go_wp2_with fail
      refine (O _).mono ?_
      rintro e w' ⟨rfl, ⟨nd, rfl⟩⟩
      go_wp2_with fail
      refine (F7 _).mono ?_
      rintro e w' ⟨rfl, ⟨nd, rfl⟩⟩
      go_wp2_with fail
      refine (F3 _).mono ?_
      rintro e w' ⟨rfl, ⟨nd, rfl⟩⟩
      go_wp2_with fail
      refine (pick_at [1, 3, 4, 5, 6, 7, 9, 10] f3 (by repeat (first | exact lit_C _ _ (by decide) | apply Kd.C_drewN | apply Kd.C_drew)) rfl (by decide)).mono ?_
      rintro e w' ⟨rfl, ⟨nd, rfl⟩⟩
      go_wp2_with fail
      go_ret
      exact ⟨rfl, by repeat (first | exact Below.refl _ _ | apply below_alloc | apply pw_below_drewN | apply below_drew1)⟩
    by_cases h32 : f7 = 32
    · obtain rfl : wd = true := by rw [hwd]; simp [ho]
      clear hwd; subst ho; subst h32
      have e : registerL true f3 32 = pickL [2, 0, 0, 0, 0, 8] f3 := by unfold registerL; simp
      rw [e]
      clear e
      go_enter Tryz.func94, Tryz.ntmps94
      go_wp2_with fail
      refine (O _).mono ?_
      rintro e w' ⟨rfl, ⟨nd, rfl⟩⟩
      go_wp2_with fail
      refine (F7 _).mono ?_
      rintro e w' ⟨rfl, ⟨nd, rfl⟩⟩
      go_wp2_with fail
      refine (F7 _).mono ?_
      rintro e w' ⟨rfl, ⟨nd, rfl⟩⟩
      go_wp2_with fail
      refine (F3 _).mono ?_
      rintro e w' ⟨rfl, ⟨nd, rfl⟩⟩
      go_wp2_with fail
      refine (pick_at [2, 0, 0, 0, 0, 8] f3 (by repeat (first | exact lit_C _ _ (by decide) | apply Kd.C_drewN | apply Kd.C_drew)) rfl (by decide)).mono ?_
      rintro e w' ⟨rfl, ⟨nd, rfl⟩⟩
      go_wp2_with fail
      go_ret
      exact ⟨rfl, by repeat (first | exact Below.refl _ _ | apply below_alloc | apply pw_below_drewN | apply below_drew1)⟩
    by_cases h1 : f7 = 1
    · obtain rfl : wd = true := by rw [hwd]; simp [ho]
      clear hwd; subst ho; subst h1
      have e : registerL true f3 1 = pickL [11, 12, 13, 14, 15, 16, 17, 18] f3 := by unfold registerL; simp
      rw [e]
      clear e
      go_enter Tryz.func94, Tryz.ntmps94
      go_wp2_with fail
      refine (O _).mono ?_
      rintro e w' ⟨rfl, ⟨nd, rfl⟩⟩
      go_wp2_with fail
      refine (F7 _).mono ?_
      rintro e w' ⟨rfl, ⟨nd, rfl⟩⟩
      go_wp2_with fail
      refine (F7 _).mono ?_
      rintro e w' ⟨rfl, ⟨nd, rfl⟩⟩
      go_wp2_with fail
      refine (F7 _).mono ?_
      rintro e w' ⟨rfl, ⟨nd, rfl⟩⟩
      go_wp2_with fail
      refine (F3 _).mono ?_
      rintro e w' ⟨rfl, ⟨nd, rfl⟩⟩
      go_wp2_with fail
      refine (pick_at [11, 12, 13, 14, 15, 16, 17, 18] f3 (by repeat (first | exact lit_C _ _ (by decide) | apply Kd.C_drewN | apply Kd.C_drew)) rfl (by decide)).mono ?_
      rintro e w' ⟨rfl, ⟨nd, rfl⟩⟩
      go_wp2_with fail
      go_ret
      exact ⟨rfl, by repeat (first | exact Below.refl _ _ | apply below_alloc | apply pw_below_drewN | apply below_drew1)⟩
    obtain rfl : wd = true := by rw [hwd]; simp [ho]
    clear hwd
    subst ho
    have e : registerL true f3 f7 = 0 := by unfold registerL; simp [h0, h32, h1]
    rw [e]
    clear e
    go_enter Tryz.func94, Tryz.ntmps94
    go_wp2_with fail
    refine (O _).mono ?_
    rintro e w' ⟨rfl, ⟨nd, rfl⟩⟩
    go_wp2_with fail
    refine (F7 _).mono ?_
    rintro e w' ⟨rfl, ⟨nd, rfl⟩⟩
    go_wp2_with fail
    refine (F7 _).mono ?_
    rintro e w' ⟨rfl, ⟨nd, rfl⟩⟩
    go_wp2_with fail
    refine (F7 _).mono ?_
    rintro e w' ⟨rfl, ⟨nd, rfl⟩⟩
    go_wp2_with fail
    go_ret
    exact ⟨rfl, by repeat (first | exact Below.refl _ _ | apply below_alloc | apply pw_below_drewN | apply below_drew1)⟩
  · by_cases h0 : f7 = 0
    · obtain rfl : wd = false := by rw [hwd]; simp [ho]
      have hob : (op == 51) = false := by simp [ho]
      clear hwd ho; subst h0
      have e : registerL false f3 0 = pickL [19, 21, 0, 0, 0, 22] f3 := by unfold registerL; simp
      rw [e]
      clear e
      go_enter Tryz.func94, Tryz.ntmps94
      go_wp2_with fail
      refine (O _).mono ?_
      rintro e w' ⟨rfl, ⟨nd, rfl⟩⟩
      go_wp2_with fail
      refine (F7 _).mono ?_
      rintro e w' ⟨rfl, ⟨nd, rfl⟩⟩
      go_wp2_with fail
      refine (F3 _).mono ?_
      rintro e w' ⟨rfl, ⟨nd, rfl⟩⟩
      go_wp2_with fail
      refine (pick_at [19, 21, 0, 0, 0, 22] f3 (by repeat (first | exact lit_C _ _ (by decide) | apply Kd.C_drewN | apply Kd.C_drew)) rfl (by decide)).mono ?_
      rintro e w' ⟨rfl, ⟨nd, rfl⟩⟩
      go_wp2_with fail
      go_ret
      exact ⟨rfl, by repeat (first | exact Below.refl _ _ | apply below_alloc | apply pw_below_drewN | apply below_drew1)⟩
    by_cases h32 : f7 = 32
    · obtain rfl : wd = false := by rw [hwd]; simp [ho]
      have hob : (op == 51) = false := by simp [ho]
      clear hwd ho; subst h32
      have e : registerL false f3 32 = pickL [20, 0, 0, 0, 0, 23] f3 := by unfold registerL; simp
      rw [e]
      clear e
      go_enter Tryz.func94, Tryz.ntmps94
      go_wp2_with fail
      refine (O _).mono ?_
      rintro e w' ⟨rfl, ⟨nd, rfl⟩⟩
      go_wp2_with fail
      refine (F7 _).mono ?_
      rintro e w' ⟨rfl, ⟨nd, rfl⟩⟩
      go_wp2_with fail
      refine (F7 _).mono ?_
      rintro e w' ⟨rfl, ⟨nd, rfl⟩⟩
      go_wp2_with fail
      refine (F3 _).mono ?_
      rintro e w' ⟨rfl, ⟨nd, rfl⟩⟩
      go_wp2_with fail
      refine (pick_at [20, 0, 0, 0, 0, 23] f3 (by repeat (first | exact lit_C _ _ (by decide) | apply Kd.C_drewN | apply Kd.C_drew)) rfl (by decide)).mono ?_
      rintro e w' ⟨rfl, ⟨nd, rfl⟩⟩
      go_wp2_with fail
      go_ret
      exact ⟨rfl, by repeat (first | exact Below.refl _ _ | apply below_alloc | apply pw_below_drewN | apply below_drew1)⟩
    by_cases h1 : f7 = 1
    · obtain rfl : wd = false := by rw [hwd]; simp [ho]
      have hob : (op == 51) = false := by simp [ho]
      clear hwd ho; subst h1
      have e : registerL false f3 1 = pickL [24, 0, 0, 0, 25, 26, 27, 28] f3 := by unfold registerL; simp
      rw [e]
      clear e
      go_enter Tryz.func94, Tryz.ntmps94
      go_wp2_with fail
      refine (O _).mono ?_
      rintro e w' ⟨rfl, ⟨nd, rfl⟩⟩
      go_wp2_with fail
      refine (F7 _).mono ?_
      rintro e w' ⟨rfl, ⟨nd, rfl⟩⟩
      go_wp2_with fail
      refine (F7 _).mono ?_
      rintro e w' ⟨rfl, ⟨nd, rfl⟩⟩
      go_wp2_with fail
      refine (F7 _).mono ?_
      rintro e w' ⟨rfl, ⟨nd, rfl⟩⟩
      go_wp2_with fail
      refine (F3 _).mono ?_
      rintro e w' ⟨rfl, ⟨nd, rfl⟩⟩
      go_wp2_with fail
      refine (pick_at [24, 0, 0, 0, 25, 26, 27, 28] f3 (by repeat (first | exact lit_C _ _ (by decide) | apply Kd.C_drewN | apply Kd.C_drew)) rfl (by decide)).mono ?_
      rintro e w' ⟨rfl, ⟨nd, rfl⟩⟩
      go_wp2_with fail
      go_ret
      exact ⟨rfl, by repeat (first | exact Below.refl _ _ | apply below_alloc | apply pw_below_drewN | apply below_drew1)⟩
    obtain rfl : wd = false := by rw [hwd]; simp [ho]
    clear hwd
    have hob : (op == 51) = false := by simp [ho]
    clear ho
    have e : registerL false f3 f7 = 0 := by unfold registerL; simp [h0, h32, h1]
    rw [e]
    clear e
    go_enter Tryz.func94, Tryz.ntmps94
    go_wp2_with fail
    refine (O _).mono ?_
    rintro e w' ⟨rfl, ⟨nd, rfl⟩⟩
    go_wp2_with fail
    refine (F7 _).mono ?_
    rintro e w' ⟨rfl, ⟨nd, rfl⟩⟩
    go_wp2_with fail
    refine (F7 _).mono ?_
    rintro e w' ⟨rfl, ⟨nd, rfl⟩⟩
    go_wp2_with fail
    refine (F7 _).mono ?_
    rintro e w' ⟨rfl, ⟨nd, rfl⟩⟩
    go_wp2_with fail
    go_ret
    exact ⟨rfl, by repeat (first | exact Below.refl _ _ | apply below_alloc | apply pw_below_drewN | apply below_drew1)⟩

end Go.Proofs.YtjapahcbhjjeiaaGreatDoor.AS
