/- The document's small functions of chapter 2 in plain terms: bits, signed, at, pick. -/
import Derived.Test.YtjapahcbhjjeiaaGreatDoorPZ1
import Derived.Test.YtjapahcbhjjeiaaGreatDoorG2
namespace Go.Proofs.YtjapahcbhjjeiaaGreatDoor.AS
open Go.RowKit Go.Proofs.YtjapahcbhjjeiaaGreatDoorW.PrintWords Go.Proofs.YtjapahcbhjjeiaaGreatDoorW.PrintLast Go.Proofs.YtjapahcbhjjeiaaGreatDoorW.PrintMore Go.Proofs.YtjapahcbhjjeiaaGreatDoor.PA
set_option linter.unusedVariables false
set_option linter.unusedSimpArgs false
set_option maxRecDepth 100000

theorem u64w {n : Int} (h0 : 0 ≤ n) (h1 : n < 9223372036854775808) : IntKind.u64.wrap n = n := by rw [IntKind.wrap_u64]; omega

theorem rbits_ok (w : Int) (hi lo : Nat) (h : lo ≤ hi) (h31 : hi ≤ 31) (w0 : 0 ≤ w) (w1 : w < 4294967296) : citadelref02_bits.f w hi lo = some (fl w hi lo) := by
  unfold citadelref02_bits.f
  have e1 : ((hi : Int) - lo + 1).toNat = hi - lo + 1 := by omega
  have e2 : ((lo : Nat) : Int).toNat = lo := by omega
  have hp := pow_b (n := hi - lo + 1) (by omega)
  have hq := pow_b (n := lo) (by omega)
  rw [w64 (n := (hi : Int) - lo) (by omega) (by omega), w64 (n := (hi : Int) - lo + 1) (by omega) (by omega), u64w (n := (hi : Int) - lo + 1) (by omega) (by omega), u64w (n := (lo : Int)) (by omega) (by omega), if_pos (by omega), if_pos (by omega)]
  have hs : shl .i64 1 ((hi : Int) - lo + 1) = 2 ^ (hi - lo + 1) := by
    unfold shl
    rw [e1, Nat.min_eq_left (by show hi - lo + 1 ≤ 64; omega), Int.one_mul, wi64 (by omega) (by omega)]
  rw [hs, if_neg (by omega)]
  unfold shr
  have d0 : 0 ≤ w / 2 ^ lo := Int.ediv_nonneg w0 (by omega)
  have d1 : w / 2 ^ lo ≤ w := Int.ediv_le_self _ w0
  rw [e2, Nat.min_eq_left (by show lo ≤ 32; omega), w64 (n := w / 2 ^ lo) (by omega) (by omega), Int.tmod_eq_emod_of_nonneg d0]
  rfl
theorem rbits_lit {w : Int} {hi lo : Int} (hi' lo' : Nat) (W : World) (w0 : 0 ≤ w) (w1 : w < 4294967296) (h : lo' ≤ hi') (h31 : hi' ≤ 31) (e1 : hi = (hi' : Int)) (e2 : lo = (lo' : Int)) :
    Calls Tryz.prog 79 #[.int .u32 w, .int .i64 hi, .int .i64 lo] W fun e w' => e = .returned (.int .i64 (fl w hi' lo')) ∧ Drawn0 W w' := by
  subst e1; subst e2
  exact citadelref02_bits.calls w hi' lo' _ W (rbits_ok w hi' lo' h h31 w0 w1)

theorem pow_c {n : Nat} (h : n ≤ 32) : (1 : Int) ≤ 2 ^ n ∧ (2 : Int) ^ n ≤ 4294967296 := pow_b h
theorem rsigned_ok (v : Int) (n : Nat) (h1 : 1 ≤ n) (h32 : n ≤ 32) (v0 : 0 ≤ v) (v1 : v < 2 ^ n) : citadelref02_signed.f v n = some (sx v n) := by
  unfold citadelref02_signed.f
  have e1 : ((n : Int) - 1).toNat = n - 1 := by omega
  have hp := pow_c (n := n - 1) (by omega)
  have hq := pow_c (n := n) h32
  have hd : (2 : Int) ^ n = 2 * 2 ^ (n - 1) := by
    conv => lhs; rw [show n = (n - 1) + 1 by omega, Int.pow_succ]
    omega
  rw [w64 (n := (n : Int) - 1) (by omega) (by omega), u64w (n := (n : Int) - 1) (by omega) (by omega), u64w (n := (n : Int)) (by omega) (by omega), if_pos (by omega)]
  have hs : shl .i64 1 ((n : Int) - 1) = 2 ^ (n - 1) := by
    unfold shl
    rw [e1, Nat.min_eq_left (by show n - 1 ≤ 64; omega), Int.one_mul, wi64 (by omega) (by omega)]
  have hs2 : shl .i64 1 (n : Int) = 2 ^ n := by
    unfold shl
    rw [Int.toNat_natCast, Nat.min_eq_left (by show n ≤ 64; omega), Int.one_mul, wi64 (by omega) (by omega)]
  rw [hs, hs2]
  unfold sx
  rw [hd]
  generalize (2 : Int) ^ (n - 1) = p at *
  have hpp : 0 < p := by omega
  by_cases c : v ≥ p
  · rw [if_pos c, if_pos (by omega), w64 (by omega) (by omega)]
    congr 1
    have : (v + p) % (2 * p) = v + p - 2 * p := by
      rw [show v + p = (v + p - 2 * p) + 2 * p by omega, Int.add_emod_right]
      have := Int.emod_eq_of_lt (a := v + p - 2 * p) (b := 2 * p) (by omega) (by omega)
      rw [this]; omega
    omega
  · rw [if_neg c]
    congr 1
    have := Int.emod_eq_of_lt (a := v + p) (b := 2 * p) (by omega) (by omega)
    omega

def atL (v : Int) (n lo : Nat) : Int := v % 2 ^ n * 2 ^ lo
theorem rat_ok (v : Int) (n lo : Nat) (hv0 : -9223372036854775808 ≤ v) (hv1 : v ≤ 9223372036854775807) (h1 : n + lo ≤ 32) (h31 : lo ≤ 31) (hn : 1 ≤ n) : citadelref02_at.f v n lo = some (atL v n lo) := by
  unfold citadelref02_at.f
  have hp := pow_c (n := n) (by omega)
  have hq := pow_c (n := lo) (by omega)
  have hpq := pow_c (n := n + lo) h1
  rw [Int.pow_add] at hpq
  rw [u64w (n := (n : Int)) (by omega) (by omega), u64w (n := (lo : Int)) (by omega) (by omega), if_pos (by omega)]
  have hs : shl .i64 1 (n : Int) = 2 ^ n := by
    unfold shl
    rw [Int.toNat_natCast, Nat.min_eq_left (by show n ≤ 64; omega), Int.one_mul, wi64 (by omega) (by omega)]
  rw [hs, if_neg (by omega)]
  have hm0 := Int.emod_nonneg v (b := 2 ^ n) (by omega)
  have hm1 := Int.emod_lt_of_pos v (b := 2 ^ n) (by omega)
  have key : ∀ x : Int, x = v % 2 ^ n → (if 0 ≤ (lo : Int) then some (shl .u32 (x % 4294967296) (lo : Int)) else none) = some (atL v n lo) := by
    intro x hx
    rw [if_pos (by omega), hx]
    unfold shl atL
    rw [Int.toNat_natCast, Nat.min_eq_left (by show lo ≤ 32; omega), Int.emod_eq_of_lt (a := v % 2 ^ n) (b := 4294967296) hm0 (by omega)]
    have hb : v % 2 ^ n * 2 ^ lo < 4294967296 := by
      have : v % 2 ^ n * 2 ^ lo < 2 ^ n * 2 ^ lo := Int.mul_lt_mul_of_pos_right hm1 (by omega)
      omega
    rw [wu32 (Int.mul_nonneg hm0 (by omega)) hb]
  have ht : Int.tmod v (2 ^ n) = if 0 ≤ v ∨ v % 2 ^ n = 0 then v % 2 ^ n else v % 2 ^ n - 2 ^ n := by
    rw [Int.tmod_eq_emod]
    simp only [Int.dvd_iff_emod_eq_zero]
    split
    · omega
    · rw [Int.natAbs_of_nonneg (by omega)]
  by_cases c : Int.tmod v (2 ^ n) < 0
  · rw [if_pos c]
    rw [ht] at c ⊢
    split at c
    · omega
    · rename_i h
      rw [if_neg h, w64 (by omega) (by omega)]
      exact key _ (by omega)
  · rw [if_neg c]
    rw [ht] at c ⊢
    split at c
    · rename_i h
      rw [if_pos h]
      exact key _ rfl
    · omega
theorem rat_calls (v : Int) (n lo : Nat) (W : World) {n' lo' : Int} (hv0 : -9223372036854775808 ≤ v) (hv1 : v ≤ 9223372036854775807) (h1 : n + lo ≤ 32) (h31 : lo ≤ 31) (hn : 1 ≤ n) (e1 : n' = (n : Int)) (e2 : lo' = (lo : Int)) :
    Calls Tryz.prog 76 #[.int .i64 v, .int .i64 n', .int .i64 lo'] W fun e w' => e = .returned (.int .u32 (atL v n lo)) ∧ ∃ m, w' = W.drewN m := by
  subst e1; subst e2
  exact (citadelref02_at.calls v n lo _ W (rat_ok v n lo hv0 hv1 h1 h31 hn)).mono fun e w' h => ⟨h.1, h.2.out⟩

theorem rpick_eq (xs : List Int) (i : Int) : citadelref02_pick.f xs i = some (pickL xs i) := by
  unfold citadelref02_pick.f pickL
  by_cases c : i < 0
  · rw [if_pos c, if_pos (.inl c)]
  · rw [if_neg c]
    by_cases d : i ≥ (xs.length : Int)
    · rw [if_pos d, if_pos (.inr d)]
    · rw [if_neg d, if_pos (by omega), if_pos (by omega), if_neg (by omega)]
      rfl
theorem rpick_at {W : World} {A : Option Addr} {n c : Nat} (xs : List Int) (i : Int) (hC : Kd.C (Kd.int .i64) W A xs.length xs) (hn : n = xs.length) (hc : n ≤ c) :
    Calls Tryz.prog 77 #[.slice A n c, .int .i64 i] W fun e w' => e = .returned (.int .i64 (pickL xs i)) ∧ Drawn0 W w' := by
  subst hn
  exact citadelref02_pick.calls A c xs i _ W hC hc (rpick_eq xs i)

end Go.Proofs.YtjapahcbhjjeiaaGreatDoor.AS
