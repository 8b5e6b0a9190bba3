/- Several texts in one. -/
import Derived.Test.YtjapahcbhjjeiaaGreatDoorL10
import Derived.Test.YtjapahcbhjjeiaaGreatDoorK2
/- The document's Dec, its lists of names, and what it picks of them. -/
namespace Go.Proofs.YtjapahcbhjjeiaaGreatDoor.AS
open Go.RowKit Go.Lib Go.Proofs.YtjapahcbhjjeiaaGreatDoorW.PrintWords Go.Proofs.YtjapahcbhjjeiaaGreatDoorW.PrintLast Go.Proofs.YtjapahcbhjjeiaaGreatDoorW.PrintMore Go.Proofs.YtjapahcbhjjeiaaGreatDoor.PA
set_option linter.unusedVariables false
set_option linter.unusedSimpArgs false
set_option maxRecDepth 100000
set_option maxHeartbeats 4000000

theorem bB_app (a b : List UInt8) : bB a ++ bB b = bB (a ++ b) := by
  apply ByteArray.ext
  simp [bB]
theorem bB_sz (a : List UInt8) : (bB a).size = a.length := by simp [bB, ByteArray.size]
theorem digs_len : ∀ (m u : Nat), 1 ≤ m → u < 10 ^ m → (decDigits u).length ≤ m
  | 0, _, h, _ => by omega
  | m + 1, u, _, h => by
    by_cases c : u < 10
    · rw [decDigits_small c]; simp
    · rw [decDigits_big c, List.length_append]
      have hm : 1 ≤ m := by
        rcases Nat.eq_zero_or_pos m with rfl | h'
        · simp at h; omega
        · exact h'
      have := digs_len m (u / 10) hm (by rw [Nat.pow_succ] at h; omega)
      simp only [List.length_cons, List.length_nil]
      omega
theorem dig_ext {d : Nat} (h : d < 10) : (⟨#[48, 49, 50, 51, 52, 53, 54, 55, 56, 57]⟩ : ByteArray).extract d (d + 1) = bB [UInt8.ofNat (48 + d)] := by
  have : d = 0 ∨ d = 1 ∨ d = 2 ∨ d = 3 ∨ d = 4 ∨ d = 5 ∨ d = 6 ∨ d = 7 ∨ d = 8 ∨ d = 9 := by omega
  rcases this with rfl | rfl | rfl | rfl | rfl | rfl | rfl | rfl | rfl | rfl <;> rfl
theorem dec_nat : ∀ (m u : Nat), 1 ≤ m → m ≤ 18 → u < 10 ^ m → citadelref22_Dec.f m (u : Int) = some (bB (decDigits u))
  | 0, _, h, _, _ => by omega
  | m + 1, u, _, h18, h => by
    have hb : u < 1000000000000000000 := Nat.lt_of_lt_of_le h (by
      have := Nat.pow_le_pow_right (show 0 < 10 by decide) h18
      exact this)
    unfold citadelref22_Dec.f
    rw [if_neg (by omega)]
    by_cases c : u < 10
    · rw [if_pos (by omega), if_pos (by omega), w64 (by omega) (by omega), if_pos (by omega), if_pos (by omega), decDigits_small c]
      have : ((u : Int) + 1).toNat = u + 1 := by omega
      rw [this, Int.toNat_natCast, dig_ext c]
    · have hm : 1 ≤ m := by
        rcases Nat.eq_zero_or_pos m with rfl | h'
        · simp at h; omega
        · exact h'
      have hp : 10 ≤ 10 ^ m := Nat.le_trans (by decide) (Nat.pow_le_pow_right (show 0 < 10 by decide) hm)
      have hd : Int.tdiv (u : Int) 10 = ((u / 10 : Nat) : Int) := by rw [Int.tdiv_eq_ediv_of_nonneg (by omega)]; omega
      have hr : Int.tmod (u : Int) 10 = ((u % 10 : Nat) : Int) := by rw [Int.tmod_eq_emod_of_nonneg (by omega)]; omega
      have hlt : u / 10 < 10 ^ m := by rw [Nat.pow_succ] at h; omega
      rw [if_neg (by omega), hd, hr, w64 (by omega) (by omega), dec_nat m (u / 10) hm (by omega) hlt, dec_nat m (u % 10) hm (by omega) (by omega), Option.bind_some, Option.bind_some]
      have l1 := digs_len m (u / 10) hm hlt
      have l2 := digs_len m (u % 10) hm (by omega)
      rw [if_pos (by rw [bB_sz, bB_sz]; omega), bB_app, decDigits_big c, decDigits_small (Nat.mod_lt u (by decide : 0 < 10))]
theorem Dec_calls (v : Int) (W : World) (h0 : -100000000000 < v) (h1 : v < 100000000000) : Calls Tryz.prog 17 #[.int .i64 v] W fun e w' => e = .returned (.string (bB (itoa v))) ∧ ∃ m, w' = W.drewN m := by
  have e : citadelref22_Dec.f 13 v = some (bB (itoa v)) := by
    unfold itoa
    by_cases c : v < 0
    · rw [if_pos c]
      unfold citadelref22_Dec.f
      rw [if_pos c, w64 (by omega) (by omega), show -v = ((v.natAbs : Nat) : Int) by omega, dec_nat 12 v.natAbs (by decide) (by decide) (by omega), Option.bind_some]
      have l1 := digs_len 12 v.natAbs (by decide) (by omega)
      rw [if_pos (by rw [bB_sz]; omega), show (⟨#[45]⟩ : ByteArray) = bB [45] from rfl, bB_app]
      rfl
    · rw [if_neg c]
      have := dec_nat 13 v.toNat (by decide) (by decide) (by omega)
      rw [Int.toNat_of_nonneg (by omega)] at this
      exact this
  exact (citadelref22_Dec.calls 13 v _ W e).mono fun e w' h => ⟨h.1, h.2.out⟩
theorem itoa_len {v : Int} (h0 : -100000000000 < v) (h1 : v < 100000000000) : (itoa v).length ≤ 13 := by
  unfold itoa
  split
  · have := digs_len 12 v.natAbs (by decide) (by omega)
    simp only [List.length_cons]; omega
  · have := digs_len 12 v.toNat (by decide) (by omega)
    omega

theorem str_cell {wr : World} {A : Option Addr} {l : List ByteArray} {n : Nat} (hC : Kd.C Kd.string wr A l.length l) (hn : n < l.length) : ∃ ad, A = some ad ∧ wr.cell? (ad.add n) = some (.string (l.getD n ⟨#[]⟩)) := by
  obtain ⟨ad, rfl, hcell⟩ := Kd.at_string hC (n : Int) (by omega) (by omega)
  refine ⟨ad, rfl, ?_⟩
  rw [Int.toNat_natCast] at hcell
  rw [hcell]
  simp [rdOf, hn]
end Go.Proofs.YtjapahcbhjjeiaaGreatDoor.AS
