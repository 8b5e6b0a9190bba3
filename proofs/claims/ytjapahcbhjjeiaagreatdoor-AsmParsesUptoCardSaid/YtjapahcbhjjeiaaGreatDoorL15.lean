/- Several texts in one. -/
import Derived.Test.YtjapahcbhjjeiaaGreatDoorL10
import Derived.Test.YtjapahcbhjjeiaaGreatDoorK2
import Derived.Test.YtjapahcbhjjeiaaGreatDoorF2
import Derived.Test.YtjapahcbhjjeiaaGreatDoorK16
import Derived.Test.YtjapahcbhjjeiaaGreatDoorK18
/- The document's Dec, its lists of names, and what it picks of them. -/
namespace Go.Proofs.YtjapahcbhjjeiaaGreatDoor.AS
open Go.RowKit Go.Lib Go.Proofs.YtjapahcbhjjeiaaGreatDoorW.PrintWords Go.Proofs.YtjapahcbhjjeiaaGreatDoorW.PrintLast Go.Proofs.YtjapahcbhjjeiaaGreatDoorW.PrintMore Go.Proofs.YtjapahcbhjjeiaaGreatDoor.PA
set_option linter.unusedVariables false
set_option linter.unusedSimpArgs false
set_option maxRecDepth 100000
set_option maxHeartbeats 4000000

theorem bB_app (a b : List UInt8) : bB a ++ bB b = bB (a ++ b) := by
  apply ByteArray.ext
  simp [bB]
theorem bB_sz (a : List UInt8) : (bB a).size = a.length := by simp [bB, ByteArray.size]
theorem digs_len : ∀ (m u : Nat), 1 ≤ m → u < 10 ^ m → (decDigits u).length ≤ m
  | 0, _, h, _ => by omega
  | m + 1, u, _, h => by
    by_cases c : u < 10
    · rw [decDigits_small c]; simp
    · rw [decDigits_big c, List.length_append]
      have hm : 1 ≤ m := by
        rcases Nat.eq_zero_or_pos m with rfl | h'
        · simp at h; omega
        · exact h'
      have := digs_len m (u / 10) hm (by rw [Nat.pow_succ] at h; omega)
      simp only [List.length_cons, List.length_nil]
      omega
theorem dig_ext {d : Nat} (h : d < 10) : (⟨#[48, 49, 50, 51, 52, 53, 54, 55, 56, 57]⟩ : ByteArray).extract d (d + 1) = bB [UInt8.ofNat (48 + d)] := by
  have : d = 0 ∨ d = 1 ∨ d = 2 ∨ d = 3 ∨ d = 4 ∨ d = 5 ∨ d = 6 ∨ d = 7 ∨ d = 8 ∨ d = 9 := by omega
  rcases this with rfl | rfl | rfl | rfl | rfl | rfl | rfl | rfl | rfl | rfl <;> rfl
theorem dec_nat : ∀ (m u : Nat), 1 ≤ m → m ≤ 18 → u < 10 ^ m → citadelref22_Dec.f m (u : Int) = some (bB (decDigits u))
  | 0, _, h, _, _ => by omega
  | m + 1, u, _, h18, h => by
    have hb : u < 1000000000000000000 := Nat.lt_of_lt_of_le h (by
      have := Nat.pow_le_pow_right (show 0 < 10 by decide) h18
      exact this)
    unfold citadelref22_Dec.f
    rw [if_neg (by omega)]
    by_cases c : u < 10
    · rw [if_pos (by omega), if_pos (by omega), w64 (by omega) (by omega), if_pos (by omega), if_pos (by omega), decDigits_small c]
      have : ((u : Int) + 1).toNat = u + 1 := by omega
      rw [this, Int.toNat_natCast, dig_ext c]
    · have hm : 1 ≤ m := by
        rcases Nat.eq_zero_or_pos m with rfl | h'
        · simp at h; omega
        · exact h'
      have hp : 10 ≤ 10 ^ m := Nat.le_trans (by decide) (Nat.pow_le_pow_right (show 0 < 10 by decide) hm)
      have hd : Int.tdiv (u : Int) 10 = ((u / 10 : Nat) : Int) := by rw [Int.tdiv_eq_ediv_of_nonneg (by omega)]; omega
      have hr : Int.tmod (u : Int) 10 = ((u % 10 : Nat) : Int) := by rw [Int.tmod_eq_emod_of_nonneg (by omega)]; omega
      have hlt : u / 10 < 10 ^ m := by rw [Nat.pow_succ] at h; omega
      rw [if_neg (by omega), hd, hr, w64 (by omega) (by omega), dec_nat m (u / 10) hm (by omega) hlt, dec_nat m (u % 10) hm (by omega) (by omega), Option.bind_some, Option.bind_some]
      have l1 := digs_len m (u / 10) hm hlt
      have l2 := digs_len m (u % 10) hm (by omega)
      rw [if_pos (by rw [bB_sz, bB_sz]; omega), bB_app, decDigits_big c, decDigits_small (Nat.mod_lt u (by decide : 0 < 10))]
theorem Dec_calls (v : Int) (W : World) (h0 : -100000000000 < v) (h1 : v < 100000000000) : Calls Tryz.prog 17 #[.int .i64 v] W fun e w' => e = .returned (.string (bB (itoa v))) ∧ ∃ m, w' = W.drewN m := by
  have e : citadelref22_Dec.f 13 v = some (bB (itoa v)) := by
    unfold itoa
    by_cases c : v < 0
    · rw [if_pos c]
      unfold citadelref22_Dec.f
      rw [if_pos c, w64 (by omega) (by omega), show -v = ((v.natAbs : Nat) : Int) by omega, dec_nat 12 v.natAbs (by decide) (by decide) (by omega), Option.bind_some]
      have l1 := digs_len 12 v.natAbs (by decide) (by omega)
      rw [if_pos (by rw [bB_sz]; omega), show (⟨#[45]⟩ : ByteArray) = bB [45] from rfl, bB_app]
      rfl
    · rw [if_neg c]
      have := dec_nat 13 v.toNat (by decide) (by decide) (by omega)
      rw [Int.toNat_of_nonneg (by omega)] at this
      exact this
  exact (citadelref22_Dec.calls 13 v _ W e).mono fun e w' h => ⟨h.1, h.2.out⟩
theorem itoa_len {v : Int} (h0 : -100000000000 < v) (h1 : v < 100000000000) : (itoa v).length ≤ 13 := by
  unfold itoa
  split
  · have := digs_len 12 v.natAbs (by decide) (by omega)
    simp only [List.length_cons]; omega
  · have := digs_len 12 v.toNat (by decide) (by omega)
    omega

def atS (l : List ByteArray) (k : Int) : ByteArray := if k < 0 ∨ (l.length : Int) ≤ k then ⟨#[]⟩ else l.getD k.toNat ⟨#[]⟩
theorem str_cell {wr : World} {A : Option Addr} {l : List ByteArray} {n : Nat} (hC : Kd.C Kd.string wr A l.length l) (hn : n < l.length) : ∃ ad, A = some ad ∧ wr.cell? (ad.add n) = some (.string (l.getD n ⟨#[]⟩)) := by
  obtain ⟨ad, rfl, hcell⟩ := Kd.at_string hC (n : Int) (by omega) (by omega)
  refine ⟨ad, rfl, ?_⟩
  rw [Int.toNat_natCast] at hcell
  rw [hcell]
  simp [rdOf, hn]
theorem rat31 {W : World} {A : Option Addr} {c : Nat} (l : List ByteArray) (k : Int) (hC : Kd.C Kd.string W A l.length l) (hc : l.length ≤ c) (hl : l.length ≤ 100) : Calls Tryz.prog 31 #[.slice A l.length c, .int .i64 k] W fun e w' => e = .returned (.string (atS l k)) ∧ w' = W := by
  have HA := Aside0.mk (show atS l k = if k < 0 ∨ (l.length : Int) ≤ k then ⟨#[]⟩ else l.getD k.toNat ⟨#[]⟩ from rfl)
  obtain ⟨v, hv⟩ : ∃ x, x = atS l k := ⟨_, rfl⟩
  rw [← hv] at HA ⊢
  clear hv
  by_cases c0 : k < 0
  · have d0 : decide (k < 0) = true := by simpa using c0
    go_enter Tryz.func31, Tryz.ntmps31
    go_wp2
    go_ret
    exact ⟨by rw [HA.out, if_pos (.inl c0)]; rfl, rfl⟩
  have d0 : decide (k < 0) = false := by simpa using c0
  by_cases c1 : (l.length : Int) ≤ k
  · have d1 : decide ((l.length : Int) ≤ k) = true := by simpa using c1
    go_enter Tryz.func31, Tryz.ntmps31
    go_wp2
    go_ret
    exact ⟨by rw [HA.out, if_pos (.inr c1)]; rfl, rfl⟩
  have d1 : decide ((l.length : Int) ≤ k) = false := by simpa using c1
  obtain ⟨n, rfl⟩ : ∃ n : Nat, k = (n : Int) := ⟨k.toNat, by omega⟩
  have hn : n < l.length := by omega
  obtain ⟨ad, rfl, y⟩ := str_cell hC hn
  have HV : Aside0 (v = l.getD n ⟨#[]⟩) := ⟨by rw [HA.out, if_neg (by omega), Int.toNat_natCast]⟩
  obtain ⟨u, hu⟩ : ∃ x, x = l.getD n ⟨#[]⟩ := ⟨_, rfl⟩
  rw [← hu] at HV y
  clear hu HA hC
  have hn' : (n : Int) < (l.length : Int) := by omega
  go_enter Tryz.func31, Tryz.ntmps31
  go_wp2
  go_ret
  exact ⟨by rw [HV.out]; rfl, rfl⟩

end Go.Proofs.YtjapahcbhjjeiaaGreatDoor.AS

/- The document's lists of names, a size's letter and width. -/
namespace Go.Proofs.YtjapahcbhjjeiaaGreatDoor.AS
open Go.RowKit Go.Lib Go.Proofs.YtjapahcbhjjeiaaGreatDoorW.PrintWords Go.Proofs.YtjapahcbhjjeiaaGreatDoorW.PrintLast Go.Proofs.YtjapahcbhjjeiaaGreatDoorW.PrintMore Go.Proofs.YtjapahcbhjjeiaaGreatDoor.PA
set_option linter.unusedVariables false
set_option linter.unusedSimpArgs false
set_option maxRecDepth 100000
set_option maxHeartbeats 8000000

def brB : List ByteArray := [⟨#[]⟩, ⟨#[98, 101, 113]⟩, ⟨#[98, 110, 101]⟩, ⟨#[98, 108, 116]⟩, ⟨#[98, 103, 101]⟩, ⟨#[98, 108, 116, 117]⟩, ⟨#[98, 103, 101, 117]⟩]
def alB : List ByteArray := [⟨#[]⟩, ⟨#[97, 100, 100]⟩, ⟨#[115, 117, 98]⟩, ⟨#[115, 108, 108]⟩, ⟨#[115, 108, 116]⟩, ⟨#[115, 108, 116, 117]⟩, ⟨#[120, 111, 114]⟩, ⟨#[115, 114, 108]⟩, ⟨#[115, 114, 97]⟩, ⟨#[111, 114]⟩, ⟨#[97, 110, 100]⟩, ⟨#[109, 117, 108]⟩, ⟨#[109, 117, 108, 104]⟩, ⟨#[109, 117, 108, 104, 115, 117]⟩, ⟨#[109, 117, 108, 104, 117]⟩, ⟨#[100, 105, 118]⟩, ⟨#[100, 105, 118, 117]⟩, ⟨#[114, 101, 109]⟩, ⟨#[114, 101, 109, 117]⟩, ⟨#[97, 100, 100, 119]⟩, ⟨#[115, 117, 98, 119]⟩, ⟨#[115, 108, 108, 119]⟩, ⟨#[115, 114, 108, 119]⟩, ⟨#[115, 114, 97, 119]⟩, ⟨#[109, 117, 108, 119]⟩, ⟨#[100, 105, 118, 119]⟩, ⟨#[100, 105, 118, 117, 119]⟩, ⟨#[114, 101, 109, 119]⟩, ⟨#[114, 101, 109, 117, 119]⟩]
def imnB : List ByteArray := [⟨#[]⟩, ⟨#[97, 100, 100, 105]⟩, ⟨#[]⟩, ⟨#[115, 108, 108, 105]⟩, ⟨#[115, 108, 116, 105]⟩, ⟨#[115, 108, 116, 105, 117]⟩, ⟨#[120, 111, 114, 105]⟩, ⟨#[115, 114, 108, 105]⟩, ⟨#[115, 114, 97, 105]⟩, ⟨#[111, 114, 105]⟩, ⟨#[97, 110, 100, 105]⟩, ⟨#[]⟩, ⟨#[]⟩, ⟨#[]⟩, ⟨#[]⟩, ⟨#[]⟩, ⟨#[]⟩, ⟨#[]⟩, ⟨#[]⟩, ⟨#[97, 100, 100, 105, 119]⟩, ⟨#[]⟩, ⟨#[115, 108, 108, 105, 119]⟩, ⟨#[115, 114, 108, 105, 119]⟩, ⟨#[115, 114, 97, 105, 119]⟩]
def amB : List ByteArray := [⟨#[]⟩, ⟨#[97, 109, 111, 115, 119, 97, 112]⟩, ⟨#[97, 109, 111, 97, 100, 100]⟩, ⟨#[97, 109, 111, 120, 111, 114]⟩, ⟨#[97, 109, 111, 97, 110, 100]⟩, ⟨#[97, 109, 111, 111, 114]⟩, ⟨#[97, 109, 111, 109, 105, 110]⟩, ⟨#[97, 109, 111, 109, 97, 120]⟩, ⟨#[97, 109, 111, 109, 105, 110, 117]⟩, ⟨#[97, 109, 111, 109, 97, 120, 117]⟩]
def ltB : List ByteArray := [⟨#[]⟩, ⟨#[98]⟩, ⟨#[104]⟩, ⟨#[]⟩, ⟨#[119]⟩, ⟨#[]⟩, ⟨#[]⟩, ⟨#[]⟩, ⟨#[100]⟩]
def c1B : List ByteArray := [⟨#[]⟩, ⟨#[99, 115, 114, 114, 119]⟩, ⟨#[99, 115, 114, 114, 115]⟩, ⟨#[99, 115, 114, 114, 99]⟩]
def c2B : List ByteArray := [⟨#[]⟩, ⟨#[99, 115, 114, 114, 119, 105]⟩, ⟨#[99, 115, 114, 114, 115, 105]⟩, ⟨#[99, 115, 114, 114, 99, 105]⟩]
theorem l32_calls (W : World) : Calls Tryz.prog 32 #[] W fun e w' => ∃ A, e = .returned (.slice A 7 7) ∧ Kd.C Kd.string w' A 7 brB ∧ Below W.heap.size W w' := by
  have HB := Aside0.mk (Below.refl W.heap.size W)
  go_enter Tryz.func32, Tryz.ntmps32
  go_wp2_with (first | ((with_reducible refine gate_dst (N := 1) rfl ?_); refine litS_event (by rfl) (N := 1) (by rfl) [⟨#[]⟩, ⟨#[98, 101, 113]⟩, ⟨#[98, 110, 101]⟩, ⟨#[98, 108, 116]⟩, ⟨#[98, 103, 101]⟩, ⟨#[98, 108, 116, 117]⟩, ⟨#[98, 103, 101, 117]⟩] (by decide) (by first | (go_simp; done) | (go_simp; rfl)) ?_; intro Aa wa hCa hb; have HCa := Aside0.mk hCa; have HB2 := Aside0.mk (below_step (by repeat (first | (with_reducible first | exact HB.out | apply below_alloc | apply pw_below_drewN | apply below_drew1) | exact HB.out)) hb); clear HB hCa hb; have HB := HB2; clear HB2) | fail)
  go_ret
  exact ⟨Aa, rfl, HCa.out, HB.out⟩
theorem l34_calls (W : World) : Calls Tryz.prog 34 #[] W fun e w' => ∃ A, e = .returned (.slice A 29 29) ∧ Kd.C Kd.string w' A 29 alB ∧ Below W.heap.size W w' := by
  have HB := Aside0.mk (Below.refl W.heap.size W)
  go_enter Tryz.func34, Tryz.ntmps34
  go_wp2_with (first | ((with_reducible refine gate_dst (N := 1) rfl ?_); refine litS_event (by rfl) (N := 1) (by rfl) [⟨#[]⟩, ⟨#[97, 100, 100]⟩, ⟨#[115, 117, 98]⟩, ⟨#[115, 108, 108]⟩, ⟨#[115, 108, 116]⟩, ⟨#[115, 108, 116, 117]⟩, ⟨#[120, 111, 114]⟩, ⟨#[115, 114, 108]⟩, ⟨#[115, 114, 97]⟩, ⟨#[111, 114]⟩, ⟨#[97, 110, 100]⟩, ⟨#[109, 117, 108]⟩, ⟨#[109, 117, 108, 104]⟩, ⟨#[109, 117, 108, 104, 115, 117]⟩, ⟨#[109, 117, 108, 104, 117]⟩, ⟨#[100, 105, 118]⟩, ⟨#[100, 105, 118, 117]⟩, ⟨#[114, 101, 109]⟩, ⟨#[114, 101, 109, 117]⟩, ⟨#[97, 100, 100, 119]⟩, ⟨#[115, 117, 98, 119]⟩, ⟨#[115, 108, 108, 119]⟩, ⟨#[115, 114, 108, 119]⟩, ⟨#[115, 114, 97, 119]⟩, ⟨#[109, 117, 108, 119]⟩, ⟨#[100, 105, 118, 119]⟩, ⟨#[100, 105, 118, 117, 119]⟩, ⟨#[114, 101, 109, 119]⟩, ⟨#[114, 101, 109, 117, 119]⟩] (by decide) (by first | (go_simp; done) | (go_simp; rfl)) ?_; intro Aa wa hCa hb; have HCa := Aside0.mk hCa; have HB2 := Aside0.mk (below_step (by repeat (first | (with_reducible first | exact HB.out | apply below_alloc | apply pw_below_drewN | apply below_drew1) | exact HB.out)) hb); clear HB hCa hb; have HB := HB2; clear HB2) | fail)
  go_ret
  exact ⟨Aa, rfl, HCa.out, HB.out⟩
theorem l35_calls (W : World) : Calls Tryz.prog 35 #[] W fun e w' => ∃ A, e = .returned (.slice A 24 24) ∧ Kd.C Kd.string w' A 24 imnB ∧ Below W.heap.size W w' := by
  have HB := Aside0.mk (Below.refl W.heap.size W)
  go_enter Tryz.func35, Tryz.ntmps35
  go_wp2_with (first | ((with_reducible refine gate_dst (N := 1) rfl ?_); refine litS_event (by rfl) (N := 1) (by rfl) [⟨#[]⟩, ⟨#[97, 100, 100, 105]⟩, ⟨#[]⟩, ⟨#[115, 108, 108, 105]⟩, ⟨#[115, 108, 116, 105]⟩, ⟨#[115, 108, 116, 105, 117]⟩, ⟨#[120, 111, 114, 105]⟩, ⟨#[115, 114, 108, 105]⟩, ⟨#[115, 114, 97, 105]⟩, ⟨#[111, 114, 105]⟩, ⟨#[97, 110, 100, 105]⟩, ⟨#[]⟩, ⟨#[]⟩, ⟨#[]⟩, ⟨#[]⟩, ⟨#[]⟩, ⟨#[]⟩, ⟨#[]⟩, ⟨#[]⟩, ⟨#[97, 100, 100, 105, 119]⟩, ⟨#[]⟩, ⟨#[115, 108, 108, 105, 119]⟩, ⟨#[115, 114, 108, 105, 119]⟩, ⟨#[115, 114, 97, 105, 119]⟩] (by decide) (by first | (go_simp; done) | (go_simp; rfl)) ?_; intro Aa wa hCa hb; have HCa := Aside0.mk hCa; have HB2 := Aside0.mk (below_step (by repeat (first | (with_reducible first | exact HB.out | apply below_alloc | apply pw_below_drewN | apply below_drew1) | exact HB.out)) hb); clear HB hCa hb; have HB := HB2; clear HB2) | fail)
  go_ret
  exact ⟨Aa, rfl, HCa.out, HB.out⟩
theorem l37_calls (W : World) : Calls Tryz.prog 37 #[] W fun e w' => ∃ A, e = .returned (.slice A 10 10) ∧ Kd.C Kd.string w' A 10 amB ∧ Below W.heap.size W w' := by
  have HB := Aside0.mk (Below.refl W.heap.size W)
  go_enter Tryz.func37, Tryz.ntmps37
  go_wp2_with (first | ((with_reducible refine gate_dst (N := 1) rfl ?_); refine litS_event (by rfl) (N := 1) (by rfl) [⟨#[]⟩, ⟨#[97, 109, 111, 115, 119, 97, 112]⟩, ⟨#[97, 109, 111, 97, 100, 100]⟩, ⟨#[97, 109, 111, 120, 111, 114]⟩, ⟨#[97, 109, 111, 97, 110, 100]⟩, ⟨#[97, 109, 111, 111, 114]⟩, ⟨#[97, 109, 111, 109, 105, 110]⟩, ⟨#[97, 109, 111, 109, 97, 120]⟩, ⟨#[97, 109, 111, 109, 105, 110, 117]⟩, ⟨#[97, 109, 111, 109, 97, 120, 117]⟩] (by decide) (by first | (go_simp; done) | (go_simp; rfl)) ?_; intro Aa wa hCa hb; have HCa := Aside0.mk hCa; have HB2 := Aside0.mk (below_step (by repeat (first | (with_reducible first | exact HB.out | apply below_alloc | apply pw_below_drewN | apply below_drew1) | exact HB.out)) hb); clear HB hCa hb; have HB := HB2; clear HB2) | fail)
  go_ret
  exact ⟨Aa, rfl, HCa.out, HB.out⟩
theorem litS_step {P : Program} {ops : Array Oper} {o : Oper} {a : Act} {Kc : Act → World → Prop} {Q : Exit → Act → World → Prop} {W : World} (hw : Region.wanted o (yielded ops a.tmps) = true) (xs : List ByteArray) (hl : xs.length ≤ 1000)
    (hrun : (execOp a.eval o).run P W = .ok (.value (.slice (some ⟨W.heap.size, 0, none⟩) xs.length xs.length)) (W.alloc (.cells (xs.map Value.string).toArray 9)))
    (h : ∀ A w1, Kd.C Kd.string w1 A xs.length xs → Below W.heap.size W w1 → Kc (a.put o.dst (.slice A xs.length xs.length)) w1) {N : Option Tmp} : if Region.wanted o (yielded ops a.tmps) = true then Oper.wp P o a W Kc Q else Kc (a.put N undef) W := by
  rw [if_pos hw]
  unfold Oper.wp
  rw [hrun]
  exact h _ _ (lit_S W xs hl) (below_alloc (Below.refl _ _) _)
theorem letter_calls (k : Int) (W : World) : Calls Tryz.prog 33 #[.int .i64 k] W fun e w' => e = .returned (.string (atS ltB k)) ∧ Below W.heap.size W w' := by
  have HB := Aside0.mk (Below.refl W.heap.size W)
  go_enter Tryz.func33, Tryz.ntmps33
  go_wp2_with (first | ((with_reducible refine gate_dst (N := 3) rfl ?_); refine litS_event (by rfl) (N := 3) (by rfl) [⟨#[]⟩, ⟨#[98]⟩, ⟨#[104]⟩, ⟨#[]⟩, ⟨#[119]⟩, ⟨#[]⟩, ⟨#[]⟩, ⟨#[]⟩, ⟨#[100]⟩] (by decide) (by first | (go_simp; done) | (go_simp; rfl)) ?_; intro Aa wa hCa hb; have HCa := Aside0.mk hCa; have HB2 := Aside0.mk (below_step (by repeat (first | (with_reducible first | exact HB.out | apply below_alloc | apply pw_below_drewN | apply below_drew1) | exact HB.out)) hb); clear HB hCa hb; have HB := HB2; clear HB2) | (go_at_call 31; (refine (rat31 ltB k HCa.out (by decide) (by decide)).mono ?_); rintro e w' ⟨rfl, rfl⟩) | fail)
  go_ret
  exact ⟨rfl, HB.out⟩
def widB (k : Int) : ByteArray := if k = 4 then ⟨#[46, 119]⟩ else ⟨#[46, 100]⟩
theorem wide_calls (k : Int) (W : World) : Calls Tryz.prog 36 #[.int .i64 k] W fun e w' => e = .returned (.string (widB k)) ∧ w' = W := by
  have HV := Aside0.mk (show widB k = if k = 4 then ⟨#[46, 119]⟩ else ⟨#[46, 100]⟩ from rfl)
  obtain ⟨v, hv⟩ : ∃ x, x = widB k := ⟨_, rfl⟩
  rw [← hv] at HV ⊢
  clear hv
  by_cases c : k = 4
  · have d : (k == 4) = true := by simpa using c
    have HW : Aside0 (v = ⟨#[46, 119]⟩) := ⟨by rw [HV.out, if_pos c]⟩
    clear c HV
    go_enter Tryz.func36, Tryz.ntmps36
    go_wp2
    go_ret
    exact ⟨by rw [HW.out]; rfl, rfl⟩
  · have d : (k == 4) = false := by simpa using c
    have HW : Aside0 (v = ⟨#[46, 100]⟩) := ⟨by rw [HV.out, if_neg c]⟩
    clear c HV
    go_enter Tryz.func36, Tryz.ntmps36
    go_wp2
    go_ret
    exact ⟨by rw [HW.out]; rfl, rfl⟩

theorem atS_sz (l : List ByteArray) (h : (l.all fun x => decide (x.size ≤ 10)) = true) (k : Int) : (atS l k).size ≤ 10 := by
  unfold atS
  split
  · decide
  · rename_i hk
    have hlt : k.toNat < l.length := by omega
    rw [List.getD_eq_getElem?_getD, List.getElem?_eq_getElem hlt, Option.getD_some]
    simpa using List.all_eq_true.1 h _ (List.getElem_mem hlt)
theorem widB_sz (k : Int) : (widB k).size ≤ 10 := by unfold widB; split <;> decide
def rB (v : Int) : ByteArray := (⟨#[120]⟩ : ByteArray) ++ bB (itoa v)
def nB (v : Int) : ByteArray := bB (itoa v)
def lineR (i : Ins) : ByteArray :=
  if i.kind = 1 then (⟨#[108, 117, 105, 32]⟩ : ByteArray) ++ rB i.rd ++ (⟨#[44, 32]⟩ : ByteArray) ++ nB (i.imm.tdiv 4096)
  else if i.kind = 2 then (⟨#[97, 117, 105, 112, 99, 32]⟩ : ByteArray) ++ rB i.rd ++ (⟨#[44, 32]⟩ : ByteArray) ++ nB (i.imm.tdiv 4096)
  else if i.kind = 3 then (⟨#[106, 97, 108, 32]⟩ : ByteArray) ++ rB i.rd ++ (⟨#[44, 32]⟩ : ByteArray) ++ nB i.imm
  else if i.kind = 4 then (⟨#[106, 97, 108, 114, 32]⟩ : ByteArray) ++ rB i.rd ++ (⟨#[44, 32]⟩ : ByteArray) ++ nB i.imm ++ (⟨#[40]⟩ : ByteArray) ++ rB i.rs1 ++ (⟨#[41]⟩ : ByteArray)
  else if i.kind = 5 then atS brB i.fn ++ (⟨#[32]⟩ : ByteArray) ++ rB i.rs1 ++ (⟨#[44, 32]⟩ : ByteArray) ++ rB i.rs2 ++ (⟨#[44, 32]⟩ : ByteArray) ++ nB i.imm
  else if i.kind = 6 then (⟨#[108]⟩ : ByteArray) ++ atS ltB i.size ++ (if i.sg = true then ⟨#[]⟩ else ⟨#[117]⟩) ++ (⟨#[32]⟩ : ByteArray) ++ rB i.rd ++ (⟨#[44, 32]⟩ : ByteArray) ++ nB i.imm ++ (⟨#[40]⟩ : ByteArray) ++ rB i.rs1 ++ (⟨#[41]⟩ : ByteArray)
  else if i.kind = 7 then (⟨#[115]⟩ : ByteArray) ++ atS ltB i.size ++ (⟨#[32]⟩ : ByteArray) ++ rB i.rs2 ++ (⟨#[44, 32]⟩ : ByteArray) ++ nB i.imm ++ (⟨#[40]⟩ : ByteArray) ++ rB i.rs1 ++ (⟨#[41]⟩ : ByteArray)
  else if i.kind = 8 then atS alB i.fn ++ (⟨#[32]⟩ : ByteArray) ++ rB i.rd ++ (⟨#[44, 32]⟩ : ByteArray) ++ rB i.rs1 ++ (⟨#[44, 32]⟩ : ByteArray) ++ rB i.rs2
  else if i.kind = 9 then atS imnB i.fn ++ (⟨#[32]⟩ : ByteArray) ++ rB i.rd ++ (⟨#[44, 32]⟩ : ByteArray) ++ rB i.rs1 ++ (⟨#[44, 32]⟩ : ByteArray) ++ nB i.imm
  else if i.kind = 10 then (⟨#[102, 101, 110, 99, 101]⟩ : ByteArray)
  else if i.kind = 11 then (⟨#[101, 99, 97, 108, 108]⟩ : ByteArray)
  else if i.kind = 12 then (⟨#[101, 98, 114, 101, 97, 107]⟩ : ByteArray)
  else if i.kind = 13 then atS c1B i.fn ++ (⟨#[32]⟩ : ByteArray) ++ rB i.rd ++ (⟨#[44, 32]⟩ : ByteArray) ++ nB i.imm ++ (⟨#[44, 32]⟩ : ByteArray) ++ rB i.rs1
  else if i.kind = 14 then atS c2B i.fn ++ (⟨#[32]⟩ : ByteArray) ++ rB i.rd ++ (⟨#[44, 32]⟩ : ByteArray) ++ nB i.imm ++ (⟨#[44, 32]⟩ : ByteArray) ++ nB i.rs1
  else if i.kind = 15 then (⟨#[108, 114]⟩ : ByteArray) ++ widB i.size ++ (⟨#[32]⟩ : ByteArray) ++ rB i.rd ++ (⟨#[44, 32, 40]⟩ : ByteArray) ++ rB i.rs1 ++ (⟨#[41]⟩ : ByteArray)
  else if i.kind = 16 then (⟨#[115, 99]⟩ : ByteArray) ++ widB i.size ++ (⟨#[32]⟩ : ByteArray) ++ rB i.rd ++ (⟨#[44, 32]⟩ : ByteArray) ++ rB i.rs2 ++ (⟨#[44, 32, 40]⟩ : ByteArray) ++ rB i.rs1 ++ (⟨#[41]⟩ : ByteArray)
  else if i.kind = 17 then atS amB i.fn ++ widB i.size ++ (⟨#[32]⟩ : ByteArray) ++ rB i.rd ++ (⟨#[44, 32]⟩ : ByteArray) ++ rB i.rs2 ++ (⟨#[44, 32, 40]⟩ : ByteArray) ++ rB i.rs1 ++ (⟨#[41]⟩ : ByteArray)
  else if i.kind = 18 then (⟨#[115, 114, 101, 116]⟩ : ByteArray)
  else if i.kind = 19 then (⟨#[119, 102, 105]⟩ : ByteArray)
  else (⟨#[115, 102, 101, 110, 99, 101, 46, 118, 109, 97, 32]⟩ : ByteArray) ++ rB i.rs1 ++ (⟨#[44, 32]⟩ : ByteArray) ++ rB i.rs2

end Go.Proofs.YtjapahcbhjjeiaaGreatDoor.AS

/- The document's Line, walked. -/
namespace Go.Proofs.YtjapahcbhjjeiaaGreatDoor.AS
open Go.RowKit Go.Lib Go.Proofs.YtjapahcbhjjeiaaGreatDoorW.PrintWords Go.Proofs.YtjapahcbhjjeiaaGreatDoorW.PrintLast Go.Proofs.YtjapahcbhjjeiaaGreatDoorW.PrintMore Go.Proofs.YtjapahcbhjjeiaaGreatDoor.PA
set_option linter.unusedVariables false
set_option linter.unusedSimpArgs false
set_option maxRecDepth 100000
set_option maxHeartbeats 8000000

theorem rline_walk {kind fn rd rs1 rs2 imm size : Int} {sg : Bool} {ev : Int} (hR : Rg ⟨kind, fn, rd, rs1, rs2, imm, size, sg⟩) (hk : kind = 1 ∨ kind = 2 ∨ kind = 3 ∨ kind = 4 ∨ kind = 5 ∨ kind = 6 ∨ kind = 7 ∨ kind = 8 ∨ kind = 9 ∨ kind = 10 ∨ kind = 11 ∨ kind = 12 ∨ kind = 13 ∨ kind = 14 ∨ kind = 15 ∨ kind = 16 ∨ kind = 17 ∨ kind = 18 ∨ kind = 19 ∨ kind = 20)
    (hE : ∀ W, Calls Tryz.prog 19 #[.agg #[.int .i64 kind, .int .i64 fn, .int .i64 rd, .int .i64 rs1, .int .i64 rs2, .int .i64 imm, .int .i64 size, .bool sg]] W fun e w' => e = .returned (.tuple #[.int .u32 ev, .bool true]) ∧ Below W.heap.size W w') (W : World) :
    Calls Tryz.prog 11 #[.agg #[.int .i64 kind, .int .i64 fn, .int .i64 rd, .int .i64 rs1, .int .i64 rs2, .int .i64 imm, .int .i64 size, .bool sg]] W fun e w' => e = .returned (.tuple #[.string (lineR ⟨kind, fn, rd, rs1, rs2, imm, size, sg⟩), .bool true]) ∧ Below W.heap.size W w' := by
  have HB := Aside0.mk (Below.refl W.heap.size W)
  have hu23 := Tryz.underlying23
  have r1 : -2147483648 ≤ imm ∧ imm < 2147483648 := hR.imm
  have r2 : 0 ≤ rd ∧ rd ≤ 31 := hR.rd
  have r3 : 0 ≤ rs1 ∧ rs1 ≤ 31 := hR.rs1
  have r4 : 0 ≤ rs2 ∧ rs2 ≤ 31 := hR.rs2
  have r5 : 0 ≤ fn ∧ fn ≤ 28 := hR.fn
  have i1 : (bB (itoa rd)).size ≤ 13 := by rw [bB_sz]; exact itoa_len (by omega) (by omega)
  have i2 : (bB (itoa rs1)).size ≤ 13 := by rw [bB_sz]; exact itoa_len (by omega) (by omega)
  have i3 : (bB (itoa rs2)).size ≤ 13 := by rw [bB_sz]; exact itoa_len (by omega) (by omega)
  have i4 : (bB (itoa imm)).size ≤ 13 := by rw [bB_sz]; exact itoa_len (by omega) (by omega)
  have q0 : -2147483648 ≤ imm.tdiv 4096 ∧ imm.tdiv 4096 < 2147483648 := by have h_ : Int.sign 4096 = 1 := rfl; rw [Int.tdiv_eq_ediv, h_]; split <;> omega
  have i5 : (bB (itoa (imm.tdiv 4096))).size ≤ 13 := by rw [bB_sz]; exact itoa_len (by omega) (by omega)
  have s1 := atS_sz ltB (by decide) size
  have s2 := widB_sz size
  have s3 := atS_sz brB (by decide) fn
  have s4 := atS_sz alB (by decide) fn
  have s5 := atS_sz imnB (by decide) fn
  have s6 := atS_sz amB (by decide) fn
  have s7 := atS_sz c1B (by decide) fn
  have s8 := atS_sz c2B (by decide) fn
  clear hR
  go_enter Tryz.func11, Tryz.ntmps11
  go_upto_region 9 with (first | ((with_reducible refine gate_dst (N := 1) rfl ?_); refine box_event (by rfl) (N := 1) (by rfl) (cs := #[.int .i64 kind, .int .i64 fn, .int .i64 rd, .int .i64 rs1, .int .i64 rs2, .int .i64 imm, .int .i64 size, .bool sg]) (t := 23) (by first | (go_simp; done) | (go_simp; rfl)) ?_; intro g3 hg w3 hbox hb; have H3 := Aside0.mk hbox; have HB2 := Aside0.mk (below_step HB.out hb); clear HB; have HB := HB2; clear HB2 hbox hb hg; obtain ⟨y0, y1, y2, y3, y4, y5, y6, y7, yf0, yf1, yf2, yf3, yf4, yf5, yf6, yf7⟩ := cells8 H3.out) | (go_at_call 19; (with_reducible refine (hE _).mono ?_); rintro e w' ⟨rfl, hb⟩; have H32 := Aside0.mk (blk_below (by (with_reducible repeat (first | refine blk_drewN ?_ _ | refine blk_drew ?_ | refine blk_alloc ?_ _)); exact H3.out) hb); have HB2 := Aside0.mk (below_step (by repeat (first | (with_reducible first | exact HB.out | apply below_alloc | apply pw_below_drewN | apply below_drew1) | exact HB.out)) hb); clear hb HB H3 y0 y1 y2 y3 y4 y5 y6 y7 yf0 yf1 yf2 yf3 yf4 yf5 yf6 yf7; have HB := HB2; have H3 := H32; clear HB2 H32; obtain ⟨y0, y1, y2, y3, y4, y5, y6, y7, yf0, yf1, yf2, yf3, yf4, yf5, yf6, yf7⟩ := cells8 H3.out) | (go_at_call 17; (with_reducible refine (Dec_calls _ _ (by omega) (by omega)).mono ?_); rintro e w' ⟨rfl, ⟨nd, rfl⟩⟩) | fail)
  have hk2 : kind = 5 ∨ kind = 8 ∨ kind = 9 ∨ kind = 13 ∨ kind = 14 ∨ kind = 17 ∨ kind = 6 ∨ kind = 1 ∨ kind = 2 ∨ kind = 3 ∨ kind = 4 ∨ kind = 7 ∨ kind = 10 ∨ kind = 11 ∨ kind = 12 ∨ kind = 15 ∨ kind = 16 ∨ kind = 18 ∨ kind = 19 ∨ kind = 20 := by omega
  clear hk
  rcases hk2 with rfl | rfl | rfl | rfl | rfl | rfl | rfl | rfl | rfl | rfl | rfl | rfl | rfl | rfl | rfl | rfl | rfl | rfl | rfl | rfl
  · go_upto_region 18 with fail
    refine startR (n := 15) (S := fun w' => w'.cell? ⟨g3, 1, none⟩ = some (.int .i64 fn) ∧ w'.cell? ⟨g3, 3, none⟩ = some (.int .i64 rs1) ∧ w'.cell? ⟨g3, 6, none⟩ = some (.int .i64 size)) (ds := []) (by kernel_rfl) rfl ⟨(blk_cell (by (with_reducible repeat (first | refine blk_drewN ?_ _ | refine blk_drew ?_ | refine blk_alloc ?_ _)); exact H3.out) 1).trans rfl, (blk_cell (by (with_reducible repeat (first | refine blk_drewN ?_ _ | refine blk_drew ?_ | refine blk_alloc ?_ _)); exact H3.out) 3).trans rfl, (blk_cell (by (with_reducible repeat (first | refine blk_drewN ?_ _ | refine blk_drew ?_ | refine blk_alloc ?_ _)); exact H3.out) 6).trans rfl⟩ (fun hS => ?_)
    refine pureR 1 (N := some 76) (v := ?_) (a' := ?_) rfl rfl (by kernel_rfl) (fun _ _ _ h => h) (Or.inl ⟨by rfl, ?_⟩) ?_ ?_; rotate_left; (· (intro w'; first | (go_simp; done) | (go_simp; with_reducible rfl) | (go_simp; rw [if_neg (by omega)]))); rotate_left; (· (simp only [Act.put, putS]; rfl))
    refine takeR 2 (N := some 77) (v := ?_) (a' := ?_) rfl rfl (by kernel_rfl) (fun _ _ _ h => h) (Or.inl ⟨by rfl, fun w' hS' => ?_⟩) (by assumption) ?_ ?_; rotate_left; (· (obtain ⟨t1, t3, t6⟩ := hS'; first | (go_simp; done) | (go_simp; with_reducible rfl))); rotate_left; (· (simp only [Act.put, putS]; rfl))
    refine pureR 5 (N := some 80) (v := ?_) (a' := ?_) rfl rfl (by kernel_rfl) (fun _ _ _ h => h) (Or.inl ⟨by rfl, ?_⟩) ?_ ?_; rotate_left; (· (intro w'; first | (go_simp; done) | (go_simp; with_reducible rfl) | (go_simp; rw [if_neg (by omega)]))); rotate_left; (· (simp only [Act.put, putS]; rfl))
    refine pureR 8 (N := some 83) (v := ?_) (a' := ?_) rfl rfl (by kernel_rfl) (fun _ _ _ h => h) (Or.inl ⟨by rfl, ?_⟩) ?_ ?_; rotate_left; (· (intro w'; first | (go_simp; done) | (go_simp; with_reducible rfl) | (go_simp; rw [if_neg (by omega)]))); rotate_left; (· (simp only [Act.put, putS]; rfl))
    refine pureR 11 (N := some 86) (v := ?_) (a' := ?_) rfl rfl (by kernel_rfl) (fun _ _ _ h => h) (Or.inl ⟨by rfl, ?_⟩) ?_ ?_; rotate_left; (· (intro w'; first | (go_simp; done) | (go_simp; with_reducible rfl) | (go_simp; rw [if_neg (by omega)]))); rotate_left; (· (simp only [Act.put, putS]; rfl))
    refine oneR 0 (N := some 75) rfl rfl (by kernel_rfl) (by decide) (fun K hK => ?_); (refine goes_ Tryz.func32 (by kernel_rfl) rfl #[] (by rfl) rfl rfl (by (try simp only [List.map_toArray, List.map_cons, List.map_nil]); first | done | rfl) ?_; refine (l32_calls _).mono ?_; rintro e w' ⟨Aa, rfl, hCa, hb⟩; have HCa := Aside0.mk hCa; clear hCa; have H32 := Aside0.mk (blk_below (by (with_reducible repeat (first | refine blk_drewN ?_ _ | refine blk_drew ?_ | refine blk_alloc ?_ _)); exact H3.out) hb); have HB2 := Aside0.mk (below_step (by repeat (first | (with_reducible first | exact HB.out | apply below_alloc | apply pw_below_drewN | apply below_drew1) | exact HB.out)) hb); clear hb HB H3; have HB := HB2; have H3 := H32; clear HB2 H32; refine ⟨_, rfl, ?_⟩; refine hK.out _ _ ⟨(blk_cell (by (with_reducible repeat (first | refine blk_drewN ?_ _ | refine blk_drew ?_ | refine blk_alloc ?_ _)); exact H3.out) 1).trans rfl, (blk_cell (by (with_reducible repeat (first | refine blk_drewN ?_ _ | refine blk_drew ?_ | refine blk_alloc ?_ _)); exact H3.out) 3).trans rfl, (blk_cell (by (with_reducible repeat (first | refine blk_drewN ?_ _ | refine blk_drew ?_ | refine blk_alloc ?_ _)); exact H3.out) 6).trans rfl⟩ (fun hS => ?_); clear hK K; refine norm_ (a' := ?_) ?_ ?_; rotate_left; (· (show Act.put _ (some 75) _ = _; simp only [Act.put, putS]; rfl)))
    refine oneR 3 (N := some 78) rfl rfl (by kernel_rfl) (by decide) (fun K hK => ?_); (refine goes_ Tryz.func31 (by kernel_rfl) rfl #[.slice Aa 7 7, .int .i64 fn] (by rfl) rfl rfl (by (try simp only [List.map_toArray, List.map_cons, List.map_nil]); first | done | rfl) ?_; refine (rat31 brB fn (by repeat (first | exact HCa.out | apply Kd.C_drewN | apply Kd.C_drew)) (by decide) (by decide)).mono ?_; rintro e w' ⟨rfl, rfl⟩; refine ⟨_, rfl, ?_⟩; refine hK.out _ _ ⟨(blk_cell (by (with_reducible repeat (first | refine blk_drewN ?_ _ | refine blk_drew ?_ | refine blk_alloc ?_ _)); exact H3.out) 1).trans rfl, (blk_cell (by (with_reducible repeat (first | refine blk_drewN ?_ _ | refine blk_drew ?_ | refine blk_alloc ?_ _)); exact H3.out) 3).trans rfl, (blk_cell (by (with_reducible repeat (first | refine blk_drewN ?_ _ | refine blk_drew ?_ | refine blk_alloc ?_ _)); exact H3.out) 6).trans rfl⟩ (fun hS => ?_); clear hK K; refine norm_ (a' := ?_) ?_ ?_; rotate_left; (· (show Act.put _ (some 78) _ = _; simp only [Act.put, putS]; rfl)))
    refine pureR 4 (N := some 79) (v := ?_) (a' := ?_) rfl rfl (by kernel_rfl) (fun _ _ _ h => h) (Or.inl ⟨by rfl, ?_⟩) ?_ ?_; rotate_left; (· (intro w'; first | (go_simp; done) | (go_simp; with_reducible rfl) | (go_simp; rw [if_neg (by omega)]))); rotate_left; (· (simp only [Act.put, putS]; rfl))
    refine pureR 6 (N := some 81) (v := ?_) (a' := ?_) rfl rfl (by kernel_rfl) (fun _ _ _ h => h) (Or.inl ⟨by rfl, ?_⟩) ?_ ?_; rotate_left; (· (intro w'; first | (go_simp; done) | (go_simp; with_reducible rfl) | (go_simp; rw [if_neg (by omega)]))); rotate_left; (· (simp only [Act.put, putS]; rfl))
    refine pureR 7 (N := some 82) (v := ?_) (a' := ?_) rfl rfl (by kernel_rfl) (fun _ _ _ h => h) (Or.inl ⟨by rfl, ?_⟩) ?_ ?_; rotate_left; (· (intro w'; first | (go_simp; done) | (go_simp; with_reducible rfl) | (go_simp; rw [if_neg (by omega)]))); rotate_left; (· (simp only [Act.put, putS]; rfl))
    refine pureR 9 (N := some 84) (v := ?_) (a' := ?_) rfl rfl (by kernel_rfl) (fun _ _ _ h => h) (Or.inl ⟨by rfl, ?_⟩) ?_ ?_; rotate_left; (· (intro w'; first | (go_simp; done) | (go_simp; with_reducible rfl) | (go_simp; rw [if_neg (by omega)]))); rotate_left; (· (simp only [Act.put, putS]; rfl))
    refine pureR 10 (N := some 85) (v := ?_) (a' := ?_) rfl rfl (by kernel_rfl) (fun _ _ _ h => h) (Or.inl ⟨by rfl, ?_⟩) ?_ ?_; rotate_left; (· (intro w'; first | (go_simp; done) | (go_simp; with_reducible rfl) | (go_simp; rw [if_neg (by omega)]))); rotate_left; (· (simp only [Act.put, putS]; rfl))
    refine pureR 12 (N := some 87) (v := ?_) (a' := ?_) rfl rfl (by kernel_rfl) (fun _ _ _ h => h) (Or.inl ⟨by rfl, ?_⟩) ?_ ?_; rotate_left; (· (intro w'; first | (go_simp; done) | (go_simp; with_reducible rfl) | (go_simp; rw [if_neg (by omega)]))); rotate_left; (· (simp only [Act.put, putS]; rfl))
    refine pureR 13 (N := some 2) (v := ?_) (a' := ?_) rfl rfl (by kernel_rfl) (fun _ _ _ h => h) (Or.inl ⟨by rfl, ?_⟩) ?_ ?_; rotate_left; (· (intro w'; first | (go_simp; done) | (go_simp; with_reducible rfl) | (go_simp; rw [if_neg (by omega)]))); rotate_left; (· (simp only [Act.put, putS]; rfl))
    refine pureR 14 (N := some 3) (v := ?_) (a' := ?_) rfl rfl (by kernel_rfl) (fun _ _ _ h => h) (Or.inl ⟨by rfl, ?_⟩) ?_ ?_; rotate_left; (· (intro w'; first | (go_simp; done) | (go_simp; with_reducible rfl) | (go_simp; rw [if_neg (by omega)]))); rotate_left; (· (simp only [Act.put, putS]; rfl))
    refine done_ (by kernel_rfl) ?_
    go_wp2
    go_ret2
    exact ⟨rfl, (by repeat (first | (with_reducible first | exact HB.out | apply below_alloc | apply pw_below_drewN | apply below_drew1) | exact HB.out))⟩
  · go_upto_region 27 with fail
    refine startR (n := 15) (S := fun w' => w'.cell? ⟨g3, 1, none⟩ = some (.int .i64 fn) ∧ w'.cell? ⟨g3, 3, none⟩ = some (.int .i64 rs1) ∧ w'.cell? ⟨g3, 6, none⟩ = some (.int .i64 size)) (ds := []) (by kernel_rfl) rfl ⟨(blk_cell (by (with_reducible repeat (first | refine blk_drewN ?_ _ | refine blk_drew ?_ | refine blk_alloc ?_ _)); exact H3.out) 1).trans rfl, (blk_cell (by (with_reducible repeat (first | refine blk_drewN ?_ _ | refine blk_drew ?_ | refine blk_alloc ?_ _)); exact H3.out) 3).trans rfl, (blk_cell (by (with_reducible repeat (first | refine blk_drewN ?_ _ | refine blk_drew ?_ | refine blk_alloc ?_ _)); exact H3.out) 6).trans rfl⟩ (fun hS => ?_)
    refine pureR 1 (N := some 127) (v := ?_) (a' := ?_) rfl rfl (by kernel_rfl) (fun _ _ _ h => h) (Or.inl ⟨by rfl, ?_⟩) ?_ ?_; rotate_left; (· (intro w'; first | (go_simp; done) | (go_simp; with_reducible rfl) | (go_simp; rw [if_neg (by omega)]))); rotate_left; (· (simp only [Act.put, putS]; rfl))
    refine takeR 2 (N := some 128) (v := ?_) (a' := ?_) rfl rfl (by kernel_rfl) (fun _ _ _ h => h) (Or.inl ⟨by rfl, fun w' hS' => ?_⟩) (by assumption) ?_ ?_; rotate_left; (· (obtain ⟨t1, t3, t6⟩ := hS'; first | (go_simp; done) | (go_simp; with_reducible rfl))); rotate_left; (· (simp only [Act.put, putS]; rfl))
    refine pureR 5 (N := some 131) (v := ?_) (a' := ?_) rfl rfl (by kernel_rfl) (fun _ _ _ h => h) (Or.inl ⟨by rfl, ?_⟩) ?_ ?_; rotate_left; (· (intro w'; first | (go_simp; done) | (go_simp; with_reducible rfl) | (go_simp; rw [if_neg (by omega)]))); rotate_left; (· (simp only [Act.put, putS]; rfl))
    refine pureR 8 (N := some 134) (v := ?_) (a' := ?_) rfl rfl (by kernel_rfl) (fun _ _ _ h => h) (Or.inl ⟨by rfl, ?_⟩) ?_ ?_; rotate_left; (· (intro w'; first | (go_simp; done) | (go_simp; with_reducible rfl) | (go_simp; rw [if_neg (by omega)]))); rotate_left; (· (simp only [Act.put, putS]; rfl))
    refine pureR 11 (N := some 137) (v := ?_) (a' := ?_) rfl rfl (by kernel_rfl) (fun _ _ _ h => h) (Or.inl ⟨by rfl, ?_⟩) ?_ ?_; rotate_left; (· (intro w'; first | (go_simp; done) | (go_simp; with_reducible rfl) | (go_simp; rw [if_neg (by omega)]))); rotate_left; (· (simp only [Act.put, putS]; rfl))
    refine oneR 0 (N := some 126) rfl rfl (by kernel_rfl) (by decide) (fun K hK => ?_); (refine goes_ Tryz.func34 (by kernel_rfl) rfl #[] (by rfl) rfl rfl (by (try simp only [List.map_toArray, List.map_cons, List.map_nil]); first | done | rfl) ?_; refine (l34_calls _).mono ?_; rintro e w' ⟨Aa, rfl, hCa, hb⟩; have HCa := Aside0.mk hCa; clear hCa; have H32 := Aside0.mk (blk_below (by (with_reducible repeat (first | refine blk_drewN ?_ _ | refine blk_drew ?_ | refine blk_alloc ?_ _)); exact H3.out) hb); have HB2 := Aside0.mk (below_step (by repeat (first | (with_reducible first | exact HB.out | apply below_alloc | apply pw_below_drewN | apply below_drew1) | exact HB.out)) hb); clear hb HB H3; have HB := HB2; have H3 := H32; clear HB2 H32; refine ⟨_, rfl, ?_⟩; refine hK.out _ _ ⟨(blk_cell (by (with_reducible repeat (first | refine blk_drewN ?_ _ | refine blk_drew ?_ | refine blk_alloc ?_ _)); exact H3.out) 1).trans rfl, (blk_cell (by (with_reducible repeat (first | refine blk_drewN ?_ _ | refine blk_drew ?_ | refine blk_alloc ?_ _)); exact H3.out) 3).trans rfl, (blk_cell (by (with_reducible repeat (first | refine blk_drewN ?_ _ | refine blk_drew ?_ | refine blk_alloc ?_ _)); exact H3.out) 6).trans rfl⟩ (fun hS => ?_); clear hK K; refine norm_ (a' := ?_) ?_ ?_; rotate_left; (· (show Act.put _ (some 126) _ = _; simp only [Act.put, putS]; rfl)))
    refine oneR 3 (N := some 129) rfl rfl (by kernel_rfl) (by decide) (fun K hK => ?_); (refine goes_ Tryz.func31 (by kernel_rfl) rfl #[.slice Aa 29 29, .int .i64 fn] (by rfl) rfl rfl (by (try simp only [List.map_toArray, List.map_cons, List.map_nil]); first | done | rfl) ?_; refine (rat31 alB fn (by repeat (first | exact HCa.out | apply Kd.C_drewN | apply Kd.C_drew)) (by decide) (by decide)).mono ?_; rintro e w' ⟨rfl, rfl⟩; refine ⟨_, rfl, ?_⟩; refine hK.out _ _ ⟨(blk_cell (by (with_reducible repeat (first | refine blk_drewN ?_ _ | refine blk_drew ?_ | refine blk_alloc ?_ _)); exact H3.out) 1).trans rfl, (blk_cell (by (with_reducible repeat (first | refine blk_drewN ?_ _ | refine blk_drew ?_ | refine blk_alloc ?_ _)); exact H3.out) 3).trans rfl, (blk_cell (by (with_reducible repeat (first | refine blk_drewN ?_ _ | refine blk_drew ?_ | refine blk_alloc ?_ _)); exact H3.out) 6).trans rfl⟩ (fun hS => ?_); clear hK K; refine norm_ (a' := ?_) ?_ ?_; rotate_left; (· (show Act.put _ (some 129) _ = _; simp only [Act.put, putS]; rfl)))
    refine pureR 4 (N := some 130) (v := ?_) (a' := ?_) rfl rfl (by kernel_rfl) (fun _ _ _ h => h) (Or.inl ⟨by rfl, ?_⟩) ?_ ?_; rotate_left; (· (intro w'; first | (go_simp; done) | (go_simp; with_reducible rfl) | (go_simp; rw [if_neg (by omega)]))); rotate_left; (· (simp only [Act.put, putS]; rfl))
    refine pureR 6 (N := some 132) (v := ?_) (a' := ?_) rfl rfl (by kernel_rfl) (fun _ _ _ h => h) (Or.inl ⟨by rfl, ?_⟩) ?_ ?_; rotate_left; (· (intro w'; first | (go_simp; done) | (go_simp; with_reducible rfl) | (go_simp; rw [if_neg (by omega)]))); rotate_left; (· (simp only [Act.put, putS]; rfl))
    refine pureR 7 (N := some 133) (v := ?_) (a' := ?_) rfl rfl (by kernel_rfl) (fun _ _ _ h => h) (Or.inl ⟨by rfl, ?_⟩) ?_ ?_; rotate_left; (· (intro w'; first | (go_simp; done) | (go_simp; with_reducible rfl) | (go_simp; rw [if_neg (by omega)]))); rotate_left; (· (simp only [Act.put, putS]; rfl))
    refine pureR 9 (N := some 135) (v := ?_) (a' := ?_) rfl rfl (by kernel_rfl) (fun _ _ _ h => h) (Or.inl ⟨by rfl, ?_⟩) ?_ ?_; rotate_left; (· (intro w'; first | (go_simp; done) | (go_simp; with_reducible rfl) | (go_simp; rw [if_neg (by omega)]))); rotate_left; (· (simp only [Act.put, putS]; rfl))
    refine pureR 10 (N := some 136) (v := ?_) (a' := ?_) rfl rfl (by kernel_rfl) (fun _ _ _ h => h) (Or.inl ⟨by rfl, ?_⟩) ?_ ?_; rotate_left; (· (intro w'; first | (go_simp; done) | (go_simp; with_reducible rfl) | (go_simp; rw [if_neg (by omega)]))); rotate_left; (· (simp only [Act.put, putS]; rfl))
    refine pureR 12 (N := some 138) (v := ?_) (a' := ?_) rfl rfl (by kernel_rfl) (fun _ _ _ h => h) (Or.inl ⟨by rfl, ?_⟩) ?_ ?_; rotate_left; (· (intro w'; first | (go_simp; done) | (go_simp; with_reducible rfl) | (go_simp; rw [if_neg (by omega)]))); rotate_left; (· (simp only [Act.put, putS]; rfl))
    refine pureR 13 (N := some 2) (v := ?_) (a' := ?_) rfl rfl (by kernel_rfl) (fun _ _ _ h => h) (Or.inl ⟨by rfl, ?_⟩) ?_ ?_; rotate_left; (· (intro w'; first | (go_simp; done) | (go_simp; with_reducible rfl) | (go_simp; rw [if_neg (by omega)]))); rotate_left; (· (simp only [Act.put, putS]; rfl))
    refine pureR 14 (N := some 3) (v := ?_) (a' := ?_) rfl rfl (by kernel_rfl) (fun _ _ _ h => h) (Or.inl ⟨by rfl, ?_⟩) ?_ ?_; rotate_left; (· (intro w'; first | (go_simp; done) | (go_simp; with_reducible rfl) | (go_simp; rw [if_neg (by omega)]))); rotate_left; (· (simp only [Act.put, putS]; rfl))
    refine done_ (by kernel_rfl) ?_
    go_wp2
    go_ret2
    exact ⟨rfl, (by repeat (first | (with_reducible first | exact HB.out | apply below_alloc | apply pw_below_drewN | apply below_drew1) | exact HB.out))⟩
  · go_upto_region 29 with fail
    refine startR (n := 15) (S := fun w' => w'.cell? ⟨g3, 1, none⟩ = some (.int .i64 fn) ∧ w'.cell? ⟨g3, 3, none⟩ = some (.int .i64 rs1) ∧ w'.cell? ⟨g3, 6, none⟩ = some (.int .i64 size)) (ds := []) (by kernel_rfl) rfl ⟨(blk_cell (by (with_reducible repeat (first | refine blk_drewN ?_ _ | refine blk_drew ?_ | refine blk_alloc ?_ _)); exact H3.out) 1).trans rfl, (blk_cell (by (with_reducible repeat (first | refine blk_drewN ?_ _ | refine blk_drew ?_ | refine blk_alloc ?_ _)); exact H3.out) 3).trans rfl, (blk_cell (by (with_reducible repeat (first | refine blk_drewN ?_ _ | refine blk_drew ?_ | refine blk_alloc ?_ _)); exact H3.out) 6).trans rfl⟩ (fun hS => ?_)
    refine pureR 1 (N := some 142) (v := ?_) (a' := ?_) rfl rfl (by kernel_rfl) (fun _ _ _ h => h) (Or.inl ⟨by rfl, ?_⟩) ?_ ?_; rotate_left; (· (intro w'; first | (go_simp; done) | (go_simp; with_reducible rfl) | (go_simp; rw [if_neg (by omega)]))); rotate_left; (· (simp only [Act.put, putS]; rfl))
    refine takeR 2 (N := some 143) (v := ?_) (a' := ?_) rfl rfl (by kernel_rfl) (fun _ _ _ h => h) (Or.inl ⟨by rfl, fun w' hS' => ?_⟩) (by assumption) ?_ ?_; rotate_left; (· (obtain ⟨t1, t3, t6⟩ := hS'; first | (go_simp; done) | (go_simp; with_reducible rfl))); rotate_left; (· (simp only [Act.put, putS]; rfl))
    refine pureR 5 (N := some 146) (v := ?_) (a' := ?_) rfl rfl (by kernel_rfl) (fun _ _ _ h => h) (Or.inl ⟨by rfl, ?_⟩) ?_ ?_; rotate_left; (· (intro w'; first | (go_simp; done) | (go_simp; with_reducible rfl) | (go_simp; rw [if_neg (by omega)]))); rotate_left; (· (simp only [Act.put, putS]; rfl))
    refine pureR 8 (N := some 149) (v := ?_) (a' := ?_) rfl rfl (by kernel_rfl) (fun _ _ _ h => h) (Or.inl ⟨by rfl, ?_⟩) ?_ ?_; rotate_left; (· (intro w'; first | (go_simp; done) | (go_simp; with_reducible rfl) | (go_simp; rw [if_neg (by omega)]))); rotate_left; (· (simp only [Act.put, putS]; rfl))
    refine pureR 11 (N := some 152) (v := ?_) (a' := ?_) rfl rfl (by kernel_rfl) (fun _ _ _ h => h) (Or.inl ⟨by rfl, ?_⟩) ?_ ?_; rotate_left; (· (intro w'; first | (go_simp; done) | (go_simp; with_reducible rfl) | (go_simp; rw [if_neg (by omega)]))); rotate_left; (· (simp only [Act.put, putS]; rfl))
    refine oneR 0 (N := some 141) rfl rfl (by kernel_rfl) (by decide) (fun K hK => ?_); (refine goes_ Tryz.func35 (by kernel_rfl) rfl #[] (by rfl) rfl rfl (by (try simp only [List.map_toArray, List.map_cons, List.map_nil]); first | done | rfl) ?_; refine (l35_calls _).mono ?_; rintro e w' ⟨Aa, rfl, hCa, hb⟩; have HCa := Aside0.mk hCa; clear hCa; have H32 := Aside0.mk (blk_below (by (with_reducible repeat (first | refine blk_drewN ?_ _ | refine blk_drew ?_ | refine blk_alloc ?_ _)); exact H3.out) hb); have HB2 := Aside0.mk (below_step (by repeat (first | (with_reducible first | exact HB.out | apply below_alloc | apply pw_below_drewN | apply below_drew1) | exact HB.out)) hb); clear hb HB H3; have HB := HB2; have H3 := H32; clear HB2 H32; refine ⟨_, rfl, ?_⟩; refine hK.out _ _ ⟨(blk_cell (by (with_reducible repeat (first | refine blk_drewN ?_ _ | refine blk_drew ?_ | refine blk_alloc ?_ _)); exact H3.out) 1).trans rfl, (blk_cell (by (with_reducible repeat (first | refine blk_drewN ?_ _ | refine blk_drew ?_ | refine blk_alloc ?_ _)); exact H3.out) 3).trans rfl, (blk_cell (by (with_reducible repeat (first | refine blk_drewN ?_ _ | refine blk_drew ?_ | refine blk_alloc ?_ _)); exact H3.out) 6).trans rfl⟩ (fun hS => ?_); clear hK K; refine norm_ (a' := ?_) ?_ ?_; rotate_left; (· (show Act.put _ (some 141) _ = _; simp only [Act.put, putS]; rfl)))
    refine oneR 3 (N := some 144) rfl rfl (by kernel_rfl) (by decide) (fun K hK => ?_); (refine goes_ Tryz.func31 (by kernel_rfl) rfl #[.slice Aa 24 24, .int .i64 fn] (by rfl) rfl rfl (by (try simp only [List.map_toArray, List.map_cons, List.map_nil]); first | done | rfl) ?_; refine (rat31 imnB fn (by repeat (first | exact HCa.out | apply Kd.C_drewN | apply Kd.C_drew)) (by decide) (by decide)).mono ?_; rintro e w' ⟨rfl, rfl⟩; refine ⟨_, rfl, ?_⟩; refine hK.out _ _ ⟨(blk_cell (by (with_reducible repeat (first | refine blk_drewN ?_ _ | refine blk_drew ?_ | refine blk_alloc ?_ _)); exact H3.out) 1).trans rfl, (blk_cell (by (with_reducible repeat (first | refine blk_drewN ?_ _ | refine blk_drew ?_ | refine blk_alloc ?_ _)); exact H3.out) 3).trans rfl, (blk_cell (by (with_reducible repeat (first | refine blk_drewN ?_ _ | refine blk_drew ?_ | refine blk_alloc ?_ _)); exact H3.out) 6).trans rfl⟩ (fun hS => ?_); clear hK K; refine norm_ (a' := ?_) ?_ ?_; rotate_left; (· (show Act.put _ (some 144) _ = _; simp only [Act.put, putS]; rfl)))
    refine pureR 4 (N := some 145) (v := ?_) (a' := ?_) rfl rfl (by kernel_rfl) (fun _ _ _ h => h) (Or.inl ⟨by rfl, ?_⟩) ?_ ?_; rotate_left; (· (intro w'; first | (go_simp; done) | (go_simp; with_reducible rfl) | (go_simp; rw [if_neg (by omega)]))); rotate_left; (· (simp only [Act.put, putS]; rfl))
    refine pureR 6 (N := some 147) (v := ?_) (a' := ?_) rfl rfl (by kernel_rfl) (fun _ _ _ h => h) (Or.inl ⟨by rfl, ?_⟩) ?_ ?_; rotate_left; (· (intro w'; first | (go_simp; done) | (go_simp; with_reducible rfl) | (go_simp; rw [if_neg (by omega)]))); rotate_left; (· (simp only [Act.put, putS]; rfl))
    refine pureR 7 (N := some 148) (v := ?_) (a' := ?_) rfl rfl (by kernel_rfl) (fun _ _ _ h => h) (Or.inl ⟨by rfl, ?_⟩) ?_ ?_; rotate_left; (· (intro w'; first | (go_simp; done) | (go_simp; with_reducible rfl) | (go_simp; rw [if_neg (by omega)]))); rotate_left; (· (simp only [Act.put, putS]; rfl))
    refine pureR 9 (N := some 150) (v := ?_) (a' := ?_) rfl rfl (by kernel_rfl) (fun _ _ _ h => h) (Or.inl ⟨by rfl, ?_⟩) ?_ ?_; rotate_left; (· (intro w'; first | (go_simp; done) | (go_simp; with_reducible rfl) | (go_simp; rw [if_neg (by omega)]))); rotate_left; (· (simp only [Act.put, putS]; rfl))
    refine pureR 10 (N := some 151) (v := ?_) (a' := ?_) rfl rfl (by kernel_rfl) (fun _ _ _ h => h) (Or.inl ⟨by rfl, ?_⟩) ?_ ?_; rotate_left; (· (intro w'; first | (go_simp; done) | (go_simp; with_reducible rfl) | (go_simp; rw [if_neg (by omega)]))); rotate_left; (· (simp only [Act.put, putS]; rfl))
    refine pureR 12 (N := some 153) (v := ?_) (a' := ?_) rfl rfl (by kernel_rfl) (fun _ _ _ h => h) (Or.inl ⟨by rfl, ?_⟩) ?_ ?_; rotate_left; (· (intro w'; first | (go_simp; done) | (go_simp; with_reducible rfl) | (go_simp; rw [if_neg (by omega)]))); rotate_left; (· (simp only [Act.put, putS]; rfl))
    refine pureR 13 (N := some 2) (v := ?_) (a' := ?_) rfl rfl (by kernel_rfl) (fun _ _ _ h => h) (Or.inl ⟨by rfl, ?_⟩) ?_ ?_; rotate_left; (· (intro w'; first | (go_simp; done) | (go_simp; with_reducible rfl) | (go_simp; rw [if_neg (by omega)]))); rotate_left; (· (simp only [Act.put, putS]; rfl))
    refine pureR 14 (N := some 3) (v := ?_) (a' := ?_) rfl rfl (by kernel_rfl) (fun _ _ _ h => h) (Or.inl ⟨by rfl, ?_⟩) ?_ ?_; rotate_left; (· (intro w'; first | (go_simp; done) | (go_simp; with_reducible rfl) | (go_simp; rw [if_neg (by omega)]))); rotate_left; (· (simp only [Act.put, putS]; rfl))
    refine done_ (by kernel_rfl) ?_
    go_wp2
    go_ret2
    exact ⟨rfl, (by repeat (first | (with_reducible first | exact HB.out | apply below_alloc | apply pw_below_drewN | apply below_drew1) | exact HB.out))⟩
  · go_wp2_with (first | ((with_reducible refine gate_dst (N := 156) rfl ?_); refine litS_event (by rfl) (N := 156) (by rfl) [⟨#[]⟩, ⟨#[99, 115, 114, 114, 119]⟩, ⟨#[99, 115, 114, 114, 115]⟩, ⟨#[99, 115, 114, 114, 99]⟩] (by decide) (by first | (go_simp; done) | (go_simp; rfl)) ?_; intro Aa wa hCa hb; have HCa := Aside0.mk hCa; have H32 := Aside0.mk (blk_below (by (with_reducible repeat (first | refine blk_drewN ?_ _ | refine blk_drew ?_ | refine blk_alloc ?_ _)); exact H3.out) hb); have HB2 := Aside0.mk (below_step (by repeat (first | (with_reducible first | exact HB.out | apply below_alloc | apply pw_below_drewN | apply below_drew1) | exact HB.out)) hb); clear hb HB H3 hCa y0 y1 y2 y3 y4 y5 y6 y7 yf0 yf1 yf2 yf3 yf4 yf5 yf6 yf7; have HB := HB2; have H3 := H32; clear HB2 H32; obtain ⟨y0, y1, y2, y3, y4, y5, y6, y7, yf0, yf1, yf2, yf3, yf4, yf5, yf6, yf7⟩ := cells8 H3.out) | (go_at_call 31; (refine (rat31 c1B fn (by repeat (first | exact HCa.out | apply Kd.C_drewN | apply Kd.C_drew)) (by decide) (by decide)).mono ?_); rintro e w' ⟨rfl, rfl⟩) | fail)
    go_ret2
    exact ⟨rfl, (by repeat (first | (with_reducible first | exact HB.out | apply below_alloc | apply pw_below_drewN | apply below_drew1) | exact HB.out))⟩
  · go_upto_region 33 with fail
    refine startR (n := 17) (S := fun w' => w'.cell? ⟨g3, 1, none⟩ = some (.int .i64 fn) ∧ w'.cell? ⟨g3, 3, none⟩ = some (.int .i64 rs1) ∧ w'.cell? ⟨g3, 6, none⟩ = some (.int .i64 size)) (ds := []) (by kernel_rfl) rfl ⟨(blk_cell (by (with_reducible repeat (first | refine blk_drewN ?_ _ | refine blk_drew ?_ | refine blk_alloc ?_ _)); exact H3.out) 1).trans rfl, (blk_cell (by (with_reducible repeat (first | refine blk_drewN ?_ _ | refine blk_drew ?_ | refine blk_alloc ?_ _)); exact H3.out) 3).trans rfl, (blk_cell (by (with_reducible repeat (first | refine blk_drewN ?_ _ | refine blk_drew ?_ | refine blk_alloc ?_ _)); exact H3.out) 6).trans rfl⟩ (fun hS => ?_)
    refine pureR 1 (N := some 172) (v := ?_) (a' := ?_) rfl rfl (by kernel_rfl) (fun _ _ _ h => h) (Or.inl ⟨by rfl, ?_⟩) ?_ ?_; rotate_left; (· (intro w'; first | (go_simp; done) | (go_simp; with_reducible rfl) | (go_simp; rw [if_neg (by omega)]))); rotate_left; (· (simp only [Act.put, putS]; rfl))
    refine takeR 2 (N := some 173) (v := ?_) (a' := ?_) rfl rfl (by kernel_rfl) (fun _ _ _ h => h) (Or.inl ⟨by rfl, fun w' hS' => ?_⟩) (by assumption) ?_ ?_; rotate_left; (· (obtain ⟨t1, t3, t6⟩ := hS'; first | (go_simp; done) | (go_simp; with_reducible rfl))); rotate_left; (· (simp only [Act.put, putS]; rfl))
    refine pureR 5 (N := some 176) (v := ?_) (a' := ?_) rfl rfl (by kernel_rfl) (fun _ _ _ h => h) (Or.inl ⟨by rfl, ?_⟩) ?_ ?_; rotate_left; (· (intro w'; first | (go_simp; done) | (go_simp; with_reducible rfl) | (go_simp; rw [if_neg (by omega)]))); rotate_left; (· (simp only [Act.put, putS]; rfl))
    refine pureR 8 (N := some 179) (v := ?_) (a' := ?_) rfl rfl (by kernel_rfl) (fun _ _ _ h => h) (Or.inl ⟨by rfl, ?_⟩) ?_ ?_; rotate_left; (· (intro w'; first | (go_simp; done) | (go_simp; with_reducible rfl) | (go_simp; rw [if_neg (by omega)]))); rotate_left; (· (simp only [Act.put, putS]; rfl))
    refine pureR 11 (N := some 182) (v := ?_) (a' := ?_) rfl rfl (by kernel_rfl) (fun _ _ _ h => h) (Or.inl ⟨by rfl, ?_⟩) ?_ ?_; rotate_left; (· (intro w'; first | (go_simp; done) | (go_simp; with_reducible rfl) | (go_simp; rw [if_neg (by omega)]))); rotate_left; (· (simp only [Act.put, putS]; rfl))
    refine takeR 12 (N := some 183) (v := ?_) (a' := ?_) rfl rfl (by kernel_rfl) (fun _ _ _ h => h) (Or.inl ⟨by rfl, fun w' hS' => ?_⟩) (by assumption) ?_ ?_; rotate_left; (· (obtain ⟨t1, t3, t6⟩ := hS'; first | (go_simp; done) | (go_simp; with_reducible rfl))); rotate_left; (· (simp only [Act.put, putS]; rfl))
    refine oneR 0 (N := some 171) rfl rfl (by kernel_rfl) (by decide) (fun K hK => ?_); (refine litS_step ?hg [⟨#[]⟩, ⟨#[99, 115, 114, 114, 119, 105]⟩, ⟨#[99, 115, 114, 114, 115, 105]⟩, ⟨#[99, 115, 114, 114, 99, 105]⟩] (by decide) ?hr ?_; (case hg => rfl); (case hr => first | (go_simp; done) | (go_simp; rfl)); intro Aa wa hCa hb; have HCa := Aside0.mk hCa; have H32 := Aside0.mk (blk_below (by (with_reducible repeat (first | refine blk_drewN ?_ _ | refine blk_drew ?_ | refine blk_alloc ?_ _)); exact H3.out) hb); have HB2 := Aside0.mk (below_step (by repeat (first | (with_reducible first | exact HB.out | apply below_alloc | apply pw_below_drewN | apply below_drew1) | exact HB.out)) hb); clear hb HB H3; have HB := HB2; have H3 := H32; clear HB2 H32; refine hK.out _ _ ⟨(blk_cell (by (with_reducible repeat (first | refine blk_drewN ?_ _ | refine blk_drew ?_ | refine blk_alloc ?_ _)); exact H3.out) 1).trans rfl, (blk_cell (by (with_reducible repeat (first | refine blk_drewN ?_ _ | refine blk_drew ?_ | refine blk_alloc ?_ _)); exact H3.out) 3).trans rfl, (blk_cell (by (with_reducible repeat (first | refine blk_drewN ?_ _ | refine blk_drew ?_ | refine blk_alloc ?_ _)); exact H3.out) 6).trans rfl⟩ (fun hS => ?_); clear hCa hK K; refine norm_ (a' := ?_) ?_ ?_; rotate_left; (· (show Act.put _ (some 171) _ = _; simp only [Act.put, putS]; rfl)))
    refine oneR 3 (N := some 174) rfl rfl (by kernel_rfl) (by decide) (fun K hK => ?_); (refine goes_ Tryz.func31 (by kernel_rfl) rfl #[.slice Aa 4 4, .int .i64 fn] (by rfl) rfl rfl (by (try simp only [List.map_toArray, List.map_cons, List.map_nil]); first | done | rfl) ?_; refine (rat31 c2B fn (by repeat (first | exact HCa.out | apply Kd.C_drewN | apply Kd.C_drew)) (by decide) (by decide)).mono ?_; rintro e w' ⟨rfl, rfl⟩; refine ⟨_, rfl, ?_⟩; refine hK.out _ _ ⟨(blk_cell (by (with_reducible repeat (first | refine blk_drewN ?_ _ | refine blk_drew ?_ | refine blk_alloc ?_ _)); exact H3.out) 1).trans rfl, (blk_cell (by (with_reducible repeat (first | refine blk_drewN ?_ _ | refine blk_drew ?_ | refine blk_alloc ?_ _)); exact H3.out) 3).trans rfl, (blk_cell (by (with_reducible repeat (first | refine blk_drewN ?_ _ | refine blk_drew ?_ | refine blk_alloc ?_ _)); exact H3.out) 6).trans rfl⟩ (fun hS => ?_); clear hK K; refine norm_ (a' := ?_) ?_ ?_; rotate_left; (· (show Act.put _ (some 174) _ = _; simp only [Act.put, putS]; rfl)))
    refine pureR 4 (N := some 175) (v := ?_) (a' := ?_) rfl rfl (by kernel_rfl) (fun _ _ _ h => h) (Or.inl ⟨by rfl, ?_⟩) ?_ ?_; rotate_left; (· (intro w'; first | (go_simp; done) | (go_simp; with_reducible rfl) | (go_simp; rw [if_neg (by omega)]))); rotate_left; (· (simp only [Act.put, putS]; rfl))
    refine pureR 6 (N := some 177) (v := ?_) (a' := ?_) rfl rfl (by kernel_rfl) (fun _ _ _ h => h) (Or.inl ⟨by rfl, ?_⟩) ?_ ?_; rotate_left; (· (intro w'; first | (go_simp; done) | (go_simp; with_reducible rfl) | (go_simp; rw [if_neg (by omega)]))); rotate_left; (· (simp only [Act.put, putS]; rfl))
    refine pureR 7 (N := some 178) (v := ?_) (a' := ?_) rfl rfl (by kernel_rfl) (fun _ _ _ h => h) (Or.inl ⟨by rfl, ?_⟩) ?_ ?_; rotate_left; (· (intro w'; first | (go_simp; done) | (go_simp; with_reducible rfl) | (go_simp; rw [if_neg (by omega)]))); rotate_left; (· (simp only [Act.put, putS]; rfl))
    refine pureR 9 (N := some 180) (v := ?_) (a' := ?_) rfl rfl (by kernel_rfl) (fun _ _ _ h => h) (Or.inl ⟨by rfl, ?_⟩) ?_ ?_; rotate_left; (· (intro w'; first | (go_simp; done) | (go_simp; with_reducible rfl) | (go_simp; rw [if_neg (by omega)]))); rotate_left; (· (simp only [Act.put, putS]; rfl))
    refine pureR 10 (N := some 181) (v := ?_) (a' := ?_) rfl rfl (by kernel_rfl) (fun _ _ _ h => h) (Or.inl ⟨by rfl, ?_⟩) ?_ ?_; rotate_left; (· (intro w'; first | (go_simp; done) | (go_simp; with_reducible rfl) | (go_simp; rw [if_neg (by omega)]))); rotate_left; (· (simp only [Act.put, putS]; rfl))
    refine oneR 13 (N := some 184) rfl rfl (by kernel_rfl) (by decide) (fun K hK => ?_); (refine goes_ Tryz.func17 (by kernel_rfl) rfl #[.int .i64 rs1] (by rfl) rfl rfl (by (try simp only [List.map_toArray, List.map_cons, List.map_nil]); first | done | rfl) ?_; refine (Dec_calls _ _ (by omega) (by omega)).mono ?_; rintro e w' ⟨rfl, ⟨nd, rfl⟩⟩; refine ⟨_, rfl, ?_⟩; refine hK.out _ _ ⟨(blk_cell (by (with_reducible repeat (first | refine blk_drewN ?_ _ | refine blk_drew ?_ | refine blk_alloc ?_ _)); exact H3.out) 1).trans rfl, (blk_cell (by (with_reducible repeat (first | refine blk_drewN ?_ _ | refine blk_drew ?_ | refine blk_alloc ?_ _)); exact H3.out) 3).trans rfl, (blk_cell (by (with_reducible repeat (first | refine blk_drewN ?_ _ | refine blk_drew ?_ | refine blk_alloc ?_ _)); exact H3.out) 6).trans rfl⟩ (fun hS => ?_); clear hK K; refine norm_ (a' := ?_) ?_ ?_; rotate_left; (· (show Act.put _ (some 184) _ = _; simp only [Act.put, putS]; rfl)))
    refine pureR 14 (N := some 185) (v := ?_) (a' := ?_) rfl rfl (by kernel_rfl) (fun _ _ _ h => h) (Or.inl ⟨by rfl, ?_⟩) ?_ ?_; rotate_left; (· (intro w'; first | (go_simp; done) | (go_simp; with_reducible rfl) | (go_simp; rw [if_neg (by omega)]))); rotate_left; (· (simp only [Act.put, putS]; rfl))
    refine pureR 15 (N := some 2) (v := ?_) (a' := ?_) rfl rfl (by kernel_rfl) (fun _ _ _ h => h) (Or.inl ⟨by rfl, ?_⟩) ?_ ?_; rotate_left; (· (intro w'; first | (go_simp; done) | (go_simp; with_reducible rfl) | (go_simp; rw [if_neg (by omega)]))); rotate_left; (· (simp only [Act.put, putS]; rfl))
    refine pureR 16 (N := some 3) (v := ?_) (a' := ?_) rfl rfl (by kernel_rfl) (fun _ _ _ h => h) (Or.inl ⟨by rfl, ?_⟩) ?_ ?_; rotate_left; (· (intro w'; first | (go_simp; done) | (go_simp; with_reducible rfl) | (go_simp; rw [if_neg (by omega)]))); rotate_left; (· (simp only [Act.put, putS]; rfl))
    refine done_ (by kernel_rfl) ?_
    go_wp2
    go_ret2
    exact ⟨rfl, (by repeat (first | (with_reducible first | exact HB.out | apply below_alloc | apply pw_below_drewN | apply below_drew1) | exact HB.out))⟩
  · go_upto_region 39 with fail
    refine startR (n := 20) (S := fun w' => w'.cell? ⟨g3, 1, none⟩ = some (.int .i64 fn) ∧ w'.cell? ⟨g3, 3, none⟩ = some (.int .i64 rs1) ∧ w'.cell? ⟨g3, 6, none⟩ = some (.int .i64 size)) (ds := []) (by kernel_rfl) rfl ⟨(blk_cell (by (with_reducible repeat (first | refine blk_drewN ?_ _ | refine blk_drew ?_ | refine blk_alloc ?_ _)); exact H3.out) 1).trans rfl, (blk_cell (by (with_reducible repeat (first | refine blk_drewN ?_ _ | refine blk_drew ?_ | refine blk_alloc ?_ _)); exact H3.out) 3).trans rfl, (blk_cell (by (with_reducible repeat (first | refine blk_drewN ?_ _ | refine blk_drew ?_ | refine blk_alloc ?_ _)); exact H3.out) 6).trans rfl⟩ (fun hS => ?_)
    refine pureR 1 (N := some 218) (v := ?_) (a' := ?_) rfl rfl (by kernel_rfl) (fun _ _ _ h => h) (Or.inl ⟨by rfl, ?_⟩) ?_ ?_; rotate_left; (· (intro w'; first | (go_simp; done) | (go_simp; with_reducible rfl) | (go_simp; rw [if_neg (by omega)]))); rotate_left; (· (simp only [Act.put, putS]; rfl))
    refine takeR 2 (N := some 219) (v := ?_) (a' := ?_) rfl rfl (by kernel_rfl) (fun _ _ _ h => h) (Or.inl ⟨by rfl, fun w' hS' => ?_⟩) (by assumption) ?_ ?_; rotate_left; (· (obtain ⟨t1, t3, t6⟩ := hS'; first | (go_simp; done) | (go_simp; with_reducible rfl))); rotate_left; (· (simp only [Act.put, putS]; rfl))
    refine pureR 4 (N := some 221) (v := ?_) (a' := ?_) rfl rfl (by kernel_rfl) (fun _ _ _ h => h) (Or.inl ⟨by rfl, ?_⟩) ?_ ?_; rotate_left; (· (intro w'; first | (go_simp; done) | (go_simp; with_reducible rfl) | (go_simp; rw [if_neg (by omega)]))); rotate_left; (· (simp only [Act.put, putS]; rfl))
    refine takeR 5 (N := some 222) (v := ?_) (a' := ?_) rfl rfl (by kernel_rfl) (fun _ _ _ h => h) (Or.inl ⟨by rfl, fun w' hS' => ?_⟩) (by assumption) ?_ ?_; rotate_left; (· (obtain ⟨t1, t3, t6⟩ := hS'; first | (go_simp; done) | (go_simp; with_reducible rfl))); rotate_left; (· (simp only [Act.put, putS]; rfl))
    refine pureR 9 (N := some 226) (v := ?_) (a' := ?_) rfl rfl (by kernel_rfl) (fun _ _ _ h => h) (Or.inl ⟨by rfl, ?_⟩) ?_ ?_; rotate_left; (· (intro w'; first | (go_simp; done) | (go_simp; with_reducible rfl) | (go_simp; rw [if_neg (by omega)]))); rotate_left; (· (simp only [Act.put, putS]; rfl))
    refine pureR 12 (N := some 229) (v := ?_) (a' := ?_) rfl rfl (by kernel_rfl) (fun _ _ _ h => h) (Or.inl ⟨by rfl, ?_⟩) ?_ ?_; rotate_left; (· (intro w'; first | (go_simp; done) | (go_simp; with_reducible rfl) | (go_simp; rw [if_neg (by omega)]))); rotate_left; (· (simp only [Act.put, putS]; rfl))
    refine pureR 15 (N := some 232) (v := ?_) (a' := ?_) rfl rfl (by kernel_rfl) (fun _ _ _ h => h) (Or.inl ⟨by rfl, ?_⟩) ?_ ?_; rotate_left; (· (intro w'; first | (go_simp; done) | (go_simp; with_reducible rfl) | (go_simp; rw [if_neg (by omega)]))); rotate_left; (· (simp only [Act.put, putS]; rfl))
    refine oneR 0 (N := some 217) rfl rfl (by kernel_rfl) (by decide) (fun K hK => ?_); (refine goes_ Tryz.func37 (by kernel_rfl) rfl #[] (by rfl) rfl rfl (by (try simp only [List.map_toArray, List.map_cons, List.map_nil]); first | done | rfl) ?_; refine (l37_calls _).mono ?_; rintro e w' ⟨Aa, rfl, hCa, hb⟩; have HCa := Aside0.mk hCa; clear hCa; have H32 := Aside0.mk (blk_below (by (with_reducible repeat (first | refine blk_drewN ?_ _ | refine blk_drew ?_ | refine blk_alloc ?_ _)); exact H3.out) hb); have HB2 := Aside0.mk (below_step (by repeat (first | (with_reducible first | exact HB.out | apply below_alloc | apply pw_below_drewN | apply below_drew1) | exact HB.out)) hb); clear hb HB H3; have HB := HB2; have H3 := H32; clear HB2 H32; refine ⟨_, rfl, ?_⟩; refine hK.out _ _ ⟨(blk_cell (by (with_reducible repeat (first | refine blk_drewN ?_ _ | refine blk_drew ?_ | refine blk_alloc ?_ _)); exact H3.out) 1).trans rfl, (blk_cell (by (with_reducible repeat (first | refine blk_drewN ?_ _ | refine blk_drew ?_ | refine blk_alloc ?_ _)); exact H3.out) 3).trans rfl, (blk_cell (by (with_reducible repeat (first | refine blk_drewN ?_ _ | refine blk_drew ?_ | refine blk_alloc ?_ _)); exact H3.out) 6).trans rfl⟩ (fun hS => ?_); clear hK K; refine norm_ (a' := ?_) ?_ ?_; rotate_left; (· (show Act.put _ (some 217) _ = _; simp only [Act.put, putS]; rfl)))
    refine oneR 3 (N := some 220) rfl rfl (by kernel_rfl) (by decide) (fun K hK => ?_); (refine goes_ Tryz.func31 (by kernel_rfl) rfl #[.slice Aa 10 10, .int .i64 fn] (by rfl) rfl rfl (by (try simp only [List.map_toArray, List.map_cons, List.map_nil]); first | done | rfl) ?_; refine (rat31 amB fn (by repeat (first | exact HCa.out | apply Kd.C_drewN | apply Kd.C_drew)) (by decide) (by decide)).mono ?_; rintro e w' ⟨rfl, rfl⟩; refine ⟨_, rfl, ?_⟩; refine hK.out _ _ ⟨(blk_cell (by (with_reducible repeat (first | refine blk_drewN ?_ _ | refine blk_drew ?_ | refine blk_alloc ?_ _)); exact H3.out) 1).trans rfl, (blk_cell (by (with_reducible repeat (first | refine blk_drewN ?_ _ | refine blk_drew ?_ | refine blk_alloc ?_ _)); exact H3.out) 3).trans rfl, (blk_cell (by (with_reducible repeat (first | refine blk_drewN ?_ _ | refine blk_drew ?_ | refine blk_alloc ?_ _)); exact H3.out) 6).trans rfl⟩ (fun hS => ?_); clear hK K; refine norm_ (a' := ?_) ?_ ?_; rotate_left; (· (show Act.put _ (some 220) _ = _; simp only [Act.put, putS]; rfl)))
    refine oneR 6 (N := some 223) rfl rfl (by kernel_rfl) (by decide) (fun K hK => ?_); (refine goes_ Tryz.func36 (by kernel_rfl) rfl #[.int .i64 size] (by rfl) rfl rfl (by (try simp only [List.map_toArray, List.map_cons, List.map_nil]); first | done | rfl) ?_; refine (wide_calls _ _).mono ?_; rintro e w' ⟨rfl, rfl⟩; refine ⟨_, rfl, ?_⟩; refine hK.out _ _ ⟨(blk_cell (by (with_reducible repeat (first | refine blk_drewN ?_ _ | refine blk_drew ?_ | refine blk_alloc ?_ _)); exact H3.out) 1).trans rfl, (blk_cell (by (with_reducible repeat (first | refine blk_drewN ?_ _ | refine blk_drew ?_ | refine blk_alloc ?_ _)); exact H3.out) 3).trans rfl, (blk_cell (by (with_reducible repeat (first | refine blk_drewN ?_ _ | refine blk_drew ?_ | refine blk_alloc ?_ _)); exact H3.out) 6).trans rfl⟩ (fun hS => ?_); clear hK K; refine norm_ (a' := ?_) ?_ ?_; rotate_left; (· (show Act.put _ (some 223) _ = _; simp only [Act.put, putS]; rfl)))
    refine pureR 7 (N := some 224) (v := ?_) (a' := ?_) rfl rfl (by kernel_rfl) (fun _ _ _ h => h) (Or.inl ⟨by rfl, ?_⟩) ?_ ?_; rotate_left; (· (intro w'; first | (go_simp; done) | (go_simp; with_reducible rfl) | (go_simp; rw [if_neg (by omega)]))); rotate_left; (· (simp only [Act.put, putS]; rfl))
    refine pureR 8 (N := some 225) (v := ?_) (a' := ?_) rfl rfl (by kernel_rfl) (fun _ _ _ h => h) (Or.inl ⟨by rfl, ?_⟩) ?_ ?_; rotate_left; (· (intro w'; first | (go_simp; done) | (go_simp; with_reducible rfl) | (go_simp; rw [if_neg (by omega)]))); rotate_left; (· (simp only [Act.put, putS]; rfl))
    refine pureR 10 (N := some 227) (v := ?_) (a' := ?_) rfl rfl (by kernel_rfl) (fun _ _ _ h => h) (Or.inl ⟨by rfl, ?_⟩) ?_ ?_; rotate_left; (· (intro w'; first | (go_simp; done) | (go_simp; with_reducible rfl) | (go_simp; rw [if_neg (by omega)]))); rotate_left; (· (simp only [Act.put, putS]; rfl))
    refine pureR 11 (N := some 228) (v := ?_) (a' := ?_) rfl rfl (by kernel_rfl) (fun _ _ _ h => h) (Or.inl ⟨by rfl, ?_⟩) ?_ ?_; rotate_left; (· (intro w'; first | (go_simp; done) | (go_simp; with_reducible rfl) | (go_simp; rw [if_neg (by omega)]))); rotate_left; (· (simp only [Act.put, putS]; rfl))
    refine pureR 13 (N := some 230) (v := ?_) (a' := ?_) rfl rfl (by kernel_rfl) (fun _ _ _ h => h) (Or.inl ⟨by rfl, ?_⟩) ?_ ?_; rotate_left; (· (intro w'; first | (go_simp; done) | (go_simp; with_reducible rfl) | (go_simp; rw [if_neg (by omega)]))); rotate_left; (· (simp only [Act.put, putS]; rfl))
    refine pureR 14 (N := some 231) (v := ?_) (a' := ?_) rfl rfl (by kernel_rfl) (fun _ _ _ h => h) (Or.inl ⟨by rfl, ?_⟩) ?_ ?_; rotate_left; (· (intro w'; first | (go_simp; done) | (go_simp; with_reducible rfl) | (go_simp; rw [if_neg (by omega)]))); rotate_left; (· (simp only [Act.put, putS]; rfl))
    refine pureR 16 (N := some 233) (v := ?_) (a' := ?_) rfl rfl (by kernel_rfl) (fun _ _ _ h => h) (Or.inl ⟨by rfl, ?_⟩) ?_ ?_; rotate_left; (· (intro w'; first | (go_simp; done) | (go_simp; with_reducible rfl) | (go_simp; rw [if_neg (by omega)]))); rotate_left; (· (simp only [Act.put, putS]; rfl))
    refine pureR 17 (N := some 234) (v := ?_) (a' := ?_) rfl rfl (by kernel_rfl) (fun _ _ _ h => h) (Or.inl ⟨by rfl, ?_⟩) ?_ ?_; rotate_left; (· (intro w'; first | (go_simp; done) | (go_simp; with_reducible rfl) | (go_simp; rw [if_neg (by omega)]))); rotate_left; (· (simp only [Act.put, putS]; rfl))
    refine pureR 18 (N := some 2) (v := ?_) (a' := ?_) rfl rfl (by kernel_rfl) (fun _ _ _ h => h) (Or.inl ⟨by rfl, ?_⟩) ?_ ?_; rotate_left; (· (intro w'; first | (go_simp; done) | (go_simp; with_reducible rfl) | (go_simp; rw [if_neg (by omega)]))); rotate_left; (· (simp only [Act.put, putS]; rfl))
    refine pureR 19 (N := some 3) (v := ?_) (a' := ?_) rfl rfl (by kernel_rfl) (fun _ _ _ h => h) (Or.inl ⟨by rfl, ?_⟩) ?_ ?_; rotate_left; (· (intro w'; first | (go_simp; done) | (go_simp; with_reducible rfl) | (go_simp; rw [if_neg (by omega)]))); rotate_left; (· (simp only [Act.put, putS]; rfl))
    refine done_ (by kernel_rfl) ?_
    go_wp2
    go_ret2
    exact ⟨rfl, (by repeat (first | (with_reducible first | exact HB.out | apply below_alloc | apply pw_below_drewN | apply below_drew1) | exact HB.out))⟩
  · cases sg
    all_goals
      go_wp2_with (first | (go_at_call 17; (with_reducible refine (Dec_calls _ _ (by omega) (by omega)).mono ?_); rintro e w' ⟨rfl, ⟨nd, rfl⟩⟩) | (go_at_call 33; (with_reducible refine (letter_calls _ _).mono ?_); rintro e w' ⟨rfl, hb⟩; have H32 := Aside0.mk (blk_below (by (with_reducible repeat (first | refine blk_drewN ?_ _ | refine blk_drew ?_ | refine blk_alloc ?_ _)); exact H3.out) hb); have HB2 := Aside0.mk (below_step (by repeat (first | (with_reducible first | exact HB.out | apply below_alloc | apply pw_below_drewN | apply below_drew1) | exact HB.out)) hb); clear hb HB H3 y0 y1 y2 y3 y4 y5 y6 y7 yf0 yf1 yf2 yf3 yf4 yf5 yf6 yf7; have HB := HB2; have H3 := H32; clear HB2 H32; obtain ⟨y0, y1, y2, y3, y4, y5, y6, y7, yf0, yf1, yf2, yf3, yf4, yf5, yf6, yf7⟩ := cells8 H3.out) | fail)
      go_ret2
      exact ⟨rfl, (by repeat (first | (with_reducible first | exact HB.out | apply below_alloc | apply pw_below_drewN | apply below_drew1) | exact HB.out))⟩
  all_goals
    go_wp2_with (first | (go_at_call 17; (with_reducible refine (Dec_calls _ _ (by omega) (by omega)).mono ?_); rintro e w' ⟨rfl, ⟨nd, rfl⟩⟩) | (go_at_call 36; (with_reducible refine (wide_calls _ _).mono ?_); rintro e w' ⟨rfl, rfl⟩) | (go_at_call 33; (with_reducible refine (letter_calls _ _).mono ?_); rintro e w' ⟨rfl, hb⟩; have H32 := Aside0.mk (blk_below (by (with_reducible repeat (first | refine blk_drewN ?_ _ | refine blk_drew ?_ | refine blk_alloc ?_ _)); exact H3.out) hb); have HB2 := Aside0.mk (below_step (by repeat (first | (with_reducible first | exact HB.out | apply below_alloc | apply pw_below_drewN | apply below_drew1) | exact HB.out)) hb); clear hb HB H3 y0 y1 y2 y3 y4 y5 y6 y7 yf0 yf1 yf2 yf3 yf4 yf5 yf6 yf7; have HB := HB2; have H3 := H32; clear HB2 H32; obtain ⟨y0, y1, y2, y3, y4, y5, y6, y7, yf0, yf1, yf2, yf3, yf4, yf5, yf6, yf7⟩ := cells8 H3.out) | fail)
    go_ret2
    exact ⟨rfl, (by repeat (first | (with_reducible first | exact HB.out | apply below_alloc | apply pw_below_drewN | apply below_drew1) | exact HB.out))⟩

end Go.Proofs.YtjapahcbhjjeiaaGreatDoor.AS

/- The document's line is the program's. No program in sight. -/
namespace Go.Proofs.YtjapahcbhjjeiaaGreatDoor.AS
open Go.RowKit Go.Lib Go.Proofs.YtjapahcbhjjeiaaGreatDoorW.PrintWords Go.Proofs.YtjapahcbhjjeiaaGreatDoorW.PrintLast Go.Proofs.YtjapahcbhjjeiaaGreatDoorW.PrintMore Go.Proofs.YtjapahcbhjjeiaaGreatDoor.PA
set_option linter.unusedVariables false
set_option linter.unusedSimpArgs false
set_option maxRecDepth 100000
set_option maxHeartbeats 4000000

def nmR (h : Int × Int × Int × Bool) : ByteArray :=
  if h.1 = 5 then atS brB h.2.1
  else if h.1 = 6 then (⟨#[108]⟩ : ByteArray) ++ atS ltB h.2.2.1 ++ (if h.2.2.2 = true then ⟨#[]⟩ else ⟨#[117]⟩)
  else if h.1 = 7 then (⟨#[115]⟩ : ByteArray) ++ atS ltB h.2.2.1
  else if h.1 = 8 then atS alB h.2.1
  else if h.1 = 9 then atS imnB h.2.1
  else if h.1 = 13 then atS c1B h.2.1
  else if h.1 = 14 then atS c2B h.2.1
  else if h.1 = 15 then (⟨#[108, 114]⟩ : ByteArray) ++ widB h.2.2.1
  else if h.1 = 16 then (⟨#[115, 99]⟩ : ByteArray) ++ widB h.2.2.1
  else if h.1 = 17 then atS amB h.2.1 ++ widB h.2.2.1
  else bB (nameH h)
theorem nm_ok : (heads.all fun h => decide (nmR h = bB (nameH h)) && decide (1 ≤ h.1 ∧ h.1 ≤ 20)) = true := by decide +kernel
theorem cB (l : List UInt8) : (⟨l.toArray⟩ : ByteArray) = bB l := rfl
theorem nmH1 (a b : Int) (c : Bool) : nameH (1, a, b, c) = [108, 117, 105] := by
  unfold nameH
  simp only [nameS, ofL, Int.reduceEq, reduceIte, List.length_cons, List.length_nil]
  decide +kernel
theorem nmH2 (a b : Int) (c : Bool) : nameH (2, a, b, c) = [97, 117, 105, 112, 99] := by
  unfold nameH
  simp only [nameS, ofL, Int.reduceEq, reduceIte, List.length_cons, List.length_nil]
  decide +kernel
theorem nmH3 (a b : Int) (c : Bool) : nameH (3, a, b, c) = [106, 97, 108] := by
  unfold nameH
  simp only [nameS, ofL, Int.reduceEq, reduceIte, List.length_cons, List.length_nil]
  decide +kernel
theorem nmH4 (a b : Int) (c : Bool) : nameH (4, a, b, c) = [106, 97, 108, 114] := by
  unfold nameH
  simp only [nameS, ofL, Int.reduceEq, reduceIte, List.length_cons, List.length_nil]
  decide +kernel
theorem nmH10 (a b : Int) (c : Bool) : nameH (10, a, b, c) = [102, 101, 110, 99, 101] := by
  unfold nameH
  simp only [nameS, ofL, Int.reduceEq, reduceIte, List.length_cons, List.length_nil]
  decide +kernel
theorem nmH11 (a b : Int) (c : Bool) : nameH (11, a, b, c) = [101, 99, 97, 108, 108] := by
  unfold nameH
  simp only [nameS, ofL, Int.reduceEq, reduceIte, List.length_cons, List.length_nil]
  decide +kernel
theorem nmH12 (a b : Int) (c : Bool) : nameH (12, a, b, c) = [101, 98, 114, 101, 97, 107] := by
  unfold nameH
  simp only [nameS, ofL, Int.reduceEq, reduceIte, List.length_cons, List.length_nil]
  decide +kernel
theorem nmH18 (a b : Int) (c : Bool) : nameH (18, a, b, c) = [115, 114, 101, 116] := by
  unfold nameH
  simp only [nameS, ofL, Int.reduceEq, reduceIte, List.length_cons, List.length_nil]
  decide +kernel
theorem nmH19 (a b : Int) (c : Bool) : nameH (19, a, b, c) = [119, 102, 105] := by
  unfold nameH
  simp only [nameS, ofL, Int.reduceEq, reduceIte, List.length_cons, List.length_nil]
  decide +kernel
theorem nmH20 (a b : Int) (c : Bool) : nameH (20, a, b, c) = [115, 102, 101, 110, 99, 101, 46, 118, 109, 97] := by
  unfold nameH
  simp only [nameS, ofL, Int.reduceEq, reduceIte, List.length_cons, List.length_nil]
  decide +kernel
theorem line_eq {i : Ins} (h : Fit i) : lineR i = bB (lineI i) := by
  have hn := List.all_eq_true.1 nm_ok _ h.head
  simp only [Bool.and_eq_true, decide_eq_true_eq] at hn
  obtain ⟨hn, hk⟩ := hn
  obtain ⟨kind, fn, rd, rs1, rs2, imm, size, sg⟩ := i
  have hk' : kind = 1 ∨ kind = 2 ∨ kind = 3 ∨ kind = 4 ∨ kind = 5 ∨ kind = 6 ∨ kind = 7 ∨ kind = 8 ∨ kind = 9 ∨ kind = 10 ∨ kind = 11 ∨ kind = 12 ∨ kind = 13 ∨ kind = 14 ∨ kind = 15 ∨ kind = 16 ∨ kind = 17 ∨ kind = 18 ∨ kind = 19 ∨ kind = 20 := by
    simp only at hk; omega
  clear h hk
  have e : lineI ⟨kind, fn, rd, rs1, rs2, imm, size, sg⟩ = nameH (kind, fn, size, sg) ++ fillS (formL kind).1 ((formL kind).2.map (toldL ⟨kind, fn, rd, rs1, rs2, imm, size, sg⟩)) := rfl
  rw [e]
  clear e
  simp only at hn
  rcases hk' with rfl | rfl | rfl | rfl | rfl | rfl | rfl | rfl | rfl | rfl | rfl | rfl | rfl | rfl | rfl | rfl | rfl | rfl | rfl | rfl
  all_goals
    simp only [nmR, Int.reduceEq, reduceIte, cB] at hn
    simp only [lineR, formL, Int.reduceEq, reduceIte, or_self, or_true, true_or, or_false, false_or, cB]
  all_goals first
    | (rw [hn]; simp [sh2, sh3, shM, shL, shA, fillS, toldL, rB, nB, cB, bB_app, List.append_assoc]; done)
    | (simp [sh2, sh3, shM, shL, shA, fillS, toldL, rB, nB, cB, bB_app, List.append_assoc, nmH1, nmH2, nmH3, nmH4, nmH10, nmH11, nmH12, nmH18, nmH19, nmH20]; done)

end Go.Proofs.YtjapahcbhjjeiaaGreatDoor.AS

/- The document's Line by its contract; AsmLines. -/
namespace Go.Proofs.YtjapahcbhjjeiaaGreatDoor.AS
open Go.RowKit Go.WideShapes Go.ChangeShapes Go.Proofs.YtjapahcbhjjeiaaGreatDoorW.PrintWords Go.Proofs.YtjapahcbhjjeiaaGreatDoorW.PrintLast Go.Proofs.YtjapahcbhjjeiaaGreatDoorW.PrintMore Go.Proofs.YtjapahcbhjjeiaaGreatDoor.PA
set_option linter.unusedVariables false
set_option linter.unusedSimpArgs false
set_option maxRecDepth 100000
set_option maxHeartbeats 8000000

theorem rline_no {kind fn rd rs1 rs2 imm size : Int} {sg : Bool} {ev : Int} (hE : ∀ W, Calls Tryz.prog 19 #[.agg #[.int .i64 kind, .int .i64 fn, .int .i64 rd, .int .i64 rs1, .int .i64 rs2, .int .i64 imm, .int .i64 size, .bool sg]] W fun e w' => e = .returned (.tuple #[.int .u32 ev, .bool false]) ∧ Below W.heap.size W w') (W : World) :
    Calls Tryz.prog 11 #[.agg #[.int .i64 kind, .int .i64 fn, .int .i64 rd, .int .i64 rs1, .int .i64 rs2, .int .i64 imm, .int .i64 size, .bool sg]] W fun e w' => e = .returned (.tuple #[.string ⟨#[]⟩, .bool false]) ∧ Below W.heap.size W w' := by
  have HB := Aside0.mk (Below.refl W.heap.size W)
  have hu23 := Tryz.underlying23
  go_enter Tryz.func11, Tryz.ntmps11
  go_wp2_with (first | ((with_reducible refine gate_dst (N := 1) rfl ?_); refine box_event (by rfl) (N := 1) (by rfl) (cs := #[.int .i64 kind, .int .i64 fn, .int .i64 rd, .int .i64 rs1, .int .i64 rs2, .int .i64 imm, .int .i64 size, .bool sg]) (t := 23) (by first | (go_simp; done) | (go_simp; rfl)) ?_; intro g3 hg w3 hbox hb; have H3 := Aside0.mk hbox; have HB2 := Aside0.mk (below_step HB.out hb); clear HB; have HB := HB2; clear HB2 hbox hb hg; obtain ⟨y0, y1, y2, y3, y4, y5, y6, y7, yf0, yf1, yf2, yf3, yf4, yf5, yf6, yf7⟩ := cells8 H3.out) | (go_at_call 19; (with_reducible refine (hE _).mono ?_); rintro e w' ⟨rfl, hb⟩; have H32 := Aside0.mk (blk_below (by (with_reducible repeat (first | refine blk_drewN ?_ _ | refine blk_drew ?_ | refine blk_alloc ?_ _)); exact H3.out) hb); have HB2 := Aside0.mk (below_step (by repeat (first | (with_reducible first | exact HB.out | apply below_alloc | apply pw_below_drewN | apply below_drew1) | exact HB.out)) hb); clear hb HB H3 y0 y1 y2 y3 y4 y5 y6 y7 yf0 yf1 yf2 yf3 yf4 yf5 yf6 yf7; have HB := HB2; have H3 := H32; clear HB2 H32; obtain ⟨y0, y1, y2, y3, y4, y5, y6, y7, yf0, yf1, yf2, yf3, yf4, yf5, yf6, yf7⟩ := cells8 H3.out) | fail)
  go_ret2
  exact ⟨rfl, (by repeat (first | (with_reducible first | exact HB.out | apply below_alloc | apply pw_below_drewN | apply below_drew1) | exact HB.out))⟩
def lnB (i : Ins) : ByteArray := if mayL i = true then bB (lineI i) else ⟨#[]⟩
theorem rLine_calls (i : Ins) (W : World) : Calls Tryz.prog 11 #[insV i] W fun e w' => e = .returned (.tuple #[.string (lnB i), .bool (mayL i)]) ∧ Below W.heap.size W w' := by
  have hE := rEncode_calls i
  unfold lnB
  cases hm : mayL i with
  | false =>
    rw [hm] at hE
    obtain ⟨kind, fn, rd, rs1, rs2, imm, size, sg⟩ := i
    exact rline_no hE W
  | true =>
    rw [hm] at hE
    have hf := mayL_fit i hm
    have hl := line_eq hf
    have hk := List.all_eq_true.1 nm_ok _ hf.head
    simp only [Bool.and_eq_true, decide_eq_true_eq] at hk
    have hR := fit_rg hf
    obtain ⟨kind, fn, rd, rs1, rs2, imm, size, sg⟩ := i
    have h := rline_walk hR (by have := hk.2; simp only at this; omega) hE W
    rw [hl] at h
    exact h
end Go.Proofs.YtjapahcbhjjeiaaGreatDoor.AS
