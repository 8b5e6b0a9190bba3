import Derived.Test.YtgibdhdglppdcaaGreatA5
import Derived.Deep.LoopGhost
import Derived.Laws.BitsLemmas
namespace Go.Proofs.YtgibdhdglppdcaaGreat.PU
set_option maxRecDepth 100000
open Go.RowKit Go.Proofs.YtgibdhdglppdcaaGreatW.PrintWords Go.Proofs.YtgibdhdglppdcaaGreatW.PrintLast Go.Proofs.YtgibdhdglppdcaaGreatW.PrintMore
set_option linter.unusedVariables false
set_option linter.unusedSimpArgs false

theorem Int.pow_le_pow_right₀' {m k : Nat} (h : m ≤ k) : (2 : Int) ^ m ≤ 2 ^ k := by
  have := Nat.pow_le_pow_right (n := 2) (by decide) h
  exact_mod_cast this
theorem or_shift (n v : Int) (m : Nat) (h0 : 0 ≤ n) (hn : n < 2 ^ m) (hm : m ≤ 49) (hv : 0 ≤ v) (hv1 : v < 256) : bits BinOp.or IntKind.i64 n (wrap64 (bits BinOp.and IntKind.i64 v 127 * 2 ^ m)) = n + v % 128 * 2 ^ m := by
  have hw : ∀ q : Int, 0 ≤ q → q < 2 ^ 62 → IntKind.i64.wrap q = q := fun q h1 h2 => by rw [IntKind.wrap_i64]; omega
  have e1 : bits BinOp.and IntKind.i64 v 127 = v % 128 := by
    have := bits_mask .i64 62 (by decide) hw 7 (by decide) v hv (by omega)
    exact this
  have hp : (0 : Int) < 2 ^ m := Int.pow_pos (by decide)
  have hp2 : (2 : Int) ^ m ≤ 2 ^ 49 := Int.pow_le_pow_right₀' hm
  have hh0 : 0 ≤ v % 128 * 2 ^ m := Int.mul_nonneg (by omega) (Int.le_of_lt hp)
  have hh1 : v % 128 * 2 ^ m ≤ 127 * 2 ^ m := Int.mul_le_mul_of_nonneg_right (by omega) (Int.le_of_lt hp)
  have e2 : wrap64 (v % 128 * 2 ^ m) = v % 128 * 2 ^ m := by unfold wrap64; omega
  rw [e1, e2]
  have e3 : bits .or .i64 (v % 128 * 2 ^ m) n = v % 128 * 2 ^ m + n := bits_join .i64 62 (by decide) hw m _ _ hh0 (Int.mul_emod_left _ _) (by omega) h0 hn (by omega)
  rw [Int.add_comm, ← e3]
  generalize v % 128 * 2 ^ m = h at *
  obtain ⟨a, rfl⟩ := Int.eq_ofNat_of_zero_le h0
  obtain ⟨b, rfl⟩ := Int.eq_ofNat_of_zero_le hh0
  have ha : a < 2 ^ 62 := by omega
  have hb : b < 2 ^ 62 := by omega
  rw [(bits_nat .i64 62 (by decide) hw a b ha hb).2, (bits_nat .i64 62 (by decide) hw b a hb ha).2, Nat.or_comm]
theorem shift_lt (n v : Int) (m : Nat) (hn : n < 2 ^ m) : n + v % 128 * 2 ^ m < 2 ^ (m + 7) := by
  have e : (2 : Int) ^ (m + 7) = 2 ^ m * 128 := by rw [Int.pow_add]; rfl
  have hp : (0 : Int) < 2 ^ m := Int.pow_pos (by decide)
  have h1 : v % 128 * 2 ^ m ≤ 127 * 2 ^ m := Int.mul_le_mul_of_nonneg_right (by omega) (Int.le_of_lt hp)
  rw [e]
  omega
/-- A number read, at so many bits, with so much read already. -/
def rdN : List Int → Nat → Int → Option (Int × List Int)
  | [], _, _ => none
  | v :: r, m, n => if 42 < m ∨ 1099511627776 < n + v % 128 * 2 ^ m ∨ (v = 0 ∧ 0 < m) then none else if v < 128 then some (n + v % 128 * 2 ^ m, r) else rdN r (m + 7) (n + v % 128 * 2 ^ m)

def NumPost (w0 W : World) (g : Nat) (l : List Int) (e : Ending) (w' : World) : Prop :=
  (∃ n r, rdN l 0 0 = some (n, r) ∧ e = .returned (.int .i64 n) ∧ RS w0 w' g r ∧ Kept W w' (fun k => k = g)) ∨ (rdN l 0 0 = none ∧ e = .panicked cutChain ∧ Kept W w' (fun k => k = g) ∧ Below w0.heap.size w0 w')

set_option maxRecDepth 100000 in
set_option maxHeartbeats 800000 in
theorem number_calls (w0 W : World) (g : Nat) (l : List Int) (h : RS w0 W g l) (hb : ∀ x ∈ l, 0 ≤ x ∧ x < 256) :
    Calls Tryz.prog 25 #[.pointer (some ⟨g, 0, none⟩)] W (NumPost w0 W g l) := by
  have H := Aside0.mk h
  have HBY := Aside0.mk hb
  clear h hb
  go_enter Tryz.func25, Tryz.ntmps25
  go_wp2
  go_loopw [3, 4] (fun v3 v4 w' => ∃ (n : Int) (m : Nat) (l' : List Int), v3 = .int .i64 n ∧ v4 = .int .i64 (m : Int) ∧ 0 ≤ n ∧ m ≤ 49 ∧ Aside0 (n < 2 ^ m) ∧ Aside0 (RS w0 w' g l') ∧ Aside0 (rdN l 0 0 = rdN l' m n) ∧ Aside0 (∀ x ∈ l', 0 ≤ x ∧ x < 256) ∧ Aside0 (Kept W w' (fun k => k = g))) (fun _ v4 _ => 50 - (intOf v4).toNat)
  case atStart => exact ⟨0, 0, l, rfl, rfl, by omega, by omega, ⟨by simp⟩, H, ⟨rfl⟩, HBY, ⟨Kept.refl _ _⟩⟩
  case round =>
    obtain ⟨n, m, l', rfl, rfl, hn0, hm, HN, HRS, HE, HB2, HK⟩ := hrel
    clear H HBY
    cases l' with
    | nil =>
      go_wp2_with (first | (go_at_call 24; (with_reducible refine (take_no w0 _ g [] 1 HRS.out (by simp)).mono ?_); rintro e w1 ⟨rfl, hb⟩; have HB1 := Aside0.mk hb; clear hb))
      exact ⟨rfl, .inr ⟨HE.out, rfl, HK.out.below HB1.out, (HRS.out.2.1).trans (HB1.out.mono HRS.out.2.1.size)⟩⟩
    | cons v r =>
      have hv := HB2.out v List.mem_cons_self
      have hv0 := hv.1
      have hv1 := hv.2
      clear hv
      obtain ⟨X, hX, hX2⟩ : ∃ X : Int, bits BinOp.or IntKind.i64 n (wrap64 (bits BinOp.and IntKind.i64 v 127 * 2 ^ m)) = X ∧ X = n + v % 128 * 2 ^ m := ⟨_, rfl, or_shift n v m hn0 HN.out hm hv0 hv1⟩
      have HX := Aside0.mk hX2
      have hX0 : 0 ≤ X := by rw [hX2]; exact Int.add_nonneg hn0 (Int.mul_nonneg (by omega) (Int.le_of_lt (Int.pow_pos (by decide))))
      clear hX2
      by_cases hbad : 42 < m ∨ 1099511627776 < X ∨ (v = 0 ∧ 0 < m)
      · have HR := Aside0.mk (show rdN (v :: r) m n = none by simp only [rdN]; rw [← HX.out, if_pos hbad])
        by_cases c1 : 42 < m
        · have d1 : decide ((42 : Int) < (m : Int)) = true := by simp; omega
          clear hbad c1
          go_wp2_with (first | (go_at_call 24; (with_reducible refine (take_ok w0 _ g (v :: r) 1 HRS.out (by omega) (by simp; omega)).mono ?_); rintro e w1 ⟨A, c, rfl, hl, hC, hrs, hk⟩; have hC1 := Kd.C_below hC hrs.2.1; obtain ⟨ad, e, hc⟩ := Kd.at_int hC1 0 (by omega) (by simp); cases e; have hcv : w1.cell? ad = some (.int .u8 v) := hc; clear hc; have HRS1 := Aside0.mk hrs; have HK1 := Aside0.mk hk; clear hl hC hrs hk hC1))
          exact ⟨rfl, .inr ⟨HE.out.trans HR.out, rfl, HK.out.then_ HK1.out (fun _ h => .inl h), HRS1.out.2.1⟩⟩
        · have d1 : decide ((42 : Int) < (m : Int)) = false := by simp; omega
          by_cases c2 : 1099511627776 < X
          · clear hbad c1
            go_wp2_with (first | (go_at_call 24; (with_reducible refine (take_ok w0 _ g (v :: r) 1 HRS.out (by omega) (by simp; omega)).mono ?_); rintro e w1 ⟨A, c, rfl, hl, hC, hrs, hk⟩; have hC1 := Kd.C_below hC hrs.2.1; obtain ⟨ad, e, hc⟩ := Kd.at_int hC1 0 (by omega) (by simp); cases e; have hcv : w1.cell? ad = some (.int .u8 v) := hc; clear hc; have HRS1 := Aside0.mk hrs; have HK1 := Aside0.mk hk; clear hl hC hrs hk hC1))
            exact ⟨rfl, .inr ⟨HE.out.trans HR.out, rfl, HK.out.then_ HK1.out (fun _ h => .inl h), HRS1.out.2.1⟩⟩
          · have hz : v = 0 ∧ 0 < m := by rcases hbad with h | h | h; exact absurd h c1; exact absurd h c2; exact h
            have d3 : (v == 0) = true := by simpa using hz.1
            have d4 : 0 < m := hz.2
            clear hbad c1 hz
            go_wp2_with (first | (go_at_call 24; (with_reducible refine (take_ok w0 _ g (v :: r) 1 HRS.out (by omega) (by simp; omega)).mono ?_); rintro e w1 ⟨A, c, rfl, hl, hC, hrs, hk⟩; have hC1 := Kd.C_below hC hrs.2.1; obtain ⟨ad, e, hc⟩ := Kd.at_int hC1 0 (by omega) (by simp); cases e; have hcv : w1.cell? ad = some (.int .u8 v) := hc; clear hc; have HRS1 := Aside0.mk hrs; have HK1 := Aside0.mk hk; clear hl hC hrs hk hC1))
            exact ⟨rfl, .inr ⟨HE.out.trans HR.out, rfl, HK.out.then_ HK1.out (fun _ h => .inl h), HRS1.out.2.1⟩⟩
      · have g1 : ¬ 42 < m := fun h => hbad (.inl h)
        have g2 : ¬ 1099511627776 < X := fun h => hbad (.inr (.inl h))
        have g3 : ¬ (v = 0 ∧ 0 < m) := fun h => hbad (.inr (.inr h))
        have d1 : decide ((42 : Int) < (m : Int)) = false := by simp; omega
        by_cases c5 : v < 128
        · have HR := Aside0.mk (show rdN (v :: r) m n = some (X, r) by simp only [rdN]; rw [← HX.out, if_neg hbad, if_pos c5])
          by_cases c3 : v = 0
          · have d3 : (v == 0) = true := by simpa using c3
            have d4 : ¬ 0 < m := fun h => g3 ⟨c3, h⟩
            clear hbad g1 g3 c3
            go_wp2_with (first | (go_at_call 24; (with_reducible refine (take_ok w0 _ g (v :: r) 1 HRS.out (by omega) (by simp; omega)).mono ?_); rintro e w1 ⟨A, c, rfl, hl, hC, hrs, hk⟩; have hC1 := Kd.C_below hC hrs.2.1; obtain ⟨ad, e, hc⟩ := Kd.at_int hC1 0 (by omega) (by simp); cases e; have hcv : w1.cell? ad = some (.int .u8 v) := hc; clear hc; have HRS1 := Aside0.mk hrs; have HK1 := Aside0.mk hk; clear hl hC hrs hk hC1))
            go_ret
            exact .inl ⟨_, _, HE.out.trans HR.out, rfl, HRS1.out, HK.out.then_ HK1.out (fun _ h => .inl h)⟩
          · have d3 : (v == 0) = false := by simpa using c3
            clear hbad g1 g3 c3
            go_wp2_with (first | (go_at_call 24; (with_reducible refine (take_ok w0 _ g (v :: r) 1 HRS.out (by omega) (by simp; omega)).mono ?_); rintro e w1 ⟨A, c, rfl, hl, hC, hrs, hk⟩; have hC1 := Kd.C_below hC hrs.2.1; obtain ⟨ad, e, hc⟩ := Kd.at_int hC1 0 (by omega) (by simp); cases e; have hcv : w1.cell? ad = some (.int .u8 v) := hc; clear hc; have HRS1 := Aside0.mk hrs; have HK1 := Aside0.mk hk; clear hl hC hrs hk hC1))
            go_ret
            exact .inl ⟨_, _, HE.out.trans HR.out, rfl, HRS1.out, HK.out.then_ HK1.out (fun _ h => .inl h)⟩
        · have HR := Aside0.mk (show rdN (v :: r) m n = rdN r (m + 7) X by simp only [rdN]; rw [← HX.out, if_neg hbad, if_neg c5])
          have d3 : (v == 0) = false := by simp; omega
          have HN2 := Aside0.mk (show X < 2 ^ (m + 7) by rw [HX.out]; exact shift_lt n v m HN.out)
          have HB3 := Aside0.mk (fun x (hx : x ∈ r) => HB2.out x (List.mem_cons_of_mem _ hx))
          have hm42 : m ≤ 42 := by omega
          clear hbad g1 g3
          go_wp2_with (first | (go_at_call 24; (with_reducible refine (take_ok w0 _ g (v :: r) 1 HRS.out (by omega) (by simp; omega)).mono ?_); rintro e w1 ⟨A, c, rfl, hl, hC, hrs, hk⟩; have hC1 := Kd.C_below hC hrs.2.1; obtain ⟨ad, e, hc⟩ := Kd.at_int hC1 0 (by omega) (by simp); cases e; have hcv : w1.cell? ad = some (.int .u8 v) := hc; clear hc; have HRS1 := Aside0.mk hrs; have HK1 := Aside0.mk hk; clear hl hC hrs hk hC1))
          go_roundw
          case rel => exact ⟨X, m + 7, r, rfl, by first | rfl | (congr 1; omega), hX0, by omega, HN2, HRS1, ⟨HE.out.trans HR.out⟩, HB3, ⟨HK.out.then_ HK1.out (fun _ h => .inl h)⟩⟩
          case measure => simp [intOf]; omega
end Go.Proofs.YtgibdhdglppdcaaGreat.PU
