import Derived.Test.YtedlmdnineohkaaB1
namespace Go.Proofs.Ytedlmdnineohkaa.PU
open Go.RowKit Go.Proofs.YtedlmdnineohkaaW.PrintWords Go.Proofs.YtedlmdnineohkaaW.PrintLast Go.Proofs.YtedlmdnineohkaaW.PrintMore
set_option linter.unusedVariables false
set_option linter.unusedSimpArgs false

/-- A number as the document's reader takes it. -/
def rdM : List Int → Nat → Int → Option (Int × List Int)
  | [], _, _ => none
  | b :: r, k, v => if 6 ≤ k then none else if b < 128 then (if (b = 0 ∧ 0 < k) ∨ 1099511627776 < v + b % 128 * 2 ^ (7 * k) then none else some (v + b % 128 * 2 ^ (7 * k), r)) else rdM r (k + 1) (v + b % 128 * 2 ^ (7 * k))
theorem pow_mul_nonneg (b : Int) (m : Nat) : 0 ≤ b % 128 * 2 ^ m := Int.mul_nonneg (by omega) (Int.le_of_lt (Int.pow_pos (by decide)))
theorem rdM_big : ∀ (l : List Int) (k : Nat) (v : Int), 1099511627776 < v → rdM l k v = none
  | [], _, _, _ => rfl
  | b :: r, k, v, h => by
    have hp := pow_mul_nonneg b (7 * k)
    simp only [rdM]
    by_cases h6 : 6 ≤ k
    · rw [if_pos h6]
    · rw [if_neg h6]
      by_cases hb : b < 128
      · rw [if_pos hb, if_pos (.inr (by omega))]
      · rw [if_neg hb]; exact rdM_big r (k + 1) _ (by omega)
theorem rdM_rdN : ∀ (l : List Int) (k : Nat) (v : Int), (∀ x ∈ l, 0 ≤ x ∧ x < 256) → k ≤ 6 → 0 ≤ v → rdN l (7 * k) v = rdM l k v
  | [], _, _, _, _, _ => rfl
  | b :: r, k, v, hx, hk, hv => by
    have hp := pow_mul_nonneg b (7 * k)
    have hb := hx b List.mem_cons_self
    by_cases h6 : 6 ≤ k
    · obtain rfl : k = 6 := by omega
      have e : rdM (b :: r) 6 v = none := by simp [rdM]
      rw [e]
      simp only [rdN]
      by_cases hbad : 42 < 7 * 6 ∨ 1099511627776 < v + b % 128 * 2 ^ (7 * 6) ∨ (b = 0 ∧ 0 < 7 * 6)
      · rw [if_pos hbad]
      · rw [if_neg hbad]
        have : ¬ b < 128 := by
          intro h
          apply hbad
          by_cases h0 : b = 0
          · exact .inr (.inr ⟨h0, by omega⟩)
          · refine .inr (.inl ?_)
            have e : b % 128 = b := by omega
            rw [e]
            have : (2 : Int) ^ (7 * 6) = 4398046511104 := by decide
            rw [this]; omega
        rw [if_neg this]
        cases r with
        | nil => rfl
        | cons y r => simp only [rdN]; rw [if_pos (.inl (by omega))]
    · simp only [rdM, rdN]
      rw [if_neg h6]
      by_cases hbig : 1099511627776 < v + b % 128 * 2 ^ (7 * k)
      · rw [if_pos (.inr (.inl hbig))]
        by_cases hlt : b < 128
        · rw [if_pos hlt, if_pos (.inr hbig)]
        · rw [if_neg hlt, rdM_big _ _ _ hbig]
      · by_cases hz : b = 0 ∧ 0 < k
        · rw [if_pos (.inr (.inr ⟨hz.1, by omega⟩)), if_pos (by omega), if_pos (.inl hz)]
        · rw [if_neg (by rintro (h | h | h); omega; exact hbig h; exact hz ⟨h.1, by omega⟩)]
          by_cases hlt : b < 128
          · rw [if_pos hlt, if_pos hlt, if_neg (by rintro (h | h); exact hz h; exact hbig h)]
          · rw [if_neg hlt, if_neg hlt]
            have := rdM_rdN r (k + 1) (v + b % 128 * 2 ^ (7 * k)) (fun x hm => hx x (List.mem_cons_of_mem _ hm)) (by omega) (by omega)
            rw [← this]; rfl

def NumRel (l : List Int) (bad : Bool) (x : Int) (l' : List Int) (bad' : Bool) : Prop :=
  if bad = true then l' = l ∧ bad' = true else match rdN l 0 0 with
    | some q => x = q.1 ∧ l' = q.2 ∧ bad' = false
    | none => bad' = true ∧ l'.length ≤ l.length
def NumR (w0 W : World) (g : Nat) (l : List Int) (bad : Bool) (e : Ending) (w' : World) : Prop :=
  ∃ x l' bad', e = .returned (.int .i64 x) ∧ RQ w0 w' g l' bad' ∧ Kept W w' (fun k => k = g) ∧ NumRel l bad x l' bad'

set_option maxHeartbeats 1600000 in
theorem rnum_calls (w0 W : World) (g : Nat) (l : List Int) (bad : Bool) (h : RQ w0 W g l bad) :
    Calls Try.prog 34 #[.pointer (some ⟨g, 0, none⟩)] W (NumR w0 W g l bad) := by
  have HH := Aside0.mk h
  clear h
  go_enter Try.func34, Try.ntmps34
  go_wp2
  go_loopw [3, 4] (fun v3 v4 w' => ∃ (v : Int) (k : Nat) (l1 : List Int), v3 = .int .i64 v ∧ v4 = .int .i64 (k : Int) ∧ 0 ≤ v ∧ k ≤ 6 ∧ Aside0 (v < 2 ^ (7 * k)) ∧ Aside0 (RQ w0 w' g l1 bad) ∧ Aside0 (rdN l 0 0 = rdM l1 k v) ∧ Aside0 (Kept W w' (fun k => k = g)) ∧ Aside0 (bad = true → l1 = l) ∧ Aside0 (l1.length ≤ l.length)) (fun _ v4 _ => 7 - (intOf v4).toNat)
  case atStart => exact ⟨0, 0, l, rfl, rfl, by omega, by omega, ⟨by simp⟩, HH, ⟨by rw [← rdM_rdN l 0 0 HH.out.2.2.1 (by omega) (by omega)]⟩, ⟨Kept.refl _ _⟩, ⟨fun _ => rfl⟩, ⟨Nat.le_refl _⟩⟩
  case round =>
    obtain ⟨v, k, l1, rfl, rfl, hv0, hk, HV, HRQ, HE, HK, HBL, HLL⟩ := hrel
    clear HH
    by_cases c6 : k < 6
    · have d6 : decide ((k : Int) < 6) = true := by simp; omega
      go_wp2_with fail
      refine (rtake_calls w0 _ g l1 bad 1 HRQ.out (fun _ => by omega)).mono ?_
      rintro e w1 ⟨u, xs, l2, bad2, rfl, hR, hrq, hkp, hrel⟩
      have HR := Aside0.mk hR
      have HRQ1 := Aside0.mk hrq
      have HK1 := Aside0.mk (HK.out.then_ hkp (fun _ h => .inl h))
      obtain ⟨A2, c2, hblk⟩ := HRQ1.out.block
      have cb : w1.cell? ⟨g, 1, none⟩ = some (.bool bad2) := (blk_cell hblk 1).trans rfl
      have fb := blk_frozen hblk 1
      clear hR hrq hkp hblk
      unfold TakeRel at hrel
      by_cases hbad : bad = true ∨ (l1.length : Int) < 1
      · rw [if_pos hbad] at hrel
        obtain ⟨rfl, rfl, rfl⟩ := hrel
        have HREL := Aside0.mk (show NumRel l bad 0 l2 true by
          unfold NumRel
          by_cases hb : bad = true
          · rw [if_pos hb]; exact ⟨HBL.out hb, rfl⟩
          · rw [if_neg hb, HE.out]
            have : l2 = [] := by cases l2 with
              | nil => rfl
              | cons y r => rcases hbad with h | h; exact absurd h hb; simp at h; omega
            subst this
            exact ⟨rfl, HLL.out⟩)
        clear hbad
        go_wp2
        go_ret
        exact ⟨_, _, _, rfl, HRQ1.out, HK1.out, HREL.out⟩
      · rw [if_neg hbad] at hrel
        have hb : bad = false := by cases bad; rfl; exact absurd (.inl rfl) hbad
        subst hb
        cases l1 with
        | nil => exact absurd (.inr (by simp)) hbad
        | cons b r =>
          obtain ⟨rfl, rfl, rfl⟩ := hrel
          clear hbad
          obtain ⟨Au, cu, eu⟩ := Kd.R_slice HR.out
          subst eu
          obtain ⟨ad, ea, hc⟩ := Kd.at_int (Kd.R_reads' HR.out).2.2 0 (by omega) (by simp)
          cases ea
          have hcv : w1.cell? ad = some (.int .u8 b) := hc
          have hb0 := HRQ.out.2.2.1 b List.mem_cons_self
          have hb1 := hb0.1
          have hb2 := hb0.2
          clear hc hb0
          have hp := pow_mul_nonneg b (7 * k)
          have hpw : (2 : Int) ^ (7 * k) ≤ 2 ^ 35 := Int.pow_le_pow_right₀' (by omega)
          have hp2 : b % 128 * 2 ^ (7 * k) ≤ 127 * 2 ^ 35 := Int.le_trans (Int.mul_le_mul_of_nonneg_right (by omega) (Int.le_of_lt (Int.pow_pos (by decide)))) (Int.mul_le_mul_of_nonneg_left hpw (by decide))
          have hvv : v < 2 ^ 35 := by have := HV.out; omega
          have HKP := Aside0.mk (show k < 6 from c6)
          obtain ⟨X, hX, hX2⟩ : ∃ X : Int, wrap64 (v + wrap64 (b % 128 * 2 ^ (7 * k))) = X ∧ X = v + b % 128 * 2 ^ (7 * k) := ⟨_, rfl, by unfold wrap64; omega⟩
          have HX := Aside0.mk hX2
          have HP := Aside0.mk hp
          have HXL := Aside0.mk (show X < 2 ^ (7 * (k + 1)) by rw [hX2]; have := shift_lt v b (7 * k) HV.out; rwa [show 7 * (k + 1) = 7 * k + 7 by omega])
          have HX0 := Aside0.mk (show 0 ≤ X by rw [hX2]; omega)
          have ewx : wrap64 X = X := by unfold wrap64; omega
          clear hp hpw hp2 hvv hX2
          by_cases c5 : b < 128
          · have HM := Aside0.mk (show rdN l 0 0 = if (b = 0 ∧ 0 < k) ∨ 1099511627776 < X then none else some (X, l2) by rw [HE.out]; simp only [rdM]; rw [if_neg (by omega), if_pos c5, ← HX.out])
            have HLE := Aside0.mk (show l2.length ≤ l.length by have := HLL.out; simp at this; omega)
            have HREL1 : Aside0 ((b = 0 ∧ 0 < k) ∨ 1099511627776 < X → NumRel l false X l2 true) := ⟨by
              intro hF
              unfold NumRel
              rw [if_neg (by decide), HM.out, if_pos hF]
              exact ⟨rfl, HLE.out⟩⟩
            have HREL2 : Aside0 (¬ ((b = 0 ∧ 0 < k) ∨ 1099511627776 < X) → NumRel l false X l2 false) := ⟨by
              intro hF
              unfold NumRel
              rw [if_neg (by decide), HM.out, if_neg hF]
              exact ⟨rfl, rfl, rfl⟩⟩
            by_cases hz : b = 0
            · subst hz
              have e0 : (0 : Int) % 128 * 2 ^ (7 * k) = 0 := by simp
              have eX : X = v := by have := HX.out; rw [this, e0]; omega
              have eW : wrap64 (X + wrap64 0) = X := by rw [show X + wrap64 0 = X from by simp [wrap64]]; exact ewx
              subst eX
              clear hX
              by_cases hk0 : k = 0
              · subst hk0
                have hx1 : X < 1 := by have := HV.out; simpa using this
                have eX0 : X = 0 := by have := HX0.out; omega
                subst eX0
                go_wp2
                go_ret
                exact ⟨_, _, _, rfl, HRQ1.out.flag false, Kept.setCell (p := ⟨g, 1, none⟩) HK1.out (.inl rfl) _, HREL2.out (by omega)⟩
              · go_wp2
                go_ret
                exact ⟨_, _, _, by first | rfl | rw [eW] | rw [ewx] | (simp only [eW, ewx]; rfl), HRQ1.out.flag true, Kept.setCell (p := ⟨g, 1, none⟩) HK1.out (.inl rfl) _, HREL1.out (.inl (by simp; omega))⟩
            · by_cases hbig : 1099511627776 < X
              · have db : decide (1099511627776 < X) = true := by simpa using hbig
                have HBIG := Aside0.mk hbig
                clear hbig
                go_wp2
                go_ret
                exact ⟨_, _, _, rfl, HRQ1.out.flag true, Kept.setCell (p := ⟨g, 1, none⟩) HK1.out (.inl rfl) _, HREL1.out (.inr HBIG.out)⟩
              · have db : decide (1099511627776 < X) = false := by simpa using hbig
                have HBIG := Aside0.mk hbig
                have HZ := Aside0.mk hz
                clear hbig
                go_wp2
                go_ret
                exact ⟨_, _, _, rfl, HRQ1.out.flag false, Kept.setCell (p := ⟨g, 1, none⟩) HK1.out (.inl rfl) _, HREL2.out (by have hbg := HBIG.out; have hzz := HZ.out; rintro (h | h); exact hzz h.1; omega)⟩
          · have HM := Aside0.mk (show rdN l 0 0 = rdM l2 (k + 1) X by rw [HE.out]; simp only [rdM]; rw [if_neg (by omega), if_neg c5, ← HX.out])
            have HLE := Aside0.mk (show l2.length ≤ l.length by have := HLL.out; simp at this; omega)
            go_wp2_with fail
            go_roundw
            case rel => exact ⟨X, k + 1, l2, by first | rfl | rw [hX], by first | rfl | (congr 1; omega), HX0.out, by omega, HXL, HRQ1, HM, HK1, ⟨fun h => by cases h⟩, HLE⟩
            case measure => simp [intOf]; omega
    · obtain rfl : k = 6 := by omega
      obtain ⟨A2, c2, hblk⟩ := HRQ.out.block
      have cb : wr.cell? ⟨g, 1, none⟩ = some (.bool bad) := (blk_cell hblk 1).trans rfl
      have fb := blk_frozen hblk 1
      have HN : Aside0 (rdN l 0 0 = none) := ⟨by rw [HE.out]; cases l1 with
        | nil => rfl
        | cons b r => simp [rdM]⟩
      have HREL : Aside0 (NumRel l bad 0 l1 true) := ⟨by
        unfold NumRel
        by_cases hb : bad = true
        · rw [if_pos hb]; exact ⟨HBL.out hb, rfl⟩
        · rw [if_neg hb, HN.out]; exact ⟨rfl, HLL.out⟩⟩
      clear hblk
      go_wp2
      go_ret
      exact ⟨_, _, _, rfl, HRQ.out.flag true, Kept.setCell (p := ⟨g, 1, none⟩) HK.out (.inl rfl) _, HREL.out⟩
end Go.Proofs.Ytedlmdnineohkaa.PU
