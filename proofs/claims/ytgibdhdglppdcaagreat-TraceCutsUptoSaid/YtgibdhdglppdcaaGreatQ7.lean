/- The plain law of the reader: what is written is read as the same, and the other way. -/
import Derived.Test.YtgibdhdglppdcaaGreatQ5
import Derived.Test.YtgibdhdglppdcaaGreatA10
namespace Go.Proofs.YtgibdhdglppdcaaGreat.PU
set_option maxRecDepth 100000
open Go.RowKit Go.Proofs.YtgibdhdglppdcaaGreatW.PrintWords Go.Proofs.YtgibdhdglppdcaaGreatW.PrintLast Go.Proofs.YtgibdhdglppdcaaGreatW.PrintMore
set_option linter.unusedVariables false

theorem pow7 (m : Nat) : (2 : Int) ^ (m + 7) = 128 * 2 ^ m := by rw [Int.pow_add, Int.mul_comm]; rfl
theorem pow_pos' (m : Nat) : (0 : Int) < 2 ^ m := Int.pow_pos (by decide)
theorem rdN_numB (r : List Int) : ∀ (q m : Nat) (a : Int), 0 ≤ a → (0 < q ∨ m = 0) → m ≤ 42 → a + (q : Int) * 2 ^ m ≤ 1099511627776 → rdN (numB q ++ r) m a = some (a + (q : Int) * 2 ^ m, r) := by
  intro q
  induction q using Nat.strongRecOn with
  | _ q ih =>
    intro m a ha hq hm hb
    have hp := pow_pos' m
    by_cases h : q < 128
    · rw [numB_lt h]
      have e : (q : Int) % 128 = q := by omega
      simp only [List.singleton_append, rdN, e]
      rw [if_neg (by rintro (h1 | h1 | h1) <;> omega), if_pos (by omega)]
    · rw [numB_ge h]
      have e : ((q % 128 + 128 : Nat) : Int) % 128 = ((q % 128 : Nat) : Int) := by omega
      have hq1 : 0 < q / 128 := by omega
      have es : (q : Int) * 2 ^ m = ((q % 128 : Nat) : Int) * 2 ^ m + ((q / 128 : Nat) : Int) * 2 ^ (m + 7) := by
        rw [pow7, ← Int.mul_assoc, ← Int.add_mul]
        congr 1
        omega
      have hpos1 : 0 ≤ ((q % 128 : Nat) : Int) * 2 ^ m := Int.mul_nonneg (by omega) (by omega)
      have hpos2 : (2 : Int) ^ (m + 7) ≤ ((q / 128 : Nat) : Int) * 2 ^ (m + 7) := by
        have := Int.mul_le_mul_of_nonneg_right (show (1 : Int) ≤ ((q / 128 : Nat) : Int) by omega) (Int.le_of_lt (pow_pos' (m + 7)))
        omega
      have hp7 := pow_pos' (m + 7)
      have hm2 : m + 7 ≤ 42 := by
        by_cases h42 : m + 7 ≤ 42
        · exact h42
        · exfalso
          have h43 : (2 : Int) ^ 43 ≤ 2 ^ (m + 7) := Int.pow_le_pow_right₀' (by omega)
          have : (2 : Int) ^ 43 = 8796093022208 := by decide
          omega
      simp only [List.cons_append, rdN, e]
      rw [if_neg (by rintro (h1 | h1 | h1) <;> omega), if_neg (by omega), ih (q / 128) (by omega) (m + 7) _ (by omega) (.inl hq1) hm2 (by omega)]
      rw [es, Int.add_assoc]
theorem numB_rdN : ∀ (l : List Int) (m : Nat) (a : Int) {x : Int} {r : List Int}, (∀ y ∈ l, 0 ≤ y ∧ y < 256) → rdN l m a = some (x, r) → ∃ q : Nat, (0 < q ∨ m = 0) ∧ x = a + (q : Int) * 2 ^ m ∧ l = numB q ++ r
  | [], _, _, _, _, _, h => by simp [rdN] at h
  | v :: l, m, a, x, r, hy, h => by
    have hv := hy v List.mem_cons_self
    simp only [rdN] at h
    split at h
    · cases h
    · next hbad =>
      split at h
      · next hlt =>
        injection h with h
        injection h with h1 h2
        subst h2
        have e : v % 128 = v := by omega
        refine ⟨v.toNat, by omega, ?_, ?_⟩
        · rw [← h1, e, Int.toNat_of_nonneg hv.1]
        · rw [numB_lt (by omega)]; simp [Int.toNat_of_nonneg hv.1]
      · next hge =>
        obtain ⟨q, hq, hx, hl⟩ := numB_rdN l (m + 7) _ (fun y hm => hy y (List.mem_cons_of_mem _ hm)) h
        have hq : 0 < q := by omega
        refine ⟨(v % 128).toNat + 128 * q, .inl (by omega), ?_, ?_⟩
        · rw [hx, pow7, Int.add_assoc, ← Int.mul_assoc, ← Int.add_mul]
          congr 2
          omega
        · rw [numB_ge (by omega), hl]
          have e1 : (((v % 128).toNat + 128 * q) % 128 + 128 : Nat) = v.toNat := by omega
          have e2 : ((v % 128).toNat + 128 * q) / 128 = q := by omega
          rw [e1, e2, Int.toNat_of_nonneg hv.1]
          rfl
theorem rdN_of (q : Nat) (r : List Int) (h : q ≤ 1099511627776) : rdN (numB q ++ r) 0 0 = some ((q : Int), r) := by
  have := rdN_numB r q 0 0 (by omega) (.inr rfl) (by omega) (by simp; omega)
  simpa using this
theorem rdN_inv {l r : List Int} {x : Int} (hy : ∀ y ∈ l, 0 ≤ y ∧ y < 256) (h : rdN l 0 0 = some (x, r)) : l = numB x.toNat ++ r := by
  obtain ⟨q, _, hx, hl⟩ := numB_rdN l 0 0 hy h
  have : x.toNat = q := by rw [hx]; simp
  rw [this]; exact hl
theorem rdB_of (x r : List Int) (h : x.length ≤ 1099511627776) : rdB (numB x.length ++ (x ++ r)) = some (x, r) := by
  unfold rdB
  rw [rdN_of _ _ h]
  simp only
  rw [if_pos (by simp; omega)]
  simp
theorem rdB_inv {l x r : List Int} (hy : ∀ y ∈ l, 0 ≤ y ∧ y < 256) (h : rdB l = some (x, r)) : l = numB x.length ++ (x ++ r) := by
  unfold rdB at h
  split at h
  · cases h
  · next n r' hN =>
    have h0 := rdN_nonneg _ _ _ (Int.le_refl 0) hN
    have hl := rdN_inv hy hN
    split at h
    · next hn =>
      injection h with h
      injection h with h1 h2
      subst h1; subst h2
      have e : (r'.take n.toNat).length = n.toNat := by simp; omega
      rw [e, List.take_append_drop]
      exact hl
    · cases h
theorem rdDevs_of (r : List Int) : ∀ (l3 acc : List Int), (∀ d ∈ l3, 0 ≤ d ∧ d ≤ 1099511627776) → rdDevs l3.length acc (intsB l3 ++ r) = some (acc ++ l3, r)
  | [], acc, _ => by simp [rdDevs, intsB]
  | d :: l3, acc, h => by
    have hd := h d List.mem_cons_self
    have e : intsB (d :: l3) ++ r = numB d.toNat ++ (intsB l3 ++ r) := by simp [intsB]
    rw [e]
    simp only [List.length_cons, rdDevs]
    rw [rdN_of _ _ (by omega)]
    simp only [Option.bind_some]
    rw [Int.toNat_of_nonneg hd.1, rdDevs_of r l3 (acc ++ [d]) (fun y hm => h y (List.mem_cons_of_mem _ hm))]
    simp
theorem rdDevs_inv : ∀ (n : Nat) (acc l : List Int) {acc' r : List Int}, (∀ y ∈ l, 0 ≤ y ∧ y < 256) → rdDevs n acc l = some (acc', r) → ∃ l3, acc' = acc ++ l3 ∧ l3.length = n ∧ l = intsB l3 ++ r
  | 0, acc, l, acc', r, _, h => by
    simp only [rdDevs] at h
    injection h with h
    injection h with h1 h2
    subst h1; subst h2
    exact ⟨[], by simp, rfl, by simp [intsB]⟩
  | n + 1, acc, l, acc', r, hy, h => by
    simp only [rdDevs] at h
    cases hN : rdN l 0 0 with
    | none => rw [hN] at h; cases h
    | some q =>
      obtain ⟨d, l'⟩ := q
      rw [hN] at h
      simp only [Option.bind_some] at h
      have hl := rdN_inv hy hN
      have h0 := (rdN_nonneg _ _ _ (Int.le_refl 0) hN).1
      obtain ⟨l3, e1, e2, e3⟩ := rdDevs_inv n (acc ++ [d]) l' (fun y hm => hy y (rdN_mem _ _ _ hN y hm)) h
      refine ⟨d :: l3, by rw [e1]; simp, by simp [e2], ?_⟩
      rw [hl, e3]
      simp [intsB]
def LabOk (x : S56) : Prop := 0 ≤ x.f0 ∧ x.f0 < 256 ∧ 0 ≤ x.f1 ∧ x.f1 ≤ 1099511627776 ∧ x.f2.length ≤ 1099511627776
theorem rdLabs_of (r : List Int) : ∀ (ls acc : List S56), (∀ x ∈ ls, LabOk x) → rdLabs ls.length acc (labsB ls ++ r) = some (acc ++ ls, r)
  | [], acc, _ => by simp [rdLabs, labsB]
  | x :: ls, acc, h => by
    obtain ⟨h0, h1, h2, h3, h4⟩ := h x List.mem_cons_self
    have e : labsB (x :: ls) ++ r = x.f0 :: (numB x.f1.toNat ++ (numB x.f2.length ++ (x.f2 ++ (labsB ls ++ r)))) := by
      have : x.f0 % 256 = x.f0 := by omega
      simp [labsB, labB, this]
    rw [e]
    simp only [List.length_cons, rdLabs]
    rw [rdN_of _ _ (by omega)]
    simp only [Option.bind_some]
    rw [rdB_of _ _ h4]
    simp only [Option.bind_some]
    rw [Int.toNat_of_nonneg h2, rdLabs_of r ls (acc ++ [x]) (fun y hm => h y (List.mem_cons_of_mem _ hm))]
    simp
theorem rdLabs_inv : ∀ (n : Nat) (acc : List S56) (l : List Int) {acc' : List S56} {r : List Int}, (∀ y ∈ l, 0 ≤ y ∧ y < 256) → rdLabs n acc l = some (acc', r) → ∃ ls, acc' = acc ++ ls ∧ ls.length = n ∧ l = labsB ls ++ r
  | 0, acc, l, acc', r, _, h => by
    simp only [rdLabs] at h
    injection h with h
    injection h with h1 h2
    subst h1; subst h2
    exact ⟨[], by simp, rfl, by simp [labsB]⟩
  | n + 1, acc, [], acc', r, _, h => by simp [rdLabs] at h
  | n + 1, acc, k :: l, acc', r, hy, h => by
    simp only [rdLabs] at h
    have hk := hy k List.mem_cons_self
    have hy2 : ∀ y ∈ l, 0 ≤ y ∧ y < 256 := fun y hm => hy y (List.mem_cons_of_mem _ hm)
    cases hN : rdN l 0 0 with
    | none => rw [hN] at h; cases h
    | some q =>
      obtain ⟨d, l'⟩ := q
      rw [hN] at h
      simp only [Option.bind_some] at h
      have hl := rdN_inv hy2 hN
      have h0 := (rdN_nonneg _ _ _ (Int.le_refl 0) hN).1
      have hy3 : ∀ y ∈ l', 0 ≤ y ∧ y < 256 := fun y hm => hy2 y (rdN_mem _ _ _ hN y hm)
      cases hB : rdB l' with
      | none => rw [hB] at h; cases h
      | some p =>
        obtain ⟨x, l''⟩ := p
        rw [hB] at h
        simp only [Option.bind_some] at h
        have hl2 := rdB_inv hy3 hB
        obtain ⟨ls, e1, e2, e3⟩ := rdLabs_inv n (acc ++ [⟨k, d, x⟩]) l'' (fun y hm => hy3 y ((rdB_mem hB).1 y hm)) h
        refine ⟨⟨k, d, x⟩ :: ls, by rw [e1]; simp, by simp [e2], ?_⟩
        have : k % 256 = k := by omega
        rw [hl, hl2, e3]
        simp [labsB, labB, this]
/-- A life as bytes, of a conf in one. -/
def lifeC (c : ConfT) (ls : List S56) : List Int := lifeB c.1 c.2.1 c.2.2.1 c.2.2.2.1 c.2.2.2.2.1 c.2.2.2.2.2.1 c.2.2.2.2.2.2 ls
theorem rdLife_inv {l r : List Int} {c : ConfT} {ls : List S56} (hy : ∀ y ∈ l, 0 ≤ y ∧ y < 256) (h : rdLife l = some (c, ls, r)) : l = lifeC c ls ++ r := by
  unfold rdLife at h
  split at h
  · cases h
  · split at h
    · next hmag =>
      have hl0 : l = [76, 73, 70, 69] ++ l.drop 4 := by rw [← hmag, List.take_append_drop]
      have hy0 : ∀ y ∈ l.drop 4, 0 ≤ y ∧ y < 256 := fun y hm => hy y (List.mem_of_mem_drop hm)
      generalize l.drop 4 = m0 at *
      unfold rd2 at h
      obtain ⟨⟨a0, m1⟩, h1, h⟩ := Option.bind_eq_some_iff.mp h
      obtain ⟨⟨a1, m2⟩, h2, h⟩ := Option.bind_eq_some_iff.mp h
      obtain ⟨⟨a2, m3⟩, h3, h⟩ := Option.bind_eq_some_iff.mp h
      simp only at h2 h3 h
      have hy1 : ∀ y ∈ m1, 0 ≤ y ∧ y < 256 := fun y hm => hy0 y (rdN_mem _ _ _ h1 y hm)
      have hy2 : ∀ y ∈ m2, 0 ≤ y ∧ y < 256 := fun y hm => hy1 y (rdN_mem _ _ _ h2 y hm)
      have hy3 : ∀ y ∈ m3, 0 ≤ y ∧ y < 256 := fun y hm => hy2 y (rdN_mem _ _ _ h3 y hm)
      have e1 := rdN_inv hy0 h1
      have e2 := rdN_inv hy1 h2
      have e3 := rdN_inv hy2 h3
      cases m3 with
      | nil => simp [rd3] at h
      | cons b m4 =>
        have hb := hy3 b List.mem_cons_self
        have hy4 : ∀ y ∈ m4, 0 ≤ y ∧ y < 256 := fun y hm => hy3 y (List.mem_cons_of_mem _ hm)
        simp only [rd3] at h
        split at h
        · cases h
        · next hb1 =>
          unfold rd4 at h
          obtain ⟨⟨nd, m5⟩, h5, h⟩ := Option.bind_eq_some_iff.mp h
          obtain ⟨⟨l3, m6⟩, h6, h⟩ := Option.bind_eq_some_iff.mp h
          simp only at h6 h
          have hy5 : ∀ y ∈ m5, 0 ≤ y ∧ y < 256 := fun y hm => hy4 y (rdN_mem _ _ _ h5 y hm)
          have e5 := rdN_inv hy4 h5
          obtain ⟨l3', ea, eb, e6⟩ := rdDevs_inv _ _ _ hy5 h6
          have hl3 : l3' = l3 := by simpa using ea.symm
          subst hl3
          have hy6 : ∀ y ∈ m6, 0 ≤ y ∧ y < 256 := fun y hm => hy5 y (by rw [e6]; exact List.mem_append_right _ hm)
          unfold rd5 at h
          obtain ⟨⟨l4, m7⟩, h7, h⟩ := Option.bind_eq_some_iff.mp h
          obtain ⟨⟨l5, m8⟩, h8, h⟩ := Option.bind_eq_some_iff.mp h
          simp only at h8 h
          have hy7 : ∀ y ∈ m7, 0 ≤ y ∧ y < 256 := fun y hm => hy6 y ((rdB_mem h7).1 y hm)
          have hy8 : ∀ y ∈ m8, 0 ≤ y ∧ y < 256 := fun y hm => hy7 y ((rdB_mem h8).1 y hm)
          have e7 := rdB_inv hy6 h7
          have e8 := rdB_inv hy7 h8
          unfold rd6 at h
          obtain ⟨⟨nl, m9⟩, h9, h⟩ := Option.bind_eq_some_iff.mp h
          obtain ⟨⟨ls', m10⟩, h10, h⟩ := Option.bind_eq_some_iff.mp h
          simp only at h10 h
          have hy9 : ∀ y ∈ m9, 0 ≤ y ∧ y < 256 := fun y hm => hy8 y (rdN_mem _ _ _ h9 y hm)
          have e9 := rdN_inv hy8 h9
          obtain ⟨ls'', ec, ed, e10⟩ := rdLabs_inv _ _ _ hy9 h10
          have hls : ls'' = ls' := by simpa using ec.symm
          subst hls
          injection h with h
          injection h with hc h
          injection h with hls hr
          subst hc; subst hls; subst hr
          have eg : b = if (b == 1) = true then 1 else 0 := by
            by_cases h1 : b = 1
            · subst h1; rfl
            · rw [if_neg (by simpa using h1)]; omega
          rw [hl0, e1, e2, e3, e5, e6, e7, e8, e9, e10, ← eb, ← ed]
          simp only [lifeC, lifeB, tailB, List.append_assoc, List.cons_append, List.nil_append]
          rw [← eg]
    · cases h
theorem rdLife_of (c : ConfT) (ls : List S56) (r : List Int) (h : rightC c ls = true) (hls : ls.length ≤ 1099511627776) : rdLife (lifeC c ls ++ r) = some (c, ls, r) := by
  obtain ⟨a0, a1, a2, l3, l4, l5, a6⟩ := c
  have h' : rightB a0 a1 a2 l3 l4 l5 ls = true := h
  obtain ⟨p0, p0', p1, p1', p2, p2', p3, p4, p5, pd, pp⟩ := right_parts h'
  have hd : ∀ d ∈ l3, 0 ≤ d ∧ d ≤ 1099511627776 := fun d hm => by have := devOk_range (pd d hm); omega
  have hl : ∀ x ∈ ls, LabOk x := fun x hm => by
    have := plain_parts (List.all_eq_true.1 pp x hm)
    exact ⟨by omega, by omega, by omega, by omega, by omega⟩
  have e : lifeC (a0, a1, a2, l3, l4, l5, a6) ls ++ r = [76, 73, 70, 69] ++ (numB a0.toNat ++ (numB a1.toNat ++ (numB a2.toNat ++ ((if a6 = true then 1 else 0) :: (numB l3.length ++ (intsB l3 ++ (numB l4.length ++ (l4 ++ (numB l5.length ++ (l5 ++ (numB ls.length ++ (labsB ls ++ r)))))))))))) := by
    simp [lifeC, lifeB, tailB]
  rw [e]
  unfold rdLife
  rw [if_neg (by simp), if_pos (by simp)]
  have ed : ([76, 73, 70, 69] ++ (numB a0.toNat ++ (numB a1.toNat ++ (numB a2.toNat ++ ((if a6 = true then 1 else 0) :: (numB l3.length ++ (intsB l3 ++ (numB l4.length ++ (l4 ++ (numB l5.length ++ (l5 ++ (numB ls.length ++ (labsB ls ++ r)))))))))))) : List Int).drop 4 = numB a0.toNat ++ (numB a1.toNat ++ (numB a2.toNat ++ ((if a6 = true then 1 else 0) :: (numB l3.length ++ (intsB l3 ++ (numB l4.length ++ (l4 ++ (numB l5.length ++ (l5 ++ (numB ls.length ++ (labsB ls ++ r))))))))))) := rfl
  rw [ed]
  unfold rd2
  rw [rdN_of _ _ (by omega)]; simp only [Option.bind_some]
  rw [rdN_of _ _ (by omega)]; simp only [Option.bind_some]
  rw [rdN_of _ _ (by omega)]; simp only [Option.bind_some, rd3]
  rw [if_neg (by cases a6 <;> simp)]
  unfold rd4
  rw [rdN_of _ _ (by omega)]; simp only [Option.bind_some, Int.toNat_natCast]
  rw [rdDevs_of _ l3 [] hd]; simp only [Option.bind_some, List.nil_append]
  unfold rd5
  rw [rdB_of _ _ (by omega)]; simp only [Option.bind_some]
  rw [rdB_of _ _ (by omega)]; simp only [Option.bind_some]
  unfold rd6
  rw [rdN_of _ _ hls]; simp only [Option.bind_some, Int.toNat_natCast]
  rw [rdLabs_of _ ls [] hl]; simp only [Option.bind_some, List.nil_append]
  rw [Int.toNat_of_nonneg (by omega), Int.toNat_of_nonneg (by omega), Int.toNat_of_nonneg (by omega)]
  cases a6 <;> rfl
theorem readL_inv {l : List Int} {c : ConfT} {ls : List S56} (hy : ∀ y ∈ l, 0 ≤ y ∧ y < 256) (h : readL l = some (c, ls)) : rightC c ls = true ∧ l = lifeC c ls := by
  unfold readL at h
  obtain ⟨⟨c', ls', r⟩, h1, h⟩ := Option.bind_eq_some_iff.mp h
  simp only at h
  split at h
  · next hc =>
    injection h with h
    injection h with e1 e2
    subst e1; subst e2
    have := rdLife_inv hy h1
    rw [hc.1, List.append_nil] at this
    exact ⟨hc.2, this⟩
  · cases h
end Go.Proofs.YtgibdhdglppdcaaGreat.PU
