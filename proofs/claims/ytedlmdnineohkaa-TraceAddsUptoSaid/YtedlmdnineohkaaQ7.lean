/- The plain law of the reader: what is written is read as the same, and the other way. -/
import Derived.Test.YtedlmdnineohkaaQ5
import Derived.Test.YtedlmdnineohkaaA10
namespace Go.Proofs.Ytedlmdnineohkaa.PU
open Go.RowKit Go.Proofs.YtedlmdnineohkaaW.PrintWords Go.Proofs.YtedlmdnineohkaaW.PrintLast Go.Proofs.YtedlmdnineohkaaW.PrintMore
set_option linter.unusedVariables false

theorem pow7 (m : Nat) : (2 : Int) ^ (m + 7) = 128 * 2 ^ m := by rw [Int.pow_add, Int.mul_comm]; rfl
theorem pow_pos' (m : Nat) : (0 : Int) < 2 ^ m := Int.pow_pos (by decide)
theorem rdN_numB (r : List Int) : ∀ (q m : Nat) (a : Int), 0 ≤ a → (0 < q ∨ m = 0) → m ≤ 42 → a + (q : Int) * 2 ^ m ≤ 1099511627776 → rdN (numB q ++ r) m a = some (a + (q : Int) * 2 ^ m, r) := by
  intro q
  induction q using Nat.strongRecOn with
  | _ q ih =>
    intro m a ha hq hm hb
    have hp := pow_pos' m
    by_cases h : q < 128
    · rw [numB_lt h]
      have e : (q : Int) % 128 = q := by omega
      simp only [List.singleton_append, rdN, e]
      rw [if_neg (by rintro (h1 | h1 | h1) <;> omega), if_pos (by omega)]
    · rw [numB_ge h]
      have e : ((q % 128 + 128 : Nat) : Int) % 128 = ((q % 128 : Nat) : Int) := by omega
      have hq1 : 0 < q / 128 := by omega
      have es : (q : Int) * 2 ^ m = ((q % 128 : Nat) : Int) * 2 ^ m + ((q / 128 : Nat) : Int) * 2 ^ (m + 7) := by
        rw [pow7, ← Int.mul_assoc, ← Int.add_mul]
        congr 1
        omega
      have hpos1 : 0 ≤ ((q % 128 : Nat) : Int) * 2 ^ m := Int.mul_nonneg (by omega) (by omega)
      have hpos2 : (2 : Int) ^ (m + 7) ≤ ((q / 128 : Nat) : Int) * 2 ^ (m + 7) := by
        have := Int.mul_le_mul_of_nonneg_right (show (1 : Int) ≤ ((q / 128 : Nat) : Int) by omega) (Int.le_of_lt (pow_pos' (m + 7)))
        omega
      have hp7 := pow_pos' (m + 7)
      have hm2 : m + 7 ≤ 42 := by
        by_cases h42 : m + 7 ≤ 42
        · exact h42
        · exfalso
          have h43 : (2 : Int) ^ 43 ≤ 2 ^ (m + 7) := Int.pow_le_pow_right₀' (by omega)
          have : (2 : Int) ^ 43 = 8796093022208 := by decide
          omega
      simp only [List.cons_append, rdN, e]
      rw [if_neg (by rintro (h1 | h1 | h1) <;> omega), if_neg (by omega), ih (q / 128) (by omega) (m + 7) _ (by omega) (.inl hq1) hm2 (by omega)]
      rw [es, Int.add_assoc]
theorem rdN_of (q : Nat) (r : List Int) (h : q ≤ 1099511627776) : rdN (numB q ++ r) 0 0 = some ((q : Int), r) := by
  have := rdN_numB r q 0 0 (by omega) (.inr rfl) (by omega) (by simp; omega)
  simpa using this
theorem rdB_of (x r : List Int) (h : x.length ≤ 1099511627776) : rdB (numB x.length ++ (x ++ r)) = some (x, r) := by
  unfold rdB
  rw [rdN_of _ _ h]
  simp only
  rw [if_pos (by simp; omega)]
  simp
theorem rdDevs_of (r : List Int) : ∀ (l3 acc : List Int), (∀ d ∈ l3, 0 ≤ d ∧ d ≤ 1099511627776) → rdDevs l3.length acc (intsB l3 ++ r) = some (acc ++ l3, r)
  | [], acc, _ => by simp [rdDevs, intsB]
  | d :: l3, acc, h => by
    have hd := h d List.mem_cons_self
    have e : intsB (d :: l3) ++ r = numB d.toNat ++ (intsB l3 ++ r) := by simp [intsB]
    rw [e]
    simp only [List.length_cons, rdDevs]
    rw [rdN_of _ _ (by omega)]
    simp only [Option.bind_some]
    rw [Int.toNat_of_nonneg hd.1, rdDevs_of r l3 (acc ++ [d]) (fun y hm => h y (List.mem_cons_of_mem _ hm))]
    simp
def LabOk (x : S56) : Prop := 0 ≤ x.f0 ∧ x.f0 < 256 ∧ 0 ≤ x.f1 ∧ x.f1 ≤ 1099511627776 ∧ x.f2.length ≤ 1099511627776
theorem rdLabs_of (r : List Int) : ∀ (ls acc : List S56), (∀ x ∈ ls, LabOk x) → rdLabs ls.length acc (labsB ls ++ r) = some (acc ++ ls, r)
  | [], acc, _ => by simp [rdLabs, labsB]
  | x :: ls, acc, h => by
    obtain ⟨h0, h1, h2, h3, h4⟩ := h x List.mem_cons_self
    have e : labsB (x :: ls) ++ r = x.f0 :: (numB x.f1.toNat ++ (numB x.f2.length ++ (x.f2 ++ (labsB ls ++ r)))) := by
      have : x.f0 % 256 = x.f0 := by omega
      simp [labsB, labB, this]
    rw [e]
    simp only [List.length_cons, rdLabs]
    rw [rdN_of _ _ (by omega)]
    simp only [Option.bind_some]
    rw [rdB_of _ _ h4]
    simp only [Option.bind_some]
    rw [Int.toNat_of_nonneg h2, rdLabs_of r ls (acc ++ [x]) (fun y hm => h y (List.mem_cons_of_mem _ hm))]
    simp
/-- A life as bytes, of a conf in one. -/
def lifeC (c : ConfT) (ls : List S56) : List Int := lifeB c.1 c.2.1 c.2.2.1 c.2.2.2.1 c.2.2.2.2.1 c.2.2.2.2.2.1 c.2.2.2.2.2.2 ls
theorem rdLife_of (c : ConfT) (ls : List S56) (r : List Int) (h : rightC c ls = true) (hls : ls.length ≤ 1099511627776) : rdLife (lifeC c ls ++ r) = some (c, ls, r) := by
  obtain ⟨a0, a1, a2, l3, l4, l5, a6⟩ := c
  have h' : rightB a0 a1 a2 l3 l4 l5 ls = true := h
  obtain ⟨p0, p0', p1, p1', p2, p2', p3, p4, p5, pd, pp⟩ := right_parts h'
  have hd : ∀ d ∈ l3, 0 ≤ d ∧ d ≤ 1099511627776 := fun d hm => by have := devOk_range (pd d hm); omega
  have hl : ∀ x ∈ ls, LabOk x := fun x hm => by
    have := plain_parts (List.all_eq_true.1 pp x hm)
    exact ⟨by omega, by omega, by omega, by omega, by omega⟩
  have e : lifeC (a0, a1, a2, l3, l4, l5, a6) ls ++ r = [76, 73, 70, 69] ++ (numB a0.toNat ++ (numB a1.toNat ++ (numB a2.toNat ++ ((if a6 = true then 1 else 0) :: (numB l3.length ++ (intsB l3 ++ (numB l4.length ++ (l4 ++ (numB l5.length ++ (l5 ++ (numB ls.length ++ (labsB ls ++ r)))))))))))) := by
    simp [lifeC, lifeB, tailB]
  rw [e]
  unfold rdLife
  rw [if_neg (by simp), if_pos (by simp)]
  have ed : ([76, 73, 70, 69] ++ (numB a0.toNat ++ (numB a1.toNat ++ (numB a2.toNat ++ ((if a6 = true then 1 else 0) :: (numB l3.length ++ (intsB l3 ++ (numB l4.length ++ (l4 ++ (numB l5.length ++ (l5 ++ (numB ls.length ++ (labsB ls ++ r)))))))))))) : List Int).drop 4 = numB a0.toNat ++ (numB a1.toNat ++ (numB a2.toNat ++ ((if a6 = true then 1 else 0) :: (numB l3.length ++ (intsB l3 ++ (numB l4.length ++ (l4 ++ (numB l5.length ++ (l5 ++ (numB ls.length ++ (labsB ls ++ r))))))))))) := rfl
  rw [ed]
  unfold rd2
  rw [rdN_of _ _ (by omega)]; simp only [Option.bind_some]
  rw [rdN_of _ _ (by omega)]; simp only [Option.bind_some]
  rw [rdN_of _ _ (by omega)]; simp only [Option.bind_some, rd3]
  rw [if_neg (by cases a6 <;> simp)]
  unfold rd4
  rw [rdN_of _ _ (by omega)]; simp only [Option.bind_some, Int.toNat_natCast]
  rw [rdDevs_of _ l3 [] hd]; simp only [Option.bind_some, List.nil_append]
  unfold rd5
  rw [rdB_of _ _ (by omega)]; simp only [Option.bind_some]
  rw [rdB_of _ _ (by omega)]; simp only [Option.bind_some]
  unfold rd6
  rw [rdN_of _ _ hls]; simp only [Option.bind_some, Int.toNat_natCast]
  rw [rdLabs_of _ ls [] hl]; simp only [Option.bind_some, List.nil_append]
  rw [Int.toNat_of_nonneg (by omega), Int.toNat_of_nonneg (by omega), Int.toNat_of_nonneg (by omega)]
  cases a6 <;> rfl
theorem readL_of (c : ConfT) (ls : List S56) (h : rightC c ls = true) (hls : ls.length ≤ 1099511627776) : readL (lifeC c ls) = some (c, ls) := by
  have := rdLife_of c ls [] h hls
  rw [List.append_nil] at this
  unfold readL
  rw [this]
  simp [h]
end Go.Proofs.Ytedlmdnineohkaa.PU
