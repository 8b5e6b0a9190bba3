/- asm.all by its contract. -/
import Derived.Test.YtjapahcbhjjeiaaGreatDoorK3
import Derived.Test.YtjapahcbhjjeiaaGreatDoorPAy12
namespace Go.Proofs.YtjapahcbhjjeiaaGreatDoor.AS
open Go.RowKit Go.Proofs.YtjapahcbhjjeiaaGreatDoorW.PrintWords Go.Proofs.YtjapahcbhjjeiaaGreatDoorW.PrintLast Go.Proofs.YtjapahcbhjjeiaaGreatDoorW.PrintMore Go.Proofs.YtjapahcbhjjeiaaGreatDoor.PA
set_option linter.unusedVariables false
set_option linter.unusedSimpArgs false

def toS (i : Ins) : S23 := ⟨i.kind, i.fn, i.rd, i.rs1, i.rs2, i.imm, i.size, i.sg⟩
def chunk (k f : Int) : List Ins := [0, 1, 2, 4, 8].flatMap fun s => pairI k f s
def restF (x : Int) : Nat → Int → List Ins
  | 0, _ => []
  | n + 1, f => chunk x f ++ restF x n (f + 1)
def allK : Nat → Int → List Ins
  | 0, _ => []
  | n + 1, x => restF x 29 0 ++ allK n (x + 1)

theorem restF_len (x : Int) : ∀ (n : Nat) (f : Int), (restF x n f).length = 10 * n
  | 0, _ => rfl
  | n + 1, f => by rw [restF, List.length_append, restF_len x n (f + 1)]; simp [chunk, pairI]; omega

theorem l2_all (k : Nat) (acc : List S23) (x f : Int) (h : acc.length + 10 < 1000000) (hf : 0 ≤ f) (hf1 : f < 1000) : asm_all.l2 (k + 6) acc x f [0, 1, 2, 4, 8] 5 0 = asm_all.l1 k (acc ++ (chunk x f).map toS) x (f + 1) := by
  simp only [asm_all.l2, List.length_cons, List.length_nil, Option.bind_some]
  simp (config := { decide := true }) only [if_true, List.length_append, List.length_cons, List.length_nil, Nat.zero_add, Nat.reduceAdd]
  have e1 : wrap64 (0 + 1) = 1 := w64 (by decide) (by decide)
  have e2 : wrap64 (1 + 1) = 2 := w64 (by decide) (by decide)
  have e3 : wrap64 (2 + 1) = 3 := w64 (by decide) (by decide)
  have e4 : wrap64 (3 + 1) = 4 := w64 (by decide) (by decide)
  have e5 : wrap64 (4 + 1) = 5 := w64 (by decide) (by decide)
  rw [e1, e2, e3, e4, e5, w64 (n := f + 1) (by omega) (by omega)]
  simp (config := { decide := true }) only [if_true, if_false]
  rw [if_pos (by omega), if_pos (by omega), if_pos (by omega), if_pos (by omega), if_pos (by omega)]
  simp [chunk, pairI, toS, rd]

theorem l1_all (x : Int) (hx : 0 ≤ x) (hx1 : x < 1000) : ∀ (n : Nat) (f : Int) (acc : List S23) (k K : Nat), K = k + 7 * n + 1 → f + n = 29 → 0 ≤ f → acc.length + 10 * n < 900000 → asm_all.l1 K acc x f = asm_all.l0 k (acc ++ (restF x n f).map toS) (x + 1)
  | 0, f, acc, k, K, hK, h, h0, hl => by
    subst hK
    simp only [asm_all.l1, restF, List.map_nil, List.append_nil]
    rw [if_neg (by omega), w64 (by omega) (by omega)]
  | n + 1, f, acc, k, K, hK, h, h0, hl => by
    obtain ⟨K', hK'⟩ : ∃ x, x = k + 7 * n + 1 := ⟨_, rfl⟩
    obtain rfl : K = (K' + 6) + 1 := by omega
    simp only [asm_all.l1, Option.bind_some]
    rw [if_pos (by omega), show (([0, 1, 2, 4, 8] : List Int).length : Int) = 5 from rfl, l2_all _ acc x f (by omega) h0 (by omega), l1_all x hx hx1 n (f + 1) _ k K' hK' (by omega) (by omega) (by simp [chunk, pairI]; omega)]
    simp only [restF, List.map_append, List.append_assoc]

theorem l0_all : ∀ (n : Nat) (x : Int) (acc : List S23) (k K : Nat), K = k + 205 * n + 1 → x + n = 21 → 0 ≤ x → acc.length + 290 * n < 800000 → asm_all.l0 K acc x = some (acc ++ (allK n x).map toS)
  | 0, x, acc, k, K, hK, h, h0, hl => by
    subst hK
    simp only [asm_all.l0, allK, List.map_nil, List.append_nil]
    rw [if_neg (by omega)]
  | n + 1, x, acc, k, K, hK, h, h0, hl => by
    obtain ⟨K', hK'⟩ : ∃ x, x = k + 205 * n + 1 := ⟨_, rfl⟩
    obtain ⟨K2, hK2⟩ : ∃ x, x = K' + 204 := ⟨_, rfl⟩
    obtain rfl : K = K2 + 1 := by omega
    simp only [asm_all.l0]
    have hx1 : x < 1000 := by omega
    obtain ⟨n29, h29⟩ : ∃ x : Nat, x = 29 := ⟨_, rfl⟩
    have e := l1_all x h0 hx1 n29 0 acc K' K2 (by omega) (by omega) (Int.le_refl _) (by omega)
    rw [h29] at e
    have hx21 : x ≤ 20 := by omega
    rw [if_pos hx21, e, l0_all n (x + 1) _ k K' hK' (by omega) (by omega) (by simp [restF_len]; omega)]
    simp only [allK, List.map_append, List.append_assoc]

set_option maxRecDepth 1000000 in
theorem allK_allI : allK 20 1 = allI := by decide +kernel

theorem all_f (K : Nat) (hK : K = 4101) : asm_all.f K = some (allI.map toS) := by
  unfold asm_all.f
  rw [l0_all 20 1 [] 0 K hK (by omega) (by omega) (by simp), List.nil_append, allK_allI]

theorem all_calls (W : World) : Calls Tryz.prog 39 #[] W fun e w' => ∃ A c, e = .returned (.slice A allI.length c) ∧ allI.length ≤ c ∧ Kd.C k23 w' A allI.length (allI.map toS) ∧ Below W.heap.size W w' := by
  obtain ⟨K, hK⟩ : ∃ x, x = 4101 := ⟨_, rfl⟩
  refine (asm_all.calls K _ W (all_f K hK)).mono ?_
  rintro e w' ⟨v, rfl, hR, hb⟩
  obtain ⟨A, c, rfl, hc, hC⟩ := Kd.R_reads hR
  rw [List.length_map] at hc hC
  exact ⟨A, c, by rw [List.length_map], hc, hC, hb⟩

theorem allI_len : allI.length = 5800 := by decide +kernel

end Go.Proofs.YtjapahcbhjjeiaaGreatDoor.AS
