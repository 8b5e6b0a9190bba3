/- asm.form and asm.told by their contracts. -/
import Derived.Test.YtjapahcbhjjeiaaGreatDoorK2
import Derived.Test.YtjapahcbhjjeiaaGreatDoorG14
namespace Go.Proofs.YtjapahcbhjjeiaaGreatDoor.AS
open Go.RowKit Go.Proofs.YtjapahcbhjjeiaaGreatDoorW.PrintWords Go.Proofs.YtjapahcbhjjeiaaGreatDoorW.PrintLast Go.Proofs.YtjapahcbhjjeiaaGreatDoorW.PrintMore Go.Proofs.YtjapahcbhjjeiaaGreatDoor.PA
set_option linter.unusedVariables false
set_option linter.unusedSimpArgs false

def natI (l : List Nat) : List Int := l.map Int.ofNat

theorem form_f (k : Int) : asm_form.f 9 k = some (bB (formL k).1, natI (formL k).2) := by
  by_cases h : k ∈ [(1 : Int), 2, 3, 4, 5, 6, 7, 8, 9, 13, 14, 15, 16, 17, 20]
  · simp only [List.mem_cons, List.not_mem_nil, or_false] at h
    rcases h with rfl | rfl | rfl | rfl | rfl | rfl | rfl | rfl | rfl | rfl | rfl | rfl | rfl | rfl | rfl <;> decide +kernel
  · simp only [List.mem_cons, List.not_mem_nil, or_false, not_or] at h
    obtain ⟨h1, h2, h3, h4, h5, h6, h7, h8, h9, h13, h14, h15, h16, h17, h20⟩ := h
    simp [asm_form.f, asm_form.j0, asm_form.j1, asm_form.j2, formL, natI, bB, h1, h2, h3, h4, h5, h6, h7, h8, h9, h13, h14, h15, h16, h17, h20]

theorem form_calls (k : Int) (W : World) : Calls Tryz.prog 25 #[.int .i64 k] W fun e w' => ∃ A c, e = .returned (.tuple #[.string (bB (formL k).1), .slice A (formL k).2.length c]) ∧ (formL k).2.length ≤ c ∧ Kd.C (Kd.int .i64) w' A (formL k).2.length (natI (formL k).2) ∧ Below W.heap.size W w' := by
  refine (asm_form.calls 9 k _ _ W (form_f k)).mono ?_
  rintro e w' ⟨v, rfl, hR, hb⟩
  obtain ⟨A, c, rfl, hc, hC⟩ := Kd.R_reads hR
  have hl : (natI (formL k).2).length = (formL k).2.length := by simp [natI]
  rw [hl] at hc hC
  exact ⟨A, c, by rw [hl], hc, hC, hb⟩

theorem told_calls (i : Ins) (what : Nat) (W : World) (hg : GW W) (hf : Fit i) : Calls Tryz.prog 29 #[insV i, .int .i64 what] W fun e w' => e = .returned (.string (bB (toldL i what))) ∧ Below W.heap.size W w' := by
  have b0 := hf.rdr; have b1 := hf.rs1r; have b2 := hf.rs2r; have b3 := hf.lo; have b4 := hf.hi
  have ht : -4294967296 ≤ i.imm.tdiv 4096 ∧ i.imm.tdiv 4096 ≤ 4294967296 := by
    rw [Int.tdiv_eq_ediv, show Int.sign 4096 = 1 from rfl]
    split <;> omega
  unfold toldL insV
  by_cases h0 : what = 0
  · rw [if_pos h0]; subst h0; exact told_0 (what := 0) W hg (by omega) (by omega)
  rw [if_neg h0]
  by_cases h1 : what = 1
  · rw [if_pos h1]; subst h1; exact told_1 (what := 1) W hg (by omega) (by omega)
  rw [if_neg h1]
  by_cases h2 : what = 2
  · rw [if_pos h2]; subst h2; exact told_2 (what := 2) W hg (by omega) (by omega)
  rw [if_neg h2]
  by_cases h4 : what = 4
  · rw [if_pos h4]; subst h4; exact told_4 (what := 4) W hg (by omega) (by omega)
  rw [if_neg h4]
  by_cases h5 : what = 5
  · rw [if_pos h5]; subst h5; exact told_5 (what := 5) W hg (by omega) (by omega)
  rw [if_neg h5]
  exact told_x (what := (what : Int)) W hg (by omega) (by omega) (beq_f (by omega)) (beq_f (by omega)) (beq_f (by omega)) (beq_f (by omega)) (beq_f (by omega))

theorem told_len (i : Ins) (hf : Fit i) (what : Nat) : (toldL i what).length ≤ 4294967300 := by
  have b0 := hf.rdr; have b1 := hf.rs1r; have b2 := hf.rs2r; have b3 := hf.lo; have b4 := hf.hi
  have ht : -4294967296 ≤ i.imm.tdiv 4096 ∧ i.imm.tdiv 4096 ≤ 4294967296 := by
    rw [Int.tdiv_eq_ediv, show Int.sign 4096 = 1 from rfl]
    split <;> omega
  have e0 := itoa_le i.rd; have e1 := itoa_le i.rs1; have e2 := itoa_le i.rs2; have e3 := itoa_le i.imm; have e4 := itoa_le (i.imm.tdiv 4096)
  unfold toldL
  repeat' split
  all_goals first | (simp only [List.length_cons]; omega) | omega
theorem shape_len (k : Int) : (formL k).1.length ≤ 10 ∧ (formL k).2.length ≤ 3 := by
  rcases formL_cases k with e | e | e | e | e | e | e | e | e | e | e | e | e <;> rw [e] <;> decide
theorem fill_len : ∀ (sh : List UInt8) (args : List (List UInt8)) (m : Nat), (∀ a ∈ args, a.length ≤ m) → (fillS sh args).length ≤ sh.length * (m + 1)
  | [], args, m, _ => by simp [fillS]
  | b :: r, [], m, h => by
    have := fill_len r [] m h
    simp only [fillS, List.length_cons, Nat.add_mul]
    omega
  | b :: r, a :: l, m, h => by
    have ha := h a (List.mem_cons_self ..)
    have h1 := fill_len r l m (fun x hx => h x (List.mem_cons_of_mem _ hx))
    have h2 := fill_len r (a :: l) m h
    simp only [fillS]
    split
    · rw [List.length_append]; simp only [List.length_cons, Nat.add_mul]; omega
    · simp only [List.length_cons, Nat.add_mul]; omega
theorem name_len (i : Ins) (hf : Fit i) : (nameI i).length ≤ 20 := by
  have h : (heads.all fun a => decide ((nameH a).length ≤ 20)) = true := by decide +kernel
  have := List.all_eq_true.1 h _ hf.head
  exact of_decide_eq_true this
theorem line_len (i : Ins) (hf : Fit i) : (lineI i).length ≤ 100000000000 := by
  unfold lineI
  rw [List.length_append]
  have h1 := name_len i hf
  have h2 := fill_len (formL i.kind).1 ((formL i.kind).2.map (toldL i)) 4294967300 (fun a ha => by
    obtain ⟨k, _, rfl⟩ := List.mem_map.1 ha
    exact told_len i hf k)
  have h3 := (shape_len i.kind).1
  have h4 : (formL i.kind).1.length * (4294967300 + 1) ≤ 10 * (4294967300 + 1) := Nat.mul_le_mul_right _ h3
  omega
theorem shape_ascii (k : Int) : ∀ b ∈ (formL k).1, b.toNat < 128 := by
  rcases formL_cases k with e | e | e | e | e | e | e | e | e | e | e | e | e <;> rw [e] <;> decide

end Go.Proofs.YtjapahcbhjjeiaaGreatDoor.AS
