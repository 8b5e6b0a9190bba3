/- asm.form and asm.told by their contracts. -/
import Derived.Test.YtjapahcbhjjeiaaGreatDoorK2
import Derived.Test.YtjapahcbhjjeiaaGreatDoorG14
import Derived.Test.YtjapahcbhjjeiaaGreatDoorF2
namespace Go.Proofs.YtjapahcbhjjeiaaGreatDoor.AS
open Go.RowKit Go.Proofs.YtjapahcbhjjeiaaGreatDoorW.PrintWords Go.Proofs.YtjapahcbhjjeiaaGreatDoorW.PrintLast Go.Proofs.YtjapahcbhjjeiaaGreatDoorW.PrintMore Go.Proofs.YtjapahcbhjjeiaaGreatDoor.PA
set_option linter.unusedVariables false
set_option linter.unusedSimpArgs false

def natI (l : List Nat) : List Int := l.map Int.ofNat

theorem litF_event {P : Program} {ops : Array Oper} {rest : List Oper} {o : Oper} {a : Act} {Q : Exit → Act → World → Prop} {W : World} (hgd : o.guard = none) {N : Tmp} (_hd : o.dst = some N) (xs : List Int) (hl : xs.length ≤ 1000)
    (hrun : (execOp a.eval o).run P W = .ok (.value (.slice (some ⟨W.heap.size, 0, none⟩) xs.length xs.length)) (W.alloc (.cells (xs.map (Value.int .i64)).toArray 3)))
    (h : ∀ A w1, Kd.C (Kd.int .i64) w1 A xs.length xs → Below W.heap.size W w1 → (∀ a, A = some a → W.heap.size ≤ a.block) → wpList P ops Q rest (a.put o.dst (.slice A xs.length xs.length)) w1) : wpList P ops Q (o :: rest) a W :=
  Kd.event_run hgd hrun (h _ _ (lit_C W xs hl) (below_alloc (Below.refl _ _) _) (fun a ha => by injection ha with ha; subst ha; exact Nat.le_refl _))
set_option maxRecDepth 100000 in
set_option maxHeartbeats 4000000 in
theorem form_calls2 (k : Int) (W : World) : Calls Tryz.prog 25 #[.int .i64 k] W fun e w' => ∃ A c, e = .returned (.tuple #[.string (bB (formL k).1), .slice A (formL k).2.length c]) ∧ (formL k).2.length ≤ c ∧ Kd.C (Kd.int .i64) w' A (formL k).2.length (natI (formL k).2) ∧ Below W.heap.size W w' ∧ (∀ a, A = some a → W.heap.size ≤ a.block) := by
  by_cases h : k = 1 ∨ k = 2 ∨ k = 3 ∨ k = 4 ∨ k = 5 ∨ k = 6 ∨ k = 7 ∨ k = 8 ∨ k = 9 ∨ k = 13 ∨ k = 14 ∨ k = 15 ∨ k = 16 ∨ k = 17 ∨ k = 20
  · rcases h with rfl | rfl | rfl | rfl | rfl | rfl | rfl | rfl | rfl | rfl | rfl | rfl | rfl | rfl | rfl
    all_goals
      go_enter Tryz.func25, Tryz.ntmps25
      go_wp2_with (first | ((with_reducible refine gate_dst (N := 8) rfl ?_); refine litF_event (by rfl) (N := 8) (by rfl) [0, 4] (by decide) (by first | (go_simp; done) | (go_simp; rfl)) ?_; intro Aa wa hCa hb hfr; have HCa := Aside0.mk hCa; have HB := Aside0.mk hb; have HF := Aside0.mk hfr; clear hCa hb hfr) | ((with_reducible refine gate_dst (N := 11) rfl ?_); refine litF_event (by rfl) (N := 11) (by rfl) [0, 3] (by decide) (by first | (go_simp; done) | (go_simp; rfl)) ?_; intro Aa wa hCa hb hfr; have HCa := Aside0.mk hCa; have HB := Aside0.mk hb; have HF := Aside0.mk hfr; clear hCa hb hfr) | ((with_reducible refine gate_dst (N := 15) rfl ?_); refine litF_event (by rfl) (N := 15) (by rfl) [0, 3, 1] (by decide) (by first | (go_simp; done) | (go_simp; rfl)) ?_; intro Aa wa hCa hb hfr; have HCa := Aside0.mk hCa; have HB := Aside0.mk hb; have HF := Aside0.mk hfr; clear hCa hb hfr) | ((with_reducible refine gate_dst (N := 18) rfl ?_); refine litF_event (by rfl) (N := 18) (by rfl) [1, 2, 3] (by decide) (by first | (go_simp; done) | (go_simp; rfl)) ?_; intro Aa wa hCa hb hfr; have HCa := Aside0.mk hCa; have HB := Aside0.mk hb; have HF := Aside0.mk hfr; clear hCa hb hfr) | ((with_reducible refine gate_dst (N := 21) rfl ?_); refine litF_event (by rfl) (N := 21) (by rfl) [2, 3, 1] (by decide) (by first | (go_simp; done) | (go_simp; rfl)) ?_; intro Aa wa hCa hb hfr; have HCa := Aside0.mk hCa; have HB := Aside0.mk hb; have HF := Aside0.mk hfr; clear hCa hb hfr) | ((with_reducible refine gate_dst (N := 24) rfl ?_); refine litF_event (by rfl) (N := 24) (by rfl) [0, 1, 2] (by decide) (by first | (go_simp; done) | (go_simp; rfl)) ?_; intro Aa wa hCa hb hfr; have HCa := Aside0.mk hCa; have HB := Aside0.mk hb; have HF := Aside0.mk hfr; clear hCa hb hfr) | ((with_reducible refine gate_dst (N := 27) rfl ?_); refine litF_event (by rfl) (N := 27) (by rfl) [0, 1, 3] (by decide) (by first | (go_simp; done) | (go_simp; rfl)) ?_; intro Aa wa hCa hb hfr; have HCa := Aside0.mk hCa; have HB := Aside0.mk hb; have HF := Aside0.mk hfr; clear hCa hb hfr) | ((with_reducible refine gate_dst (N := 30) rfl ?_); refine litF_event (by rfl) (N := 30) (by rfl) [0, 3, 1] (by decide) (by first | (go_simp; done) | (go_simp; rfl)) ?_; intro Aa wa hCa hb hfr; have HCa := Aside0.mk hCa; have HB := Aside0.mk hb; have HF := Aside0.mk hfr; clear hCa hb hfr) | ((with_reducible refine gate_dst (N := 33) rfl ?_); refine litF_event (by rfl) (N := 33) (by rfl) [0, 3, 5] (by decide) (by first | (go_simp; done) | (go_simp; rfl)) ?_; intro Aa wa hCa hb hfr; have HCa := Aside0.mk hCa; have HB := Aside0.mk hb; have HF := Aside0.mk hfr; clear hCa hb hfr) | ((with_reducible refine gate_dst (N := 36) rfl ?_); refine litF_event (by rfl) (N := 36) (by rfl) [0, 1] (by decide) (by first | (go_simp; done) | (go_simp; rfl)) ?_; intro Aa wa hCa hb hfr; have HCa := Aside0.mk hCa; have HB := Aside0.mk hb; have HF := Aside0.mk hfr; clear hCa hb hfr) | ((with_reducible refine gate_dst (N := 40) rfl ?_); refine litF_event (by rfl) (N := 40) (by rfl) [0, 2, 1] (by decide) (by first | (go_simp; done) | (go_simp; rfl)) ?_; intro Aa wa hCa hb hfr; have HCa := Aside0.mk hCa; have HB := Aside0.mk hb; have HF := Aside0.mk hfr; clear hCa hb hfr) | ((with_reducible refine gate_dst (N := 43) rfl ?_); refine litF_event (by rfl) (N := 43) (by rfl) [1, 2] (by decide) (by first | (go_simp; done) | (go_simp; rfl)) ?_; intro Aa wa hCa hb hfr; have HCa := Aside0.mk hCa; have HB := Aside0.mk hb; have HF := Aside0.mk hfr; clear hCa hb hfr) | fail)
      go_ret2
      exact ⟨Aa, _, rfl, by decide, HCa.out, HB.out, HF.out⟩
  · have HV : Aside0 (formL k = ([], [])) := ⟨by
      simp only [not_or] at h
      obtain ⟨h1, h2, h3, h4, h5, h6, h7, h8, h9, h13, h14, h15, h16, h17, h20⟩ := h
      simp [formL, h1, h2, h3, h4, h5, h6, h7, h8, h9, h13, h14, h15, h16, h17, h20]⟩
    have n1 : (k == 1) = false := beq_false_of_ne (by omega)
    have n2 : (k == 2) = false := beq_false_of_ne (by omega)
    have n3 : (k == 3) = false := beq_false_of_ne (by omega)
    have n4 : (k == 4) = false := beq_false_of_ne (by omega)
    have n5 : (k == 5) = false := beq_false_of_ne (by omega)
    have n6 : (k == 6) = false := beq_false_of_ne (by omega)
    have n7 : (k == 7) = false := beq_false_of_ne (by omega)
    have n8 : (k == 8) = false := beq_false_of_ne (by omega)
    have n9 : (k == 9) = false := beq_false_of_ne (by omega)
    have n13 : (k == 13) = false := beq_false_of_ne (by omega)
    have n14 : (k == 14) = false := beq_false_of_ne (by omega)
    have n15 : (k == 15) = false := beq_false_of_ne (by omega)
    have n16 : (k == 16) = false := beq_false_of_ne (by omega)
    have n17 : (k == 17) = false := beq_false_of_ne (by omega)
    have n20 : (k == 20) = false := beq_false_of_ne (by omega)
    clear h
    go_enter Tryz.func25, Tryz.ntmps25
    go_wp2
    go_ret2
    rw [HV.out]
    exact ⟨none, 0, rfl, by decide, Kd.C_nil _ _, Below.refl _ _, fun a ha => by cases ha⟩
theorem form_calls (k : Int) (W : World) : Calls Tryz.prog 25 #[.int .i64 k] W fun e w' => ∃ A c, e = .returned (.tuple #[.string (bB (formL k).1), .slice A (formL k).2.length c]) ∧ (formL k).2.length ≤ c ∧ Kd.C (Kd.int .i64) w' A (formL k).2.length (natI (formL k).2) ∧ Below W.heap.size W w' :=
  (form_calls2 k W).mono fun e w' ⟨A, c, h1, h2, h3, h4, _⟩ => ⟨A, c, h1, h2, h3, h4⟩

theorem told_calls (i : Ins) (what : Nat) (W : World) (hg : GW W) (hf : Fit i) : Calls Tryz.prog 29 #[insV i, .int .i64 what] W fun e w' => e = .returned (.string (bB (toldL i what))) ∧ Below W.heap.size W w' := by
  have b0 := hf.rdr; have b1 := hf.rs1r; have b2 := hf.rs2r; have b3 := hf.lo; have b4 := hf.hi
  have ht : -4294967296 ≤ i.imm.tdiv 4096 ∧ i.imm.tdiv 4096 ≤ 4294967296 := by
    rw [Int.tdiv_eq_ediv, show Int.sign 4096 = 1 from rfl]
    split <;> omega
  unfold toldL insV
  by_cases h0 : what = 0
  · rw [if_pos h0]; subst h0; exact told_0 (what := 0) W hg (by omega) (by omega)
  rw [if_neg h0]
  by_cases h1 : what = 1
  · rw [if_pos h1]; subst h1; exact told_1 (what := 1) W hg (by omega) (by omega)
  rw [if_neg h1]
  by_cases h2 : what = 2
  · rw [if_pos h2]; subst h2; exact told_2 (what := 2) W hg (by omega) (by omega)
  rw [if_neg h2]
  by_cases h4 : what = 4
  · rw [if_pos h4]; subst h4; exact told_4 (what := 4) W hg (by omega) (by omega)
  rw [if_neg h4]
  by_cases h5 : what = 5
  · rw [if_pos h5]; subst h5; exact told_5 (what := 5) W hg (by omega) (by omega)
  rw [if_neg h5]
  exact told_x (what := (what : Int)) W hg (by omega) (by omega) (beq_f (by omega)) (beq_f (by omega)) (beq_f (by omega)) (beq_f (by omega)) (beq_f (by omega))

theorem told_len (i : Ins) (hf : Fit i) (what : Nat) : (toldL i what).length ≤ 4294967300 := by
  have b0 := hf.rdr; have b1 := hf.rs1r; have b2 := hf.rs2r; have b3 := hf.lo; have b4 := hf.hi
  have ht : -4294967296 ≤ i.imm.tdiv 4096 ∧ i.imm.tdiv 4096 ≤ 4294967296 := by
    rw [Int.tdiv_eq_ediv, show Int.sign 4096 = 1 from rfl]
    split <;> omega
  have e0 := itoa_le i.rd; have e1 := itoa_le i.rs1; have e2 := itoa_le i.rs2; have e3 := itoa_le i.imm; have e4 := itoa_le (i.imm.tdiv 4096)
  unfold toldL
  repeat' split
  all_goals first | (simp only [List.length_cons]; omega) | omega
theorem shape_len (k : Int) : (formL k).1.length ≤ 10 ∧ (formL k).2.length ≤ 3 := by
  rcases formL_cases k with e | e | e | e | e | e | e | e | e | e | e | e | e <;> rw [e] <;> decide
theorem fill_len : ∀ (sh : List UInt8) (args : List (List UInt8)) (m : Nat), (∀ a ∈ args, a.length ≤ m) → (fillS sh args).length ≤ sh.length * (m + 1)
  | [], args, m, _ => by simp [fillS]
  | b :: r, [], m, h => by
    have := fill_len r [] m h
    simp only [fillS, List.length_cons, Nat.add_mul]
    omega
  | b :: r, a :: l, m, h => by
    have ha := h a (List.mem_cons_self ..)
    have h1 := fill_len r l m (fun x hx => h x (List.mem_cons_of_mem _ hx))
    have h2 := fill_len r (a :: l) m h
    simp only [fillS]
    split
    · rw [List.length_append]; simp only [List.length_cons, Nat.add_mul]; omega
    · simp only [List.length_cons, Nat.add_mul]; omega
theorem name_len (i : Ins) (hf : Fit i) : (nameI i).length ≤ 20 := by
  have h : (heads.all fun a => decide ((nameH a).length ≤ 20)) = true := by decide +kernel
  have := List.all_eq_true.1 h _ hf.head
  exact of_decide_eq_true this
theorem line_len (i : Ins) (hf : Fit i) : (lineI i).length ≤ 100000000000 := by
  unfold lineI
  rw [List.length_append]
  have h1 := name_len i hf
  have h2 := fill_len (formL i.kind).1 ((formL i.kind).2.map (toldL i)) 4294967300 (fun a ha => by
    obtain ⟨k, _, rfl⟩ := List.mem_map.1 ha
    exact told_len i hf k)
  have h3 := (shape_len i.kind).1
  have h4 : (formL i.kind).1.length * (4294967300 + 1) ≤ 10 * (4294967300 + 1) := Nat.mul_le_mul_right _ h3
  omega
theorem shape_ascii (k : Int) : ∀ b ∈ (formL k).1, b.toNat < 128 := by
  rcases formL_cases k with e | e | e | e | e | e | e | e | e | e | e | e | e <;> rw [e] <;> decide

end Go.Proofs.YtjapahcbhjjeiaaGreatDoor.AS
