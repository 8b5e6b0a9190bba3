/- inst.decode's and inst.Decode's contracts over the plain model. -/
import Derived.Test.YtjapahcbhjjeiaaGreatDoorG4
import Derived.Test.YtjapahcbhjjeiaaGreatDoorG7
import Derived.Test.YtjapahcbhjjeiaaGreatDoorG9
import Derived.Test.YtjapahcbhjjeiaaGreatDoorG18
namespace Go.Proofs.YtjapahcbhjjeiaaGreatDoor.AS
open Go.RowKit Go.MapKept Go.Proofs.YtjapahcbhjjeiaaGreatDoorW.PrintWords Go.Proofs.YtjapahcbhjjeiaaGreatDoorW.PrintLast Go.Proofs.YtjapahcbhjjeiaaGreatDoorW.PrintMore Go.Proofs.YtjapahcbhjjeiaaGreatDoor.PA
set_option linter.unusedVariables false
set_option linter.unusedSimpArgs false

def insV (i : Ins) : Value := .agg #[.int .i64 i.kind, .int .i64 i.fn, .int .i64 i.rd, .int .i64 i.rs1, .int .i64 i.rs2, .int .i64 i.imm, .int .i64 i.size, .bool i.sg]

def DecP (f : Nat) (w : Int) : Prop := ∃ i : Ins, (∀ j, decodeL w = some j → j = i) ∧ ∀ W, Calls Tryz.prog f #[.int .u32 w] W fun e w' => e = .returned (.tuple #[insV i, .bool (decodeL w).isSome]) ∧ Below W.heap.size W w'

theorem dec_if {f : Nat} {w : Int} {i : Ins} {c : Bool} (e : decodeL w = if c = true then some i else none) (h : ∀ W, Calls Tryz.prog f #[.int .u32 w] W fun e w' => e = .returned (.tuple #[insV i, .bool c]) ∧ Below W.heap.size W w') : DecP f w := by
  refine ⟨i, fun j hj => ?_, fun W => ?_⟩
  · rw [e] at hj
    cases c with
    | true => simp at hj; exact hj.symm
    | false => simp at hj
  · have : (decodeL w).isSome = c := by rw [e]; cases c <;> rfl
    rw [this]
    exact h W

theorem decodeL_row {w k imm : Int} {a b c : Bool} (h1 : opW w ≠ 15) (h2 : opW w ≠ 115) (h3 : opW w ≠ 47) (hr : rowL w = some (k, imm, a, b, c)) :
    decodeL w = plainL w ⟨k, 0, if a = true then rdW w else 0, if b = true then rs1W w else 0, if c = true then rs2W w else 0, imm, 0, false⟩ := by
  unfold decodeL
  rw [if_neg h1, if_neg h2, if_neg h3, hr]
  rfl

theorem dec_atomic {w : Int} (w0 : 0 ≤ w) (w1 : w < 4294967296) (hop : opW w = 47) : DecP 68 w := by
  have e : decodeL w = atomicL w := by unfold decodeL; rw [if_neg (by omega), if_neg (by omega), if_pos hop]
  have hf := fun (c0 c1 c2 c3 c4 c5 c6 : Int) (c7 ok : Bool) (h : atomT w = (c0, c1, c2, c3, c4, c5, c6, c7, ok)) W => atomic_calls w0 w1 h W
  generalize ht : atomT w = t at hf
  obtain ⟨r0, r1, r2, r3, r4, r5, r6, r7, ok⟩ := t
  have A := fun W => decode_at W w0 w1 hop (fun W => hf r0 r1 r2 r3 r4 r5 r6 r7 ok rfl W)
  refine dec_if (i := ⟨r0, r1, r2, r3, r4, r5, r6, r7⟩) (c := ok) ?_ A
  rw [e]
  unfold atomT at ht
  unfold atomicL
  by_cases c : f3W w ≠ 2 ∧ f3W w ≠ 3
  · rw [if_pos c] at ht ⊢
    simp only [Prod.mk.injEq] at ht
    obtain ⟨rfl, rfl, rfl, rfl, rfl, rfl, rfl, rfl, rfl⟩ := ht
    rfl
  rw [if_neg c] at ht ⊢
  by_cases c2 : fl w 31 27 = 2
  · rw [if_pos c2] at ht ⊢
    simp only [Prod.mk.injEq] at ht
    obtain ⟨rfl, rfl, rfl, rfl, rfl, rfl, rfl, rfl, rfl⟩ := ht
    simp only [beq_iff_eq]
  rw [if_neg c2] at ht ⊢
  by_cases c3 : fl w 31 27 = 3
  · rw [if_pos c3] at ht ⊢
    simp only [Prod.mk.injEq] at ht
    obtain ⟨rfl, rfl, rfl, rfl, rfl, rfl, rfl, rfl, rfl⟩ := ht
    rfl
  rw [if_neg c3] at ht ⊢
  by_cases c1 : fl w 31 27 = 1
  · rw [if_pos c1] at ht ⊢
    simp only [Prod.mk.injEq] at ht
    obtain ⟨rfl, rfl, rfl, rfl, rfl, rfl, rfl, rfl, rfl⟩ := ht
    rfl
  rw [if_neg c1] at ht ⊢
  by_cases c0 : fl w 31 27 % 4 = 0
  · rw [if_pos c0] at ht
    rw [if_neg (by simpa using c0)]
    simp only [Prod.mk.injEq] at ht
    obtain ⟨rfl, rfl, rfl, rfl, rfl, rfl, rfl, rfl, rfl⟩ := ht
    rfl
  · rw [if_neg c0] at ht
    rw [if_pos c0]
    simp only [Prod.mk.injEq] at ht
    obtain ⟨rfl, rfl, rfl, rfl, rfl, rfl, rfl, rfl, rfl⟩ := ht
    rfl

theorem dec_system {w : Int} (w0 : 0 ≤ w) (w1 : w < 4294967296) (hop : opW w = 115) : DecP 68 w := by
  have e : decodeL w = systemL w := by unfold decodeL; rw [if_neg (by omega), if_pos hop]
  by_cases c1 : w = 115
  · exact dec_if (i := ⟨11, 0, 0, 0, 0, 0, 0, false⟩) (c := true) (by rw [e]; unfold systemL; rw [if_pos c1]; rfl) (fun W => decode_sys W w0 w1 hop (fun W => by rw [c1]; exact system_11 W))
  by_cases c2 : w = 1048691
  · exact dec_if (i := ⟨12, 0, 0, 0, 0, 0, 0, false⟩) (c := true) (by rw [e]; unfold systemL; rw [if_neg c1, if_pos c2]; rfl) (fun W => decode_sys W w0 w1 hop (fun W => by rw [c2]; exact system_12 W))
  by_cases c3 : w = 270532723
  · exact dec_if (i := ⟨18, 0, 0, 0, 0, 0, 0, false⟩) (c := true) (by rw [e]; unfold systemL; rw [if_neg c1, if_neg c2, if_pos c3]; rfl) (fun W => decode_sys W w0 w1 hop (fun W => by rw [c3]; exact system_18 W))
  by_cases c4 : w = 273678451
  · exact dec_if (i := ⟨19, 0, 0, 0, 0, 0, 0, false⟩) (c := true) (by rw [e]; unfold systemL; rw [if_neg c1, if_neg c2, if_neg c3, if_pos c4]; rfl) (fun W => decode_sys W w0 w1 hop (fun W => by rw [c4]; exact system_19 W))
  by_cases z : f3W w = 0
  · by_cases s : f7W w = 9
    · refine dec_if (i := ⟨20, 0, 0, rs1W w, rs2W w, 0, 0, false⟩) (c := (rdW w == 0)) ?_ (fun W => decode_sys W w0 w1 hop (fun W => system_sf9 W w0 w1 (beq_f c1) (beq_f c2) (beq_f c3) (beq_f c4) z s rfl))
      rw [e]; unfold systemL; rw [if_neg c1, if_neg c2, if_neg c3, if_neg c4, if_pos z]
      simp only [s, true_and, beq_iff_eq]
    · refine dec_if (i := ⟨20, 0, 0, rs1W w, rs2W w, 0, 0, false⟩) (c := false) ?_ (fun W => decode_sys W w0 w1 hop (fun W => system_sfn W w0 w1 (beq_f c1) (beq_f c2) (beq_f c3) (beq_f c4) z rfl (beq_f s)))
      rw [e]; unfold systemL; rw [if_neg c1, if_neg c2, if_neg c3, if_neg c4, if_pos z]
      simp [s]
  by_cases g : 3 < f3W w
  · refine dec_if (i := ⟨14, f3W w % 4, rdW w, rs1W w, 0, fl w 31 20, 0, false⟩) (c := (f3W w % 4 != 0)) ?_ (fun W => decode_sys W w0 w1 hop (fun W => system_csri W w0 w1 (beq_f c1) (beq_f c2) (beq_f c3) (beq_f c4) rfl (beq_f z) (by simpa using g)))
    rw [e]; unfold systemL; rw [if_neg c1, if_neg c2, if_neg c3, if_neg c4, if_neg z, if_pos g]
    simp only [bne_iff_ne]
  · refine dec_if (i := ⟨13, f3W w % 4, rdW w, rs1W w, 0, fl w 31 20, 0, false⟩) (c := (f3W w % 4 != 0)) ?_ (fun W => decode_sys W w0 w1 hop (fun W => system_csrr W w0 w1 (beq_f c1) (beq_f c2) (beq_f c3) (beq_f c4) rfl (beq_f z) (by simp; omega)))
    rw [e]; unfold systemL; rw [if_neg c1, if_neg c2, if_neg c3, if_neg c4, if_neg z, if_neg g]
    simp only [bne_iff_ne]

theorem en {f : Nat} {fn : Func} (hf : Tryz.prog.funcs[f]? = some fn) (hn : (fn.name == "runtime.NumGoroutine") = false) (hb : fn.body.isSome = true) : ∀ args W, (callFunc f args).run Tryz.prog W = .ok (.enter f args) W := fun args W => enters_ hf hn hb args W

theorem dec_55 {w : Int} (w0 : 0 ≤ w) (w1 : w < 4294967296) (hop : opW w = 55) : DecP 68 w := by
  have hr : rowL w = some (1, (uW w), true, false, false) := by simp [rowL, hop]
  have e := decodeL_row (by omega) (by omega) (by omega) hr
  rw [plain1 _ _ (.inl rfl)] at e
  refine dec_if (i := ⟨1, 0, (rdW w), 0, 0, (uW w), 0, false⟩) (c := true) (e.trans (rfl)) (fun W => ?_)
  exact decode_row (imv := (uW w)) (a := true) (b := false) (c := false) W w0 w1 hop ⟨rfl, rfl, rfl⟩ (by simp [rowsV, rowV]) (by simp [rowsV, rowV]) (en Tryz.func132 rfl rfl) (fun W => u_calls W w0 w1) (fun W => plain1_calls W w0 w1)

theorem dec_23 {w : Int} (w0 : 0 ≤ w) (w1 : w < 4294967296) (hop : opW w = 23) : DecP 68 w := by
  have hr : rowL w = some (2, (uW w), true, false, false) := by simp [rowL, hop]
  have e := decodeL_row (by omega) (by omega) (by omega) hr
  rw [plain1 _ _ (.inr (.inl rfl))] at e
  refine dec_if (i := ⟨2, 0, (rdW w), 0, 0, (uW w), 0, false⟩) (c := true) (e.trans (rfl)) (fun W => ?_)
  exact decode_row (imv := (uW w)) (a := true) (b := false) (c := false) W w0 w1 hop ⟨rfl, rfl, rfl⟩ (by simp [rowsV, rowV]) (by simp [rowsV, rowV]) (en Tryz.func132 rfl rfl) (fun W => u_calls W w0 w1) (fun W => plain2_calls W w0 w1)

theorem dec_111 {w : Int} (w0 : 0 ≤ w) (w1 : w < 4294967296) (hop : opW w = 111) : DecP 68 w := by
  have hr : rowL w = some (3, (jW w), true, false, false) := by simp [rowL, hop]
  have e := decodeL_row (by omega) (by omega) (by omega) hr
  rw [plain1 _ _ (.inr (.inr rfl))] at e
  refine dec_if (i := ⟨3, 0, (rdW w), 0, 0, (jW w), 0, false⟩) (c := true) (e.trans (rfl)) (fun W => ?_)
  exact decode_row (imv := (jW w)) (a := true) (b := false) (c := false) W w0 w1 hop ⟨rfl, rfl, rfl⟩ (by simp [rowsV, rowV]) (by simp [rowsV, rowV]) (en Tryz.func133 rfl rfl) (fun W => j_calls W w0 w1) (fun W => plain3_calls W w0 w1)

theorem dec_103 {w : Int} (w0 : 0 ≤ w) (w1 : w < 4294967296) (hop : opW w = 103) : DecP 68 w := by
  have hr : rowL w = some (4, (iW w), true, true, false) := by simp [rowL, hop]
  have e := decodeL_row (by omega) (by omega) (by omega) hr
  rw [plain4 _ _ rfl] at e
  refine dec_if (i := ⟨4, 0, (rdW w), (rs1W w), 0, (iW w), 0, false⟩) (c := (f3W w == 0)) (e.trans (by simp only [beq_iff_eq]; rfl)) (fun W => ?_)
  exact decode_row (imv := (iW w)) (a := true) (b := true) (c := false) W w0 w1 hop ⟨rfl, rfl, rfl⟩ (by simp [rowsV, rowV]) (by simp [rowsV, rowV]) (en Tryz.func134 rfl rfl) (fun W => i_calls W w0 w1) (fun W => plain4_calls W w0 w1)

theorem dec_99 {w : Int} (w0 : 0 ≤ w) (w1 : w < 4294967296) (hop : opW w = 99) : DecP 68 w := by
  have hr : rowL w = some (5, (bW w), false, true, true) := by simp [rowL, hop]
  have e := decodeL_row (by omega) (by omega) (by omega) hr
  rw [plain5 _ _ rfl] at e
  refine dec_if (i := ⟨5, (pickL branchesL (f3W w)), 0, (rs1W w), (rs2W w), (bW w), 0, false⟩) (c := (pickL branchesL (f3W w) != 0)) (e.trans (by simp only [bne_iff_ne]; rfl)) (fun W => ?_)
  exact decode_row (imv := (bW w)) (a := false) (b := true) (c := true) W w0 w1 hop ⟨rfl, rfl, rfl⟩ (by simp [rowsV, rowV]) (by simp [rowsV, rowV]) (en Tryz.func135 rfl rfl) (fun W => b_calls W w0 w1) (fun W => plain5_calls W w0 w1)

theorem dec_3 {w : Int} (w0 : 0 ≤ w) (w1 : w < 4294967296) (hop : opW w = 3) : DecP 68 w := by
  have hr : rowL w = some (6, (iW w), true, true, false) := by simp [rowL, hop]
  have e := decodeL_row (by omega) (by omega) (by omega) hr
  rw [plain6 _ _ rfl] at e
  refine dec_if (i := ⟨6, 0, (rdW w), (rs1W w), 0, (iW w), (p2 (f3W w % 4)), (decide (f3W w < 4))⟩) (c := (decide (f3W w < 7))) (e.trans (by simp only [decide_eq_true_eq]; rfl)) (fun W => ?_)
  exact decode_row (imv := (iW w)) (a := true) (b := true) (c := false) W w0 w1 hop ⟨rfl, rfl, rfl⟩ (by simp [rowsV, rowV]) (by simp [rowsV, rowV]) (en Tryz.func134 rfl rfl) (fun W => i_calls W w0 w1) (fun W => plain6_calls W w0 w1)

theorem dec_35 {w : Int} (w0 : 0 ≤ w) (w1 : w < 4294967296) (hop : opW w = 35) : DecP 68 w := by
  have hr : rowL w = some (7, (sW w), false, true, true) := by simp [rowL, hop]
  have e := decodeL_row (by omega) (by omega) (by omega) hr
  rw [plain7 _ _ rfl] at e
  refine dec_if (i := ⟨7, 0, 0, (rs1W w), (rs2W w), (sW w), (p2 (f3W w)), false⟩) (c := (decide (f3W w < 4))) (e.trans (by simp only [decide_eq_true_eq]; rfl)) (fun W => ?_)
  exact decode_row (imv := (sW w)) (a := false) (b := true) (c := true) W w0 w1 hop ⟨rfl, rfl, rfl⟩ (by simp [rowsV, rowV]) (by simp [rowsV, rowV]) (en Tryz.func136 rfl rfl) (fun W => s_calls W w0 w1) (fun W => plain7_calls W w0 w1)

theorem dec_19 {w : Int} (w0 : 0 ≤ w) (w1 : w < 4294967296) (hop : opW w = 19) : DecP 68 w := by
  have hr : rowL w = some (9, (iW w), true, true, false) := by simp [rowL, hop]
  have e := decodeL_row (by omega) (by omega) (by omega) hr
  rw [plain9 _ _ rfl] at e
  refine dec_if (i := ⟨9, (immOut w (rdW w) (rs1W w) 0 (iW w)).1, (rdW w), (rs1W w), 0, (immOut w (rdW w) (rs1W w) 0 (iW w)).2.1, 0, false⟩) (c := (immOut w (rdW w) (rs1W w) 0 (iW w)).2.2) (e.trans (by show (immediateL w (iW w)).map _ = _; unfold immOut; cases immediateL w (iW w) <;> rfl)) (fun W => ?_)
  exact decode_row (imv := (iW w)) (a := true) (b := true) (c := false) W w0 w1 hop ⟨rfl, rfl, rfl⟩ (by simp [rowsV, rowV]) (by simp [rowsV, rowV]) (en Tryz.func134 rfl rfl) (fun W => i_calls W w0 w1) (fun W => plain9_calls W (fun W => immediate_calls W w0 w1 (.inr hop)))

theorem dec_27 {w : Int} (w0 : 0 ≤ w) (w1 : w < 4294967296) (hop : opW w = 27) : DecP 68 w := by
  have hr : rowL w = some (9, (iW w), true, true, false) := by simp [rowL, hop]
  have e := decodeL_row (by omega) (by omega) (by omega) hr
  rw [plain9 _ _ rfl] at e
  refine dec_if (i := ⟨9, (immOut w (rdW w) (rs1W w) 0 (iW w)).1, (rdW w), (rs1W w), 0, (immOut w (rdW w) (rs1W w) 0 (iW w)).2.1, 0, false⟩) (c := (immOut w (rdW w) (rs1W w) 0 (iW w)).2.2) (e.trans (by show (immediateL w (iW w)).map _ = _; unfold immOut; cases immediateL w (iW w) <;> rfl)) (fun W => ?_)
  exact decode_row (imv := (iW w)) (a := true) (b := true) (c := false) W w0 w1 hop ⟨rfl, rfl, rfl⟩ (by simp [rowsV, rowV]) (by simp [rowsV, rowV]) (en Tryz.func134 rfl rfl) (fun W => i_calls W w0 w1) (fun W => plain9_calls W (fun W => immediate_calls W w0 w1 (.inl hop)))

theorem dec_51 {w : Int} (w0 : 0 ≤ w) (w1 : w < 4294967296) (hop : opW w = 51) : DecP 68 w := by
  have hr : rowL w = some (8, 0, true, true, true) := by simp [rowL, hop]
  have e := decodeL_row (by omega) (by omega) (by omega) hr
  rw [plain8 _ _ rfl] at e
  refine dec_if (i := ⟨8, (registerL (decide (opW w = 0x33)) (f3W w) (f7W w)), (rdW w), (rs1W w), (rs2W w), 0, 0, false⟩) (c := (registerL (decide (opW w = 0x33)) (f3W w) (f7W w) != 0)) (e.trans (by simp only [bne_iff_ne]; rfl)) (fun W => ?_)
  exact decode_row (imv := 0) (a := true) (b := true) (c := true) W w0 w1 hop ⟨rfl, rfl, rfl⟩ (by simp [rowsV, rowV]) (by simp [rowsV, rowV]) (en Tryz.func137 rfl rfl) (fun W => none_calls W) (fun W => plain8_calls W w0 w1)

theorem dec_59 {w : Int} (w0 : 0 ≤ w) (w1 : w < 4294967296) (hop : opW w = 59) : DecP 68 w := by
  have hr : rowL w = some (8, 0, true, true, true) := by simp [rowL, hop]
  have e := decodeL_row (by omega) (by omega) (by omega) hr
  rw [plain8 _ _ rfl] at e
  refine dec_if (i := ⟨8, (registerL (decide (opW w = 0x33)) (f3W w) (f7W w)), (rdW w), (rs1W w), (rs2W w), 0, 0, false⟩) (c := (registerL (decide (opW w = 0x33)) (f3W w) (f7W w) != 0)) (e.trans (by simp only [bne_iff_ne]; rfl)) (fun W => ?_)
  exact decode_row (imv := 0) (a := true) (b := true) (c := true) W w0 w1 hop ⟨rfl, rfl, rfl⟩ (by simp [rowsV, rowV]) (by simp [rowsV, rowV]) (en Tryz.func137 rfl rfl) (fun W => none_calls W) (fun W => plain8_calls W w0 w1)

theorem decode_calls {w : Int} (w0 : 0 ≤ w) (w1 : w < 4294967296) : DecP 68 w := by
  by_cases c0 : opW w = 15
  · refine dec_if (i := ⟨10, 0, 0, 0, 0, 0, 0, false⟩) (c := decide (f3W w < 2)) ?_ (fun W => decode_fence W w0 w1 c0)
    unfold decodeL
    rw [if_pos c0]
    simp only [decide_eq_true_eq]
  by_cases c1 : opW w = 115
  · exact dec_system w0 w1 c1
  by_cases c2 : opW w = 47
  · exact dec_atomic w0 w1 c2
  by_cases k55 : opW w = 55
  · exact dec_55 w0 w1 k55
  by_cases k23 : opW w = 23
  · exact dec_23 w0 w1 k23
  by_cases k111 : opW w = 111
  · exact dec_111 w0 w1 k111
  by_cases k103 : opW w = 103
  · exact dec_103 w0 w1 k103
  by_cases k99 : opW w = 99
  · exact dec_99 w0 w1 k99
  by_cases k3 : opW w = 3
  · exact dec_3 w0 w1 k3
  by_cases k35 : opW w = 35
  · exact dec_35 w0 w1 k35
  by_cases k19 : opW w = 19
  · exact dec_19 w0 w1 k19
  by_cases k27 : opW w = 27
  · exact dec_27 w0 w1 k27
  by_cases k51 : opW w = 51
  · exact dec_51 w0 w1 k51
  by_cases k59 : opW w = 59
  · exact dec_59 w0 w1 k59
  refine dec_if (i := ⟨0, 0, 0, 0, 0, 0, 0, false⟩) (c := false) ?_ (fun W => decode_none W w0 w1 rfl (beq_f c0) (beq_f c1) (beq_f c2) ?_)
  · unfold decodeL
    rw [if_neg c0, if_neg c1, if_neg c2]
    have : rowL w = none := by unfold rowL; simp only [k55, k23, k111, k103, k99, k3, k35, k19, k27, k51, k59, if_false]
    rw [this]
    rfl
  · simp only [rowsV, List.mem_cons, List.not_mem_nil, or_false, forall_eq_or_imp, forall_eq, ne_eq, Value.int.injEq, true_and]
    exact ⟨fun h => k55 h.symm, fun h => k23 h.symm, fun h => k111 h.symm, fun h => k103 h.symm, fun h => k99 h.symm, fun h => k3 h.symm, fun h => k35 h.symm, fun h => k19 h.symm, fun h => k27 h.symm, fun h => k51 h.symm, fun h => k59 h.symm⟩

end Go.Proofs.YtjapahcbhjjeiaaGreatDoor.AS
