/- inst.immediate's contract over the plain model. -/
import Derived.Test.YtjapahcbhjjeiaaGreatDoorG5
import Derived.Test.YtjapahcbhjjeiaaGreatDoorG6
namespace Go.Proofs.YtjapahcbhjjeiaaGreatDoor.AS
open Go.RowKit Go.Proofs.YtjapahcbhjjeiaaGreatDoorW.PrintWords Go.Proofs.YtjapahcbhjjeiaaGreatDoorW.PrintLast Go.Proofs.YtjapahcbhjjeiaaGreatDoorW.PrintMore Go.Proofs.YtjapahcbhjjeiaaGreatDoor.PA
set_option linter.unusedVariables false
set_option linter.unusedSimpArgs false

def immOut (w rd rs1 rs2 imm : Int) : Int × Int × Bool := match immediateL w imm with
  | some r => (r.1, r.2, true)
  | none => (0, imm, false)

theorem beq_f {a b : Int} (h : a ≠ b) : (a == b) = false := by simpa using h
theorem bne_t {a b : Int} (h : a ≠ b) : (a != b) = true := by simpa using h

theorem immediate_calls {w rd rs1 rs2 imm : Int} (W : World) (w0 : 0 ≤ w) (w1 : w < 4294967296) (hop : opW w = 27 ∨ opW w = 19) :
    Calls Tryz.prog 138 #[.int .u32 w, .agg #[.int .i64 9, .int .i64 0, .int .i64 rd, .int .i64 rs1, .int .i64 rs2, .int .i64 imm, .int .i64 0, .bool false]] W fun e w' =>
      e = .returned (.tuple #[.agg #[.int .i64 9, .int .i64 (immOut w rd rs1 rs2 imm).1, .int .i64 rd, .int .i64 rs1, .int .i64 rs2, .int .i64 (immOut w rd rs1 rs2 imm).2.1, .int .i64 0, .bool false], .bool (immOut w rd rs1 rs2 imm).2.2]) ∧ Below W.heap.size W w' := by
  have F3 : ∀ c, f3W w = c → ∀ W, Calls Tryz.prog 96 #[.int .u32 w] W fun e w' => e = .returned (.int .i64 c) ∧ Drawn0 W w' := fun c e W => by rw [← e]; exact f3_calls W w0 w1
  have O : ∀ c, opW w = c → ∀ W, Calls Tryz.prog 95 #[.int .u32 w] W fun e w' => e = .returned (.int .i64 c) ∧ Drawn0 W w' := fun c e W => by rw [← e]; exact op_calls W w0 w1
  have F7 : ∀ W, Calls Tryz.prog 129 #[.int .u32 w] W fun e w' => e = .returned (.int .i64 (f7W w)) ∧ Drawn0 W w' := fun W => f7_calls W w0 w1
  have BH : ∀ c, fl w 31 26 = c → ∀ W, Calls Tryz.prog 131 #[.int .u32 w, .int .i64 31, .int .i64 26] W fun e w' => e = .returned (.int .i64 c) ∧ Drawn0 W w' := fun c e W => by rw [← e]; exact bits_lit 31 26 W w0 w1 (by decide) (by decide) rfl rfl
  have B24 : ∀ W, Calls Tryz.prog 131 #[.int .u32 w, .int .i64 24, .int .i64 20] W fun e w' => e = .returned (.int .i64 (fl w 24 20)) ∧ Drawn0 W w' := fun W => bits_lit 24 20 W w0 w1 (by decide) (by decide) rfl rfl
  have B25 : ∀ W, Calls Tryz.prog 131 #[.int .u32 w, .int .i64 25, .int .i64 20] W fun e w' => e = .returned (.int .i64 (fl w 25 20)) ∧ Drawn0 W w' := fun W => bits_lit 25 20 W w0 w1 (by decide) (by decide) rfl rfl
  have h7 := f7W_b w
  have ha : Go.bits .and .i64 (f7W w) 1 = f7W w % 2 := and_i64 (f7W w) 1 (by omega) (by omega) (by omega)
  rcases hop with hop | hop
  · by_cases c0 : f3W w = 0
    · have e : immOut w rd rs1 rs2 imm = (19, imm, true) := by simp [immOut, immediateL, hop, c0]
      rw [e]
      by_cases od : f7W w % 2 = 1
      · exact imm27_0o (f3 := f3W w) (f7 := f7W w) (hi := fl w 31 26) W (O _ hop) (F3 _ c0) F7 (BH _ rfl) B24 (by rw [ha, od]; rfl)
      · exact imm27_0e (f3 := f3W w) (f7 := f7W w) (hi := fl w 31 26) W (O _ hop) (F3 _ c0) F7 (BH _ rfl) B24 (by rw [ha]; exact beq_f od)
    by_cases od : f7W w % 2 = 1
    · have n0 : f7W w ≠ 0 := by omega
      have n1 : f7W w ≠ 32 := by omega
      have e : immOut w rd rs1 rs2 imm = (0, imm, false) := by simp [immOut, immediateL, hop, c0, n0, n1]
      rw [e]
      have hod : (Go.bits .and .i64 (f7W w) 1 == 1) = true := by rw [ha, od]; rfl
      by_cases c1 : f3W w = 1
      · exact imm27_o1 (f3 := f3W w) (f7 := f7W w) (hi := fl w 31 26) W (O _ hop) (F3 _ c1) F7 (BH _ rfl) B24 hod
      by_cases c5 : f3W w = 5
      · exact imm27_o5 (f3 := f3W w) (f7 := f7W w) (hi := fl w 31 26) W (O _ hop) (F3 _ c5) F7 (BH _ rfl) B24 hod
      exact imm27_ox (f3 := f3W w) (f7 := f7W w) (hi := fl w 31 26) W (O _ hop) (F3 _ rfl) F7 (BH _ rfl) B24 hod (beq_f c0) (beq_f c1) (beq_f c5)
    have hev : (Go.bits .and .i64 (f7W w) 1 == 1) = false := by rw [ha]; exact beq_f od
    by_cases c1 : f3W w = 1
    · by_cases z : f7W w / 2 = 0
      · have z' : f7W w = 0 := by omega
        have e : immOut w rd rs1 rs2 imm = (21, fl w 24 20, true) := by simp [immOut, immediateL, hop, c1, z']
        rw [e]
        exact imm27_1 (f3 := f3W w) (f7 := f7W w) (hi := fl w 31 26) W (O _ hop) (F3 _ c1) F7 (BH _ rfl) B24 hev z
      · have z' : f7W w ≠ 0 := by omega
        have e : immOut w rd rs1 rs2 imm = (0, imm, false) := by simp [immOut, immediateL, hop, c1, z']
        rw [e]
        exact imm27_1n (f3 := f3W w) (f7 := f7W w) (hi := fl w 31 26) W (O _ hop) (F3 _ c1) F7 (BH _ rfl) B24 hev (beq_f z)
    by_cases c5 : f3W w = 5
    · by_cases z : f7W w / 2 = 0
      · have z' : f7W w = 0 := by omega
        have e : immOut w rd rs1 rs2 imm = (22, fl w 24 20, true) := by simp [immOut, immediateL, hop, c5, z']
        rw [e]
        exact imm27_5 (f3 := f3W w) (f7 := f7W w) (hi := fl w 31 26) W (O _ hop) (F3 _ c5) F7 (BH _ rfl) B24 hev z
      by_cases y : f7W w / 2 = 16
      · have y' : f7W w = 32 := by omega
        have e : immOut w rd rs1 rs2 imm = (23, fl w 24 20, true) := by simp [immOut, immediateL, hop, c5, y']
        rw [e]
        exact imm27_5a (f3 := f3W w) (f7 := f7W w) (hi := fl w 31 26) W (O _ hop) (F3 _ c5) F7 (BH _ rfl) B24 hev y
      · have z' : f7W w ≠ 0 := by omega
        have y' : f7W w ≠ 32 := by omega
        have e : immOut w rd rs1 rs2 imm = (0, imm, false) := by simp [immOut, immediateL, hop, c5, z', y']
        rw [e]
        exact imm27_5n (f3 := f3W w) (f7 := f7W w) (hi := fl w 31 26) W (O _ hop) (F3 _ c5) F7 (BH _ rfl) B24 hev (beq_f z) (beq_f y)
    have e : immOut w rd rs1 rs2 imm = (0, imm, false) := by simp [immOut, immediateL, hop, c0, c1, c5]
    rw [e]
    exact imm27_x (f3 := f3W w) (f7 := f7W w) (hi := fl w 31 26) W (O _ hop) (F3 _ rfl) F7 (BH _ rfl) B24 hev (beq_f c0) (beq_f c1) (beq_f c5)
  · by_cases c1 : f3W w = 1
    · by_cases z : fl w 31 26 = 0
      · have e : immOut w rd rs1 rs2 imm = (3, fl w 25 20, true) := by simp [immOut, immediateL, hop, c1, z]
        rw [e]
        exact imm19_1 (f3 := f3W w) (f7 := f7W w) (hi := 0) W (O _ hop) (F3 _ c1) F7 (BH _ z) B25
      · have e : immOut w rd rs1 rs2 imm = (0, imm, false) := by simp [immOut, immediateL, hop, c1, z]
        rw [e]
        exact imm19_1n (f3 := f3W w) (f7 := f7W w) (hi := fl w 31 26) W (O _ hop) (F3 _ c1) F7 (BH _ rfl) B25 (beq_f z)
    by_cases c5 : f3W w = 5
    · by_cases z : fl w 31 26 = 0
      · have e : immOut w rd rs1 rs2 imm = (7, fl w 25 20, true) := by simp [immOut, immediateL, hop, c5, z]
        rw [e]
        exact imm19_5 (f3 := f3W w) (f7 := f7W w) (hi := 0) W (O _ hop) (F3 _ c5) F7 (BH _ z) B25
      by_cases y : fl w 31 26 = 16
      · have e : immOut w rd rs1 rs2 imm = (8, fl w 25 20, true) := by simp [immOut, immediateL, hop, c5, y]
        rw [e]
        exact imm19_5a (f3 := f3W w) (f7 := f7W w) (hi := 16) W (O _ hop) (F3 _ c5) F7 (BH _ y) B25
      · have e : immOut w rd rs1 rs2 imm = (0, imm, false) := by simp [immOut, immediateL, hop, c5, z, y]
        rw [e]
        exact imm19_5n (f3 := f3W w) (f7 := f7W w) (hi := fl w 31 26) W (O _ hop) (F3 _ c5) F7 (BH _ rfl) B25 (beq_f z) (beq_f y)
    have e : immOut w rd rs1 rs2 imm = (pickL immsL (f3W w), imm, true) := by simp [immOut, immediateL, hop, c1, c5]
    rw [e]
    exact imm19_x (f3 := f3W w) (f7 := f7W w) (hi := fl w 31 26) W (O _ hop) (F3 _ rfl) F7 (BH _ rfl) B25 (beq_f c1) (beq_f c5) (bne_t c1) (bne_t c5)

end Go.Proofs.YtjapahcbhjjeiaaGreatDoor.AS
