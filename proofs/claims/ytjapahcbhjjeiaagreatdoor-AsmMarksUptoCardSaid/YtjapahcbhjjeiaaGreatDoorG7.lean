/- Several texts in one. -/
import Derived.Test.YtjapahcbhjjeiaaGreatDoorF1
import Derived.Test.YtjapahcbhjjeiaaGreatDoorG2
import Derived.Test.YtjapahcbhjjeiaaGreatDoorRX
import Derived.Test.YtjapahcbhjjeiaaGreatDoorG5
/- The walk of inst.immediate, all ways. -/
namespace Go.Proofs.YtjapahcbhjjeiaaGreatDoor.AS
open Go.RowKit Go.Proofs.YtjapahcbhjjeiaaGreatDoorW.PrintWords Go.Proofs.YtjapahcbhjjeiaaGreatDoorW.PrintLast Go.Proofs.YtjapahcbhjjeiaaGreatDoorW.PrintMore Go.Proofs.YtjapahcbhjjeiaaGreatDoor.PA
set_option linter.unusedVariables false
set_option maxHeartbeats 4000000
set_option maxRecDepth 100000
set_option linter.unusedSimpArgs false

theorem litg1 {P : Program} {f : Nat} {xs : Array Value} {W : World} {o : Obj} {m : Nat} {Q : Ending → World → Prop} (h : Calls P f xs ((W.alloc o).drewN m) Q) : Calls P f xs ((W.alloc o).drewN m) Q := h
theorem litg2 {P : Program} {f : Nat} {xs : Array Value} {W : World} {o : Obj} {Q : Ending → World → Prop} (h : Calls P f xs (W.alloc o) Q) : Calls P f xs (W.alloc o) Q := h
inductive WayM (imm v4 v5 : Int) : (op f3 f7 hi fn n : Int) → Bool → Prop
  | w27_0o {f7 hi : Int} (h0 : (Go.bits .and .i64 f7 1 == 1) = true) : WayM imm v4 v5 27 0 f7 hi 19 imm true
  | w27_0e {f7 hi : Int} (h0 : (Go.bits .and .i64 f7 1 == 1) = false) : WayM imm v4 v5 27 0 f7 hi 19 imm true
  | w27_o1 {f7 hi : Int} (h0 : (Go.bits .and .i64 f7 1 == 1) = true) : WayM imm v4 v5 27 1 f7 hi 0 imm false
  | w27_o5 {f7 hi : Int} (h0 : (Go.bits .and .i64 f7 1 == 1) = true) : WayM imm v4 v5 27 5 f7 hi 0 imm false
  | w27_ox {f3 f7 hi : Int} (h0 : (Go.bits .and .i64 f7 1 == 1) = true) (c0 : (f3 == 0) = false) (c1 : (f3 == 1) = false) (c5 : (f3 == 5) = false) : WayM imm v4 v5 27 f3 f7 hi 0 imm false
  | w27_1 {f7 hi : Int} (h0 : (Go.bits .and .i64 f7 1 == 1) = false) (z : f7 / 2 = 0) : WayM imm v4 v5 27 1 f7 hi 21 v4 true
  | w27_1n {f7 hi : Int} (h0 : (Go.bits .and .i64 f7 1 == 1) = false) (z : (f7 / 2 == 0) = false) : WayM imm v4 v5 27 1 f7 hi 0 imm false
  | w27_5 {f7 hi : Int} (h0 : (Go.bits .and .i64 f7 1 == 1) = false) (z : f7 / 2 = 0) : WayM imm v4 v5 27 5 f7 hi 22 v4 true
  | w27_5a {f7 hi : Int} (h0 : (Go.bits .and .i64 f7 1 == 1) = false) (z : f7 / 2 = 16) : WayM imm v4 v5 27 5 f7 hi 23 v4 true
  | w27_5n {f7 hi : Int} (h0 : (Go.bits .and .i64 f7 1 == 1) = false) (z : (f7 / 2 == 0) = false) (y : (f7 / 2 == 16) = false) : WayM imm v4 v5 27 5 f7 hi 0 imm false
  | w27_x {f3 f7 hi : Int} (h0 : (Go.bits .and .i64 f7 1 == 1) = false) (c0 : (f3 == 0) = false) (c1 : (f3 == 1) = false) (c5 : (f3 == 5) = false) : WayM imm v4 v5 27 f3 f7 hi 0 imm false
  | w19_1 {f7 : Int} : WayM imm v4 v5 19 1 f7 0 3 v5 true
  | w19_1n {f7 hi : Int} (z : (hi == 0) = false) : WayM imm v4 v5 19 1 f7 hi 0 imm false
  | w19_5 {f7 : Int} : WayM imm v4 v5 19 5 f7 0 7 v5 true
  | w19_5a {f7 : Int} : WayM imm v4 v5 19 5 f7 16 8 v5 true
  | w19_5n {f7 hi : Int} (z : (hi == 0) = false) (y : (hi == 16) = false) : WayM imm v4 v5 19 5 f7 hi 0 imm false
  | w19_x {f3 f7 hi : Int} (c1 : (f3 == 1) = false) (c5 : (f3 == 5) = false) (b1 : (f3 != 1) = true) (b5 : (f3 != 5) = true) : WayM imm v4 v5 19 f3 f7 hi (pickL immsL f3) imm true
theorem imm_way {w rd rs1 rs2 imm op f3 f7 hi v4 v5 fn n : Int} {ok : Bool} (W : World) (O : ∀ W, Calls Tryz.prog 95 #[.int .u32 w] W fun e w' => e = .returned (.int .i64 op) ∧ Drawn0 W w') (F3 : ∀ W, Calls Tryz.prog 96 #[.int .u32 w] W fun e w' => e = .returned (.int .i64 f3) ∧ Drawn0 W w') (F7 : ∀ W, Calls Tryz.prog 129 #[.int .u32 w] W fun e w' => e = .returned (.int .i64 f7) ∧ Drawn0 W w') (BH : ∀ W, Calls Tryz.prog 131 #[.int .u32 w, .int .i64 31, .int .i64 26] W fun e w' => e = .returned (.int .i64 hi) ∧ Drawn0 W w') (B4 : ∀ W, Calls Tryz.prog 131 #[.int .u32 w, .int .i64 24, .int .i64 20] W fun e w' => e = .returned (.int .i64 v4) ∧ Drawn0 W w') (B5 : ∀ W, Calls Tryz.prog 131 #[.int .u32 w, .int .i64 25, .int .i64 20] W fun e w' => e = .returned (.int .i64 v5) ∧ Drawn0 W w') (h : WayM imm v4 v5 op f3 f7 hi fn n ok) :
    Calls Tryz.prog 138 #[.int .u32 w, .agg #[.int .i64 9, .int .i64 0, .int .i64 rd, .int .i64 rs1, .int .i64 rs2, .int .i64 imm, .int .i64 0, .bool false]] W fun e w' => e = .returned (.tuple #[.agg #[.int .i64 9, .int .i64 fn, .int .i64 rd, .int .i64 rs1, .int .i64 rs2, .int .i64 n, .int .i64 0, .bool false], .bool ok]) ∧ Below W.heap.size W w' := by
  have HB := Aside0.mk (Below.refl W.heap.size W)
  have hu23 := Tryz.underlying23
  cases h
  all_goals
    go_enter Tryz.func138, Tryz.ntmps138
    go_wp2_with (first | ((with_reducible refine gate_dst (N := 3) rfl ?_); refine box_event (by rfl) (N := 3) (by rfl) (cs := #[.int .i64 9, .int .i64 0, .int .i64 rd, .int .i64 rs1, .int .i64 rs2, .int .i64 imm, .int .i64 0, .bool false]) (t := 23) (by first | (go_simp; done) | (go_simp; rfl)) ?_; intro gS hg w2 hbox hb; have HS := Aside0.mk hbox; have HB2 := Aside0.mk (below_step HB.out hb); have HLS := Aside0.mk (show W.heap.size ≤ gS by rw [hg]; exact below_size HB.out); clear HB; have HB := HB2; clear HB2 hbox hb hg) | ((with_reducible refine gate_dst (N := 4) rfl ?_); refine box_event (by rfl) (N := 4) (by rfl) (cs := #[.int .i64 0, .int .i64 0, .int .i64 0, .int .i64 0, .int .i64 0, .int .i64 0, .int .i64 0, .bool false]) (t := 23) (by first | (go_simp; done) | (go_simp; rfl)) ?_; intro gR hg w9 hbox hb; have HR := Aside0.mk hbox; have HS2 := Aside0.mk (blk_below (by exact HS.out) hb); have HN := Aside0.mk (show gR ≠ gS by rw [hg]; exact (Nat.ne_of_lt (blk_lt (by exact HS.out))).symm); have HLR := Aside0.mk (show W.heap.size ≤ gR by rw [hg]; exact below_size (by repeat (first | (with_reducible first | exact HB.out | apply below_alloc | apply pw_below_drewN | apply below_drew1) | exact HB.out))); have HB2 := Aside0.mk (below_step (by repeat (first | (with_reducible first | exact HB.out | apply below_alloc | apply pw_below_drewN | apply below_drew1) | exact HB.out)) hb); clear HB HS; have HB := HB2; have HS := HS2; clear HB2 HS2 hbox hb hg; obtain ⟨y0, y1, y2, y3, y4, y5, y6, y7, yf0, yf1, yf2, yf3, yf4, yf5, yf6, yf7⟩ := cells8 HS.out) | (go_at_call 131; (first | (with_reducible refine (BH _).mono ?_) | (with_reducible refine (B4 _).mono ?_) | (with_reducible refine (B5 _).mono ?_)); rintro e w' ⟨rfl, ⟨nd, rfl⟩⟩) | (go_at_call 95; (first | (with_reducible refine (O _).mono ?_)); rintro e w' ⟨rfl, ⟨nd, rfl⟩⟩) | (go_at_call 96; (first | (with_reducible refine (F3 _).mono ?_)); rintro e w' ⟨rfl, ⟨nd, rfl⟩⟩) | (go_at_call 129; (first | (with_reducible refine (F7 _).mono ?_)); rintro e w' ⟨rfl, ⟨nd, rfl⟩⟩) | (go_at_call 130; (with_reducible first | refine litg1 (o := (.cells #[.int .i64 1, .int .i64 0, .int .i64 4, .int .i64 5, .int .i64 6, .int .i64 0, .int .i64 9, .int .i64 10] 3)) ?_ | refine litg2 (o := (.cells #[.int .i64 1, .int .i64 0, .int .i64 4, .int .i64 5, .int .i64 6, .int .i64 0, .int .i64 9, .int .i64 10] 3)) ?_); refine (pick_at immsL _ (by unfold immsL; repeat (first | exact lit_C _ _ (by decide) | apply Kd.C_drewN | apply Kd.C_drew)) rfl (by decide)).mono ?_; rintro e w' ⟨rfl, ⟨nd, rfl⟩⟩; have HR2 := Aside0.mk (blk_alloc HR.out (.cells #[.int .i64 1, .int .i64 0, .int .i64 4, .int .i64 5, .int .i64 6, .int .i64 0, .int .i64 9, .int .i64 10] 3)); have HS2 := Aside0.mk (blk_alloc HS.out (.cells #[.int .i64 1, .int .i64 0, .int .i64 4, .int .i64 5, .int .i64 6, .int .i64 0, .int .i64 9, .int .i64 10] 3)); clear HR HS y0 y1 y2 y3 y4 y5 y6 y7 yf0 yf1 yf2 yf3 yf4 yf5 yf6 yf7; have HR := HR2; have HS := HS2; clear HR2 HS2; obtain ⟨y0, y1, y2, y3, y4, y5, y6, y7, yf0, yf1, yf2, yf3, yf4, yf5, yf6, yf7⟩ := cells8 HS.out) | ((with_reducible refine gate_any rfl ?_); refine setF rfl rfl HS.out rfl (by first | (go_simp; done) | (go_simp; rfl)) (by simp) (by kernel_rfl) rfl rfl ?_; intro w7 hbox hfar hbel; simp only [putS] at hbox; have HS2 := Aside0.mk hbox; have HR2 := Aside0.mk (far_blk hfar HN.out HR.out); have HB2 := Aside0.mk (hbel _ _ (by repeat (first | (with_reducible first | exact HB.out | apply below_alloc | apply pw_below_drewN | apply below_drew1) | exact HB.out)) HLS.out); clear hbox hfar hbel HS HR HB y0 y1 y2 y3 y4 y5 y6 y7 yf0 yf1 yf2 yf3 yf4 yf5 yf6 yf7; have HS := HS2; have HR := HR2; have HB := HB2; clear HS2 HR2 HB2; obtain ⟨y0, y1, y2, y3, y4, y5, y6, y7, yf0, yf1, yf2, yf3, yf4, yf5, yf6, yf7⟩ := cells8 HS.out) | ((with_reducible refine gate_any rfl ?_); refine setR rfl rfl HR.out rfl rfl (by kernel_rfl) rfl rfl ?_; intro w8 hbox hfar hbel; have HR2 := Aside0.mk hbox; have HS2 := Aside0.mk (far_blk hfar (fun e => HN.out e.symm) HS.out); have HB2 := Aside0.mk (hbel _ _ (by repeat (first | (with_reducible first | exact HB.out | apply below_alloc | apply pw_below_drewN | apply below_drew1) | exact HB.out)) HLR.out); clear hbox hfar hbel HS HR HB y0 y1 y2 y3 y4 y5 y6 y7 yf0 yf1 yf2 yf3 yf4 yf5 yf6 yf7; have HS := HS2; have HR := HR2; have HB := HB2; clear HS2 HR2 HB2; obtain ⟨y0, y1, y2, y3, y4, y5, y6, y7, yf0, yf1, yf2, yf3, yf4, yf5, yf6, yf7⟩ := cells8 HS.out) | fail)
    refine bodyPost_ret (results_ct rfl _ _ gR 23 _ (0, 0) _ rfl HR.out Tryz.underlying23 rfl (by kernel_rfl)) rfl ?_
    exact ⟨rfl, (by repeat (first | (with_reducible first | exact HB.out | apply below_alloc | apply pw_below_drewN | apply below_drew1) | exact HB.out))⟩

end Go.Proofs.YtjapahcbhjjeiaaGreatDoor.AS

/- inst.immediate's contract over the plain model. -/
namespace Go.Proofs.YtjapahcbhjjeiaaGreatDoor.AS
open Go.RowKit Go.Proofs.YtjapahcbhjjeiaaGreatDoorW.PrintWords Go.Proofs.YtjapahcbhjjeiaaGreatDoorW.PrintLast Go.Proofs.YtjapahcbhjjeiaaGreatDoorW.PrintMore Go.Proofs.YtjapahcbhjjeiaaGreatDoor.PA
set_option linter.unusedVariables false
set_option linter.unusedSimpArgs false

def immOut (w rd rs1 rs2 imm : Int) : Int × Int × Bool := match immediateL w imm with
  | some r => (r.1, r.2, true)
  | none => (0, imm, false)

theorem beq_f {a b : Int} (h : a ≠ b) : (a == b) = false := by simpa using h
theorem bne_t {a b : Int} (h : a ≠ b) : (a != b) = true := by simpa using h

theorem immediate_calls {w rd rs1 rs2 imm : Int} (W : World) (w0 : 0 ≤ w) (w1 : w < 4294967296) (hop : opW w = 27 ∨ opW w = 19) :
    Calls Tryz.prog 138 #[.int .u32 w, .agg #[.int .i64 9, .int .i64 0, .int .i64 rd, .int .i64 rs1, .int .i64 rs2, .int .i64 imm, .int .i64 0, .bool false]] W fun e w' =>
      e = .returned (.tuple #[.agg #[.int .i64 9, .int .i64 (immOut w rd rs1 rs2 imm).1, .int .i64 rd, .int .i64 rs1, .int .i64 rs2, .int .i64 (immOut w rd rs1 rs2 imm).2.1, .int .i64 0, .bool false], .bool (immOut w rd rs1 rs2 imm).2.2]) ∧ Below W.heap.size W w' := by
  have F3 : ∀ c, f3W w = c → ∀ W, Calls Tryz.prog 96 #[.int .u32 w] W fun e w' => e = .returned (.int .i64 c) ∧ Drawn0 W w' := fun c e W => by rw [← e]; exact f3_calls W w0 w1
  have O : ∀ c, opW w = c → ∀ W, Calls Tryz.prog 95 #[.int .u32 w] W fun e w' => e = .returned (.int .i64 c) ∧ Drawn0 W w' := fun c e W => by rw [← e]; exact op_calls W w0 w1
  have F7 : ∀ W, Calls Tryz.prog 129 #[.int .u32 w] W fun e w' => e = .returned (.int .i64 (f7W w)) ∧ Drawn0 W w' := fun W => f7_calls W w0 w1
  have BH : ∀ c, fl w 31 26 = c → ∀ W, Calls Tryz.prog 131 #[.int .u32 w, .int .i64 31, .int .i64 26] W fun e w' => e = .returned (.int .i64 c) ∧ Drawn0 W w' := fun c e W => by rw [← e]; exact bits_lit 31 26 W w0 w1 (by decide) (by decide) rfl rfl
  have B24 : ∀ W, Calls Tryz.prog 131 #[.int .u32 w, .int .i64 24, .int .i64 20] W fun e w' => e = .returned (.int .i64 (fl w 24 20)) ∧ Drawn0 W w' := fun W => bits_lit 24 20 W w0 w1 (by decide) (by decide) rfl rfl
  have B25 : ∀ W, Calls Tryz.prog 131 #[.int .u32 w, .int .i64 25, .int .i64 20] W fun e w' => e = .returned (.int .i64 (fl w 25 20)) ∧ Drawn0 W w' := fun W => bits_lit 25 20 W w0 w1 (by decide) (by decide) rfl rfl
  have h7 := f7W_b w
  have ha : Go.bits .and .i64 (f7W w) 1 = f7W w % 2 := and_i64 (f7W w) 1 (by omega) (by omega) (by omega)
  rcases hop with hop | hop
  · by_cases c0 : f3W w = 0
    · have e : immOut w rd rs1 rs2 imm = (19, imm, true) := by simp [immOut, immediateL, hop, c0]
      rw [e]
      by_cases od : f7W w % 2 = 1
      · exact imm_way W (O _ hop) (F3 _ c0) F7 (BH _ rfl) B24 B25 (.w27_0o (by rw [ha, od]; rfl))
      · exact imm_way W (O _ hop) (F3 _ c0) F7 (BH _ rfl) B24 B25 (.w27_0e (by rw [ha]; exact beq_f od))
    by_cases od : f7W w % 2 = 1
    · have n0 : f7W w ≠ 0 := by omega
      have n1 : f7W w ≠ 32 := by omega
      have e : immOut w rd rs1 rs2 imm = (0, imm, false) := by simp [immOut, immediateL, hop, c0, n0, n1]
      rw [e]
      have hod : (Go.bits .and .i64 (f7W w) 1 == 1) = true := by rw [ha, od]; rfl
      by_cases c1 : f3W w = 1
      · exact imm_way W (O _ hop) (F3 _ c1) F7 (BH _ rfl) B24 B25 (.w27_o1 hod)
      by_cases c5 : f3W w = 5
      · exact imm_way W (O _ hop) (F3 _ c5) F7 (BH _ rfl) B24 B25 (.w27_o5 hod)
      exact imm_way W (O _ hop) (F3 _ rfl) F7 (BH _ rfl) B24 B25 (.w27_ox hod (beq_f c0) (beq_f c1) (beq_f c5))
    have hev : (Go.bits .and .i64 (f7W w) 1 == 1) = false := by rw [ha]; exact beq_f od
    by_cases c1 : f3W w = 1
    · by_cases z : f7W w / 2 = 0
      · have z' : f7W w = 0 := by omega
        have e : immOut w rd rs1 rs2 imm = (21, fl w 24 20, true) := by simp [immOut, immediateL, hop, c1, z']
        rw [e]
        exact imm_way W (O _ hop) (F3 _ c1) F7 (BH _ rfl) B24 B25 (.w27_1 hev z)
      · have z' : f7W w ≠ 0 := by omega
        have e : immOut w rd rs1 rs2 imm = (0, imm, false) := by simp [immOut, immediateL, hop, c1, z']
        rw [e]
        exact imm_way W (O _ hop) (F3 _ c1) F7 (BH _ rfl) B24 B25 (.w27_1n hev (beq_f z))
    by_cases c5 : f3W w = 5
    · by_cases z : f7W w / 2 = 0
      · have z' : f7W w = 0 := by omega
        have e : immOut w rd rs1 rs2 imm = (22, fl w 24 20, true) := by simp [immOut, immediateL, hop, c5, z']
        rw [e]
        exact imm_way W (O _ hop) (F3 _ c5) F7 (BH _ rfl) B24 B25 (.w27_5 hev z)
      by_cases y : f7W w / 2 = 16
      · have y' : f7W w = 32 := by omega
        have e : immOut w rd rs1 rs2 imm = (23, fl w 24 20, true) := by simp [immOut, immediateL, hop, c5, y']
        rw [e]
        exact imm_way W (O _ hop) (F3 _ c5) F7 (BH _ rfl) B24 B25 (.w27_5a hev y)
      · have z' : f7W w ≠ 0 := by omega
        have y' : f7W w ≠ 32 := by omega
        have e : immOut w rd rs1 rs2 imm = (0, imm, false) := by simp [immOut, immediateL, hop, c5, z', y']
        rw [e]
        exact imm_way W (O _ hop) (F3 _ c5) F7 (BH _ rfl) B24 B25 (.w27_5n hev (beq_f z) (beq_f y))
    have e : immOut w rd rs1 rs2 imm = (0, imm, false) := by simp [immOut, immediateL, hop, c0, c1, c5]
    rw [e]
    exact imm_way W (O _ hop) (F3 _ rfl) F7 (BH _ rfl) B24 B25 (.w27_x hev (beq_f c0) (beq_f c1) (beq_f c5))
  · by_cases c1 : f3W w = 1
    · by_cases z : fl w 31 26 = 0
      · have e : immOut w rd rs1 rs2 imm = (3, fl w 25 20, true) := by simp [immOut, immediateL, hop, c1, z]
        rw [e]
        exact imm_way W (O _ hop) (F3 _ c1) F7 (BH _ z) B24 B25 (.w19_1)
      · have e : immOut w rd rs1 rs2 imm = (0, imm, false) := by simp [immOut, immediateL, hop, c1, z]
        rw [e]
        exact imm_way W (O _ hop) (F3 _ c1) F7 (BH _ rfl) B24 B25 (.w19_1n (beq_f z))
    by_cases c5 : f3W w = 5
    · by_cases z : fl w 31 26 = 0
      · have e : immOut w rd rs1 rs2 imm = (7, fl w 25 20, true) := by simp [immOut, immediateL, hop, c5, z]
        rw [e]
        exact imm_way W (O _ hop) (F3 _ c5) F7 (BH _ z) B24 B25 (.w19_5)
      by_cases y : fl w 31 26 = 16
      · have e : immOut w rd rs1 rs2 imm = (8, fl w 25 20, true) := by simp [immOut, immediateL, hop, c5, y]
        rw [e]
        exact imm_way W (O _ hop) (F3 _ c5) F7 (BH _ y) B24 B25 (.w19_5a)
      · have e : immOut w rd rs1 rs2 imm = (0, imm, false) := by simp [immOut, immediateL, hop, c5, z, y]
        rw [e]
        exact imm_way W (O _ hop) (F3 _ c5) F7 (BH _ rfl) B24 B25 (.w19_5n (beq_f z) (beq_f y))
    have e : immOut w rd rs1 rs2 imm = (pickL immsL (f3W w), imm, true) := by simp [immOut, immediateL, hop, c1, c5]
    rw [e]
    exact imm_way W (O _ hop) (F3 _ rfl) F7 (BH _ rfl) B24 B25 (.w19_x (beq_f c1) (beq_f c5) (bne_t c1) (bne_t c5))

end Go.Proofs.YtjapahcbhjjeiaaGreatDoor.AS
