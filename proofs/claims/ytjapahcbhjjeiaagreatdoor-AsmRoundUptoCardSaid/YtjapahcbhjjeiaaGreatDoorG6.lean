/- The walk of inst.immediate, case by case. -/
import Derived.Test.YtjapahcbhjjeiaaGreatDoorF1
import Derived.Test.YtjapahcbhjjeiaaGreatDoorG2
namespace Go.Proofs.YtjapahcbhjjeiaaGreatDoor.AS
open Go.RowKit Go.Proofs.YtjapahcbhjjeiaaGreatDoorW.PrintWords Go.Proofs.YtjapahcbhjjeiaaGreatDoorW.PrintLast Go.Proofs.YtjapahcbhjjeiaaGreatDoorW.PrintMore Go.Proofs.YtjapahcbhjjeiaaGreatDoor.PA
set_option linter.unusedVariables false
set_option maxHeartbeats 4000000
set_option maxRecDepth 100000
set_option linter.unusedSimpArgs false

theorem imm27_0o {w rd rs1 rs2 imm f3 f7 hi v : Int} (W : World) (O : ∀ W, Calls Tryz.prog 95 #[.int .u32 w] W fun e w' => e = .returned (.int .i64 27) ∧ Drawn0 W w') (F3 : ∀ W, Calls Tryz.prog 96 #[.int .u32 w] W fun e w' => e = .returned (.int .i64 0) ∧ Drawn0 W w')
    (F7 : ∀ W, Calls Tryz.prog 129 #[.int .u32 w] W fun e w' => e = .returned (.int .i64 f7) ∧ Drawn0 W w') (BH : ∀ W, Calls Tryz.prog 131 #[.int .u32 w, .int .i64 31, .int .i64 26] W fun e w' => e = .returned (.int .i64 hi) ∧ Drawn0 W w')
    (BV : ∀ W, Calls Tryz.prog 131 #[.int .u32 w, .int .i64 24, .int .i64 20] W fun e w' => e = .returned (.int .i64 v) ∧ Drawn0 W w') (h0 : (Go.bits .and .i64 f7 1 == 1) = true) :
    Calls Tryz.prog 138 #[.int .u32 w, .agg #[.int .i64 9, .int .i64 0, .int .i64 rd, .int .i64 rs1, .int .i64 rs2, .int .i64 imm, .int .i64 0, .bool false]] W fun e w' => e = .returned (.tuple #[.agg #[.int .i64 9, .int .i64 19, .int .i64 rd, .int .i64 rs1, .int .i64 rs2, .int .i64 imm, .int .i64 0, .bool false], .bool true]) ∧ Below W.heap.size W w' := by
  have HB := Aside0.mk (Below.refl W.heap.size W)
  have hu23 := Tryz.underlying23
  go_enter Tryz.func138, Tryz.ntmps138
  go_wp2_with (first | ((with_reducible refine gate_dst (N := 3) rfl ?_); refine box_event (by rfl) (N := 3) (by rfl) (cs := #[.int .i64 9, .int .i64 0, .int .i64 rd, .int .i64 rs1, .int .i64 rs2, .int .i64 imm, .int .i64 0, .bool false]) (t := 23) (by first | (go_simp; done) | (go_simp; rfl)) ?_; intro g3 hg w3 hbox hb; have H3 := Aside0.mk hbox; have HB' := Aside0.mk (below_step HB.out hb); have HL3 := Aside0.mk (show W.heap.size ≤ g3 by omega); clear HB; have HB := HB'; clear HB'; clear hbox hb hg) | ((with_reducible refine gate_dst (N := 4) rfl ?_); refine box_event (by rfl) (N := 4) (by rfl) (cs := #[.int .i64 0, .int .i64 0, .int .i64 0, .int .i64 0, .int .i64 0, .int .i64 0, .int .i64 0, .bool false]) (t := 23) (by first | (go_simp; done) | (go_simp; rfl)) ?_; intro g4 hg w4 hbox hb; have H4 := Aside0.mk hbox; have HB' := Aside0.mk (below_step HB.out hb); have H3' := Aside0.mk (blk_below H3.out hb); have HL4 := Aside0.mk (show W.heap.size ≤ g4 by have h1 := HB.out.size; omega); have HN := Aside0.mk (show g3 ≠ g4 by have h1 := blk_lt H3.out; omega); clear HB H3; have HB := HB'; have H3 := H3'; clear HB' H3'; obtain ⟨y0, y1, y2, y3, y4, y5, y6, y7, yf0, yf1, yf2, yf3, yf4, yf5, yf6, yf7⟩ := cells8 H3.out; clear hbox hb hg) | fail)
  refine (BH _).mono ?_
  rintro e w' ⟨rfl, ⟨nd5, rfl⟩⟩
  go_wp2_with fail
  refine (O _).mono ?_
  rintro e w' ⟨rfl, ⟨nd, rfl⟩⟩
  go_wp2_with fail
  refine (F7 _).mono ?_
  rintro e w' ⟨rfl, ⟨nd, rfl⟩⟩
  go_wp2_with fail
  refine (F7 _).mono ?_
  rintro e w' ⟨rfl, ⟨nd, rfl⟩⟩
  go_wp2_with fail
  refine (O _).mono ?_
  rintro e w' ⟨rfl, ⟨nd, rfl⟩⟩
  go_wp2_with fail
  refine (F3 _).mono ?_
  rintro e w' ⟨rfl, ⟨nd, rfl⟩⟩
  go_wp2_with (first | ((with_reducible refine gate_store (t := 3) rfl ?_); refine set_event rfl 3 _ _ rfl (g := g3) 1 (.int .i64 19) #[.int .i64 9, .int .i64 19, .int .i64 rd, .int .i64 rs1, .int .i64 rs2, .int .i64 imm, .int .i64 0, .bool false] H3.out (by simp) rfl rfl (by kernel_rfl) rfl rfl rfl ?_; intro w20 hbox hfar hbel; have H3' := Aside0.mk hbox; have H4' := Aside0.mk (far_blk hfar (fun e => HN.out e.symm) H4.out); have HB' := Aside0.mk (hbel _ _ (by repeat (first | (with_reducible first | exact HB.out | apply below_alloc | apply pw_below_drewN | apply below_drew1) | exact HB.out)) HL3.out); clear hbox hfar hbel H3 H4 HB y0 y1 y2 y3 y4 y5 y6 y7 yf0 yf1 yf2 yf3 yf4 yf5 yf6 yf7; have H3 := H3'; have H4 := H4'; have HB := HB'; clear H3' H4' HB'; obtain ⟨y0, y1, y2, y3, y4, y5, y6, y7, yf0, yf1, yf2, yf3, yf4, yf5, yf6, yf7⟩ := cells8 H3.out) | ((with_reducible refine gate_store (t := 23) rfl ?_); refine store_event rfl 23 (.tmp 4) (.tmp 35) rfl (g := g4) #[.int .i64 9, .int .i64 19, .int .i64 rd, .int .i64 rs1, .int .i64 rs2, .int .i64 imm, .int .i64 0, .bool false] H4.out rfl rfl (by kernel_rfl) rfl rfl ?_; intro w30 hbox hfar hbel; have H4' := Aside0.mk hbox; have HB' := Aside0.mk (hbel _ _ (by repeat (first | (with_reducible first | exact HB.out | apply below_alloc | apply pw_below_drewN | apply below_drew1) | exact HB.out)) HL4.out); clear hbox hfar hbel H4 H3 HB; have H4 := H4'; have HB := HB'; clear H4' HB') | fail)
  refine bodyPost_ret (results_ct rfl _ _ g4 23 #[.int .i64 9, .int .i64 19, .int .i64 rd, .int .i64 rs1, .int .i64 rs2, .int .i64 imm, .int .i64 0, .bool false] (0, 0) _ rfl H4.out Tryz.underlying23 rfl (by kernel_rfl)) rfl ?_
  exact ⟨rfl, HB.out⟩

theorem imm27_0e {w rd rs1 rs2 imm f3 f7 hi v : Int} (W : World) (O : ∀ W, Calls Tryz.prog 95 #[.int .u32 w] W fun e w' => e = .returned (.int .i64 27) ∧ Drawn0 W w') (F3 : ∀ W, Calls Tryz.prog 96 #[.int .u32 w] W fun e w' => e = .returned (.int .i64 0) ∧ Drawn0 W w')
    (F7 : ∀ W, Calls Tryz.prog 129 #[.int .u32 w] W fun e w' => e = .returned (.int .i64 f7) ∧ Drawn0 W w') (BH : ∀ W, Calls Tryz.prog 131 #[.int .u32 w, .int .i64 31, .int .i64 26] W fun e w' => e = .returned (.int .i64 hi) ∧ Drawn0 W w')
    (BV : ∀ W, Calls Tryz.prog 131 #[.int .u32 w, .int .i64 24, .int .i64 20] W fun e w' => e = .returned (.int .i64 v) ∧ Drawn0 W w') (h0 : (Go.bits .and .i64 f7 1 == 1) = false) :
    Calls Tryz.prog 138 #[.int .u32 w, .agg #[.int .i64 9, .int .i64 0, .int .i64 rd, .int .i64 rs1, .int .i64 rs2, .int .i64 imm, .int .i64 0, .bool false]] W fun e w' => e = .returned (.tuple #[.agg #[.int .i64 9, .int .i64 19, .int .i64 rd, .int .i64 rs1, .int .i64 rs2, .int .i64 imm, .int .i64 0, .bool false], .bool true]) ∧ Below W.heap.size W w' := by
  have HB := Aside0.mk (Below.refl W.heap.size W)
  have hu23 := Tryz.underlying23
  go_enter Tryz.func138, Tryz.ntmps138
  go_wp2_with (first | ((with_reducible refine gate_dst (N := 3) rfl ?_); refine box_event (by rfl) (N := 3) (by rfl) (cs := #[.int .i64 9, .int .i64 0, .int .i64 rd, .int .i64 rs1, .int .i64 rs2, .int .i64 imm, .int .i64 0, .bool false]) (t := 23) (by first | (go_simp; done) | (go_simp; rfl)) ?_; intro g3 hg w3 hbox hb; have H3 := Aside0.mk hbox; have HB' := Aside0.mk (below_step HB.out hb); have HL3 := Aside0.mk (show W.heap.size ≤ g3 by omega); clear HB; have HB := HB'; clear HB'; clear hbox hb hg) | ((with_reducible refine gate_dst (N := 4) rfl ?_); refine box_event (by rfl) (N := 4) (by rfl) (cs := #[.int .i64 0, .int .i64 0, .int .i64 0, .int .i64 0, .int .i64 0, .int .i64 0, .int .i64 0, .bool false]) (t := 23) (by first | (go_simp; done) | (go_simp; rfl)) ?_; intro g4 hg w4 hbox hb; have H4 := Aside0.mk hbox; have HB' := Aside0.mk (below_step HB.out hb); have H3' := Aside0.mk (blk_below H3.out hb); have HL4 := Aside0.mk (show W.heap.size ≤ g4 by have h1 := HB.out.size; omega); have HN := Aside0.mk (show g3 ≠ g4 by have h1 := blk_lt H3.out; omega); clear HB H3; have HB := HB'; have H3 := H3'; clear HB' H3'; obtain ⟨y0, y1, y2, y3, y4, y5, y6, y7, yf0, yf1, yf2, yf3, yf4, yf5, yf6, yf7⟩ := cells8 H3.out; clear hbox hb hg) | fail)
  refine (BH _).mono ?_
  rintro e w' ⟨rfl, ⟨nd5, rfl⟩⟩
  go_wp2_with fail
  refine (O _).mono ?_
  rintro e w' ⟨rfl, ⟨nd, rfl⟩⟩
  go_wp2_with fail
  refine (F7 _).mono ?_
  rintro e w' ⟨rfl, ⟨nd, rfl⟩⟩
  go_wp2_with fail
  refine (F7 _).mono ?_
  rintro e w' ⟨rfl, ⟨nd, rfl⟩⟩
  go_wp2_with fail
  refine (O _).mono ?_
  rintro e w' ⟨rfl, ⟨nd, rfl⟩⟩
  go_wp2_with fail
  refine (F3 _).mono ?_
  rintro e w' ⟨rfl, ⟨nd, rfl⟩⟩
  go_wp2_with (first | ((with_reducible refine gate_store (t := 3) rfl ?_); refine set_event rfl 3 _ _ rfl (g := g3) 1 (.int .i64 19) #[.int .i64 9, .int .i64 19, .int .i64 rd, .int .i64 rs1, .int .i64 rs2, .int .i64 imm, .int .i64 0, .bool false] H3.out (by simp) rfl rfl (by kernel_rfl) rfl rfl rfl ?_; intro w20 hbox hfar hbel; have H3' := Aside0.mk hbox; have H4' := Aside0.mk (far_blk hfar (fun e => HN.out e.symm) H4.out); have HB' := Aside0.mk (hbel _ _ (by repeat (first | (with_reducible first | exact HB.out | apply below_alloc | apply pw_below_drewN | apply below_drew1) | exact HB.out)) HL3.out); clear hbox hfar hbel H3 H4 HB y0 y1 y2 y3 y4 y5 y6 y7 yf0 yf1 yf2 yf3 yf4 yf5 yf6 yf7; have H3 := H3'; have H4 := H4'; have HB := HB'; clear H3' H4' HB'; obtain ⟨y0, y1, y2, y3, y4, y5, y6, y7, yf0, yf1, yf2, yf3, yf4, yf5, yf6, yf7⟩ := cells8 H3.out) | ((with_reducible refine gate_store (t := 23) rfl ?_); refine store_event rfl 23 (.tmp 4) (.tmp 35) rfl (g := g4) #[.int .i64 9, .int .i64 19, .int .i64 rd, .int .i64 rs1, .int .i64 rs2, .int .i64 imm, .int .i64 0, .bool false] H4.out rfl rfl (by kernel_rfl) rfl rfl ?_; intro w30 hbox hfar hbel; have H4' := Aside0.mk hbox; have HB' := Aside0.mk (hbel _ _ (by repeat (first | (with_reducible first | exact HB.out | apply below_alloc | apply pw_below_drewN | apply below_drew1) | exact HB.out)) HL4.out); clear hbox hfar hbel H4 H3 HB; have H4 := H4'; have HB := HB'; clear H4' HB') | fail)
  refine bodyPost_ret (results_ct rfl _ _ g4 23 #[.int .i64 9, .int .i64 19, .int .i64 rd, .int .i64 rs1, .int .i64 rs2, .int .i64 imm, .int .i64 0, .bool false] (0, 0) _ rfl H4.out Tryz.underlying23 rfl (by kernel_rfl)) rfl ?_
  exact ⟨rfl, HB.out⟩

theorem imm27_o1 {w rd rs1 rs2 imm f3 f7 hi v : Int} (W : World) (O : ∀ W, Calls Tryz.prog 95 #[.int .u32 w] W fun e w' => e = .returned (.int .i64 27) ∧ Drawn0 W w') (F3 : ∀ W, Calls Tryz.prog 96 #[.int .u32 w] W fun e w' => e = .returned (.int .i64 1) ∧ Drawn0 W w')
    (F7 : ∀ W, Calls Tryz.prog 129 #[.int .u32 w] W fun e w' => e = .returned (.int .i64 f7) ∧ Drawn0 W w') (BH : ∀ W, Calls Tryz.prog 131 #[.int .u32 w, .int .i64 31, .int .i64 26] W fun e w' => e = .returned (.int .i64 hi) ∧ Drawn0 W w')
    (BV : ∀ W, Calls Tryz.prog 131 #[.int .u32 w, .int .i64 24, .int .i64 20] W fun e w' => e = .returned (.int .i64 v) ∧ Drawn0 W w') (h0 : (Go.bits .and .i64 f7 1 == 1) = true) :
    Calls Tryz.prog 138 #[.int .u32 w, .agg #[.int .i64 9, .int .i64 0, .int .i64 rd, .int .i64 rs1, .int .i64 rs2, .int .i64 imm, .int .i64 0, .bool false]] W fun e w' => e = .returned (.tuple #[.agg #[.int .i64 9, .int .i64 0, .int .i64 rd, .int .i64 rs1, .int .i64 rs2, .int .i64 imm, .int .i64 0, .bool false], .bool false]) ∧ Below W.heap.size W w' := by
  have HB := Aside0.mk (Below.refl W.heap.size W)
  have hu23 := Tryz.underlying23
  go_enter Tryz.func138, Tryz.ntmps138
  go_wp2_with (first | ((with_reducible refine gate_dst (N := 3) rfl ?_); refine box_event (by rfl) (N := 3) (by rfl) (cs := #[.int .i64 9, .int .i64 0, .int .i64 rd, .int .i64 rs1, .int .i64 rs2, .int .i64 imm, .int .i64 0, .bool false]) (t := 23) (by first | (go_simp; done) | (go_simp; rfl)) ?_; intro g3 hg w3 hbox hb; have H3 := Aside0.mk hbox; have HB' := Aside0.mk (below_step HB.out hb); have HL3 := Aside0.mk (show W.heap.size ≤ g3 by omega); clear HB; have HB := HB'; clear HB'; clear hbox hb hg) | ((with_reducible refine gate_dst (N := 4) rfl ?_); refine box_event (by rfl) (N := 4) (by rfl) (cs := #[.int .i64 0, .int .i64 0, .int .i64 0, .int .i64 0, .int .i64 0, .int .i64 0, .int .i64 0, .bool false]) (t := 23) (by first | (go_simp; done) | (go_simp; rfl)) ?_; intro g4 hg w4 hbox hb; have H4 := Aside0.mk hbox; have HB' := Aside0.mk (below_step HB.out hb); have H3' := Aside0.mk (blk_below H3.out hb); have HL4 := Aside0.mk (show W.heap.size ≤ g4 by have h1 := HB.out.size; omega); have HN := Aside0.mk (show g3 ≠ g4 by have h1 := blk_lt H3.out; omega); clear HB H3; have HB := HB'; have H3 := H3'; clear HB' H3'; obtain ⟨y0, y1, y2, y3, y4, y5, y6, y7, yf0, yf1, yf2, yf3, yf4, yf5, yf6, yf7⟩ := cells8 H3.out; clear hbox hb hg) | fail)
  refine (BH _).mono ?_
  rintro e w' ⟨rfl, ⟨nd5, rfl⟩⟩
  go_wp2_with fail
  refine (O _).mono ?_
  rintro e w' ⟨rfl, ⟨nd, rfl⟩⟩
  go_wp2_with fail
  refine (F7 _).mono ?_
  rintro e w' ⟨rfl, ⟨nd, rfl⟩⟩
  go_wp2_with fail
  refine (F7 _).mono ?_
  rintro e w' ⟨rfl, ⟨nd, rfl⟩⟩
  go_wp2_with fail
  refine (O _).mono ?_
  rintro e w' ⟨rfl, ⟨nd, rfl⟩⟩
  go_wp2_with fail
  refine (F3 _).mono ?_
  rintro e w' ⟨rfl, ⟨nd, rfl⟩⟩
  go_wp2_with fail
  refine (F3 _).mono ?_
  rintro e w' ⟨rfl, ⟨nd, rfl⟩⟩
  go_wp2_with fail
  refine (F3 _).mono ?_
  rintro e w' ⟨rfl, ⟨nd, rfl⟩⟩
  go_wp2_with fail
  refine (F3 _).mono ?_
  rintro e w' ⟨rfl, ⟨nd, rfl⟩⟩
  go_wp2_with fail
  refine (O _).mono ?_
  rintro e w' ⟨rfl, ⟨nd, rfl⟩⟩
  go_wp2_with (first | ((with_reducible refine gate_store (t := 23) rfl ?_); refine store_event rfl 23 (.tmp 4) (.tmp 24) rfl (g := g4) #[.int .i64 9, .int .i64 0, .int .i64 rd, .int .i64 rs1, .int .i64 rs2, .int .i64 imm, .int .i64 0, .bool false] H4.out rfl rfl (by kernel_rfl) rfl rfl ?_; intro w30 hbox hfar hbel; have H4' := Aside0.mk hbox; have HB' := Aside0.mk (hbel _ _ (by repeat (first | (with_reducible first | exact HB.out | apply below_alloc | apply pw_below_drewN | apply below_drew1) | exact HB.out)) HL4.out); clear hbox hfar hbel H4 H3 HB; have H4 := H4'; have HB := HB'; clear H4' HB') | fail)
  refine bodyPost_ret (results_ct rfl _ _ g4 23 #[.int .i64 9, .int .i64 0, .int .i64 rd, .int .i64 rs1, .int .i64 rs2, .int .i64 imm, .int .i64 0, .bool false] (0, 0) _ rfl H4.out Tryz.underlying23 rfl (by kernel_rfl)) rfl ?_
  exact ⟨rfl, HB.out⟩

theorem imm27_o5 {w rd rs1 rs2 imm f3 f7 hi v : Int} (W : World) (O : ∀ W, Calls Tryz.prog 95 #[.int .u32 w] W fun e w' => e = .returned (.int .i64 27) ∧ Drawn0 W w') (F3 : ∀ W, Calls Tryz.prog 96 #[.int .u32 w] W fun e w' => e = .returned (.int .i64 5) ∧ Drawn0 W w')
    (F7 : ∀ W, Calls Tryz.prog 129 #[.int .u32 w] W fun e w' => e = .returned (.int .i64 f7) ∧ Drawn0 W w') (BH : ∀ W, Calls Tryz.prog 131 #[.int .u32 w, .int .i64 31, .int .i64 26] W fun e w' => e = .returned (.int .i64 hi) ∧ Drawn0 W w')
    (BV : ∀ W, Calls Tryz.prog 131 #[.int .u32 w, .int .i64 24, .int .i64 20] W fun e w' => e = .returned (.int .i64 v) ∧ Drawn0 W w') (h0 : (Go.bits .and .i64 f7 1 == 1) = true) :
    Calls Tryz.prog 138 #[.int .u32 w, .agg #[.int .i64 9, .int .i64 0, .int .i64 rd, .int .i64 rs1, .int .i64 rs2, .int .i64 imm, .int .i64 0, .bool false]] W fun e w' => e = .returned (.tuple #[.agg #[.int .i64 9, .int .i64 0, .int .i64 rd, .int .i64 rs1, .int .i64 rs2, .int .i64 imm, .int .i64 0, .bool false], .bool false]) ∧ Below W.heap.size W w' := by
  have HB := Aside0.mk (Below.refl W.heap.size W)
  have hu23 := Tryz.underlying23
  go_enter Tryz.func138, Tryz.ntmps138
  go_wp2_with (first | ((with_reducible refine gate_dst (N := 3) rfl ?_); refine box_event (by rfl) (N := 3) (by rfl) (cs := #[.int .i64 9, .int .i64 0, .int .i64 rd, .int .i64 rs1, .int .i64 rs2, .int .i64 imm, .int .i64 0, .bool false]) (t := 23) (by first | (go_simp; done) | (go_simp; rfl)) ?_; intro g3 hg w3 hbox hb; have H3 := Aside0.mk hbox; have HB' := Aside0.mk (below_step HB.out hb); have HL3 := Aside0.mk (show W.heap.size ≤ g3 by omega); clear HB; have HB := HB'; clear HB'; clear hbox hb hg) | ((with_reducible refine gate_dst (N := 4) rfl ?_); refine box_event (by rfl) (N := 4) (by rfl) (cs := #[.int .i64 0, .int .i64 0, .int .i64 0, .int .i64 0, .int .i64 0, .int .i64 0, .int .i64 0, .bool false]) (t := 23) (by first | (go_simp; done) | (go_simp; rfl)) ?_; intro g4 hg w4 hbox hb; have H4 := Aside0.mk hbox; have HB' := Aside0.mk (below_step HB.out hb); have H3' := Aside0.mk (blk_below H3.out hb); have HL4 := Aside0.mk (show W.heap.size ≤ g4 by have h1 := HB.out.size; omega); have HN := Aside0.mk (show g3 ≠ g4 by have h1 := blk_lt H3.out; omega); clear HB H3; have HB := HB'; have H3 := H3'; clear HB' H3'; obtain ⟨y0, y1, y2, y3, y4, y5, y6, y7, yf0, yf1, yf2, yf3, yf4, yf5, yf6, yf7⟩ := cells8 H3.out; clear hbox hb hg) | fail)
  refine (BH _).mono ?_
  rintro e w' ⟨rfl, ⟨nd5, rfl⟩⟩
  go_wp2_with fail
  refine (O _).mono ?_
  rintro e w' ⟨rfl, ⟨nd, rfl⟩⟩
  go_wp2_with fail
  refine (F7 _).mono ?_
  rintro e w' ⟨rfl, ⟨nd, rfl⟩⟩
  go_wp2_with fail
  refine (F7 _).mono ?_
  rintro e w' ⟨rfl, ⟨nd, rfl⟩⟩
  go_wp2_with fail
  refine (O _).mono ?_
  rintro e w' ⟨rfl, ⟨nd, rfl⟩⟩
  go_wp2_with fail
  refine (F3 _).mono ?_
  rintro e w' ⟨rfl, ⟨nd, rfl⟩⟩
  go_wp2_with fail
  refine (F3 _).mono ?_
  rintro e w' ⟨rfl, ⟨nd, rfl⟩⟩
  go_wp2_with fail
  refine (F3 _).mono ?_
  rintro e w' ⟨rfl, ⟨nd, rfl⟩⟩
  go_wp2_with fail
  refine (F3 _).mono ?_
  rintro e w' ⟨rfl, ⟨nd, rfl⟩⟩
  go_wp2_with fail
  refine (O _).mono ?_
  rintro e w' ⟨rfl, ⟨nd, rfl⟩⟩
  go_wp2_with (first | ((with_reducible refine gate_store (t := 23) rfl ?_); refine store_event rfl 23 (.tmp 4) (.tmp 24) rfl (g := g4) #[.int .i64 9, .int .i64 0, .int .i64 rd, .int .i64 rs1, .int .i64 rs2, .int .i64 imm, .int .i64 0, .bool false] H4.out rfl rfl (by kernel_rfl) rfl rfl ?_; intro w30 hbox hfar hbel; have H4' := Aside0.mk hbox; have HB' := Aside0.mk (hbel _ _ (by repeat (first | (with_reducible first | exact HB.out | apply below_alloc | apply pw_below_drewN | apply below_drew1) | exact HB.out)) HL4.out); clear hbox hfar hbel H4 H3 HB; have H4 := H4'; have HB := HB'; clear H4' HB') | fail)
  refine bodyPost_ret (results_ct rfl _ _ g4 23 #[.int .i64 9, .int .i64 0, .int .i64 rd, .int .i64 rs1, .int .i64 rs2, .int .i64 imm, .int .i64 0, .bool false] (0, 0) _ rfl H4.out Tryz.underlying23 rfl (by kernel_rfl)) rfl ?_
  exact ⟨rfl, HB.out⟩

theorem imm27_ox {w rd rs1 rs2 imm f3 f7 hi v : Int} (W : World) (O : ∀ W, Calls Tryz.prog 95 #[.int .u32 w] W fun e w' => e = .returned (.int .i64 27) ∧ Drawn0 W w') (F3 : ∀ W, Calls Tryz.prog 96 #[.int .u32 w] W fun e w' => e = .returned (.int .i64 f3) ∧ Drawn0 W w')
    (F7 : ∀ W, Calls Tryz.prog 129 #[.int .u32 w] W fun e w' => e = .returned (.int .i64 f7) ∧ Drawn0 W w') (BH : ∀ W, Calls Tryz.prog 131 #[.int .u32 w, .int .i64 31, .int .i64 26] W fun e w' => e = .returned (.int .i64 hi) ∧ Drawn0 W w')
    (BV : ∀ W, Calls Tryz.prog 131 #[.int .u32 w, .int .i64 24, .int .i64 20] W fun e w' => e = .returned (.int .i64 v) ∧ Drawn0 W w') (h0 : (Go.bits .and .i64 f7 1 == 1) = true) (h1 : (f3 == 0) = false) (h2 : (f3 == 1) = false) (h3 : (f3 == 5) = false) :
    Calls Tryz.prog 138 #[.int .u32 w, .agg #[.int .i64 9, .int .i64 0, .int .i64 rd, .int .i64 rs1, .int .i64 rs2, .int .i64 imm, .int .i64 0, .bool false]] W fun e w' => e = .returned (.tuple #[.agg #[.int .i64 9, .int .i64 0, .int .i64 rd, .int .i64 rs1, .int .i64 rs2, .int .i64 imm, .int .i64 0, .bool false], .bool false]) ∧ Below W.heap.size W w' := by
  have HB := Aside0.mk (Below.refl W.heap.size W)
  have hu23 := Tryz.underlying23
  go_enter Tryz.func138, Tryz.ntmps138
  go_wp2_with (first | ((with_reducible refine gate_dst (N := 3) rfl ?_); refine box_event (by rfl) (N := 3) (by rfl) (cs := #[.int .i64 9, .int .i64 0, .int .i64 rd, .int .i64 rs1, .int .i64 rs2, .int .i64 imm, .int .i64 0, .bool false]) (t := 23) (by first | (go_simp; done) | (go_simp; rfl)) ?_; intro g3 hg w3 hbox hb; have H3 := Aside0.mk hbox; have HB' := Aside0.mk (below_step HB.out hb); have HL3 := Aside0.mk (show W.heap.size ≤ g3 by omega); clear HB; have HB := HB'; clear HB'; clear hbox hb hg) | ((with_reducible refine gate_dst (N := 4) rfl ?_); refine box_event (by rfl) (N := 4) (by rfl) (cs := #[.int .i64 0, .int .i64 0, .int .i64 0, .int .i64 0, .int .i64 0, .int .i64 0, .int .i64 0, .bool false]) (t := 23) (by first | (go_simp; done) | (go_simp; rfl)) ?_; intro g4 hg w4 hbox hb; have H4 := Aside0.mk hbox; have HB' := Aside0.mk (below_step HB.out hb); have H3' := Aside0.mk (blk_below H3.out hb); have HL4 := Aside0.mk (show W.heap.size ≤ g4 by have h1 := HB.out.size; omega); have HN := Aside0.mk (show g3 ≠ g4 by have h1 := blk_lt H3.out; omega); clear HB H3; have HB := HB'; have H3 := H3'; clear HB' H3'; obtain ⟨y0, y1, y2, y3, y4, y5, y6, y7, yf0, yf1, yf2, yf3, yf4, yf5, yf6, yf7⟩ := cells8 H3.out; clear hbox hb hg) | fail)
  refine (BH _).mono ?_
  rintro e w' ⟨rfl, ⟨nd5, rfl⟩⟩
  go_wp2_with fail
  refine (O _).mono ?_
  rintro e w' ⟨rfl, ⟨nd, rfl⟩⟩
  go_wp2_with fail
  refine (F7 _).mono ?_
  rintro e w' ⟨rfl, ⟨nd, rfl⟩⟩
  go_wp2_with fail
  refine (F7 _).mono ?_
  rintro e w' ⟨rfl, ⟨nd, rfl⟩⟩
  go_wp2_with fail
  refine (O _).mono ?_
  rintro e w' ⟨rfl, ⟨nd, rfl⟩⟩
  go_wp2_with fail
  refine (F3 _).mono ?_
  rintro e w' ⟨rfl, ⟨nd, rfl⟩⟩
  go_wp2_with fail
  refine (F3 _).mono ?_
  rintro e w' ⟨rfl, ⟨nd, rfl⟩⟩
  go_wp2_with fail
  refine (F3 _).mono ?_
  rintro e w' ⟨rfl, ⟨nd, rfl⟩⟩
  go_wp2_with fail
  refine (F3 _).mono ?_
  rintro e w' ⟨rfl, ⟨nd, rfl⟩⟩
  go_wp2_with fail
  refine (O _).mono ?_
  rintro e w' ⟨rfl, ⟨nd, rfl⟩⟩
  go_wp2_with (first | ((with_reducible refine gate_store (t := 23) rfl ?_); refine store_event rfl 23 (.tmp 4) (.tmp 24) rfl (g := g4) #[.int .i64 9, .int .i64 0, .int .i64 rd, .int .i64 rs1, .int .i64 rs2, .int .i64 imm, .int .i64 0, .bool false] H4.out rfl rfl (by kernel_rfl) rfl rfl ?_; intro w30 hbox hfar hbel; have H4' := Aside0.mk hbox; have HB' := Aside0.mk (hbel _ _ (by repeat (first | (with_reducible first | exact HB.out | apply below_alloc | apply pw_below_drewN | apply below_drew1) | exact HB.out)) HL4.out); clear hbox hfar hbel H4 H3 HB; have H4 := H4'; have HB := HB'; clear H4' HB') | fail)
  refine bodyPost_ret (results_ct rfl _ _ g4 23 #[.int .i64 9, .int .i64 0, .int .i64 rd, .int .i64 rs1, .int .i64 rs2, .int .i64 imm, .int .i64 0, .bool false] (0, 0) _ rfl H4.out Tryz.underlying23 rfl (by kernel_rfl)) rfl ?_
  exact ⟨rfl, HB.out⟩

theorem imm27_1 {w rd rs1 rs2 imm f3 f7 hi v : Int} (W : World) (O : ∀ W, Calls Tryz.prog 95 #[.int .u32 w] W fun e w' => e = .returned (.int .i64 27) ∧ Drawn0 W w') (F3 : ∀ W, Calls Tryz.prog 96 #[.int .u32 w] W fun e w' => e = .returned (.int .i64 1) ∧ Drawn0 W w')
    (F7 : ∀ W, Calls Tryz.prog 129 #[.int .u32 w] W fun e w' => e = .returned (.int .i64 f7) ∧ Drawn0 W w') (BH : ∀ W, Calls Tryz.prog 131 #[.int .u32 w, .int .i64 31, .int .i64 26] W fun e w' => e = .returned (.int .i64 hi) ∧ Drawn0 W w')
    (BV : ∀ W, Calls Tryz.prog 131 #[.int .u32 w, .int .i64 24, .int .i64 20] W fun e w' => e = .returned (.int .i64 v) ∧ Drawn0 W w') (h0 : (Go.bits .and .i64 f7 1 == 1) = false) (h1 : f7 / 2 = 0) :
    Calls Tryz.prog 138 #[.int .u32 w, .agg #[.int .i64 9, .int .i64 0, .int .i64 rd, .int .i64 rs1, .int .i64 rs2, .int .i64 imm, .int .i64 0, .bool false]] W fun e w' => e = .returned (.tuple #[.agg #[.int .i64 9, .int .i64 21, .int .i64 rd, .int .i64 rs1, .int .i64 rs2, .int .i64 v, .int .i64 0, .bool false], .bool true]) ∧ Below W.heap.size W w' := by
  have HB := Aside0.mk (Below.refl W.heap.size W)
  have hu23 := Tryz.underlying23
  go_enter Tryz.func138, Tryz.ntmps138
  go_wp2_with (first | ((with_reducible refine gate_dst (N := 3) rfl ?_); refine box_event (by rfl) (N := 3) (by rfl) (cs := #[.int .i64 9, .int .i64 0, .int .i64 rd, .int .i64 rs1, .int .i64 rs2, .int .i64 imm, .int .i64 0, .bool false]) (t := 23) (by first | (go_simp; done) | (go_simp; rfl)) ?_; intro g3 hg w3 hbox hb; have H3 := Aside0.mk hbox; have HB' := Aside0.mk (below_step HB.out hb); have HL3 := Aside0.mk (show W.heap.size ≤ g3 by omega); clear HB; have HB := HB'; clear HB'; clear hbox hb hg) | ((with_reducible refine gate_dst (N := 4) rfl ?_); refine box_event (by rfl) (N := 4) (by rfl) (cs := #[.int .i64 0, .int .i64 0, .int .i64 0, .int .i64 0, .int .i64 0, .int .i64 0, .int .i64 0, .bool false]) (t := 23) (by first | (go_simp; done) | (go_simp; rfl)) ?_; intro g4 hg w4 hbox hb; have H4 := Aside0.mk hbox; have HB' := Aside0.mk (below_step HB.out hb); have H3' := Aside0.mk (blk_below H3.out hb); have HL4 := Aside0.mk (show W.heap.size ≤ g4 by have h1 := HB.out.size; omega); have HN := Aside0.mk (show g3 ≠ g4 by have h1 := blk_lt H3.out; omega); clear HB H3; have HB := HB'; have H3 := H3'; clear HB' H3'; obtain ⟨y0, y1, y2, y3, y4, y5, y6, y7, yf0, yf1, yf2, yf3, yf4, yf5, yf6, yf7⟩ := cells8 H3.out; clear hbox hb hg) | fail)
  refine (BH _).mono ?_
  rintro e w' ⟨rfl, ⟨nd5, rfl⟩⟩
  go_wp2_with fail
  refine (O _).mono ?_
  rintro e w' ⟨rfl, ⟨nd, rfl⟩⟩
  go_wp2_with fail
  refine (F7 _).mono ?_
  rintro e w' ⟨rfl, ⟨nd, rfl⟩⟩
  go_wp2_with fail
  refine (F7 _).mono ?_
  rintro e w' ⟨rfl, ⟨nd, rfl⟩⟩
  go_wp2_with fail
  refine (O _).mono ?_
  rintro e w' ⟨rfl, ⟨nd, rfl⟩⟩
  go_wp2_with fail
  refine (F3 _).mono ?_
  rintro e w' ⟨rfl, ⟨nd, rfl⟩⟩
  go_wp2_with fail
  refine (F3 _).mono ?_
  rintro e w' ⟨rfl, ⟨nd, rfl⟩⟩
  go_wp2_with (first | ((with_reducible refine gate_store (t := 3) rfl ?_); refine set_event rfl 3 _ _ rfl (g := g3) 1 (.int .i64 21) #[.int .i64 9, .int .i64 21, .int .i64 rd, .int .i64 rs1, .int .i64 rs2, .int .i64 imm, .int .i64 0, .bool false] H3.out (by simp) rfl rfl (by kernel_rfl) rfl rfl rfl ?_; intro w20 hbox hfar hbel; have H3' := Aside0.mk hbox; have H4' := Aside0.mk (far_blk hfar (fun e => HN.out e.symm) H4.out); have HB' := Aside0.mk (hbel _ _ (by repeat (first | (with_reducible first | exact HB.out | apply below_alloc | apply pw_below_drewN | apply below_drew1) | exact HB.out)) HL3.out); clear hbox hfar hbel H3 H4 HB y0 y1 y2 y3 y4 y5 y6 y7 yf0 yf1 yf2 yf3 yf4 yf5 yf6 yf7; have H3 := H3'; have H4 := H4'; have HB := HB'; clear H3' H4' HB'; obtain ⟨y0, y1, y2, y3, y4, y5, y6, y7, yf0, yf1, yf2, yf3, yf4, yf5, yf6, yf7⟩ := cells8 H3.out) | fail)
  refine (BV _).mono ?_
  rintro e w' ⟨rfl, ⟨nd, rfl⟩⟩
  go_wp2_with (first | ((with_reducible refine gate_store (t := 3) rfl ?_); refine set_event rfl 3 _ _ rfl (g := g3) 5 (.int .i64 v) #[.int .i64 9, .int .i64 21, .int .i64 rd, .int .i64 rs1, .int .i64 rs2, .int .i64 v, .int .i64 0, .bool false] H3.out (by simp) rfl rfl (by kernel_rfl) rfl rfl rfl ?_; intro w21 hbox hfar hbel; have H3' := Aside0.mk hbox; have H4' := Aside0.mk (far_blk hfar (fun e => HN.out e.symm) H4.out); have HB' := Aside0.mk (hbel _ _ (by repeat (first | (with_reducible first | exact HB.out | apply below_alloc | apply pw_below_drewN | apply below_drew1) | exact HB.out)) HL3.out); clear hbox hfar hbel H3 H4 HB y0 y1 y2 y3 y4 y5 y6 y7 yf0 yf1 yf2 yf3 yf4 yf5 yf6 yf7; have H3 := H3'; have H4 := H4'; have HB := HB'; clear H3' H4' HB'; obtain ⟨y0, y1, y2, y3, y4, y5, y6, y7, yf0, yf1, yf2, yf3, yf4, yf5, yf6, yf7⟩ := cells8 H3.out) | ((with_reducible refine gate_store (t := 23) rfl ?_); refine store_event rfl 23 (.tmp 4) (.tmp 91) rfl (g := g4) #[.int .i64 9, .int .i64 21, .int .i64 rd, .int .i64 rs1, .int .i64 rs2, .int .i64 v, .int .i64 0, .bool false] H4.out rfl rfl (by kernel_rfl) rfl rfl ?_; intro w30 hbox hfar hbel; have H4' := Aside0.mk hbox; have HB' := Aside0.mk (hbel _ _ (by repeat (first | (with_reducible first | exact HB.out | apply below_alloc | apply pw_below_drewN | apply below_drew1) | exact HB.out)) HL4.out); clear hbox hfar hbel H4 H3 HB; have H4 := H4'; have HB := HB'; clear H4' HB') | fail)
  refine bodyPost_ret (results_ct rfl _ _ g4 23 #[.int .i64 9, .int .i64 21, .int .i64 rd, .int .i64 rs1, .int .i64 rs2, .int .i64 v, .int .i64 0, .bool false] (0, 0) _ rfl H4.out Tryz.underlying23 rfl (by kernel_rfl)) rfl ?_
  exact ⟨rfl, HB.out⟩

theorem imm27_1n {w rd rs1 rs2 imm f3 f7 hi v : Int} (W : World) (O : ∀ W, Calls Tryz.prog 95 #[.int .u32 w] W fun e w' => e = .returned (.int .i64 27) ∧ Drawn0 W w') (F3 : ∀ W, Calls Tryz.prog 96 #[.int .u32 w] W fun e w' => e = .returned (.int .i64 1) ∧ Drawn0 W w')
    (F7 : ∀ W, Calls Tryz.prog 129 #[.int .u32 w] W fun e w' => e = .returned (.int .i64 f7) ∧ Drawn0 W w') (BH : ∀ W, Calls Tryz.prog 131 #[.int .u32 w, .int .i64 31, .int .i64 26] W fun e w' => e = .returned (.int .i64 hi) ∧ Drawn0 W w')
    (BV : ∀ W, Calls Tryz.prog 131 #[.int .u32 w, .int .i64 24, .int .i64 20] W fun e w' => e = .returned (.int .i64 v) ∧ Drawn0 W w') (h0 : (Go.bits .and .i64 f7 1 == 1) = false) (h1 : (f7 / 2 == 0) = false) :
    Calls Tryz.prog 138 #[.int .u32 w, .agg #[.int .i64 9, .int .i64 0, .int .i64 rd, .int .i64 rs1, .int .i64 rs2, .int .i64 imm, .int .i64 0, .bool false]] W fun e w' => e = .returned (.tuple #[.agg #[.int .i64 9, .int .i64 0, .int .i64 rd, .int .i64 rs1, .int .i64 rs2, .int .i64 imm, .int .i64 0, .bool false], .bool false]) ∧ Below W.heap.size W w' := by
  have HB := Aside0.mk (Below.refl W.heap.size W)
  have hu23 := Tryz.underlying23
  go_enter Tryz.func138, Tryz.ntmps138
  go_wp2_with (first | ((with_reducible refine gate_dst (N := 3) rfl ?_); refine box_event (by rfl) (N := 3) (by rfl) (cs := #[.int .i64 9, .int .i64 0, .int .i64 rd, .int .i64 rs1, .int .i64 rs2, .int .i64 imm, .int .i64 0, .bool false]) (t := 23) (by first | (go_simp; done) | (go_simp; rfl)) ?_; intro g3 hg w3 hbox hb; have H3 := Aside0.mk hbox; have HB' := Aside0.mk (below_step HB.out hb); have HL3 := Aside0.mk (show W.heap.size ≤ g3 by omega); clear HB; have HB := HB'; clear HB'; clear hbox hb hg) | ((with_reducible refine gate_dst (N := 4) rfl ?_); refine box_event (by rfl) (N := 4) (by rfl) (cs := #[.int .i64 0, .int .i64 0, .int .i64 0, .int .i64 0, .int .i64 0, .int .i64 0, .int .i64 0, .bool false]) (t := 23) (by first | (go_simp; done) | (go_simp; rfl)) ?_; intro g4 hg w4 hbox hb; have H4 := Aside0.mk hbox; have HB' := Aside0.mk (below_step HB.out hb); have H3' := Aside0.mk (blk_below H3.out hb); have HL4 := Aside0.mk (show W.heap.size ≤ g4 by have h1 := HB.out.size; omega); have HN := Aside0.mk (show g3 ≠ g4 by have h1 := blk_lt H3.out; omega); clear HB H3; have HB := HB'; have H3 := H3'; clear HB' H3'; obtain ⟨y0, y1, y2, y3, y4, y5, y6, y7, yf0, yf1, yf2, yf3, yf4, yf5, yf6, yf7⟩ := cells8 H3.out; clear hbox hb hg) | fail)
  refine (BH _).mono ?_
  rintro e w' ⟨rfl, ⟨nd5, rfl⟩⟩
  go_wp2_with fail
  refine (O _).mono ?_
  rintro e w' ⟨rfl, ⟨nd, rfl⟩⟩
  go_wp2_with fail
  refine (F7 _).mono ?_
  rintro e w' ⟨rfl, ⟨nd, rfl⟩⟩
  go_wp2_with fail
  refine (F7 _).mono ?_
  rintro e w' ⟨rfl, ⟨nd, rfl⟩⟩
  go_wp2_with fail
  refine (O _).mono ?_
  rintro e w' ⟨rfl, ⟨nd, rfl⟩⟩
  go_wp2_with fail
  refine (F3 _).mono ?_
  rintro e w' ⟨rfl, ⟨nd, rfl⟩⟩
  go_wp2_with fail
  refine (F3 _).mono ?_
  rintro e w' ⟨rfl, ⟨nd, rfl⟩⟩
  go_wp2_with fail
  refine (F3 _).mono ?_
  rintro e w' ⟨rfl, ⟨nd, rfl⟩⟩
  go_wp2_with fail
  refine (F3 _).mono ?_
  rintro e w' ⟨rfl, ⟨nd, rfl⟩⟩
  go_wp2_with fail
  refine (O _).mono ?_
  rintro e w' ⟨rfl, ⟨nd, rfl⟩⟩
  go_wp2_with (first | ((with_reducible refine gate_store (t := 23) rfl ?_); refine store_event rfl 23 (.tmp 4) (.tmp 24) rfl (g := g4) #[.int .i64 9, .int .i64 0, .int .i64 rd, .int .i64 rs1, .int .i64 rs2, .int .i64 imm, .int .i64 0, .bool false] H4.out rfl rfl (by kernel_rfl) rfl rfl ?_; intro w30 hbox hfar hbel; have H4' := Aside0.mk hbox; have HB' := Aside0.mk (hbel _ _ (by repeat (first | (with_reducible first | exact HB.out | apply below_alloc | apply pw_below_drewN | apply below_drew1) | exact HB.out)) HL4.out); clear hbox hfar hbel H4 H3 HB; have H4 := H4'; have HB := HB'; clear H4' HB') | fail)
  refine bodyPost_ret (results_ct rfl _ _ g4 23 #[.int .i64 9, .int .i64 0, .int .i64 rd, .int .i64 rs1, .int .i64 rs2, .int .i64 imm, .int .i64 0, .bool false] (0, 0) _ rfl H4.out Tryz.underlying23 rfl (by kernel_rfl)) rfl ?_
  exact ⟨rfl, HB.out⟩

theorem imm27_5 {w rd rs1 rs2 imm f3 f7 hi v : Int} (W : World) (O : ∀ W, Calls Tryz.prog 95 #[.int .u32 w] W fun e w' => e = .returned (.int .i64 27) ∧ Drawn0 W w') (F3 : ∀ W, Calls Tryz.prog 96 #[.int .u32 w] W fun e w' => e = .returned (.int .i64 5) ∧ Drawn0 W w')
    (F7 : ∀ W, Calls Tryz.prog 129 #[.int .u32 w] W fun e w' => e = .returned (.int .i64 f7) ∧ Drawn0 W w') (BH : ∀ W, Calls Tryz.prog 131 #[.int .u32 w, .int .i64 31, .int .i64 26] W fun e w' => e = .returned (.int .i64 hi) ∧ Drawn0 W w')
    (BV : ∀ W, Calls Tryz.prog 131 #[.int .u32 w, .int .i64 24, .int .i64 20] W fun e w' => e = .returned (.int .i64 v) ∧ Drawn0 W w') (h0 : (Go.bits .and .i64 f7 1 == 1) = false) (h1 : f7 / 2 = 0) :
    Calls Tryz.prog 138 #[.int .u32 w, .agg #[.int .i64 9, .int .i64 0, .int .i64 rd, .int .i64 rs1, .int .i64 rs2, .int .i64 imm, .int .i64 0, .bool false]] W fun e w' => e = .returned (.tuple #[.agg #[.int .i64 9, .int .i64 22, .int .i64 rd, .int .i64 rs1, .int .i64 rs2, .int .i64 v, .int .i64 0, .bool false], .bool true]) ∧ Below W.heap.size W w' := by
  have HB := Aside0.mk (Below.refl W.heap.size W)
  have hu23 := Tryz.underlying23
  go_enter Tryz.func138, Tryz.ntmps138
  go_wp2_with (first | ((with_reducible refine gate_dst (N := 3) rfl ?_); refine box_event (by rfl) (N := 3) (by rfl) (cs := #[.int .i64 9, .int .i64 0, .int .i64 rd, .int .i64 rs1, .int .i64 rs2, .int .i64 imm, .int .i64 0, .bool false]) (t := 23) (by first | (go_simp; done) | (go_simp; rfl)) ?_; intro g3 hg w3 hbox hb; have H3 := Aside0.mk hbox; have HB' := Aside0.mk (below_step HB.out hb); have HL3 := Aside0.mk (show W.heap.size ≤ g3 by omega); clear HB; have HB := HB'; clear HB'; clear hbox hb hg) | ((with_reducible refine gate_dst (N := 4) rfl ?_); refine box_event (by rfl) (N := 4) (by rfl) (cs := #[.int .i64 0, .int .i64 0, .int .i64 0, .int .i64 0, .int .i64 0, .int .i64 0, .int .i64 0, .bool false]) (t := 23) (by first | (go_simp; done) | (go_simp; rfl)) ?_; intro g4 hg w4 hbox hb; have H4 := Aside0.mk hbox; have HB' := Aside0.mk (below_step HB.out hb); have H3' := Aside0.mk (blk_below H3.out hb); have HL4 := Aside0.mk (show W.heap.size ≤ g4 by have h1 := HB.out.size; omega); have HN := Aside0.mk (show g3 ≠ g4 by have h1 := blk_lt H3.out; omega); clear HB H3; have HB := HB'; have H3 := H3'; clear HB' H3'; obtain ⟨y0, y1, y2, y3, y4, y5, y6, y7, yf0, yf1, yf2, yf3, yf4, yf5, yf6, yf7⟩ := cells8 H3.out; clear hbox hb hg) | fail)
  refine (BH _).mono ?_
  rintro e w' ⟨rfl, ⟨nd5, rfl⟩⟩
  go_wp2_with fail
  refine (O _).mono ?_
  rintro e w' ⟨rfl, ⟨nd, rfl⟩⟩
  go_wp2_with fail
  refine (F7 _).mono ?_
  rintro e w' ⟨rfl, ⟨nd, rfl⟩⟩
  go_wp2_with fail
  refine (F7 _).mono ?_
  rintro e w' ⟨rfl, ⟨nd, rfl⟩⟩
  go_wp2_with fail
  refine (O _).mono ?_
  rintro e w' ⟨rfl, ⟨nd, rfl⟩⟩
  go_wp2_with fail
  refine (F3 _).mono ?_
  rintro e w' ⟨rfl, ⟨nd, rfl⟩⟩
  go_wp2_with fail
  refine (F3 _).mono ?_
  rintro e w' ⟨rfl, ⟨nd, rfl⟩⟩
  go_wp2_with fail
  refine (F3 _).mono ?_
  rintro e w' ⟨rfl, ⟨nd, rfl⟩⟩
  go_wp2_with (first | ((with_reducible refine gate_store (t := 3) rfl ?_); refine set_event rfl 3 _ _ rfl (g := g3) 1 (.int .i64 22) #[.int .i64 9, .int .i64 22, .int .i64 rd, .int .i64 rs1, .int .i64 rs2, .int .i64 imm, .int .i64 0, .bool false] H3.out (by simp) rfl rfl (by kernel_rfl) rfl rfl rfl ?_; intro w20 hbox hfar hbel; have H3' := Aside0.mk hbox; have H4' := Aside0.mk (far_blk hfar (fun e => HN.out e.symm) H4.out); have HB' := Aside0.mk (hbel _ _ (by repeat (first | (with_reducible first | exact HB.out | apply below_alloc | apply pw_below_drewN | apply below_drew1) | exact HB.out)) HL3.out); clear hbox hfar hbel H3 H4 HB y0 y1 y2 y3 y4 y5 y6 y7 yf0 yf1 yf2 yf3 yf4 yf5 yf6 yf7; have H3 := H3'; have H4 := H4'; have HB := HB'; clear H3' H4' HB'; obtain ⟨y0, y1, y2, y3, y4, y5, y6, y7, yf0, yf1, yf2, yf3, yf4, yf5, yf6, yf7⟩ := cells8 H3.out) | fail)
  refine (BV _).mono ?_
  rintro e w' ⟨rfl, ⟨nd, rfl⟩⟩
  go_wp2_with (first | ((with_reducible refine gate_store (t := 3) rfl ?_); refine set_event rfl 3 _ _ rfl (g := g3) 5 (.int .i64 v) #[.int .i64 9, .int .i64 22, .int .i64 rd, .int .i64 rs1, .int .i64 rs2, .int .i64 v, .int .i64 0, .bool false] H3.out (by simp) rfl rfl (by kernel_rfl) rfl rfl rfl ?_; intro w21 hbox hfar hbel; have H3' := Aside0.mk hbox; have H4' := Aside0.mk (far_blk hfar (fun e => HN.out e.symm) H4.out); have HB' := Aside0.mk (hbel _ _ (by repeat (first | (with_reducible first | exact HB.out | apply below_alloc | apply pw_below_drewN | apply below_drew1) | exact HB.out)) HL3.out); clear hbox hfar hbel H3 H4 HB y0 y1 y2 y3 y4 y5 y6 y7 yf0 yf1 yf2 yf3 yf4 yf5 yf6 yf7; have H3 := H3'; have H4 := H4'; have HB := HB'; clear H3' H4' HB'; obtain ⟨y0, y1, y2, y3, y4, y5, y6, y7, yf0, yf1, yf2, yf3, yf4, yf5, yf6, yf7⟩ := cells8 H3.out) | ((with_reducible refine gate_store (t := 23) rfl ?_); refine store_event rfl 23 (.tmp 4) (.tmp 91) rfl (g := g4) #[.int .i64 9, .int .i64 22, .int .i64 rd, .int .i64 rs1, .int .i64 rs2, .int .i64 v, .int .i64 0, .bool false] H4.out rfl rfl (by kernel_rfl) rfl rfl ?_; intro w30 hbox hfar hbel; have H4' := Aside0.mk hbox; have HB' := Aside0.mk (hbel _ _ (by repeat (first | (with_reducible first | exact HB.out | apply below_alloc | apply pw_below_drewN | apply below_drew1) | exact HB.out)) HL4.out); clear hbox hfar hbel H4 H3 HB; have H4 := H4'; have HB := HB'; clear H4' HB') | fail)
  refine bodyPost_ret (results_ct rfl _ _ g4 23 #[.int .i64 9, .int .i64 22, .int .i64 rd, .int .i64 rs1, .int .i64 rs2, .int .i64 v, .int .i64 0, .bool false] (0, 0) _ rfl H4.out Tryz.underlying23 rfl (by kernel_rfl)) rfl ?_
  exact ⟨rfl, HB.out⟩

theorem imm27_5a {w rd rs1 rs2 imm f3 f7 hi v : Int} (W : World) (O : ∀ W, Calls Tryz.prog 95 #[.int .u32 w] W fun e w' => e = .returned (.int .i64 27) ∧ Drawn0 W w') (F3 : ∀ W, Calls Tryz.prog 96 #[.int .u32 w] W fun e w' => e = .returned (.int .i64 5) ∧ Drawn0 W w')
    (F7 : ∀ W, Calls Tryz.prog 129 #[.int .u32 w] W fun e w' => e = .returned (.int .i64 f7) ∧ Drawn0 W w') (BH : ∀ W, Calls Tryz.prog 131 #[.int .u32 w, .int .i64 31, .int .i64 26] W fun e w' => e = .returned (.int .i64 hi) ∧ Drawn0 W w')
    (BV : ∀ W, Calls Tryz.prog 131 #[.int .u32 w, .int .i64 24, .int .i64 20] W fun e w' => e = .returned (.int .i64 v) ∧ Drawn0 W w') (h0 : (Go.bits .and .i64 f7 1 == 1) = false) (h1 : f7 / 2 = 16) :
    Calls Tryz.prog 138 #[.int .u32 w, .agg #[.int .i64 9, .int .i64 0, .int .i64 rd, .int .i64 rs1, .int .i64 rs2, .int .i64 imm, .int .i64 0, .bool false]] W fun e w' => e = .returned (.tuple #[.agg #[.int .i64 9, .int .i64 23, .int .i64 rd, .int .i64 rs1, .int .i64 rs2, .int .i64 v, .int .i64 0, .bool false], .bool true]) ∧ Below W.heap.size W w' := by
  have HB := Aside0.mk (Below.refl W.heap.size W)
  have hu23 := Tryz.underlying23
  go_enter Tryz.func138, Tryz.ntmps138
  go_wp2_with (first | ((with_reducible refine gate_dst (N := 3) rfl ?_); refine box_event (by rfl) (N := 3) (by rfl) (cs := #[.int .i64 9, .int .i64 0, .int .i64 rd, .int .i64 rs1, .int .i64 rs2, .int .i64 imm, .int .i64 0, .bool false]) (t := 23) (by first | (go_simp; done) | (go_simp; rfl)) ?_; intro g3 hg w3 hbox hb; have H3 := Aside0.mk hbox; have HB' := Aside0.mk (below_step HB.out hb); have HL3 := Aside0.mk (show W.heap.size ≤ g3 by omega); clear HB; have HB := HB'; clear HB'; clear hbox hb hg) | ((with_reducible refine gate_dst (N := 4) rfl ?_); refine box_event (by rfl) (N := 4) (by rfl) (cs := #[.int .i64 0, .int .i64 0, .int .i64 0, .int .i64 0, .int .i64 0, .int .i64 0, .int .i64 0, .bool false]) (t := 23) (by first | (go_simp; done) | (go_simp; rfl)) ?_; intro g4 hg w4 hbox hb; have H4 := Aside0.mk hbox; have HB' := Aside0.mk (below_step HB.out hb); have H3' := Aside0.mk (blk_below H3.out hb); have HL4 := Aside0.mk (show W.heap.size ≤ g4 by have h1 := HB.out.size; omega); have HN := Aside0.mk (show g3 ≠ g4 by have h1 := blk_lt H3.out; omega); clear HB H3; have HB := HB'; have H3 := H3'; clear HB' H3'; obtain ⟨y0, y1, y2, y3, y4, y5, y6, y7, yf0, yf1, yf2, yf3, yf4, yf5, yf6, yf7⟩ := cells8 H3.out; clear hbox hb hg) | fail)
  refine (BH _).mono ?_
  rintro e w' ⟨rfl, ⟨nd5, rfl⟩⟩
  go_wp2_with fail
  refine (O _).mono ?_
  rintro e w' ⟨rfl, ⟨nd, rfl⟩⟩
  go_wp2_with fail
  refine (F7 _).mono ?_
  rintro e w' ⟨rfl, ⟨nd, rfl⟩⟩
  go_wp2_with fail
  refine (F7 _).mono ?_
  rintro e w' ⟨rfl, ⟨nd, rfl⟩⟩
  go_wp2_with fail
  refine (O _).mono ?_
  rintro e w' ⟨rfl, ⟨nd, rfl⟩⟩
  go_wp2_with fail
  refine (F3 _).mono ?_
  rintro e w' ⟨rfl, ⟨nd, rfl⟩⟩
  go_wp2_with fail
  refine (F3 _).mono ?_
  rintro e w' ⟨rfl, ⟨nd, rfl⟩⟩
  go_wp2_with fail
  refine (F3 _).mono ?_
  rintro e w' ⟨rfl, ⟨nd, rfl⟩⟩
  go_wp2_with fail
  refine (F3 _).mono ?_
  rintro e w' ⟨rfl, ⟨nd, rfl⟩⟩
  go_wp2_with (first | ((with_reducible refine gate_store (t := 3) rfl ?_); refine set_event rfl 3 _ _ rfl (g := g3) 1 (.int .i64 23) #[.int .i64 9, .int .i64 23, .int .i64 rd, .int .i64 rs1, .int .i64 rs2, .int .i64 imm, .int .i64 0, .bool false] H3.out (by simp) rfl rfl (by kernel_rfl) rfl rfl rfl ?_; intro w20 hbox hfar hbel; have H3' := Aside0.mk hbox; have H4' := Aside0.mk (far_blk hfar (fun e => HN.out e.symm) H4.out); have HB' := Aside0.mk (hbel _ _ (by repeat (first | (with_reducible first | exact HB.out | apply below_alloc | apply pw_below_drewN | apply below_drew1) | exact HB.out)) HL3.out); clear hbox hfar hbel H3 H4 HB y0 y1 y2 y3 y4 y5 y6 y7 yf0 yf1 yf2 yf3 yf4 yf5 yf6 yf7; have H3 := H3'; have H4 := H4'; have HB := HB'; clear H3' H4' HB'; obtain ⟨y0, y1, y2, y3, y4, y5, y6, y7, yf0, yf1, yf2, yf3, yf4, yf5, yf6, yf7⟩ := cells8 H3.out) | fail)
  refine (BV _).mono ?_
  rintro e w' ⟨rfl, ⟨nd, rfl⟩⟩
  go_wp2_with (first | ((with_reducible refine gate_store (t := 3) rfl ?_); refine set_event rfl 3 _ _ rfl (g := g3) 5 (.int .i64 v) #[.int .i64 9, .int .i64 23, .int .i64 rd, .int .i64 rs1, .int .i64 rs2, .int .i64 v, .int .i64 0, .bool false] H3.out (by simp) rfl rfl (by kernel_rfl) rfl rfl rfl ?_; intro w21 hbox hfar hbel; have H3' := Aside0.mk hbox; have H4' := Aside0.mk (far_blk hfar (fun e => HN.out e.symm) H4.out); have HB' := Aside0.mk (hbel _ _ (by repeat (first | (with_reducible first | exact HB.out | apply below_alloc | apply pw_below_drewN | apply below_drew1) | exact HB.out)) HL3.out); clear hbox hfar hbel H3 H4 HB y0 y1 y2 y3 y4 y5 y6 y7 yf0 yf1 yf2 yf3 yf4 yf5 yf6 yf7; have H3 := H3'; have H4 := H4'; have HB := HB'; clear H3' H4' HB'; obtain ⟨y0, y1, y2, y3, y4, y5, y6, y7, yf0, yf1, yf2, yf3, yf4, yf5, yf6, yf7⟩ := cells8 H3.out) | ((with_reducible refine gate_store (t := 23) rfl ?_); refine store_event rfl 23 (.tmp 4) (.tmp 91) rfl (g := g4) #[.int .i64 9, .int .i64 23, .int .i64 rd, .int .i64 rs1, .int .i64 rs2, .int .i64 v, .int .i64 0, .bool false] H4.out rfl rfl (by kernel_rfl) rfl rfl ?_; intro w30 hbox hfar hbel; have H4' := Aside0.mk hbox; have HB' := Aside0.mk (hbel _ _ (by repeat (first | (with_reducible first | exact HB.out | apply below_alloc | apply pw_below_drewN | apply below_drew1) | exact HB.out)) HL4.out); clear hbox hfar hbel H4 H3 HB; have H4 := H4'; have HB := HB'; clear H4' HB') | fail)
  refine bodyPost_ret (results_ct rfl _ _ g4 23 #[.int .i64 9, .int .i64 23, .int .i64 rd, .int .i64 rs1, .int .i64 rs2, .int .i64 v, .int .i64 0, .bool false] (0, 0) _ rfl H4.out Tryz.underlying23 rfl (by kernel_rfl)) rfl ?_
  exact ⟨rfl, HB.out⟩

theorem imm27_5n {w rd rs1 rs2 imm f3 f7 hi v : Int} (W : World) (O : ∀ W, Calls Tryz.prog 95 #[.int .u32 w] W fun e w' => e = .returned (.int .i64 27) ∧ Drawn0 W w') (F3 : ∀ W, Calls Tryz.prog 96 #[.int .u32 w] W fun e w' => e = .returned (.int .i64 5) ∧ Drawn0 W w')
    (F7 : ∀ W, Calls Tryz.prog 129 #[.int .u32 w] W fun e w' => e = .returned (.int .i64 f7) ∧ Drawn0 W w') (BH : ∀ W, Calls Tryz.prog 131 #[.int .u32 w, .int .i64 31, .int .i64 26] W fun e w' => e = .returned (.int .i64 hi) ∧ Drawn0 W w')
    (BV : ∀ W, Calls Tryz.prog 131 #[.int .u32 w, .int .i64 24, .int .i64 20] W fun e w' => e = .returned (.int .i64 v) ∧ Drawn0 W w') (h0 : (Go.bits .and .i64 f7 1 == 1) = false) (h1 : (f7 / 2 == 0) = false) (h2 : (f7 / 2 == 16) = false) :
    Calls Tryz.prog 138 #[.int .u32 w, .agg #[.int .i64 9, .int .i64 0, .int .i64 rd, .int .i64 rs1, .int .i64 rs2, .int .i64 imm, .int .i64 0, .bool false]] W fun e w' => e = .returned (.tuple #[.agg #[.int .i64 9, .int .i64 0, .int .i64 rd, .int .i64 rs1, .int .i64 rs2, .int .i64 imm, .int .i64 0, .bool false], .bool false]) ∧ Below W.heap.size W w' := by
  have HB := Aside0.mk (Below.refl W.heap.size W)
  have hu23 := Tryz.underlying23
  go_enter Tryz.func138, Tryz.ntmps138
  go_wp2_with (first | ((with_reducible refine gate_dst (N := 3) rfl ?_); refine box_event (by rfl) (N := 3) (by rfl) (cs := #[.int .i64 9, .int .i64 0, .int .i64 rd, .int .i64 rs1, .int .i64 rs2, .int .i64 imm, .int .i64 0, .bool false]) (t := 23) (by first | (go_simp; done) | (go_simp; rfl)) ?_; intro g3 hg w3 hbox hb; have H3 := Aside0.mk hbox; have HB' := Aside0.mk (below_step HB.out hb); have HL3 := Aside0.mk (show W.heap.size ≤ g3 by omega); clear HB; have HB := HB'; clear HB'; clear hbox hb hg) | ((with_reducible refine gate_dst (N := 4) rfl ?_); refine box_event (by rfl) (N := 4) (by rfl) (cs := #[.int .i64 0, .int .i64 0, .int .i64 0, .int .i64 0, .int .i64 0, .int .i64 0, .int .i64 0, .bool false]) (t := 23) (by first | (go_simp; done) | (go_simp; rfl)) ?_; intro g4 hg w4 hbox hb; have H4 := Aside0.mk hbox; have HB' := Aside0.mk (below_step HB.out hb); have H3' := Aside0.mk (blk_below H3.out hb); have HL4 := Aside0.mk (show W.heap.size ≤ g4 by have h1 := HB.out.size; omega); have HN := Aside0.mk (show g3 ≠ g4 by have h1 := blk_lt H3.out; omega); clear HB H3; have HB := HB'; have H3 := H3'; clear HB' H3'; obtain ⟨y0, y1, y2, y3, y4, y5, y6, y7, yf0, yf1, yf2, yf3, yf4, yf5, yf6, yf7⟩ := cells8 H3.out; clear hbox hb hg) | fail)
  refine (BH _).mono ?_
  rintro e w' ⟨rfl, ⟨nd5, rfl⟩⟩
  go_wp2_with fail
  refine (O _).mono ?_
  rintro e w' ⟨rfl, ⟨nd, rfl⟩⟩
  go_wp2_with fail
  refine (F7 _).mono ?_
  rintro e w' ⟨rfl, ⟨nd, rfl⟩⟩
  go_wp2_with fail
  refine (F7 _).mono ?_
  rintro e w' ⟨rfl, ⟨nd, rfl⟩⟩
  go_wp2_with fail
  refine (O _).mono ?_
  rintro e w' ⟨rfl, ⟨nd, rfl⟩⟩
  go_wp2_with fail
  refine (F3 _).mono ?_
  rintro e w' ⟨rfl, ⟨nd, rfl⟩⟩
  go_wp2_with fail
  refine (F3 _).mono ?_
  rintro e w' ⟨rfl, ⟨nd, rfl⟩⟩
  go_wp2_with fail
  refine (F3 _).mono ?_
  rintro e w' ⟨rfl, ⟨nd, rfl⟩⟩
  go_wp2_with fail
  refine (F3 _).mono ?_
  rintro e w' ⟨rfl, ⟨nd, rfl⟩⟩
  go_wp2_with fail
  refine (O _).mono ?_
  rintro e w' ⟨rfl, ⟨nd, rfl⟩⟩
  go_wp2_with (first | ((with_reducible refine gate_store (t := 23) rfl ?_); refine store_event rfl 23 (.tmp 4) (.tmp 24) rfl (g := g4) #[.int .i64 9, .int .i64 0, .int .i64 rd, .int .i64 rs1, .int .i64 rs2, .int .i64 imm, .int .i64 0, .bool false] H4.out rfl rfl (by kernel_rfl) rfl rfl ?_; intro w30 hbox hfar hbel; have H4' := Aside0.mk hbox; have HB' := Aside0.mk (hbel _ _ (by repeat (first | (with_reducible first | exact HB.out | apply below_alloc | apply pw_below_drewN | apply below_drew1) | exact HB.out)) HL4.out); clear hbox hfar hbel H4 H3 HB; have H4 := H4'; have HB := HB'; clear H4' HB') | fail)
  refine bodyPost_ret (results_ct rfl _ _ g4 23 #[.int .i64 9, .int .i64 0, .int .i64 rd, .int .i64 rs1, .int .i64 rs2, .int .i64 imm, .int .i64 0, .bool false] (0, 0) _ rfl H4.out Tryz.underlying23 rfl (by kernel_rfl)) rfl ?_
  exact ⟨rfl, HB.out⟩

theorem imm27_x {w rd rs1 rs2 imm f3 f7 hi v : Int} (W : World) (O : ∀ W, Calls Tryz.prog 95 #[.int .u32 w] W fun e w' => e = .returned (.int .i64 27) ∧ Drawn0 W w') (F3 : ∀ W, Calls Tryz.prog 96 #[.int .u32 w] W fun e w' => e = .returned (.int .i64 f3) ∧ Drawn0 W w')
    (F7 : ∀ W, Calls Tryz.prog 129 #[.int .u32 w] W fun e w' => e = .returned (.int .i64 f7) ∧ Drawn0 W w') (BH : ∀ W, Calls Tryz.prog 131 #[.int .u32 w, .int .i64 31, .int .i64 26] W fun e w' => e = .returned (.int .i64 hi) ∧ Drawn0 W w')
    (BV : ∀ W, Calls Tryz.prog 131 #[.int .u32 w, .int .i64 24, .int .i64 20] W fun e w' => e = .returned (.int .i64 v) ∧ Drawn0 W w') (h0 : (Go.bits .and .i64 f7 1 == 1) = false) (h1 : (f3 == 0) = false) (h2 : (f3 == 1) = false) (h3 : (f3 == 5) = false) :
    Calls Tryz.prog 138 #[.int .u32 w, .agg #[.int .i64 9, .int .i64 0, .int .i64 rd, .int .i64 rs1, .int .i64 rs2, .int .i64 imm, .int .i64 0, .bool false]] W fun e w' => e = .returned (.tuple #[.agg #[.int .i64 9, .int .i64 0, .int .i64 rd, .int .i64 rs1, .int .i64 rs2, .int .i64 imm, .int .i64 0, .bool false], .bool false]) ∧ Below W.heap.size W w' := by
  have HB := Aside0.mk (Below.refl W.heap.size W)
  have hu23 := Tryz.underlying23
  go_enter Tryz.func138, Tryz.ntmps138
  go_wp2_with (first | ((with_reducible refine gate_dst (N := 3) rfl ?_); refine box_event (by rfl) (N := 3) (by rfl) (cs := #[.int .i64 9, .int .i64 0, .int .i64 rd, .int .i64 rs1, .int .i64 rs2, .int .i64 imm, .int .i64 0, .bool false]) (t := 23) (by first | (go_simp; done) | (go_simp; rfl)) ?_; intro g3 hg w3 hbox hb; have H3 := Aside0.mk hbox; have HB' := Aside0.mk (below_step HB.out hb); have HL3 := Aside0.mk (show W.heap.size ≤ g3 by omega); clear HB; have HB := HB'; clear HB'; clear hbox hb hg) | ((with_reducible refine gate_dst (N := 4) rfl ?_); refine box_event (by rfl) (N := 4) (by rfl) (cs := #[.int .i64 0, .int .i64 0, .int .i64 0, .int .i64 0, .int .i64 0, .int .i64 0, .int .i64 0, .bool false]) (t := 23) (by first | (go_simp; done) | (go_simp; rfl)) ?_; intro g4 hg w4 hbox hb; have H4 := Aside0.mk hbox; have HB' := Aside0.mk (below_step HB.out hb); have H3' := Aside0.mk (blk_below H3.out hb); have HL4 := Aside0.mk (show W.heap.size ≤ g4 by have h1 := HB.out.size; omega); have HN := Aside0.mk (show g3 ≠ g4 by have h1 := blk_lt H3.out; omega); clear HB H3; have HB := HB'; have H3 := H3'; clear HB' H3'; obtain ⟨y0, y1, y2, y3, y4, y5, y6, y7, yf0, yf1, yf2, yf3, yf4, yf5, yf6, yf7⟩ := cells8 H3.out; clear hbox hb hg) | fail)
  refine (BH _).mono ?_
  rintro e w' ⟨rfl, ⟨nd5, rfl⟩⟩
  go_wp2_with fail
  refine (O _).mono ?_
  rintro e w' ⟨rfl, ⟨nd, rfl⟩⟩
  go_wp2_with fail
  refine (F7 _).mono ?_
  rintro e w' ⟨rfl, ⟨nd, rfl⟩⟩
  go_wp2_with fail
  refine (F7 _).mono ?_
  rintro e w' ⟨rfl, ⟨nd, rfl⟩⟩
  go_wp2_with fail
  refine (O _).mono ?_
  rintro e w' ⟨rfl, ⟨nd, rfl⟩⟩
  go_wp2_with fail
  refine (F3 _).mono ?_
  rintro e w' ⟨rfl, ⟨nd, rfl⟩⟩
  go_wp2_with fail
  refine (F3 _).mono ?_
  rintro e w' ⟨rfl, ⟨nd, rfl⟩⟩
  go_wp2_with fail
  refine (F3 _).mono ?_
  rintro e w' ⟨rfl, ⟨nd, rfl⟩⟩
  go_wp2_with fail
  refine (F3 _).mono ?_
  rintro e w' ⟨rfl, ⟨nd, rfl⟩⟩
  go_wp2_with fail
  refine (O _).mono ?_
  rintro e w' ⟨rfl, ⟨nd, rfl⟩⟩
  go_wp2_with (first | ((with_reducible refine gate_store (t := 23) rfl ?_); refine store_event rfl 23 (.tmp 4) (.tmp 24) rfl (g := g4) #[.int .i64 9, .int .i64 0, .int .i64 rd, .int .i64 rs1, .int .i64 rs2, .int .i64 imm, .int .i64 0, .bool false] H4.out rfl rfl (by kernel_rfl) rfl rfl ?_; intro w30 hbox hfar hbel; have H4' := Aside0.mk hbox; have HB' := Aside0.mk (hbel _ _ (by repeat (first | (with_reducible first | exact HB.out | apply below_alloc | apply pw_below_drewN | apply below_drew1) | exact HB.out)) HL4.out); clear hbox hfar hbel H4 H3 HB; have H4 := H4'; have HB := HB'; clear H4' HB') | fail)
  refine bodyPost_ret (results_ct rfl _ _ g4 23 #[.int .i64 9, .int .i64 0, .int .i64 rd, .int .i64 rs1, .int .i64 rs2, .int .i64 imm, .int .i64 0, .bool false] (0, 0) _ rfl H4.out Tryz.underlying23 rfl (by kernel_rfl)) rfl ?_
  exact ⟨rfl, HB.out⟩

theorem imm19_1 {w rd rs1 rs2 imm f3 f7 hi v : Int} (W : World) (O : ∀ W, Calls Tryz.prog 95 #[.int .u32 w] W fun e w' => e = .returned (.int .i64 19) ∧ Drawn0 W w') (F3 : ∀ W, Calls Tryz.prog 96 #[.int .u32 w] W fun e w' => e = .returned (.int .i64 1) ∧ Drawn0 W w')
    (F7 : ∀ W, Calls Tryz.prog 129 #[.int .u32 w] W fun e w' => e = .returned (.int .i64 f7) ∧ Drawn0 W w') (BH : ∀ W, Calls Tryz.prog 131 #[.int .u32 w, .int .i64 31, .int .i64 26] W fun e w' => e = .returned (.int .i64 0) ∧ Drawn0 W w')
    (BV : ∀ W, Calls Tryz.prog 131 #[.int .u32 w, .int .i64 25, .int .i64 20] W fun e w' => e = .returned (.int .i64 v) ∧ Drawn0 W w') :
    Calls Tryz.prog 138 #[.int .u32 w, .agg #[.int .i64 9, .int .i64 0, .int .i64 rd, .int .i64 rs1, .int .i64 rs2, .int .i64 imm, .int .i64 0, .bool false]] W fun e w' => e = .returned (.tuple #[.agg #[.int .i64 9, .int .i64 3, .int .i64 rd, .int .i64 rs1, .int .i64 rs2, .int .i64 v, .int .i64 0, .bool false], .bool true]) ∧ Below W.heap.size W w' := by
  have HB := Aside0.mk (Below.refl W.heap.size W)
  have hu23 := Tryz.underlying23
  go_enter Tryz.func138, Tryz.ntmps138
  go_wp2_with (first | ((with_reducible refine gate_dst (N := 3) rfl ?_); refine box_event (by rfl) (N := 3) (by rfl) (cs := #[.int .i64 9, .int .i64 0, .int .i64 rd, .int .i64 rs1, .int .i64 rs2, .int .i64 imm, .int .i64 0, .bool false]) (t := 23) (by first | (go_simp; done) | (go_simp; rfl)) ?_; intro g3 hg w3 hbox hb; have H3 := Aside0.mk hbox; have HB' := Aside0.mk (below_step HB.out hb); have HL3 := Aside0.mk (show W.heap.size ≤ g3 by omega); clear HB; have HB := HB'; clear HB'; clear hbox hb hg) | ((with_reducible refine gate_dst (N := 4) rfl ?_); refine box_event (by rfl) (N := 4) (by rfl) (cs := #[.int .i64 0, .int .i64 0, .int .i64 0, .int .i64 0, .int .i64 0, .int .i64 0, .int .i64 0, .bool false]) (t := 23) (by first | (go_simp; done) | (go_simp; rfl)) ?_; intro g4 hg w4 hbox hb; have H4 := Aside0.mk hbox; have HB' := Aside0.mk (below_step HB.out hb); have H3' := Aside0.mk (blk_below H3.out hb); have HL4 := Aside0.mk (show W.heap.size ≤ g4 by have h1 := HB.out.size; omega); have HN := Aside0.mk (show g3 ≠ g4 by have h1 := blk_lt H3.out; omega); clear HB H3; have HB := HB'; have H3 := H3'; clear HB' H3'; obtain ⟨y0, y1, y2, y3, y4, y5, y6, y7, yf0, yf1, yf2, yf3, yf4, yf5, yf6, yf7⟩ := cells8 H3.out; clear hbox hb hg) | fail)
  refine (BH _).mono ?_
  rintro e w' ⟨rfl, ⟨nd5, rfl⟩⟩
  go_wp2_with fail
  refine (O _).mono ?_
  rintro e w' ⟨rfl, ⟨nd, rfl⟩⟩
  go_wp2_with fail
  refine (O _).mono ?_
  rintro e w' ⟨rfl, ⟨nd, rfl⟩⟩
  go_wp2_with fail
  refine (F3 _).mono ?_
  rintro e w' ⟨rfl, ⟨nd, rfl⟩⟩
  go_wp2_with (first | ((with_reducible refine gate_store (t := 3) rfl ?_); refine set_event rfl 3 _ _ rfl (g := g3) 1 (.int .i64 3) #[.int .i64 9, .int .i64 3, .int .i64 rd, .int .i64 rs1, .int .i64 rs2, .int .i64 imm, .int .i64 0, .bool false] H3.out (by simp) rfl rfl (by kernel_rfl) rfl rfl rfl ?_; intro w20 hbox hfar hbel; have H3' := Aside0.mk hbox; have H4' := Aside0.mk (far_blk hfar (fun e => HN.out e.symm) H4.out); have HB' := Aside0.mk (hbel _ _ (by repeat (first | (with_reducible first | exact HB.out | apply below_alloc | apply pw_below_drewN | apply below_drew1) | exact HB.out)) HL3.out); clear hbox hfar hbel H3 H4 HB y0 y1 y2 y3 y4 y5 y6 y7 yf0 yf1 yf2 yf3 yf4 yf5 yf6 yf7; have H3 := H3'; have H4 := H4'; have HB := HB'; clear H3' H4' HB'; obtain ⟨y0, y1, y2, y3, y4, y5, y6, y7, yf0, yf1, yf2, yf3, yf4, yf5, yf6, yf7⟩ := cells8 H3.out) | fail)
  refine (BV _).mono ?_
  rintro e w' ⟨rfl, ⟨nd, rfl⟩⟩
  go_wp2_with (first | ((with_reducible refine gate_store (t := 3) rfl ?_); refine set_event rfl 3 _ _ rfl (g := g3) 5 (.int .i64 v) #[.int .i64 9, .int .i64 3, .int .i64 rd, .int .i64 rs1, .int .i64 rs2, .int .i64 v, .int .i64 0, .bool false] H3.out (by simp) rfl rfl (by kernel_rfl) rfl rfl rfl ?_; intro w21 hbox hfar hbel; have H3' := Aside0.mk hbox; have H4' := Aside0.mk (far_blk hfar (fun e => HN.out e.symm) H4.out); have HB' := Aside0.mk (hbel _ _ (by repeat (first | (with_reducible first | exact HB.out | apply below_alloc | apply pw_below_drewN | apply below_drew1) | exact HB.out)) HL3.out); clear hbox hfar hbel H3 H4 HB y0 y1 y2 y3 y4 y5 y6 y7 yf0 yf1 yf2 yf3 yf4 yf5 yf6 yf7; have H3 := H3'; have H4 := H4'; have HB := HB'; clear H3' H4' HB'; obtain ⟨y0, y1, y2, y3, y4, y5, y6, y7, yf0, yf1, yf2, yf3, yf4, yf5, yf6, yf7⟩ := cells8 H3.out) | ((with_reducible refine gate_store (t := 23) rfl ?_); refine store_event rfl 23 (.tmp 4) (.tmp 91) rfl (g := g4) #[.int .i64 9, .int .i64 3, .int .i64 rd, .int .i64 rs1, .int .i64 rs2, .int .i64 v, .int .i64 0, .bool false] H4.out rfl rfl (by kernel_rfl) rfl rfl ?_; intro w30 hbox hfar hbel; have H4' := Aside0.mk hbox; have HB' := Aside0.mk (hbel _ _ (by repeat (first | (with_reducible first | exact HB.out | apply below_alloc | apply pw_below_drewN | apply below_drew1) | exact HB.out)) HL4.out); clear hbox hfar hbel H4 H3 HB; have H4 := H4'; have HB := HB'; clear H4' HB') | fail)
  refine bodyPost_ret (results_ct rfl _ _ g4 23 #[.int .i64 9, .int .i64 3, .int .i64 rd, .int .i64 rs1, .int .i64 rs2, .int .i64 v, .int .i64 0, .bool false] (0, 0) _ rfl H4.out Tryz.underlying23 rfl (by kernel_rfl)) rfl ?_
  exact ⟨rfl, HB.out⟩

theorem imm19_1n {w rd rs1 rs2 imm f3 f7 hi v : Int} (W : World) (O : ∀ W, Calls Tryz.prog 95 #[.int .u32 w] W fun e w' => e = .returned (.int .i64 19) ∧ Drawn0 W w') (F3 : ∀ W, Calls Tryz.prog 96 #[.int .u32 w] W fun e w' => e = .returned (.int .i64 1) ∧ Drawn0 W w')
    (F7 : ∀ W, Calls Tryz.prog 129 #[.int .u32 w] W fun e w' => e = .returned (.int .i64 f7) ∧ Drawn0 W w') (BH : ∀ W, Calls Tryz.prog 131 #[.int .u32 w, .int .i64 31, .int .i64 26] W fun e w' => e = .returned (.int .i64 hi) ∧ Drawn0 W w')
    (BV : ∀ W, Calls Tryz.prog 131 #[.int .u32 w, .int .i64 25, .int .i64 20] W fun e w' => e = .returned (.int .i64 v) ∧ Drawn0 W w') (h0 : (hi == 0) = false) :
    Calls Tryz.prog 138 #[.int .u32 w, .agg #[.int .i64 9, .int .i64 0, .int .i64 rd, .int .i64 rs1, .int .i64 rs2, .int .i64 imm, .int .i64 0, .bool false]] W fun e w' => e = .returned (.tuple #[.agg #[.int .i64 9, .int .i64 0, .int .i64 rd, .int .i64 rs1, .int .i64 rs2, .int .i64 imm, .int .i64 0, .bool false], .bool false]) ∧ Below W.heap.size W w' := by
  have HB := Aside0.mk (Below.refl W.heap.size W)
  have hu23 := Tryz.underlying23
  go_enter Tryz.func138, Tryz.ntmps138
  go_wp2_with (first | ((with_reducible refine gate_dst (N := 3) rfl ?_); refine box_event (by rfl) (N := 3) (by rfl) (cs := #[.int .i64 9, .int .i64 0, .int .i64 rd, .int .i64 rs1, .int .i64 rs2, .int .i64 imm, .int .i64 0, .bool false]) (t := 23) (by first | (go_simp; done) | (go_simp; rfl)) ?_; intro g3 hg w3 hbox hb; have H3 := Aside0.mk hbox; have HB' := Aside0.mk (below_step HB.out hb); have HL3 := Aside0.mk (show W.heap.size ≤ g3 by omega); clear HB; have HB := HB'; clear HB'; clear hbox hb hg) | ((with_reducible refine gate_dst (N := 4) rfl ?_); refine box_event (by rfl) (N := 4) (by rfl) (cs := #[.int .i64 0, .int .i64 0, .int .i64 0, .int .i64 0, .int .i64 0, .int .i64 0, .int .i64 0, .bool false]) (t := 23) (by first | (go_simp; done) | (go_simp; rfl)) ?_; intro g4 hg w4 hbox hb; have H4 := Aside0.mk hbox; have HB' := Aside0.mk (below_step HB.out hb); have H3' := Aside0.mk (blk_below H3.out hb); have HL4 := Aside0.mk (show W.heap.size ≤ g4 by have h1 := HB.out.size; omega); have HN := Aside0.mk (show g3 ≠ g4 by have h1 := blk_lt H3.out; omega); clear HB H3; have HB := HB'; have H3 := H3'; clear HB' H3'; obtain ⟨y0, y1, y2, y3, y4, y5, y6, y7, yf0, yf1, yf2, yf3, yf4, yf5, yf6, yf7⟩ := cells8 H3.out; clear hbox hb hg) | fail)
  refine (BH _).mono ?_
  rintro e w' ⟨rfl, ⟨nd5, rfl⟩⟩
  go_wp2_with fail
  refine (O _).mono ?_
  rintro e w' ⟨rfl, ⟨nd, rfl⟩⟩
  go_wp2_with fail
  refine (O _).mono ?_
  rintro e w' ⟨rfl, ⟨nd, rfl⟩⟩
  go_wp2_with fail
  refine (F3 _).mono ?_
  rintro e w' ⟨rfl, ⟨nd, rfl⟩⟩
  go_wp2_with fail
  refine (F3 _).mono ?_
  rintro e w' ⟨rfl, ⟨nd, rfl⟩⟩
  go_wp2_with fail
  refine (F3 _).mono ?_
  rintro e w' ⟨rfl, ⟨nd, rfl⟩⟩
  go_wp2_with fail
  refine (O _).mono ?_
  rintro e w' ⟨rfl, ⟨nd, rfl⟩⟩
  go_wp2_with fail
  refine (F3 _).mono ?_
  rintro e w' ⟨rfl, ⟨nd, rfl⟩⟩
  go_wp2_with (first | ((with_reducible refine gate_store (t := 23) rfl ?_); refine store_event rfl 23 (.tmp 4) (.tmp 24) rfl (g := g4) #[.int .i64 9, .int .i64 0, .int .i64 rd, .int .i64 rs1, .int .i64 rs2, .int .i64 imm, .int .i64 0, .bool false] H4.out rfl rfl (by kernel_rfl) rfl rfl ?_; intro w30 hbox hfar hbel; have H4' := Aside0.mk hbox; have HB' := Aside0.mk (hbel _ _ (by repeat (first | (with_reducible first | exact HB.out | apply below_alloc | apply pw_below_drewN | apply below_drew1) | exact HB.out)) HL4.out); clear hbox hfar hbel H4 H3 HB; have H4 := H4'; have HB := HB'; clear H4' HB') | fail)
  refine bodyPost_ret (results_ct rfl _ _ g4 23 #[.int .i64 9, .int .i64 0, .int .i64 rd, .int .i64 rs1, .int .i64 rs2, .int .i64 imm, .int .i64 0, .bool false] (0, 0) _ rfl H4.out Tryz.underlying23 rfl (by kernel_rfl)) rfl ?_
  exact ⟨rfl, HB.out⟩

theorem imm19_5 {w rd rs1 rs2 imm f3 f7 hi v : Int} (W : World) (O : ∀ W, Calls Tryz.prog 95 #[.int .u32 w] W fun e w' => e = .returned (.int .i64 19) ∧ Drawn0 W w') (F3 : ∀ W, Calls Tryz.prog 96 #[.int .u32 w] W fun e w' => e = .returned (.int .i64 5) ∧ Drawn0 W w')
    (F7 : ∀ W, Calls Tryz.prog 129 #[.int .u32 w] W fun e w' => e = .returned (.int .i64 f7) ∧ Drawn0 W w') (BH : ∀ W, Calls Tryz.prog 131 #[.int .u32 w, .int .i64 31, .int .i64 26] W fun e w' => e = .returned (.int .i64 0) ∧ Drawn0 W w')
    (BV : ∀ W, Calls Tryz.prog 131 #[.int .u32 w, .int .i64 25, .int .i64 20] W fun e w' => e = .returned (.int .i64 v) ∧ Drawn0 W w') :
    Calls Tryz.prog 138 #[.int .u32 w, .agg #[.int .i64 9, .int .i64 0, .int .i64 rd, .int .i64 rs1, .int .i64 rs2, .int .i64 imm, .int .i64 0, .bool false]] W fun e w' => e = .returned (.tuple #[.agg #[.int .i64 9, .int .i64 7, .int .i64 rd, .int .i64 rs1, .int .i64 rs2, .int .i64 v, .int .i64 0, .bool false], .bool true]) ∧ Below W.heap.size W w' := by
  have HB := Aside0.mk (Below.refl W.heap.size W)
  have hu23 := Tryz.underlying23
  go_enter Tryz.func138, Tryz.ntmps138
  go_wp2_with (first | ((with_reducible refine gate_dst (N := 3) rfl ?_); refine box_event (by rfl) (N := 3) (by rfl) (cs := #[.int .i64 9, .int .i64 0, .int .i64 rd, .int .i64 rs1, .int .i64 rs2, .int .i64 imm, .int .i64 0, .bool false]) (t := 23) (by first | (go_simp; done) | (go_simp; rfl)) ?_; intro g3 hg w3 hbox hb; have H3 := Aside0.mk hbox; have HB' := Aside0.mk (below_step HB.out hb); have HL3 := Aside0.mk (show W.heap.size ≤ g3 by omega); clear HB; have HB := HB'; clear HB'; clear hbox hb hg) | ((with_reducible refine gate_dst (N := 4) rfl ?_); refine box_event (by rfl) (N := 4) (by rfl) (cs := #[.int .i64 0, .int .i64 0, .int .i64 0, .int .i64 0, .int .i64 0, .int .i64 0, .int .i64 0, .bool false]) (t := 23) (by first | (go_simp; done) | (go_simp; rfl)) ?_; intro g4 hg w4 hbox hb; have H4 := Aside0.mk hbox; have HB' := Aside0.mk (below_step HB.out hb); have H3' := Aside0.mk (blk_below H3.out hb); have HL4 := Aside0.mk (show W.heap.size ≤ g4 by have h1 := HB.out.size; omega); have HN := Aside0.mk (show g3 ≠ g4 by have h1 := blk_lt H3.out; omega); clear HB H3; have HB := HB'; have H3 := H3'; clear HB' H3'; obtain ⟨y0, y1, y2, y3, y4, y5, y6, y7, yf0, yf1, yf2, yf3, yf4, yf5, yf6, yf7⟩ := cells8 H3.out; clear hbox hb hg) | fail)
  refine (BH _).mono ?_
  rintro e w' ⟨rfl, ⟨nd5, rfl⟩⟩
  go_wp2_with fail
  refine (O _).mono ?_
  rintro e w' ⟨rfl, ⟨nd, rfl⟩⟩
  go_wp2_with fail
  refine (O _).mono ?_
  rintro e w' ⟨rfl, ⟨nd, rfl⟩⟩
  go_wp2_with fail
  refine (F3 _).mono ?_
  rintro e w' ⟨rfl, ⟨nd, rfl⟩⟩
  go_wp2_with fail
  refine (F3 _).mono ?_
  rintro e w' ⟨rfl, ⟨nd, rfl⟩⟩
  go_wp2_with (first | ((with_reducible refine gate_store (t := 3) rfl ?_); refine set_event rfl 3 _ _ rfl (g := g3) 1 (.int .i64 7) #[.int .i64 9, .int .i64 7, .int .i64 rd, .int .i64 rs1, .int .i64 rs2, .int .i64 imm, .int .i64 0, .bool false] H3.out (by simp) rfl rfl (by kernel_rfl) rfl rfl rfl ?_; intro w20 hbox hfar hbel; have H3' := Aside0.mk hbox; have H4' := Aside0.mk (far_blk hfar (fun e => HN.out e.symm) H4.out); have HB' := Aside0.mk (hbel _ _ (by repeat (first | (with_reducible first | exact HB.out | apply below_alloc | apply pw_below_drewN | apply below_drew1) | exact HB.out)) HL3.out); clear hbox hfar hbel H3 H4 HB y0 y1 y2 y3 y4 y5 y6 y7 yf0 yf1 yf2 yf3 yf4 yf5 yf6 yf7; have H3 := H3'; have H4 := H4'; have HB := HB'; clear H3' H4' HB'; obtain ⟨y0, y1, y2, y3, y4, y5, y6, y7, yf0, yf1, yf2, yf3, yf4, yf5, yf6, yf7⟩ := cells8 H3.out) | fail)
  refine (BV _).mono ?_
  rintro e w' ⟨rfl, ⟨nd, rfl⟩⟩
  go_wp2_with (first | ((with_reducible refine gate_store (t := 3) rfl ?_); refine set_event rfl 3 _ _ rfl (g := g3) 5 (.int .i64 v) #[.int .i64 9, .int .i64 7, .int .i64 rd, .int .i64 rs1, .int .i64 rs2, .int .i64 v, .int .i64 0, .bool false] H3.out (by simp) rfl rfl (by kernel_rfl) rfl rfl rfl ?_; intro w21 hbox hfar hbel; have H3' := Aside0.mk hbox; have H4' := Aside0.mk (far_blk hfar (fun e => HN.out e.symm) H4.out); have HB' := Aside0.mk (hbel _ _ (by repeat (first | (with_reducible first | exact HB.out | apply below_alloc | apply pw_below_drewN | apply below_drew1) | exact HB.out)) HL3.out); clear hbox hfar hbel H3 H4 HB y0 y1 y2 y3 y4 y5 y6 y7 yf0 yf1 yf2 yf3 yf4 yf5 yf6 yf7; have H3 := H3'; have H4 := H4'; have HB := HB'; clear H3' H4' HB'; obtain ⟨y0, y1, y2, y3, y4, y5, y6, y7, yf0, yf1, yf2, yf3, yf4, yf5, yf6, yf7⟩ := cells8 H3.out) | ((with_reducible refine gate_store (t := 23) rfl ?_); refine store_event rfl 23 (.tmp 4) (.tmp 91) rfl (g := g4) #[.int .i64 9, .int .i64 7, .int .i64 rd, .int .i64 rs1, .int .i64 rs2, .int .i64 v, .int .i64 0, .bool false] H4.out rfl rfl (by kernel_rfl) rfl rfl ?_; intro w30 hbox hfar hbel; have H4' := Aside0.mk hbox; have HB' := Aside0.mk (hbel _ _ (by repeat (first | (with_reducible first | exact HB.out | apply below_alloc | apply pw_below_drewN | apply below_drew1) | exact HB.out)) HL4.out); clear hbox hfar hbel H4 H3 HB; have H4 := H4'; have HB := HB'; clear H4' HB') | fail)
  refine bodyPost_ret (results_ct rfl _ _ g4 23 #[.int .i64 9, .int .i64 7, .int .i64 rd, .int .i64 rs1, .int .i64 rs2, .int .i64 v, .int .i64 0, .bool false] (0, 0) _ rfl H4.out Tryz.underlying23 rfl (by kernel_rfl)) rfl ?_
  exact ⟨rfl, HB.out⟩

theorem imm19_5a {w rd rs1 rs2 imm f3 f7 hi v : Int} (W : World) (O : ∀ W, Calls Tryz.prog 95 #[.int .u32 w] W fun e w' => e = .returned (.int .i64 19) ∧ Drawn0 W w') (F3 : ∀ W, Calls Tryz.prog 96 #[.int .u32 w] W fun e w' => e = .returned (.int .i64 5) ∧ Drawn0 W w')
    (F7 : ∀ W, Calls Tryz.prog 129 #[.int .u32 w] W fun e w' => e = .returned (.int .i64 f7) ∧ Drawn0 W w') (BH : ∀ W, Calls Tryz.prog 131 #[.int .u32 w, .int .i64 31, .int .i64 26] W fun e w' => e = .returned (.int .i64 16) ∧ Drawn0 W w')
    (BV : ∀ W, Calls Tryz.prog 131 #[.int .u32 w, .int .i64 25, .int .i64 20] W fun e w' => e = .returned (.int .i64 v) ∧ Drawn0 W w') :
    Calls Tryz.prog 138 #[.int .u32 w, .agg #[.int .i64 9, .int .i64 0, .int .i64 rd, .int .i64 rs1, .int .i64 rs2, .int .i64 imm, .int .i64 0, .bool false]] W fun e w' => e = .returned (.tuple #[.agg #[.int .i64 9, .int .i64 8, .int .i64 rd, .int .i64 rs1, .int .i64 rs2, .int .i64 v, .int .i64 0, .bool false], .bool true]) ∧ Below W.heap.size W w' := by
  have HB := Aside0.mk (Below.refl W.heap.size W)
  have hu23 := Tryz.underlying23
  go_enter Tryz.func138, Tryz.ntmps138
  go_wp2_with (first | ((with_reducible refine gate_dst (N := 3) rfl ?_); refine box_event (by rfl) (N := 3) (by rfl) (cs := #[.int .i64 9, .int .i64 0, .int .i64 rd, .int .i64 rs1, .int .i64 rs2, .int .i64 imm, .int .i64 0, .bool false]) (t := 23) (by first | (go_simp; done) | (go_simp; rfl)) ?_; intro g3 hg w3 hbox hb; have H3 := Aside0.mk hbox; have HB' := Aside0.mk (below_step HB.out hb); have HL3 := Aside0.mk (show W.heap.size ≤ g3 by omega); clear HB; have HB := HB'; clear HB'; clear hbox hb hg) | ((with_reducible refine gate_dst (N := 4) rfl ?_); refine box_event (by rfl) (N := 4) (by rfl) (cs := #[.int .i64 0, .int .i64 0, .int .i64 0, .int .i64 0, .int .i64 0, .int .i64 0, .int .i64 0, .bool false]) (t := 23) (by first | (go_simp; done) | (go_simp; rfl)) ?_; intro g4 hg w4 hbox hb; have H4 := Aside0.mk hbox; have HB' := Aside0.mk (below_step HB.out hb); have H3' := Aside0.mk (blk_below H3.out hb); have HL4 := Aside0.mk (show W.heap.size ≤ g4 by have h1 := HB.out.size; omega); have HN := Aside0.mk (show g3 ≠ g4 by have h1 := blk_lt H3.out; omega); clear HB H3; have HB := HB'; have H3 := H3'; clear HB' H3'; obtain ⟨y0, y1, y2, y3, y4, y5, y6, y7, yf0, yf1, yf2, yf3, yf4, yf5, yf6, yf7⟩ := cells8 H3.out; clear hbox hb hg) | fail)
  refine (BH _).mono ?_
  rintro e w' ⟨rfl, ⟨nd5, rfl⟩⟩
  go_wp2_with fail
  refine (O _).mono ?_
  rintro e w' ⟨rfl, ⟨nd, rfl⟩⟩
  go_wp2_with fail
  refine (O _).mono ?_
  rintro e w' ⟨rfl, ⟨nd, rfl⟩⟩
  go_wp2_with fail
  refine (F3 _).mono ?_
  rintro e w' ⟨rfl, ⟨nd, rfl⟩⟩
  go_wp2_with fail
  refine (F3 _).mono ?_
  rintro e w' ⟨rfl, ⟨nd, rfl⟩⟩
  go_wp2_with fail
  refine (F3 _).mono ?_
  rintro e w' ⟨rfl, ⟨nd, rfl⟩⟩
  go_wp2_with (first | ((with_reducible refine gate_store (t := 3) rfl ?_); refine set_event rfl 3 _ _ rfl (g := g3) 1 (.int .i64 8) #[.int .i64 9, .int .i64 8, .int .i64 rd, .int .i64 rs1, .int .i64 rs2, .int .i64 imm, .int .i64 0, .bool false] H3.out (by simp) rfl rfl (by kernel_rfl) rfl rfl rfl ?_; intro w20 hbox hfar hbel; have H3' := Aside0.mk hbox; have H4' := Aside0.mk (far_blk hfar (fun e => HN.out e.symm) H4.out); have HB' := Aside0.mk (hbel _ _ (by repeat (first | (with_reducible first | exact HB.out | apply below_alloc | apply pw_below_drewN | apply below_drew1) | exact HB.out)) HL3.out); clear hbox hfar hbel H3 H4 HB y0 y1 y2 y3 y4 y5 y6 y7 yf0 yf1 yf2 yf3 yf4 yf5 yf6 yf7; have H3 := H3'; have H4 := H4'; have HB := HB'; clear H3' H4' HB'; obtain ⟨y0, y1, y2, y3, y4, y5, y6, y7, yf0, yf1, yf2, yf3, yf4, yf5, yf6, yf7⟩ := cells8 H3.out) | fail)
  refine (BV _).mono ?_
  rintro e w' ⟨rfl, ⟨nd, rfl⟩⟩
  go_wp2_with (first | ((with_reducible refine gate_store (t := 3) rfl ?_); refine set_event rfl 3 _ _ rfl (g := g3) 5 (.int .i64 v) #[.int .i64 9, .int .i64 8, .int .i64 rd, .int .i64 rs1, .int .i64 rs2, .int .i64 v, .int .i64 0, .bool false] H3.out (by simp) rfl rfl (by kernel_rfl) rfl rfl rfl ?_; intro w21 hbox hfar hbel; have H3' := Aside0.mk hbox; have H4' := Aside0.mk (far_blk hfar (fun e => HN.out e.symm) H4.out); have HB' := Aside0.mk (hbel _ _ (by repeat (first | (with_reducible first | exact HB.out | apply below_alloc | apply pw_below_drewN | apply below_drew1) | exact HB.out)) HL3.out); clear hbox hfar hbel H3 H4 HB y0 y1 y2 y3 y4 y5 y6 y7 yf0 yf1 yf2 yf3 yf4 yf5 yf6 yf7; have H3 := H3'; have H4 := H4'; have HB := HB'; clear H3' H4' HB'; obtain ⟨y0, y1, y2, y3, y4, y5, y6, y7, yf0, yf1, yf2, yf3, yf4, yf5, yf6, yf7⟩ := cells8 H3.out) | ((with_reducible refine gate_store (t := 23) rfl ?_); refine store_event rfl 23 (.tmp 4) (.tmp 91) rfl (g := g4) #[.int .i64 9, .int .i64 8, .int .i64 rd, .int .i64 rs1, .int .i64 rs2, .int .i64 v, .int .i64 0, .bool false] H4.out rfl rfl (by kernel_rfl) rfl rfl ?_; intro w30 hbox hfar hbel; have H4' := Aside0.mk hbox; have HB' := Aside0.mk (hbel _ _ (by repeat (first | (with_reducible first | exact HB.out | apply below_alloc | apply pw_below_drewN | apply below_drew1) | exact HB.out)) HL4.out); clear hbox hfar hbel H4 H3 HB; have H4 := H4'; have HB := HB'; clear H4' HB') | fail)
  refine bodyPost_ret (results_ct rfl _ _ g4 23 #[.int .i64 9, .int .i64 8, .int .i64 rd, .int .i64 rs1, .int .i64 rs2, .int .i64 v, .int .i64 0, .bool false] (0, 0) _ rfl H4.out Tryz.underlying23 rfl (by kernel_rfl)) rfl ?_
  exact ⟨rfl, HB.out⟩

theorem imm19_5n {w rd rs1 rs2 imm f3 f7 hi v : Int} (W : World) (O : ∀ W, Calls Tryz.prog 95 #[.int .u32 w] W fun e w' => e = .returned (.int .i64 19) ∧ Drawn0 W w') (F3 : ∀ W, Calls Tryz.prog 96 #[.int .u32 w] W fun e w' => e = .returned (.int .i64 5) ∧ Drawn0 W w')
    (F7 : ∀ W, Calls Tryz.prog 129 #[.int .u32 w] W fun e w' => e = .returned (.int .i64 f7) ∧ Drawn0 W w') (BH : ∀ W, Calls Tryz.prog 131 #[.int .u32 w, .int .i64 31, .int .i64 26] W fun e w' => e = .returned (.int .i64 hi) ∧ Drawn0 W w')
    (BV : ∀ W, Calls Tryz.prog 131 #[.int .u32 w, .int .i64 25, .int .i64 20] W fun e w' => e = .returned (.int .i64 v) ∧ Drawn0 W w') (h0 : (hi == 0) = false) (h1 : (hi == 16) = false) :
    Calls Tryz.prog 138 #[.int .u32 w, .agg #[.int .i64 9, .int .i64 0, .int .i64 rd, .int .i64 rs1, .int .i64 rs2, .int .i64 imm, .int .i64 0, .bool false]] W fun e w' => e = .returned (.tuple #[.agg #[.int .i64 9, .int .i64 0, .int .i64 rd, .int .i64 rs1, .int .i64 rs2, .int .i64 imm, .int .i64 0, .bool false], .bool false]) ∧ Below W.heap.size W w' := by
  have HB := Aside0.mk (Below.refl W.heap.size W)
  have hu23 := Tryz.underlying23
  go_enter Tryz.func138, Tryz.ntmps138
  go_wp2_with (first | ((with_reducible refine gate_dst (N := 3) rfl ?_); refine box_event (by rfl) (N := 3) (by rfl) (cs := #[.int .i64 9, .int .i64 0, .int .i64 rd, .int .i64 rs1, .int .i64 rs2, .int .i64 imm, .int .i64 0, .bool false]) (t := 23) (by first | (go_simp; done) | (go_simp; rfl)) ?_; intro g3 hg w3 hbox hb; have H3 := Aside0.mk hbox; have HB' := Aside0.mk (below_step HB.out hb); have HL3 := Aside0.mk (show W.heap.size ≤ g3 by omega); clear HB; have HB := HB'; clear HB'; clear hbox hb hg) | ((with_reducible refine gate_dst (N := 4) rfl ?_); refine box_event (by rfl) (N := 4) (by rfl) (cs := #[.int .i64 0, .int .i64 0, .int .i64 0, .int .i64 0, .int .i64 0, .int .i64 0, .int .i64 0, .bool false]) (t := 23) (by first | (go_simp; done) | (go_simp; rfl)) ?_; intro g4 hg w4 hbox hb; have H4 := Aside0.mk hbox; have HB' := Aside0.mk (below_step HB.out hb); have H3' := Aside0.mk (blk_below H3.out hb); have HL4 := Aside0.mk (show W.heap.size ≤ g4 by have h1 := HB.out.size; omega); have HN := Aside0.mk (show g3 ≠ g4 by have h1 := blk_lt H3.out; omega); clear HB H3; have HB := HB'; have H3 := H3'; clear HB' H3'; obtain ⟨y0, y1, y2, y3, y4, y5, y6, y7, yf0, yf1, yf2, yf3, yf4, yf5, yf6, yf7⟩ := cells8 H3.out; clear hbox hb hg) | fail)
  refine (BH _).mono ?_
  rintro e w' ⟨rfl, ⟨nd5, rfl⟩⟩
  go_wp2_with fail
  refine (O _).mono ?_
  rintro e w' ⟨rfl, ⟨nd, rfl⟩⟩
  go_wp2_with fail
  refine (O _).mono ?_
  rintro e w' ⟨rfl, ⟨nd, rfl⟩⟩
  go_wp2_with fail
  refine (F3 _).mono ?_
  rintro e w' ⟨rfl, ⟨nd, rfl⟩⟩
  go_wp2_with fail
  refine (F3 _).mono ?_
  rintro e w' ⟨rfl, ⟨nd, rfl⟩⟩
  go_wp2_with fail
  refine (F3 _).mono ?_
  rintro e w' ⟨rfl, ⟨nd, rfl⟩⟩
  go_wp2_with fail
  refine (O _).mono ?_
  rintro e w' ⟨rfl, ⟨nd, rfl⟩⟩
  go_wp2_with fail
  refine (F3 _).mono ?_
  rintro e w' ⟨rfl, ⟨nd, rfl⟩⟩
  go_wp2_with fail
  refine (F3 _).mono ?_
  rintro e w' ⟨rfl, ⟨nd, rfl⟩⟩
  go_wp2_with (first | ((with_reducible refine gate_store (t := 23) rfl ?_); refine store_event rfl 23 (.tmp 4) (.tmp 24) rfl (g := g4) #[.int .i64 9, .int .i64 0, .int .i64 rd, .int .i64 rs1, .int .i64 rs2, .int .i64 imm, .int .i64 0, .bool false] H4.out rfl rfl (by kernel_rfl) rfl rfl ?_; intro w30 hbox hfar hbel; have H4' := Aside0.mk hbox; have HB' := Aside0.mk (hbel _ _ (by repeat (first | (with_reducible first | exact HB.out | apply below_alloc | apply pw_below_drewN | apply below_drew1) | exact HB.out)) HL4.out); clear hbox hfar hbel H4 H3 HB; have H4 := H4'; have HB := HB'; clear H4' HB') | fail)
  refine bodyPost_ret (results_ct rfl _ _ g4 23 #[.int .i64 9, .int .i64 0, .int .i64 rd, .int .i64 rs1, .int .i64 rs2, .int .i64 imm, .int .i64 0, .bool false] (0, 0) _ rfl H4.out Tryz.underlying23 rfl (by kernel_rfl)) rfl ?_
  exact ⟨rfl, HB.out⟩

theorem imm19_x {w rd rs1 rs2 imm f3 f7 hi v : Int} (W : World) (O : ∀ W, Calls Tryz.prog 95 #[.int .u32 w] W fun e w' => e = .returned (.int .i64 19) ∧ Drawn0 W w') (F3 : ∀ W, Calls Tryz.prog 96 #[.int .u32 w] W fun e w' => e = .returned (.int .i64 f3) ∧ Drawn0 W w')
    (F7 : ∀ W, Calls Tryz.prog 129 #[.int .u32 w] W fun e w' => e = .returned (.int .i64 f7) ∧ Drawn0 W w') (BH : ∀ W, Calls Tryz.prog 131 #[.int .u32 w, .int .i64 31, .int .i64 26] W fun e w' => e = .returned (.int .i64 hi) ∧ Drawn0 W w')
    (BV : ∀ W, Calls Tryz.prog 131 #[.int .u32 w, .int .i64 25, .int .i64 20] W fun e w' => e = .returned (.int .i64 v) ∧ Drawn0 W w') (h0 : (f3 == 1) = false) (h1 : (f3 == 5) = false) (h2 : (f3 != 1) = true) (h3 : (f3 != 5) = true) :
    Calls Tryz.prog 138 #[.int .u32 w, .agg #[.int .i64 9, .int .i64 0, .int .i64 rd, .int .i64 rs1, .int .i64 rs2, .int .i64 imm, .int .i64 0, .bool false]] W fun e w' => e = .returned (.tuple #[.agg #[.int .i64 9, .int .i64 (pickL immsL f3), .int .i64 rd, .int .i64 rs1, .int .i64 rs2, .int .i64 imm, .int .i64 0, .bool false], .bool true]) ∧ Below W.heap.size W w' := by
  have HB := Aside0.mk (Below.refl W.heap.size W)
  have hu23 := Tryz.underlying23
  go_enter Tryz.func138, Tryz.ntmps138
  go_wp2_with (first | ((with_reducible refine gate_dst (N := 3) rfl ?_); refine box_event (by rfl) (N := 3) (by rfl) (cs := #[.int .i64 9, .int .i64 0, .int .i64 rd, .int .i64 rs1, .int .i64 rs2, .int .i64 imm, .int .i64 0, .bool false]) (t := 23) (by first | (go_simp; done) | (go_simp; rfl)) ?_; intro g3 hg w3 hbox hb; have H3 := Aside0.mk hbox; have HB' := Aside0.mk (below_step HB.out hb); have HL3 := Aside0.mk (show W.heap.size ≤ g3 by omega); clear HB; have HB := HB'; clear HB'; clear hbox hb hg) | ((with_reducible refine gate_dst (N := 4) rfl ?_); refine box_event (by rfl) (N := 4) (by rfl) (cs := #[.int .i64 0, .int .i64 0, .int .i64 0, .int .i64 0, .int .i64 0, .int .i64 0, .int .i64 0, .bool false]) (t := 23) (by first | (go_simp; done) | (go_simp; rfl)) ?_; intro g4 hg w4 hbox hb; have H4 := Aside0.mk hbox; have HB' := Aside0.mk (below_step HB.out hb); have H3' := Aside0.mk (blk_below H3.out hb); have HL4 := Aside0.mk (show W.heap.size ≤ g4 by have h1 := HB.out.size; omega); have HN := Aside0.mk (show g3 ≠ g4 by have h1 := blk_lt H3.out; omega); clear HB H3; have HB := HB'; have H3 := H3'; clear HB' H3'; obtain ⟨y0, y1, y2, y3, y4, y5, y6, y7, yf0, yf1, yf2, yf3, yf4, yf5, yf6, yf7⟩ := cells8 H3.out; clear hbox hb hg) | fail)
  refine (BH _).mono ?_
  rintro e w' ⟨rfl, ⟨nd5, rfl⟩⟩
  go_wp2_with fail
  refine (O _).mono ?_
  rintro e w' ⟨rfl, ⟨nd, rfl⟩⟩
  go_wp2_with fail
  refine (O _).mono ?_
  rintro e w' ⟨rfl, ⟨nd, rfl⟩⟩
  go_wp2_with fail
  refine (F3 _).mono ?_
  rintro e w' ⟨rfl, ⟨nd, rfl⟩⟩
  go_wp2_with fail
  refine (F3 _).mono ?_
  rintro e w' ⟨rfl, ⟨nd, rfl⟩⟩
  go_wp2_with fail
  refine (F3 _).mono ?_
  rintro e w' ⟨rfl, ⟨nd, rfl⟩⟩
  go_wp2_with fail
  refine (O _).mono ?_
  rintro e w' ⟨rfl, ⟨nd, rfl⟩⟩
  go_wp2_with fail
  refine (F3 _).mono ?_
  rintro e w' ⟨rfl, ⟨nd, rfl⟩⟩
  go_wp2_with fail
  refine (F3 _).mono ?_
  rintro e w' ⟨rfl, ⟨nd, rfl⟩⟩
  go_wp2_with fail
  refine (F3 _).mono ?_
  rintro e w' ⟨rfl, ⟨nd, rfl⟩⟩
  go_wp2_with fail
  refine (pick_at immsL f3 (by unfold immsL; repeat (first | exact lit_C _ _ (by decide) | apply Kd.C_drewN | apply Kd.C_drew)) rfl (by decide)).mono ?_
  rintro e w' ⟨rfl, ⟨nd2, rfl⟩⟩
  have H3a := Aside0.mk (blk_alloc H3.out (.cells #[.int .i64 1, .int .i64 0, .int .i64 4, .int .i64 5, .int .i64 6, .int .i64 0, .int .i64 9, .int .i64 10] 3))
  have H4a := Aside0.mk (blk_alloc H4.out (.cells #[.int .i64 1, .int .i64 0, .int .i64 4, .int .i64 5, .int .i64 6, .int .i64 0, .int .i64 9, .int .i64 10] 3))
  go_wp2_with (first | ((with_reducible refine gate_store (t := 3) rfl ?_); refine set_event rfl 3 _ _ rfl (g := g3) 1 (.int .i64 (pickL immsL f3)) #[.int .i64 9, .int .i64 (pickL immsL f3), .int .i64 rd, .int .i64 rs1, .int .i64 rs2, .int .i64 imm, .int .i64 0, .bool false] H3a.out (by simp) rfl rfl (by kernel_rfl) rfl rfl rfl ?_; intro w20 hbox hfar hbel; have H3' := Aside0.mk hbox; have H4' := Aside0.mk (far_blk hfar (fun e => HN.out e.symm) H4a.out); have HB' := Aside0.mk (hbel _ _ (by repeat (first | (with_reducible first | exact HB.out | apply below_alloc | apply pw_below_drewN | apply below_drew1) | exact HB.out)) HL3.out); clear hbox hfar hbel H3 H4 HB y0 y1 y2 y3 y4 y5 y6 y7 yf0 yf1 yf2 yf3 yf4 yf5 yf6 yf7; have H3 := H3'; have H4 := H4'; have HB := HB'; clear H3' H4' HB'; obtain ⟨y0, y1, y2, y3, y4, y5, y6, y7, yf0, yf1, yf2, yf3, yf4, yf5, yf6, yf7⟩ := cells8 H3.out) | ((with_reducible refine gate_store (t := 23) rfl ?_); refine store_event rfl 23 (.tmp 4) (.tmp 85) rfl (g := g4) #[.int .i64 9, .int .i64 (pickL immsL f3), .int .i64 rd, .int .i64 rs1, .int .i64 rs2, .int .i64 imm, .int .i64 0, .bool false] H4.out rfl rfl (by kernel_rfl) rfl rfl ?_; intro w30 hbox hfar hbel; have H4' := Aside0.mk hbox; have HB' := Aside0.mk (hbel _ _ (by repeat (first | (with_reducible first | exact HB.out | apply below_alloc | apply pw_below_drewN | apply below_drew1) | exact HB.out)) HL4.out); clear hbox hfar hbel H4 H3 HB; have H4 := H4'; have HB := HB'; clear H4' HB') | fail)
  refine bodyPost_ret (results_ct rfl _ _ g4 23 #[.int .i64 9, .int .i64 (pickL immsL f3), .int .i64 rd, .int .i64 rs1, .int .i64 rs2, .int .i64 imm, .int .i64 0, .bool false] (0, 0) _ rfl H4.out Tryz.underlying23 rfl (by kernel_rfl)) rfl ?_
  exact ⟨rfl, HB.out⟩

end Go.Proofs.YtjapahcbhjjeiaaGreatDoor.AS
