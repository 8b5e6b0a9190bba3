/- inst.Encode's contract: it writes what may be. -/
import Derived.Test.YtjapahcbhjjeiaaGreatDoorG13
import Derived.Test.YtjapahcbhjjeiaaGreatDoorWInv
namespace Go.Proofs.YtjapahcbhjjeiaaGreatDoor.AS
open Go.RowKit Go.Proofs.YtjapahcbhjjeiaaGreatDoorW.PrintWords Go.Proofs.YtjapahcbhjjeiaaGreatDoorW.PrintLast Go.Proofs.YtjapahcbhjjeiaaGreatDoorW.PrintMore Go.Proofs.YtjapahcbhjjeiaaGreatDoor.PA
set_option linter.unusedVariables false
set_option maxHeartbeats 4000000
set_option maxRecDepth 100000
set_option linter.unusedSimpArgs false

theorem eqI (a b : Int) (d : Nat) (W : World) : (Op.equalIn (d + 1) 3 (.int .i64 a) (.int .i64 b)).run Tryz.prog W = .ok (a == b) W := by
  simp [Op.equalIn, run_underlying Tryz.underlying3, Result.andThen]
theorem eqB (a b : Bool) (d : Nat) (W : World) : (Op.equalIn (d + 1) 4 (.bool a) (.bool b)).run Tryz.prog W = .ok (a == b) W := by
  simp [Op.equalIn, run_underlying Tryz.underlying4, Result.andThen]
theorem insEq (i j : Ins) (W : World) : (binOp .eql 23 (.agg #[.int .i64 i.kind, .int .i64 i.fn, .int .i64 i.rd, .int .i64 i.rs1, .int .i64 i.rs2, .int .i64 i.imm, .int .i64 i.size, .bool i.sg]) (.agg #[.int .i64 j.kind, .int .i64 j.fn, .int .i64 j.rd, .int .i64 j.rs1, .int .i64 j.rs2, .int .i64 j.imm, .int .i64 j.size, .bool j.sg])).run Tryz.prog W = .ok (.bool (decide (i = j))) W := by
  have h : (Op.equalIn (9999 + 1) 23 (.agg #[.int .i64 i.kind, .int .i64 i.fn, .int .i64 i.rd, .int .i64 i.rs1, .int .i64 i.rs2, .int .i64 i.imm, .int .i64 i.size, .bool i.sg]) (.agg #[.int .i64 j.kind, .int .i64 j.fn, .int .i64 j.rd, .int .i64 j.rs1, .int .i64 j.rs2, .int .i64 j.imm, .int .i64 j.size, .bool j.sg])).run Tryz.prog W = .ok ((i.kind == j.kind) && ((i.fn == j.fn) && ((i.rd == j.rd) && ((i.rs1 == j.rs1) && ((i.rs2 == j.rs2) && ((i.imm == j.imm) && ((i.size == j.size) && (i.sg == j.sg)))))))) W :=
    eqA_of Tryz.underlying23 (by kernel_rfl) (eqf_cons rfl rfl rfl (eqI _ _ 9998 W) (eqf_cons rfl rfl rfl (eqI _ _ 9998 W) (eqf_cons rfl rfl rfl (eqI _ _ 9998 W) (eqf_cons rfl rfl rfl (eqI _ _ 9998 W) (eqf_cons rfl rfl rfl (eqI _ _ 9998 W) (eqf_cons rfl rfl rfl (eqI _ _ 9998 W) (eqf_cons rfl rfl rfl (eqI _ _ 9998 W) (eqf_last rfl rfl rfl (eqB _ _ 9998 W)))))))))
  have e : ((i.kind == j.kind) && ((i.fn == j.fn) && ((i.rd == j.rd) && ((i.rs1 == j.rs1) && ((i.rs2 == j.rs2) && ((i.imm == j.imm) && ((i.size == j.size) && (i.sg == j.sg)))))))) = decide (i = j) := by
    obtain ⟨a, b, c, d, e, f, g, h⟩ := i
    obtain ⟨a', b', c', d', e', f', g', h'⟩ := j
    simp only [Ins.mk.injEq, Bool.decide_and]
    rfl
  rw [e] at h
  simp only [binOp]
  simp [Op.equal, Op.maxDepth, h, Result.andThen]

theorem Enc_none {i : Ins} (W : World) (hd : decodeL (encL i) = none) : Calls Tryz.prog 15 #[.agg #[.int .i64 i.kind, .int .i64 i.fn, .int .i64 i.rd, .int .i64 i.rs1, .int .i64 i.rs2, .int .i64 i.imm, .int .i64 i.size, .bool i.sg]] W fun e w' => e = .returned (.tuple #[.int .u32 (0), .bool false]) ∧ Below W.heap.size W w' := by
  have HB := Aside0.mk (Below.refl W.heap.size W)
  have hu23 := Tryz.underlying23
  have D : ∀ W, Calls Tryz.prog 44 #[.int .u32 (encL i)] W fun e w' => e = .returned (.tuple #[.agg #[.int .i64 0, .int .i64 0, .int .i64 0, .int .i64 0, .int .i64 0, .int .i64 0, .int .i64 0, .bool false], .bool false]) ∧ Below W.heap.size W w' := fun W => by
    have := Decode_calls W (encL_b i).1 (encL_b i).2
    rw [hd] at this
    exact this
  clear hd
  go_enter Tryz.func15, Tryz.ntmps15
  go_wp2_with (first | ((with_reducible refine gate_dst (N := 1) rfl ?_); refine box_event (by rfl) (N := 1) (by rfl) (cs := #[.int .i64 i.kind, .int .i64 i.fn, .int .i64 i.rd, .int .i64 i.rs1, .int .i64 i.rs2, .int .i64 i.imm, .int .i64 i.size, .bool i.sg]) (t := 23) (by first | (go_simp; done) | (go_simp; rfl)) ?_; intro g3 hg w3 hbox hb; have H3 := Aside0.mk hbox; have HB' := Aside0.mk (below_step HB.out hb); clear HB; have HB := HB'; clear HB'; obtain ⟨y0, y1, y2, y3, y4, y5, y6, y7, yf0, yf1, yf2, yf3, yf4, yf5, yf6, yf7⟩ := cells8 H3.out; clear hbox hb hg) | fail)
  refine (encode_calls i _).mono ?_
  rintro e w' ⟨rfl, hb⟩
  have H3a := Aside0.mk (blk_below H3.out hb)
  have HBa := Aside0.mk (below_step HB.out hb)
  clear H3 HB hb y0 y1 y2 y3 y4 y5 y6 y7 yf0 yf1 yf2 yf3 yf4 yf5 yf6 yf7
  have H3 := H3a; have HB := HBa
  clear H3a HBa
  go_wp2_with fail
  refine (D _).mono ?_
  rintro e w' ⟨rfl, hb⟩
  have H3a := Aside0.mk (blk_below H3.out hb)
  have HBa := Aside0.mk (below_step HB.out hb)
  clear H3 HB hb D
  have H3 := H3a; have HB := HBa
  clear H3a HBa
  go_wp2_with (first | ((with_reducible refine gate_dst (N := 5) rfl ?_); refine box_event (by rfl) (N := 5) (by rfl) (cs := #[.int .i64 0, .int .i64 0, .int .i64 0, .int .i64 0, .int .i64 0, .int .i64 0, .int .i64 0, .bool false]) (t := 23) (by first | (go_simp; done) | (go_simp; rfl)) ?_; intro g4 hg w5 hbox hb; have H4 := Aside0.mk hbox; have H3' := Aside0.mk (blk_below H3.out hb); have HL4 := Aside0.mk (show W.heap.size ≤ g4 by have h1 := HB.out.size; omega); have HN := Aside0.mk (show g3 ≠ g4 by have h1 := blk_lt H3.out; omega); have HB' := Aside0.mk (below_step HB.out hb); clear HB H3; have HB := HB'; have H3 := H3'; clear HB' H3'; clear hbox hb hg) | ((with_reducible refine gate_store (t := 23) rfl ?_); refine store_event rfl 23 (.tmp 5) (.tmp 12) rfl (g := g4) #[.int .i64 0, .int .i64 0, .int .i64 0, .int .i64 0, .int .i64 0, .int .i64 0, .int .i64 0, .bool false] H4.out rfl rfl (by kernel_rfl) rfl rfl ?_; intro w6 hbox hfar hbel; have H4' := Aside0.mk hbox; have H3' := Aside0.mk (far_blk hfar HN.out H3.out); have HB' := Aside0.mk (hbel _ _ HB.out HL4.out); clear hbox hfar hbel H4 H3 HB; have H3 := H3'; have H4 := H4'; have HB := HB'; clear H3' H4' HB'; obtain ⟨y0, y1, y2, y3, y4, y5, y6, y7, yf0, yf1, yf2, yf3, yf4, yf5, yf6, yf7⟩ := cells8 H3.out; have z0 : w6.cell? ⟨g4, 0, none⟩ = some (.int .i64 0) := (blk_cell H4.out 0).trans rfl; have zf0 := blk_frozen H4.out 0; have z1 : w6.cell? ⟨g4, 1, none⟩ = some (.int .i64 0) := (blk_cell H4.out 1).trans rfl; have zf1 := blk_frozen H4.out 1; have z2 : w6.cell? ⟨g4, 2, none⟩ = some (.int .i64 0) := (blk_cell H4.out 2).trans rfl; have zf2 := blk_frozen H4.out 2; have z3 : w6.cell? ⟨g4, 3, none⟩ = some (.int .i64 0) := (blk_cell H4.out 3).trans rfl; have zf3 := blk_frozen H4.out 3; have z4 : w6.cell? ⟨g4, 4, none⟩ = some (.int .i64 0) := (blk_cell H4.out 4).trans rfl; have zf4 := blk_frozen H4.out 4; have z5 : w6.cell? ⟨g4, 5, none⟩ = some (.int .i64 0) := (blk_cell H4.out 5).trans rfl; have zf5 := blk_frozen H4.out 5; have z6 : w6.cell? ⟨g4, 6, none⟩ = some (.int .i64 0) := (blk_cell H4.out 6).trans rfl; have zf6 := blk_frozen H4.out 6; have z7 : w6.cell? ⟨g4, 7, none⟩ = some (.bool false) := (blk_cell H4.out 7).trans rfl; have zf7 := blk_frozen H4.out 7) | fail)
  go_ret2
  exact ⟨rfl, by repeat (first | (with_reducible first | exact HB.out | apply below_alloc | apply pw_below_drewN | apply below_drew1) | exact HB.out)⟩

theorem Enc_no {i : Ins} (W : World) {j : Ins} (hd : decodeL (encL i) = some j) (hne : j ≠ i) : Calls Tryz.prog 15 #[.agg #[.int .i64 i.kind, .int .i64 i.fn, .int .i64 i.rd, .int .i64 i.rs1, .int .i64 i.rs2, .int .i64 i.imm, .int .i64 i.size, .bool i.sg]] W fun e w' => e = .returned (.tuple #[.int .u32 (0), .bool false]) ∧ Below W.heap.size W w' := by
  have HB := Aside0.mk (Below.refl W.heap.size W)
  have hu23 := Tryz.underlying23
  have heq : ∀ W, (binOp .eql 23 (.agg #[.int .i64 j.kind, .int .i64 j.fn, .int .i64 j.rd, .int .i64 j.rs1, .int .i64 j.rs2, .int .i64 j.imm, .int .i64 j.size, .bool j.sg]) (.agg #[.int .i64 i.kind, .int .i64 i.fn, .int .i64 i.rd, .int .i64 i.rs1, .int .i64 i.rs2, .int .i64 i.imm, .int .i64 i.size, .bool i.sg])).run Tryz.prog W = .ok (.bool false) W := fun W => by rw [insEq j i W]; simp [hne]
  have D : ∀ W, Calls Tryz.prog 44 #[.int .u32 (encL i)] W fun e w' => e = .returned (.tuple #[.agg #[.int .i64 j.kind, .int .i64 j.fn, .int .i64 j.rd, .int .i64 j.rs1, .int .i64 j.rs2, .int .i64 j.imm, .int .i64 j.size, .bool j.sg], .bool true]) ∧ Below W.heap.size W w' := fun W => by
    have := Decode_calls W (encL_b i).1 (encL_b i).2
    rw [hd] at this
    exact this
  clear hd hne
  go_enter Tryz.func15, Tryz.ntmps15
  go_wp2_with (first | ((with_reducible refine gate_dst (N := 1) rfl ?_); refine box_event (by rfl) (N := 1) (by rfl) (cs := #[.int .i64 i.kind, .int .i64 i.fn, .int .i64 i.rd, .int .i64 i.rs1, .int .i64 i.rs2, .int .i64 i.imm, .int .i64 i.size, .bool i.sg]) (t := 23) (by first | (go_simp; done) | (go_simp; rfl)) ?_; intro g3 hg w3 hbox hb; have H3 := Aside0.mk hbox; have HB' := Aside0.mk (below_step HB.out hb); clear HB; have HB := HB'; clear HB'; obtain ⟨y0, y1, y2, y3, y4, y5, y6, y7, yf0, yf1, yf2, yf3, yf4, yf5, yf6, yf7⟩ := cells8 H3.out; clear hbox hb hg) | fail)
  refine (encode_calls i _).mono ?_
  rintro e w' ⟨rfl, hb⟩
  have H3a := Aside0.mk (blk_below H3.out hb)
  have HBa := Aside0.mk (below_step HB.out hb)
  clear H3 HB hb y0 y1 y2 y3 y4 y5 y6 y7 yf0 yf1 yf2 yf3 yf4 yf5 yf6 yf7
  have H3 := H3a; have HB := HBa
  clear H3a HBa
  go_wp2_with fail
  refine (D _).mono ?_
  rintro e w' ⟨rfl, hb⟩
  have H3a := Aside0.mk (blk_below H3.out hb)
  have HBa := Aside0.mk (below_step HB.out hb)
  clear H3 HB hb D
  have H3 := H3a; have HB := HBa
  clear H3a HBa
  go_wp2_with (first | ((with_reducible refine gate_dst (N := 5) rfl ?_); refine box_event (by rfl) (N := 5) (by rfl) (cs := #[.int .i64 0, .int .i64 0, .int .i64 0, .int .i64 0, .int .i64 0, .int .i64 0, .int .i64 0, .bool false]) (t := 23) (by first | (go_simp; done) | (go_simp; rfl)) ?_; intro g4 hg w5 hbox hb; have H4 := Aside0.mk hbox; have H3' := Aside0.mk (blk_below H3.out hb); have HL4 := Aside0.mk (show W.heap.size ≤ g4 by have h1 := HB.out.size; omega); have HN := Aside0.mk (show g3 ≠ g4 by have h1 := blk_lt H3.out; omega); have HB' := Aside0.mk (below_step HB.out hb); clear HB H3; have HB := HB'; have H3 := H3'; clear HB' H3'; clear hbox hb hg) | ((with_reducible refine gate_store (t := 23) rfl ?_); refine store_event rfl 23 (.tmp 5) (.tmp 12) rfl (g := g4) #[.int .i64 j.kind, .int .i64 j.fn, .int .i64 j.rd, .int .i64 j.rs1, .int .i64 j.rs2, .int .i64 j.imm, .int .i64 j.size, .bool j.sg] H4.out rfl rfl (by kernel_rfl) rfl rfl ?_; intro w6 hbox hfar hbel; have H4' := Aside0.mk hbox; have H3' := Aside0.mk (far_blk hfar HN.out H3.out); have HB' := Aside0.mk (hbel _ _ HB.out HL4.out); clear hbox hfar hbel H4 H3 HB; have H3 := H3'; have H4 := H4'; have HB := HB'; clear H3' H4' HB'; obtain ⟨y0, y1, y2, y3, y4, y5, y6, y7, yf0, yf1, yf2, yf3, yf4, yf5, yf6, yf7⟩ := cells8 H3.out; have z0 : w6.cell? ⟨g4, 0, none⟩ = some (.int .i64 j.kind) := (blk_cell H4.out 0).trans rfl; have zf0 := blk_frozen H4.out 0; have z1 : w6.cell? ⟨g4, 1, none⟩ = some (.int .i64 j.fn) := (blk_cell H4.out 1).trans rfl; have zf1 := blk_frozen H4.out 1; have z2 : w6.cell? ⟨g4, 2, none⟩ = some (.int .i64 j.rd) := (blk_cell H4.out 2).trans rfl; have zf2 := blk_frozen H4.out 2; have z3 : w6.cell? ⟨g4, 3, none⟩ = some (.int .i64 j.rs1) := (blk_cell H4.out 3).trans rfl; have zf3 := blk_frozen H4.out 3; have z4 : w6.cell? ⟨g4, 4, none⟩ = some (.int .i64 j.rs2) := (blk_cell H4.out 4).trans rfl; have zf4 := blk_frozen H4.out 4; have z5 : w6.cell? ⟨g4, 5, none⟩ = some (.int .i64 j.imm) := (blk_cell H4.out 5).trans rfl; have zf5 := blk_frozen H4.out 5; have z6 : w6.cell? ⟨g4, 6, none⟩ = some (.int .i64 j.size) := (blk_cell H4.out 6).trans rfl; have zf6 := blk_frozen H4.out 6; have z7 : w6.cell? ⟨g4, 7, none⟩ = some (.bool j.sg) := (blk_cell H4.out 7).trans rfl; have zf7 := blk_frozen H4.out 7) | fail)
  go_ret2
  exact ⟨rfl, by repeat (first | (with_reducible first | exact HB.out | apply below_alloc | apply pw_below_drewN | apply below_drew1) | exact HB.out)⟩

theorem Enc_yes {i : Ins} (W : World) {j : Ins} (hd : decodeL (encL i) = some j) (hne : j = i) : Calls Tryz.prog 15 #[.agg #[.int .i64 i.kind, .int .i64 i.fn, .int .i64 i.rd, .int .i64 i.rs1, .int .i64 i.rs2, .int .i64 i.imm, .int .i64 i.size, .bool i.sg]] W fun e w' => e = .returned (.tuple #[.int .u32 (encL i), .bool true]) ∧ Below W.heap.size W w' := by
  have HB := Aside0.mk (Below.refl W.heap.size W)
  have hu23 := Tryz.underlying23
  have heq : ∀ W, (binOp .eql 23 (.agg #[.int .i64 j.kind, .int .i64 j.fn, .int .i64 j.rd, .int .i64 j.rs1, .int .i64 j.rs2, .int .i64 j.imm, .int .i64 j.size, .bool j.sg]) (.agg #[.int .i64 i.kind, .int .i64 i.fn, .int .i64 i.rd, .int .i64 i.rs1, .int .i64 i.rs2, .int .i64 i.imm, .int .i64 i.size, .bool i.sg])).run Tryz.prog W = .ok (.bool true) W := fun W => by rw [insEq j i W]; simp [hne]
  have D : ∀ W, Calls Tryz.prog 44 #[.int .u32 (encL i)] W fun e w' => e = .returned (.tuple #[.agg #[.int .i64 j.kind, .int .i64 j.fn, .int .i64 j.rd, .int .i64 j.rs1, .int .i64 j.rs2, .int .i64 j.imm, .int .i64 j.size, .bool j.sg], .bool true]) ∧ Below W.heap.size W w' := fun W => by
    have := Decode_calls W (encL_b i).1 (encL_b i).2
    rw [hd] at this
    exact this
  clear hd hne
  go_enter Tryz.func15, Tryz.ntmps15
  go_wp2_with (first | ((with_reducible refine gate_dst (N := 1) rfl ?_); refine box_event (by rfl) (N := 1) (by rfl) (cs := #[.int .i64 i.kind, .int .i64 i.fn, .int .i64 i.rd, .int .i64 i.rs1, .int .i64 i.rs2, .int .i64 i.imm, .int .i64 i.size, .bool i.sg]) (t := 23) (by first | (go_simp; done) | (go_simp; rfl)) ?_; intro g3 hg w3 hbox hb; have H3 := Aside0.mk hbox; have HB' := Aside0.mk (below_step HB.out hb); clear HB; have HB := HB'; clear HB'; obtain ⟨y0, y1, y2, y3, y4, y5, y6, y7, yf0, yf1, yf2, yf3, yf4, yf5, yf6, yf7⟩ := cells8 H3.out; clear hbox hb hg) | fail)
  refine (encode_calls i _).mono ?_
  rintro e w' ⟨rfl, hb⟩
  have H3a := Aside0.mk (blk_below H3.out hb)
  have HBa := Aside0.mk (below_step HB.out hb)
  clear H3 HB hb y0 y1 y2 y3 y4 y5 y6 y7 yf0 yf1 yf2 yf3 yf4 yf5 yf6 yf7
  have H3 := H3a; have HB := HBa
  clear H3a HBa
  go_wp2_with fail
  refine (D _).mono ?_
  rintro e w' ⟨rfl, hb⟩
  have H3a := Aside0.mk (blk_below H3.out hb)
  have HBa := Aside0.mk (below_step HB.out hb)
  clear H3 HB hb D
  have H3 := H3a; have HB := HBa
  clear H3a HBa
  go_wp2_with (first | ((with_reducible refine gate_dst (N := 5) rfl ?_); refine box_event (by rfl) (N := 5) (by rfl) (cs := #[.int .i64 0, .int .i64 0, .int .i64 0, .int .i64 0, .int .i64 0, .int .i64 0, .int .i64 0, .bool false]) (t := 23) (by first | (go_simp; done) | (go_simp; rfl)) ?_; intro g4 hg w5 hbox hb; have H4 := Aside0.mk hbox; have H3' := Aside0.mk (blk_below H3.out hb); have HL4 := Aside0.mk (show W.heap.size ≤ g4 by have h1 := HB.out.size; omega); have HN := Aside0.mk (show g3 ≠ g4 by have h1 := blk_lt H3.out; omega); have HB' := Aside0.mk (below_step HB.out hb); clear HB H3; have HB := HB'; have H3 := H3'; clear HB' H3'; clear hbox hb hg) | ((with_reducible refine gate_store (t := 23) rfl ?_); refine store_event rfl 23 (.tmp 5) (.tmp 12) rfl (g := g4) #[.int .i64 j.kind, .int .i64 j.fn, .int .i64 j.rd, .int .i64 j.rs1, .int .i64 j.rs2, .int .i64 j.imm, .int .i64 j.size, .bool j.sg] H4.out rfl rfl (by kernel_rfl) rfl rfl ?_; intro w6 hbox hfar hbel; have H4' := Aside0.mk hbox; have H3' := Aside0.mk (far_blk hfar HN.out H3.out); have HB' := Aside0.mk (hbel _ _ HB.out HL4.out); clear hbox hfar hbel H4 H3 HB; have H3 := H3'; have H4 := H4'; have HB := HB'; clear H3' H4' HB'; obtain ⟨y0, y1, y2, y3, y4, y5, y6, y7, yf0, yf1, yf2, yf3, yf4, yf5, yf6, yf7⟩ := cells8 H3.out; have z0 : w6.cell? ⟨g4, 0, none⟩ = some (.int .i64 j.kind) := (blk_cell H4.out 0).trans rfl; have zf0 := blk_frozen H4.out 0; have z1 : w6.cell? ⟨g4, 1, none⟩ = some (.int .i64 j.fn) := (blk_cell H4.out 1).trans rfl; have zf1 := blk_frozen H4.out 1; have z2 : w6.cell? ⟨g4, 2, none⟩ = some (.int .i64 j.rd) := (blk_cell H4.out 2).trans rfl; have zf2 := blk_frozen H4.out 2; have z3 : w6.cell? ⟨g4, 3, none⟩ = some (.int .i64 j.rs1) := (blk_cell H4.out 3).trans rfl; have zf3 := blk_frozen H4.out 3; have z4 : w6.cell? ⟨g4, 4, none⟩ = some (.int .i64 j.rs2) := (blk_cell H4.out 4).trans rfl; have zf4 := blk_frozen H4.out 4; have z5 : w6.cell? ⟨g4, 5, none⟩ = some (.int .i64 j.imm) := (blk_cell H4.out 5).trans rfl; have zf5 := blk_frozen H4.out 5; have z6 : w6.cell? ⟨g4, 6, none⟩ = some (.int .i64 j.size) := (blk_cell H4.out 6).trans rfl; have zf6 := blk_frozen H4.out 6; have z7 : w6.cell? ⟨g4, 7, none⟩ = some (.bool j.sg) := (blk_cell H4.out 7).trans rfl; have zf7 := blk_frozen H4.out 7) | fail)
  go_ret2
  exact ⟨rfl, by repeat (first | (with_reducible first | exact HB.out | apply below_alloc | apply pw_below_drewN | apply below_drew1) | exact HB.out)⟩

theorem Encode_calls (i : Ins) (W : World) : Calls Tryz.prog 15 #[insV i] W fun e w' => e = .returned (.tuple #[.int .u32 (if mayL i = true then encL i else 0), .bool (mayL i)]) ∧ Below W.heap.size W w' := by
  cases hd : decodeL (encL i) with
  | none =>
    have : mayL i = false := by unfold mayL; rw [hd]; rfl
    rw [this]
    exact Enc_none W hd
  | some j =>
    by_cases hj : j = i
    · have : mayL i = true := by unfold mayL; rw [hd, hj]; simp
      rw [this]
      exact Enc_yes W hd hj
    · have : mayL i = false := by unfold mayL; rw [hd]; simp [hj]
      rw [this]
      exact Enc_no W hd hj

end Go.Proofs.YtjapahcbhjjeiaaGreatDoor.AS
