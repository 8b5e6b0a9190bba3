/- inst.encode, inst.Decode, inst.Encode: their contracts. -/
import Derived.Test.YtjapahcbhjjeiaaGreatDoorG12
namespace Go.Proofs.YtjapahcbhjjeiaaGreatDoor.AS
open Go.RowKit Go.Proofs.YtjapahcbhjjeiaaGreatDoorW.PrintWords Go.Proofs.YtjapahcbhjjeiaaGreatDoorW.PrintLast Go.Proofs.YtjapahcbhjjeiaaGreatDoorW.PrintMore Go.Proofs.YtjapahcbhjjeiaaGreatDoor.PA
set_option linter.unusedVariables false
set_option linter.unusedSimpArgs false

set_option maxRecDepth 100000 in
set_option maxHeartbeats 4000000 in
theorem Dec_yes {w : Int} {i : Ins} (W : World) (h : ∀ W, Calls Tryz.prog 68 #[.int .u32 w] W fun e w' => e = .returned (.tuple #[insV i, .bool true]) ∧ Below W.heap.size W w') :
    Calls Tryz.prog 44 #[.int .u32 w] W fun e w' => e = .returned (.tuple #[.agg #[.int .i64 i.kind, .int .i64 i.fn, .int .i64 i.rd, .int .i64 i.rs1, .int .i64 i.rs2, .int .i64 i.imm, .int .i64 i.size, .bool i.sg], .bool true]) ∧ Below W.heap.size W w' := by
  have HB := Aside0.mk (Below.refl W.heap.size W)
  have hu23 := Tryz.underlying23
  unfold insV at h
  go_enter Tryz.func44, Tryz.ntmps44
  go_wp2_with (first | ((with_reducible refine gate_dst (N := 2) rfl ?_); refine box_event (by rfl) (N := 2) (by rfl) (cs := #[.int .i64 0, .int .i64 0, .int .i64 0, .int .i64 0, .int .i64 0, .int .i64 0, .int .i64 0, .bool false]) (t := 23) (by first | (go_simp; done) | (go_simp; rfl)) ?_; intro g4 hg w4 hbox hb; have H4 := Aside0.mk hbox; have HB' := Aside0.mk (below_step HB.out hb); have HL4 := Aside0.mk (show W.heap.size ≤ g4 by omega); clear HB; have HB := HB'; clear HB'; clear hbox hb hg) | fail)
  refine (h _).mono ?_
  rintro e w' ⟨rfl, hb⟩
  have H4a := Aside0.mk (blk_below H4.out hb)
  have HBa := Aside0.mk (below_step HB.out hb)
  clear H4 HB hb h
  have H4 := H4a; have HB := HBa
  clear H4a HBa
  go_wp2_with (first | ((with_reducible refine gate_dst (N := 4) rfl ?_); refine box_event (by rfl) (N := 4) (by rfl) (cs := #[.int .i64 0, .int .i64 0, .int .i64 0, .int .i64 0, .int .i64 0, .int .i64 0, .int .i64 0, .bool false]) (t := 23) (by first | (go_simp; done) | (go_simp; rfl)) ?_; intro g3 hg w5 hbox hb; have H3 := Aside0.mk hbox; have H4' := Aside0.mk (blk_below H4.out hb); have HL3 := Aside0.mk (show W.heap.size ≤ g3 by have h1 := HB.out.size; omega); have HN := Aside0.mk (show g3 ≠ g4 by have h1 := blk_lt H4.out; omega); have HB' := Aside0.mk (below_step HB.out hb); clear HB H4; have HB := HB'; have H4 := H4'; clear HB' H4'; clear hbox hb hg) | ((with_reducible refine gate_store (t := 23) rfl ?_); refine store_event rfl 23 (.tmp 4) (.tmp 9) rfl (g := g3) #[.int .i64 i.kind, .int .i64 i.fn, .int .i64 i.rd, .int .i64 i.rs1, .int .i64 i.rs2, .int .i64 i.imm, .int .i64 i.size, .bool i.sg] H3.out rfl rfl (by kernel_rfl) rfl rfl ?_; intro w6 hbox hfar hbel; have H3' := Aside0.mk hbox; have H4' := Aside0.mk (far_blk hfar (fun e => HN.out e.symm) H4.out); have HB' := Aside0.mk (hbel _ _ HB.out HL3.out); clear hbox hfar hbel H4 H3 HB; have H3 := H3'; have H4 := H4'; have HB := HB'; clear H3' H4' HB'; obtain ⟨y0, y1, y2, y3, y4, y5, y6, y7, yf0, yf1, yf2, yf3, yf4, yf5, yf6, yf7⟩ := cells8 H3.out) | ((with_reducible refine gate_store (t := 23) rfl ?_); refine store_event rfl 23 (.tmp 2) (.tmp 14) rfl (g := g4) #[.int .i64 i.kind, .int .i64 i.fn, .int .i64 i.rd, .int .i64 i.rs1, .int .i64 i.rs2, .int .i64 i.imm, .int .i64 i.size, .bool i.sg] H4.out rfl rfl (by kernel_rfl) rfl rfl ?_; intro w7 hbox hfar hbel; have H4' := Aside0.mk hbox; have HB' := Aside0.mk (hbel _ _ (by repeat (first | (with_reducible first | exact HB.out | apply below_alloc | apply pw_below_drewN | apply below_drew1) | exact HB.out)) HL4.out); clear hbox hfar hbel H4 HB; have H4 := H4'; have HB := HB'; clear H4' HB') | fail)
  refine bodyPost_ret (results_ct rfl _ _ g4 23 #[.int .i64 i.kind, .int .i64 i.fn, .int .i64 i.rd, .int .i64 i.rs1, .int .i64 i.rs2, .int .i64 i.imm, .int .i64 i.size, .bool i.sg] (0, 0) _ rfl H4.out Tryz.underlying23 rfl (by kernel_rfl)) rfl ?_
  exact ⟨rfl, HB.out⟩

set_option maxRecDepth 100000 in
set_option maxHeartbeats 4000000 in
theorem Dec_no {w : Int} {i : Ins} (W : World) (h : ∀ W, Calls Tryz.prog 68 #[.int .u32 w] W fun e w' => e = .returned (.tuple #[insV i, .bool false]) ∧ Below W.heap.size W w') :
    Calls Tryz.prog 44 #[.int .u32 w] W fun e w' => e = .returned (.tuple #[.agg #[.int .i64 0, .int .i64 0, .int .i64 0, .int .i64 0, .int .i64 0, .int .i64 0, .int .i64 0, .bool false], .bool false]) ∧ Below W.heap.size W w' := by
  have HB := Aside0.mk (Below.refl W.heap.size W)
  have hu23 := Tryz.underlying23
  unfold insV at h
  go_enter Tryz.func44, Tryz.ntmps44
  go_wp2_with (first | ((with_reducible refine gate_dst (N := 2) rfl ?_); refine box_event (by rfl) (N := 2) (by rfl) (cs := #[.int .i64 0, .int .i64 0, .int .i64 0, .int .i64 0, .int .i64 0, .int .i64 0, .int .i64 0, .bool false]) (t := 23) (by first | (go_simp; done) | (go_simp; rfl)) ?_; intro g4 hg w4 hbox hb; have H4 := Aside0.mk hbox; have HB' := Aside0.mk (below_step HB.out hb); have HL4 := Aside0.mk (show W.heap.size ≤ g4 by omega); clear HB; have HB := HB'; clear HB'; clear hbox hb hg) | fail)
  refine (h _).mono ?_
  rintro e w' ⟨rfl, hb⟩
  have H4a := Aside0.mk (blk_below H4.out hb)
  have HBa := Aside0.mk (below_step HB.out hb)
  clear H4 HB hb h
  have H4 := H4a; have HB := HBa
  clear H4a HBa
  go_wp2_with (first | ((with_reducible refine gate_dst (N := 4) rfl ?_); refine box_event (by rfl) (N := 4) (by rfl) (cs := #[.int .i64 0, .int .i64 0, .int .i64 0, .int .i64 0, .int .i64 0, .int .i64 0, .int .i64 0, .bool false]) (t := 23) (by first | (go_simp; done) | (go_simp; rfl)) ?_; intro g3 hg w5 hbox hb; have H3 := Aside0.mk hbox; have H4' := Aside0.mk (blk_below H4.out hb); have HL3 := Aside0.mk (show W.heap.size ≤ g3 by have h1 := HB.out.size; omega); have HN := Aside0.mk (show g3 ≠ g4 by have h1 := blk_lt H4.out; omega); have HB' := Aside0.mk (below_step HB.out hb); clear HB H4; have HB := HB'; have H4 := H4'; clear HB' H4'; clear hbox hb hg) | ((with_reducible refine gate_store (t := 23) rfl ?_); refine store_event rfl 23 (.tmp 4) (.tmp 9) rfl (g := g3) #[.int .i64 i.kind, .int .i64 i.fn, .int .i64 i.rd, .int .i64 i.rs1, .int .i64 i.rs2, .int .i64 i.imm, .int .i64 i.size, .bool i.sg] H3.out rfl rfl (by kernel_rfl) rfl rfl ?_; intro w6 hbox hfar hbel; have H3' := Aside0.mk hbox; have H4' := Aside0.mk (far_blk hfar (fun e => HN.out e.symm) H4.out); have HB' := Aside0.mk (hbel _ _ HB.out HL3.out); clear hbox hfar hbel H4 H3 HB; have H3 := H3'; have H4 := H4'; have HB := HB'; clear H3' H4' HB'; obtain ⟨y0, y1, y2, y3, y4, y5, y6, y7, yf0, yf1, yf2, yf3, yf4, yf5, yf6, yf7⟩ := cells8 H3.out) | ((with_reducible refine gate_store (t := 23) rfl ?_); refine store_event rfl 23 (.tmp 2) (.tmp 13) rfl (g := g4) #[.int .i64 0, .int .i64 0, .int .i64 0, .int .i64 0, .int .i64 0, .int .i64 0, .int .i64 0, .bool false] H4.out rfl rfl (by kernel_rfl) rfl rfl ?_; intro w7 hbox hfar hbel; have H4' := Aside0.mk hbox; have HB' := Aside0.mk (hbel _ _ (by repeat (first | (with_reducible first | exact HB.out | apply below_alloc | apply pw_below_drewN | apply below_drew1) | exact HB.out)) HL4.out); clear hbox hfar hbel H4 HB; have H4 := H4'; have HB := HB'; clear H4' HB') | fail)
  refine bodyPost_ret (results_ct rfl _ _ g4 23 #[.int .i64 0, .int .i64 0, .int .i64 0, .int .i64 0, .int .i64 0, .int .i64 0, .int .i64 0, .bool false] (0, 0) _ rfl H4.out Tryz.underlying23 rfl (by kernel_rfl)) rfl ?_
  exact ⟨rfl, HB.out⟩

theorem Decode_calls {w : Int} (W : World) (w0 : 0 ≤ w) (w1 : w < 4294967296) : Calls Tryz.prog 44 #[.int .u32 w] W fun e w' => e = .returned (.tuple #[insV ((decodeL w).getD zeroI), .bool (decodeL w).isSome]) ∧ Below W.heap.size W w' := by
  obtain ⟨i, h1, h2⟩ := decode_calls w0 w1
  cases hd : decodeL w with
  | none =>
    rw [hd] at h2
    exact Dec_no W h2
  | some j =>
    rw [hd] at h2
    obtain rfl := h1 j hd
    exact Dec_yes W h2

end Go.Proofs.YtjapahcbhjjeiaaGreatDoor.AS
