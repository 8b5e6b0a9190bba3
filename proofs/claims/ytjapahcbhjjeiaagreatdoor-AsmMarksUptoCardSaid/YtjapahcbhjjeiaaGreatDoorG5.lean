/- The walk of inst.plain, kind by kind. -/
import Derived.Test.YtjapahcbhjjeiaaGreatDoorF1
import Derived.Test.YtjapahcbhjjeiaaGreatDoorG2
namespace Go.Proofs.YtjapahcbhjjeiaaGreatDoor.AS
open Go.RowKit Go.Proofs.YtjapahcbhjjeiaaGreatDoorW.PrintWords Go.Proofs.YtjapahcbhjjeiaaGreatDoorW.PrintLast Go.Proofs.YtjapahcbhjjeiaaGreatDoorW.PrintMore Go.Proofs.YtjapahcbhjjeiaaGreatDoor.PA
set_option linter.unusedVariables false
set_option maxHeartbeats 4000000
set_option maxRecDepth 100000
set_option linter.unusedSimpArgs false

theorem plain1_calls {w rd rs1 rs2 imm : Int} (W : World) (w0 : 0 ≤ w) (w1 : w < 4294967296) : Calls Tryz.prog 103 #[.int .u32 w, .agg #[.int .i64 1, .int .i64 0, .int .i64 rd, .int .i64 rs1, .int .i64 rs2, .int .i64 imm, .int .i64 0, .bool false]] W fun e w' => e = .returned (.tuple #[.agg #[.int .i64 1, .int .i64 0, .int .i64 rd, .int .i64 rs1, .int .i64 rs2, .int .i64 imm, .int .i64 0, .bool false], .bool true]) ∧ Below W.heap.size W w' := by
  have HB := Aside0.mk (Below.refl W.heap.size W)
  have F3 : ∀ W, Calls Tryz.prog 96 #[.int .u32 w] W fun e w' => e = .returned (.int .i64 (f3W w)) ∧ Drawn0 W w' := fun W => f3_calls W w0 w1
  have hu23 := Tryz.underlying23
  go_enter Tryz.func103, Tryz.ntmps103
  go_wp2_with (first | ((with_reducible refine gate_dst (N := 3) rfl ?_); refine box_event (by rfl) (N := 3) (by rfl) (cs := #[.int .i64 1, .int .i64 0, .int .i64 rd, .int .i64 rs1, .int .i64 rs2, .int .i64 imm, .int .i64 0, .bool false]) (t := 23) (by first | (go_simp; done) | (go_simp; rfl)) ?_; intro g3 hg w3 hbox hb; have H3 := Aside0.mk hbox; have HB' := Aside0.mk (below_step HB.out hb); have HL3 := Aside0.mk (show W.heap.size ≤ g3 by omega); clear HB; have HB := HB'; clear HB'; clear hbox hb hg) | ((with_reducible refine gate_dst (N := 4) rfl ?_); refine box_event (by rfl) (N := 4) (by rfl) (cs := #[.int .i64 0, .int .i64 0, .int .i64 0, .int .i64 0, .int .i64 0, .int .i64 0, .int .i64 0, .bool false]) (t := 23) (by first | (go_simp; done) | (go_simp; rfl)) ?_; intro g4 hg w4 hbox hb; have H4 := Aside0.mk hbox; have HB' := Aside0.mk (below_step HB.out hb); have H3' := Aside0.mk (blk_below H3.out hb); have HL4 := Aside0.mk (show W.heap.size ≤ g4 by have h1 := HB.out.size; omega); have HN := Aside0.mk (show g3 ≠ g4 by have h1 := blk_lt H3.out; omega); clear HB H3; have HB := HB'; have H3 := H3'; clear HB' H3'; obtain ⟨y0, y1, y2, y3, y4, y5, y6, y7, yf0, yf1, yf2, yf3, yf4, yf5, yf6, yf7⟩ := cells8 H3.out; clear hbox hb hg) | ((with_reducible refine gate_store (t := 23) rfl ?_); refine store_event rfl 23 (.tmp 4) (.tmp 12) rfl (g := g4) #[.int .i64 1, .int .i64 0, .int .i64 rd, .int .i64 rs1, .int .i64 rs2, .int .i64 imm, .int .i64 0, .bool false] H4.out rfl rfl (by kernel_rfl) rfl rfl ?_; intro w5 hbox hfar hbel; have H4' := Aside0.mk hbox; have HB' := Aside0.mk (hbel _ _ (by repeat (first | (with_reducible first | exact HB.out | apply below_alloc | apply pw_below_drewN | apply below_drew1) | exact HB.out)) HL4.out); clear hbox hfar hbel H4 H3 HB; have H4 := H4'; have HB := HB'; clear H4' HB') | fail)
  refine bodyPost_ret (results_ct rfl _ _ g4 23 #[.int .i64 1, .int .i64 0, .int .i64 rd, .int .i64 rs1, .int .i64 rs2, .int .i64 imm, .int .i64 0, .bool false] (0, 0) _ rfl H4.out Tryz.underlying23 rfl (by kernel_rfl)) rfl ?_
  exact ⟨rfl, HB.out⟩

theorem plain2_calls {w rd rs1 rs2 imm : Int} (W : World) (w0 : 0 ≤ w) (w1 : w < 4294967296) : Calls Tryz.prog 103 #[.int .u32 w, .agg #[.int .i64 2, .int .i64 0, .int .i64 rd, .int .i64 rs1, .int .i64 rs2, .int .i64 imm, .int .i64 0, .bool false]] W fun e w' => e = .returned (.tuple #[.agg #[.int .i64 2, .int .i64 0, .int .i64 rd, .int .i64 rs1, .int .i64 rs2, .int .i64 imm, .int .i64 0, .bool false], .bool true]) ∧ Below W.heap.size W w' := by
  have HB := Aside0.mk (Below.refl W.heap.size W)
  have F3 : ∀ W, Calls Tryz.prog 96 #[.int .u32 w] W fun e w' => e = .returned (.int .i64 (f3W w)) ∧ Drawn0 W w' := fun W => f3_calls W w0 w1
  have hu23 := Tryz.underlying23
  go_enter Tryz.func103, Tryz.ntmps103
  go_wp2_with (first | ((with_reducible refine gate_dst (N := 3) rfl ?_); refine box_event (by rfl) (N := 3) (by rfl) (cs := #[.int .i64 2, .int .i64 0, .int .i64 rd, .int .i64 rs1, .int .i64 rs2, .int .i64 imm, .int .i64 0, .bool false]) (t := 23) (by first | (go_simp; done) | (go_simp; rfl)) ?_; intro g3 hg w3 hbox hb; have H3 := Aside0.mk hbox; have HB' := Aside0.mk (below_step HB.out hb); have HL3 := Aside0.mk (show W.heap.size ≤ g3 by omega); clear HB; have HB := HB'; clear HB'; clear hbox hb hg) | ((with_reducible refine gate_dst (N := 4) rfl ?_); refine box_event (by rfl) (N := 4) (by rfl) (cs := #[.int .i64 0, .int .i64 0, .int .i64 0, .int .i64 0, .int .i64 0, .int .i64 0, .int .i64 0, .bool false]) (t := 23) (by first | (go_simp; done) | (go_simp; rfl)) ?_; intro g4 hg w4 hbox hb; have H4 := Aside0.mk hbox; have HB' := Aside0.mk (below_step HB.out hb); have H3' := Aside0.mk (blk_below H3.out hb); have HL4 := Aside0.mk (show W.heap.size ≤ g4 by have h1 := HB.out.size; omega); have HN := Aside0.mk (show g3 ≠ g4 by have h1 := blk_lt H3.out; omega); clear HB H3; have HB := HB'; have H3 := H3'; clear HB' H3'; obtain ⟨y0, y1, y2, y3, y4, y5, y6, y7, yf0, yf1, yf2, yf3, yf4, yf5, yf6, yf7⟩ := cells8 H3.out; clear hbox hb hg) | ((with_reducible refine gate_store (t := 23) rfl ?_); refine store_event rfl 23 (.tmp 4) (.tmp 12) rfl (g := g4) #[.int .i64 2, .int .i64 0, .int .i64 rd, .int .i64 rs1, .int .i64 rs2, .int .i64 imm, .int .i64 0, .bool false] H4.out rfl rfl (by kernel_rfl) rfl rfl ?_; intro w5 hbox hfar hbel; have H4' := Aside0.mk hbox; have HB' := Aside0.mk (hbel _ _ (by repeat (first | (with_reducible first | exact HB.out | apply below_alloc | apply pw_below_drewN | apply below_drew1) | exact HB.out)) HL4.out); clear hbox hfar hbel H4 H3 HB; have H4 := H4'; have HB := HB'; clear H4' HB') | fail)
  refine bodyPost_ret (results_ct rfl _ _ g4 23 #[.int .i64 2, .int .i64 0, .int .i64 rd, .int .i64 rs1, .int .i64 rs2, .int .i64 imm, .int .i64 0, .bool false] (0, 0) _ rfl H4.out Tryz.underlying23 rfl (by kernel_rfl)) rfl ?_
  exact ⟨rfl, HB.out⟩

theorem plain3_calls {w rd rs1 rs2 imm : Int} (W : World) (w0 : 0 ≤ w) (w1 : w < 4294967296) : Calls Tryz.prog 103 #[.int .u32 w, .agg #[.int .i64 3, .int .i64 0, .int .i64 rd, .int .i64 rs1, .int .i64 rs2, .int .i64 imm, .int .i64 0, .bool false]] W fun e w' => e = .returned (.tuple #[.agg #[.int .i64 3, .int .i64 0, .int .i64 rd, .int .i64 rs1, .int .i64 rs2, .int .i64 imm, .int .i64 0, .bool false], .bool true]) ∧ Below W.heap.size W w' := by
  have HB := Aside0.mk (Below.refl W.heap.size W)
  have F3 : ∀ W, Calls Tryz.prog 96 #[.int .u32 w] W fun e w' => e = .returned (.int .i64 (f3W w)) ∧ Drawn0 W w' := fun W => f3_calls W w0 w1
  have hu23 := Tryz.underlying23
  go_enter Tryz.func103, Tryz.ntmps103
  go_wp2_with (first | ((with_reducible refine gate_dst (N := 3) rfl ?_); refine box_event (by rfl) (N := 3) (by rfl) (cs := #[.int .i64 3, .int .i64 0, .int .i64 rd, .int .i64 rs1, .int .i64 rs2, .int .i64 imm, .int .i64 0, .bool false]) (t := 23) (by first | (go_simp; done) | (go_simp; rfl)) ?_; intro g3 hg w3 hbox hb; have H3 := Aside0.mk hbox; have HB' := Aside0.mk (below_step HB.out hb); have HL3 := Aside0.mk (show W.heap.size ≤ g3 by omega); clear HB; have HB := HB'; clear HB'; clear hbox hb hg) | ((with_reducible refine gate_dst (N := 4) rfl ?_); refine box_event (by rfl) (N := 4) (by rfl) (cs := #[.int .i64 0, .int .i64 0, .int .i64 0, .int .i64 0, .int .i64 0, .int .i64 0, .int .i64 0, .bool false]) (t := 23) (by first | (go_simp; done) | (go_simp; rfl)) ?_; intro g4 hg w4 hbox hb; have H4 := Aside0.mk hbox; have HB' := Aside0.mk (below_step HB.out hb); have H3' := Aside0.mk (blk_below H3.out hb); have HL4 := Aside0.mk (show W.heap.size ≤ g4 by have h1 := HB.out.size; omega); have HN := Aside0.mk (show g3 ≠ g4 by have h1 := blk_lt H3.out; omega); clear HB H3; have HB := HB'; have H3 := H3'; clear HB' H3'; obtain ⟨y0, y1, y2, y3, y4, y5, y6, y7, yf0, yf1, yf2, yf3, yf4, yf5, yf6, yf7⟩ := cells8 H3.out; clear hbox hb hg) | ((with_reducible refine gate_store (t := 23) rfl ?_); refine store_event rfl 23 (.tmp 4) (.tmp 12) rfl (g := g4) #[.int .i64 3, .int .i64 0, .int .i64 rd, .int .i64 rs1, .int .i64 rs2, .int .i64 imm, .int .i64 0, .bool false] H4.out rfl rfl (by kernel_rfl) rfl rfl ?_; intro w5 hbox hfar hbel; have H4' := Aside0.mk hbox; have HB' := Aside0.mk (hbel _ _ (by repeat (first | (with_reducible first | exact HB.out | apply below_alloc | apply pw_below_drewN | apply below_drew1) | exact HB.out)) HL4.out); clear hbox hfar hbel H4 H3 HB; have H4 := H4'; have HB := HB'; clear H4' HB') | fail)
  refine bodyPost_ret (results_ct rfl _ _ g4 23 #[.int .i64 3, .int .i64 0, .int .i64 rd, .int .i64 rs1, .int .i64 rs2, .int .i64 imm, .int .i64 0, .bool false] (0, 0) _ rfl H4.out Tryz.underlying23 rfl (by kernel_rfl)) rfl ?_
  exact ⟨rfl, HB.out⟩

theorem plain4_calls {w rd rs1 rs2 imm : Int} (W : World) (w0 : 0 ≤ w) (w1 : w < 4294967296) : Calls Tryz.prog 103 #[.int .u32 w, .agg #[.int .i64 4, .int .i64 0, .int .i64 rd, .int .i64 rs1, .int .i64 rs2, .int .i64 imm, .int .i64 0, .bool false]] W fun e w' => e = .returned (.tuple #[.agg #[.int .i64 4, .int .i64 0, .int .i64 rd, .int .i64 rs1, .int .i64 rs2, .int .i64 imm, .int .i64 0, .bool false], .bool (f3W w == 0)]) ∧ Below W.heap.size W w' := by
  have HB := Aside0.mk (Below.refl W.heap.size W)
  have F3 : ∀ W, Calls Tryz.prog 96 #[.int .u32 w] W fun e w' => e = .returned (.int .i64 (f3W w)) ∧ Drawn0 W w' := fun W => f3_calls W w0 w1
  have hu23 := Tryz.underlying23
  clear w0 w1
  go_enter Tryz.func103, Tryz.ntmps103
  go_upto_region 7 with (first | ((with_reducible refine gate_dst (N := 3) rfl ?_); refine box_event (by rfl) (N := 3) (by rfl) (cs := #[.int .i64 4, .int .i64 0, .int .i64 rd, .int .i64 rs1, .int .i64 rs2, .int .i64 imm, .int .i64 0, .bool false]) (t := 23) (by first | (go_simp; done) | (go_simp; rfl)) ?_; intro g3 hg w3 hbox hb; have H3 := Aside0.mk hbox; have HB' := Aside0.mk (below_step HB.out hb); have HL3 := Aside0.mk (show W.heap.size ≤ g3 by omega); clear HB; have HB := HB'; clear HB'; clear hbox hb hg) | ((with_reducible refine gate_dst (N := 4) rfl ?_); refine box_event (by rfl) (N := 4) (by rfl) (cs := #[.int .i64 0, .int .i64 0, .int .i64 0, .int .i64 0, .int .i64 0, .int .i64 0, .int .i64 0, .bool false]) (t := 23) (by first | (go_simp; done) | (go_simp; rfl)) ?_; intro g4 hg w4 hbox hb; have H4 := Aside0.mk hbox; have HB' := Aside0.mk (below_step HB.out hb); have H3' := Aside0.mk (blk_below H3.out hb); have HL4 := Aside0.mk (show W.heap.size ≤ g4 by have h1 := HB.out.size; omega); have HN := Aside0.mk (show g3 ≠ g4 by have h1 := blk_lt H3.out; omega); clear HB H3; have HB := HB'; have H3 := H3'; clear HB' H3'; obtain ⟨y0, y1, y2, y3, y4, y5, y6, y7, yf0, yf1, yf2, yf3, yf4, yf5, yf6, yf7⟩ := cells8 H3.out; clear hbox hb hg) | fail)
  refine start_ (n := 6) (S := fun w' => w'.cell? ⟨g3, 0, none⟩ = some (.int .i64 4) ∧ w'.cell? ⟨g3, 1, none⟩ = some (.int .i64 0) ∧ w'.cell? ⟨g3, 2, none⟩ = some (.int .i64 rd) ∧ w'.cell? ⟨g3, 3, none⟩ = some (.int .i64 rs1) ∧ w'.cell? ⟨g3, 4, none⟩ = some (.int .i64 rs2) ∧ w'.cell? ⟨g3, 5, none⟩ = some (.int .i64 imm) ∧ w'.cell? ⟨g3, 6, none⟩ = some (.int .i64 0) ∧ w'.cell? ⟨g3, 7, none⟩ = some (.bool false)) (ds := []) #[false, false, false, false, false, false] (by kernel_rfl) rfl rfl (cells8a H3.out) (fun hHeld => ?_)
  refine pure_ (i := 1) (N := some 16) (v := ?_) (a' := ?_) #[false, true, false, false, false, false] rfl rfl (by kernel_rfl) (fun _ _ _ h => h) (Or.inl ⟨by rfl, ?_⟩) ?_ ?_
  rotate_left
  · intro w'
    go_simp
    with_reducible rfl
  rotate_left
  · simp only [Act.put, putS]
    rfl
  refine take_ (i := 0) (N := some 15) (v := ?_) (a' := ?_) #[true, true, false, false, false, false] rfl rfl (by kernel_rfl) (fun _ _ _ h => h) (Or.inl ⟨by rfl, ?_⟩) hHeld ?_ ?_
  rotate_left
  · rintro w' ⟨s0, s1, s2, s3, s4, s5, s6, s7⟩
    go_simp
    with_reducible rfl
  rotate_left
  · simp only [Act.put, putS]
    rfl
  refine one_ (i := 2) (N := some 17) #[true, true, true, false, false, false] rfl rfl (by kernel_rfl) (by decide) (fun K hK => ?_)
  refine goes_ Tryz.func96 (by kernel_rfl) rfl #[.int .u32 w] (by rfl) rfl rfl (by simp only [List.map_toArray, List.map_cons, List.map_nil]; rfl) ?_
  refine (F3 _).mono ?_
  rintro e w8 ⟨rfl, ⟨nd8, rfl⟩⟩
  refine ⟨_, rfl, ?_⟩
  refine hK.out _ _ (cells8a H3.out) (fun hHeld => ?_)
  clear hK K
  refine norm_ (a' := ?_) ?_ ?_
  rotate_left
  · show Act.put _ (some 17) _ = _
    simp only [Act.put, putS]
    rfl
  refine pure_ (i := 3) (N := some 18) (v := ?_) (a' := ?_) #[true, true, true, true, false, false] rfl rfl (by kernel_rfl) (fun _ _ _ h => h) (Or.inl ⟨by rfl, ?_⟩) ?_ ?_
  rotate_left
  · intro w'
    go_simp
    with_reducible rfl
  rotate_left
  · simp only [Act.put, putS]
    rfl
  refine one_ (i := 4) (N := none) #[true, true, true, true, true, false] rfl rfl (by kernel_rfl) (by decide) (fun K hK => ?_)
  refine skip_ (by rfl) rfl (run_store_row 23 (.tmp 4) (.tmp 15) rfl #[.int .i64 4, .int .i64 0, .int .i64 rd, .int .i64 rs1, .int .i64 rs2, .int .i64 imm, .int .i64 0, .bool false] H4.out rfl rfl (by kernel_rfl) rfl rfl) ?_
  refine hK.out _ _ (cells8a ((row_far _ g4 _ g3 HN.out).trans H3.out)) (fun hHeld => ?_)
  clear hK K
  refine pure_ (i := 5) (N := some 5) (v := ?_) (a' := ?_) #[true, true, true, true, true, true] rfl rfl (by kernel_rfl) (fun _ _ _ h => h) (Or.inl ⟨by rfl, ?_⟩) ?_ ?_
  rotate_left
  · intro w'
    go_simp
    with_reducible rfl
  rotate_left
  · simp only [Act.put, putS]
    rfl
  refine done_ (by kernel_rfl) ?_
  have H4' := Aside0.mk (setRow_heap _ g4 _ #[.int .i64 4, .int .i64 0, .int .i64 rd, .int .i64 rs1, .int .i64 rs2, .int .i64 imm, .int .i64 0, .bool false] 23 (0, 0) H4.out)
  have HB' := Aside0.mk (row_below (g := g4) (cs := #[.int .i64 4, .int .i64 0, .int .i64 rd, .int .i64 rs1, .int .i64 rs2, .int .i64 imm, .int .i64 0, .bool false]) HB.out HL4.out)
  go_wp2
  refine bodyPost_ret (results_ct rfl _ _ g4 23 #[.int .i64 4, .int .i64 0, .int .i64 rd, .int .i64 rs1, .int .i64 rs2, .int .i64 imm, .int .i64 0, .bool false] (0, 0) _ rfl H4'.out Tryz.underlying23 rfl (by kernel_rfl)) rfl ?_
  exact ⟨rfl, by repeat (first | (with_reducible first | exact HB'.out | apply pw_below_drewN | apply below_drew1 | refine row_below ?_ HL4.out) | exact HB.out | exact HB'.out)⟩

theorem plain5_calls {w rd rs1 rs2 imm : Int} (W : World) (w0 : 0 ≤ w) (w1 : w < 4294967296) : Calls Tryz.prog 103 #[.int .u32 w, .agg #[.int .i64 5, .int .i64 0, .int .i64 rd, .int .i64 rs1, .int .i64 rs2, .int .i64 imm, .int .i64 0, .bool false]] W fun e w' => e = .returned (.tuple #[.agg #[.int .i64 5, .int .i64 (pickL branchesL (f3W w)), .int .i64 rd, .int .i64 rs1, .int .i64 rs2, .int .i64 imm, .int .i64 0, .bool false], .bool (pickL branchesL (f3W w) != 0)]) ∧ Below W.heap.size W w' := by
  have HB := Aside0.mk (Below.refl W.heap.size W)
  have F3 : ∀ W, Calls Tryz.prog 96 #[.int .u32 w] W fun e w' => e = .returned (.int .i64 (f3W w)) ∧ Drawn0 W w' := fun W => f3_calls W w0 w1
  have hu23 := Tryz.underlying23
  clear w0 w1
  go_enter Tryz.func103, Tryz.ntmps103
  go_wp2_with (first | ((with_reducible refine gate_dst (N := 3) rfl ?_); refine box_event (by rfl) (N := 3) (by rfl) (cs := #[.int .i64 5, .int .i64 0, .int .i64 rd, .int .i64 rs1, .int .i64 rs2, .int .i64 imm, .int .i64 0, .bool false]) (t := 23) (by first | (go_simp; done) | (go_simp; rfl)) ?_; intro g3 hg w3 hbox hb; have H3 := Aside0.mk hbox; have HB' := Aside0.mk (below_step HB.out hb); have HL3 := Aside0.mk (show W.heap.size ≤ g3 by omega); clear HB; have HB := HB'; clear HB'; clear hbox hb hg) | ((with_reducible refine gate_dst (N := 4) rfl ?_); refine box_event (by rfl) (N := 4) (by rfl) (cs := #[.int .i64 0, .int .i64 0, .int .i64 0, .int .i64 0, .int .i64 0, .int .i64 0, .int .i64 0, .bool false]) (t := 23) (by first | (go_simp; done) | (go_simp; rfl)) ?_; intro g4 hg w4 hbox hb; have H4 := Aside0.mk hbox; have HB' := Aside0.mk (below_step HB.out hb); have H3' := Aside0.mk (blk_below H3.out hb); have HL4 := Aside0.mk (show W.heap.size ≤ g4 by have h1 := HB.out.size; omega); have HN := Aside0.mk (show g3 ≠ g4 by have h1 := blk_lt H3.out; omega); clear HB H3; have HB := HB'; have H3 := H3'; clear HB' H3'; obtain ⟨y0, y1, y2, y3, y4, y5, y6, y7, yf0, yf1, yf2, yf3, yf4, yf5, yf6, yf7⟩ := cells8 H3.out; clear hbox hb hg) | fail)
  refine (F3 _).mono ?_
  rintro e w' ⟨rfl, ⟨nd, rfl⟩⟩
  go_wp2_with fail
  refine (pick_at branchesL (f3W w) (by unfold branchesL; repeat (first | exact lit_C _ _ (by decide) | apply Kd.C_drewN | apply Kd.C_drew)) rfl (by decide)).mono ?_
  rintro e w' ⟨rfl, ⟨nd2, rfl⟩⟩
  have H3a := Aside0.mk (blk_alloc H3.out (.cells #[.int .i64 1, .int .i64 2, .int .i64 0, .int .i64 0, .int .i64 3, .int .i64 4, .int .i64 5, .int .i64 6] 3))
  have H4a := Aside0.mk (blk_alloc H4.out (.cells #[.int .i64 1, .int .i64 2, .int .i64 0, .int .i64 0, .int .i64 3, .int .i64 4, .int .i64 5, .int .i64 6] 3))
  go_upto_region 10 with (first | ((with_reducible refine gate_store (t := 3) rfl ?_); refine set_event rfl 3 _ _ rfl (g := g3) 1 (.int .i64 (pickL branchesL (f3W w))) #[.int .i64 5, .int .i64 (pickL branchesL (f3W w)), .int .i64 rd, .int .i64 rs1, .int .i64 rs2, .int .i64 imm, .int .i64 0, .bool false] H3a.out (by simp) rfl rfl (by kernel_rfl) rfl rfl rfl ?_; intro w7 hbox hfar hbel; have H3' := Aside0.mk hbox; have H4' := Aside0.mk (far_blk hfar (fun e => HN.out e.symm) H4a.out); have HB' := Aside0.mk (hbel _ _ (by repeat (first | (with_reducible first | exact HB.out | apply below_alloc | apply pw_below_drewN | apply below_drew1) | exact HB.out)) HL3.out); clear hbox hfar hbel H3 H4 HB y0 y1 y2 y3 y4 y5 y6 y7 yf0 yf1 yf2 yf3 yf4 yf5 yf6 yf7; have H3 := H3'; have H4 := H4'; have HB := HB'; clear H3' H4' HB'; obtain ⟨y0, y1, y2, y3, y4, y5, y6, y7, yf0, yf1, yf2, yf3, yf4, yf5, yf6, yf7⟩ := cells8 H3.out) | fail)
  refine start_ (n := 6) (S := fun w' => w'.cell? ⟨g3, 0, none⟩ = some (.int .i64 5) ∧ w'.cell? ⟨g3, 1, none⟩ = some (.int .i64 (pickL branchesL (f3W w))) ∧ w'.cell? ⟨g3, 2, none⟩ = some (.int .i64 rd) ∧ w'.cell? ⟨g3, 3, none⟩ = some (.int .i64 rs1) ∧ w'.cell? ⟨g3, 4, none⟩ = some (.int .i64 rs2) ∧ w'.cell? ⟨g3, 5, none⟩ = some (.int .i64 imm) ∧ w'.cell? ⟨g3, 6, none⟩ = some (.int .i64 0) ∧ w'.cell? ⟨g3, 7, none⟩ = some (.bool false)) (ds := []) #[false, false, false, false, false, false] (by kernel_rfl) rfl rfl (cells8a H3.out) (fun hHeld => ?_)
  refine pure_ (i := 1) (N := some 27) (v := ?_) (a' := ?_) #[false, true, false, false, false, false] rfl rfl (by kernel_rfl) (fun _ _ _ h => h) (Or.inl ⟨by rfl, ?_⟩) ?_ ?_
  rotate_left
  · intro w'
    go_simp
    with_reducible rfl
  rotate_left
  · simp only [Act.put, putS]
    rfl
  refine take_ (i := 0) (N := some 26) (v := ?_) (a' := ?_) #[true, true, false, false, false, false] rfl rfl (by kernel_rfl) (fun _ _ _ h => h) (Or.inl ⟨by rfl, ?_⟩) hHeld ?_ ?_
  rotate_left
  · rintro w' ⟨s0, s1, s2, s3, s4, s5, s6, s7⟩
    go_simp
    with_reducible rfl
  rotate_left
  · simp only [Act.put, putS]
    rfl
  refine take_ (i := 2) (N := some 28) (v := ?_) (a' := ?_) #[true, true, true, false, false, false] rfl rfl (by kernel_rfl) (fun _ _ _ h => h) (Or.inl ⟨by rfl, ?_⟩) hHeld ?_ ?_
  rotate_left
  · rintro w' ⟨s0, s1, s2, s3, s4, s5, s6, s7⟩
    go_simp
    with_reducible rfl
  rotate_left
  · simp only [Act.put, putS]
    rfl
  refine pure_ (i := 3) (N := some 29) (v := ?_) (a' := ?_) #[true, true, true, true, false, false] rfl rfl (by kernel_rfl) (fun _ _ _ h => h) (Or.inl ⟨by rfl, ?_⟩) ?_ ?_
  rotate_left
  · intro w'
    go_simp
    with_reducible rfl
  rotate_left
  · simp only [Act.put, putS]
    rfl
  refine one_ (i := 4) (N := none) #[true, true, true, true, true, false] rfl rfl (by kernel_rfl) (by decide) (fun K hK => ?_)
  refine skip_ (by rfl) rfl (run_store_row 23 (.tmp 4) (.tmp 26) rfl #[.int .i64 5, .int .i64 (pickL branchesL (f3W w)), .int .i64 rd, .int .i64 rs1, .int .i64 rs2, .int .i64 imm, .int .i64 0, .bool false] H4.out rfl rfl (by kernel_rfl) rfl rfl) ?_
  refine hK.out _ _ (cells8a ((row_far _ g4 _ g3 HN.out).trans H3.out)) (fun hHeld => ?_)
  clear hK K
  refine pure_ (i := 5) (N := some 5) (v := ?_) (a' := ?_) #[true, true, true, true, true, true] rfl rfl (by kernel_rfl) (fun _ _ _ h => h) (Or.inl ⟨by rfl, ?_⟩) ?_ ?_
  rotate_left
  · intro w'
    go_simp
    with_reducible rfl
  rotate_left
  · simp only [Act.put, putS]
    rfl
  refine done_ (by kernel_rfl) ?_
  have H4' := Aside0.mk (setRow_heap _ g4 _ #[.int .i64 5, .int .i64 (pickL branchesL (f3W w)), .int .i64 rd, .int .i64 rs1, .int .i64 rs2, .int .i64 imm, .int .i64 0, .bool false] 23 (0, 0) H4.out)
  have HB' := Aside0.mk (row_below (g := g4) (cs := #[.int .i64 5, .int .i64 (pickL branchesL (f3W w)), .int .i64 rd, .int .i64 rs1, .int .i64 rs2, .int .i64 imm, .int .i64 0, .bool false]) HB.out HL4.out)
  go_wp2
  refine bodyPost_ret (results_ct rfl _ _ g4 23 #[.int .i64 5, .int .i64 (pickL branchesL (f3W w)), .int .i64 rd, .int .i64 rs1, .int .i64 rs2, .int .i64 imm, .int .i64 0, .bool false] (0, 0) _ rfl H4'.out Tryz.underlying23 rfl (by kernel_rfl)) rfl ?_
  exact ⟨rfl, by repeat (first | (with_reducible first | exact HB'.out | apply pw_below_drewN | apply below_drew1 | refine row_below ?_ HL4.out) | exact HB.out | exact HB'.out)⟩

theorem plain7_calls {w rd rs1 rs2 imm : Int} (W : World) (w0 : 0 ≤ w) (w1 : w < 4294967296) : Calls Tryz.prog 103 #[.int .u32 w, .agg #[.int .i64 7, .int .i64 0, .int .i64 rd, .int .i64 rs1, .int .i64 rs2, .int .i64 imm, .int .i64 0, .bool false]] W fun e w' => e = .returned (.tuple #[.agg #[.int .i64 7, .int .i64 0, .int .i64 rd, .int .i64 rs1, .int .i64 rs2, .int .i64 imm, .int .i64 (p2 (f3W w)), .bool false], .bool (decide (f3W w < 4))]) ∧ Below W.heap.size W w' := by
  have HB := Aside0.mk (Below.refl W.heap.size W)
  have F3 : ∀ W, Calls Tryz.prog 96 #[.int .u32 w] W fun e w' => e = .returned (.int .i64 (f3W w)) ∧ Drawn0 W w' := fun W => f3_calls W w0 w1
  have hu23 := Tryz.underlying23
  have hf := f3W_b w
  have d0 : decide (0 ≤ f3W w) = true := by simpa using hf.1
  have d1 : (0 : Int) ≤ f3W w := hf.1
  have he : wrap64 (2 ^ min (f3W w).toNat 64) = p2 (f3W w) := by
    rcases f3_cases w with c | c | c | c | c | c | c | c <;> rw [c] <;> decide +kernel
  rw [← he]
  clear he hf w0 w1
  go_enter Tryz.func103, Tryz.ntmps103
  go_wp2_with (first | ((with_reducible refine gate_dst (N := 3) rfl ?_); refine box_event (by rfl) (N := 3) (by rfl) (cs := #[.int .i64 7, .int .i64 0, .int .i64 rd, .int .i64 rs1, .int .i64 rs2, .int .i64 imm, .int .i64 0, .bool false]) (t := 23) (by first | (go_simp; done) | (go_simp; rfl)) ?_; intro g3 hg w3 hbox hb; have H3 := Aside0.mk hbox; have HB' := Aside0.mk (below_step HB.out hb); have HL3 := Aside0.mk (show W.heap.size ≤ g3 by omega); clear HB; have HB := HB'; clear HB'; clear hbox hb hg) | ((with_reducible refine gate_dst (N := 4) rfl ?_); refine box_event (by rfl) (N := 4) (by rfl) (cs := #[.int .i64 0, .int .i64 0, .int .i64 0, .int .i64 0, .int .i64 0, .int .i64 0, .int .i64 0, .bool false]) (t := 23) (by first | (go_simp; done) | (go_simp; rfl)) ?_; intro g4 hg w4 hbox hb; have H4 := Aside0.mk hbox; have HB' := Aside0.mk (below_step HB.out hb); have H3' := Aside0.mk (blk_below H3.out hb); have HL4 := Aside0.mk (show W.heap.size ≤ g4 by have h1 := HB.out.size; omega); have HN := Aside0.mk (show g3 ≠ g4 by have h1 := blk_lt H3.out; omega); clear HB H3; have HB := HB'; have H3 := H3'; clear HB' H3'; obtain ⟨y0, y1, y2, y3, y4, y5, y6, y7, yf0, yf1, yf2, yf3, yf4, yf5, yf6, yf7⟩ := cells8 H3.out; clear hbox hb hg) | fail)
  refine (F3 _).mono ?_
  rintro e w' ⟨rfl, ⟨nd, rfl⟩⟩
  go_upto_region 16 with (first | ((with_reducible refine gate_store (t := 3) rfl ?_); refine set_event rfl 3 _ _ rfl (g := g3) 6 (.int .i64 (wrap64 (2 ^ min (f3W w).toNat 64))) #[.int .i64 7, .int .i64 0, .int .i64 rd, .int .i64 rs1, .int .i64 rs2, .int .i64 imm, .int .i64 (wrap64 (2 ^ min (f3W w).toNat 64)), .bool false] H3.out (by simp) rfl rfl (by kernel_rfl) rfl rfl rfl ?_; intro w7 hbox hfar hbel; have H3' := Aside0.mk hbox; have H4' := Aside0.mk (far_blk hfar (fun e => HN.out e.symm) H4.out); have HB' := Aside0.mk (hbel _ _ (by repeat (first | (with_reducible first | exact HB.out | apply below_alloc | apply pw_below_drewN | apply below_drew1) | exact HB.out)) HL3.out); clear hbox hfar hbel H3 H4 HB y0 y1 y2 y3 y4 y5 y6 y7 yf0 yf1 yf2 yf3 yf4 yf5 yf6 yf7; have H3 := H3'; have H4 := H4'; have HB := HB'; clear H3' H4' HB'; obtain ⟨y0, y1, y2, y3, y4, y5, y6, y7, yf0, yf1, yf2, yf3, yf4, yf5, yf6, yf7⟩ := cells8 H3.out) | fail)
  refine start_ (n := 6) (S := fun w' => w'.cell? ⟨g3, 0, none⟩ = some (.int .i64 7) ∧ w'.cell? ⟨g3, 1, none⟩ = some (.int .i64 0) ∧ w'.cell? ⟨g3, 2, none⟩ = some (.int .i64 rd) ∧ w'.cell? ⟨g3, 3, none⟩ = some (.int .i64 rs1) ∧ w'.cell? ⟨g3, 4, none⟩ = some (.int .i64 rs2) ∧ w'.cell? ⟨g3, 5, none⟩ = some (.int .i64 imm) ∧ w'.cell? ⟨g3, 6, none⟩ = some (.int .i64 (wrap64 (2 ^ min (f3W w).toNat 64))) ∧ w'.cell? ⟨g3, 7, none⟩ = some (.bool false)) (ds := []) #[false, false, false, false, false, false] (by kernel_rfl) rfl rfl (cells8a H3.out) (fun hHeld => ?_)
  refine pure_ (i := 1) (N := some 52) (v := ?_) (a' := ?_) #[false, true, false, false, false, false] rfl rfl (by kernel_rfl) (fun _ _ _ h => h) (Or.inl ⟨by rfl, ?_⟩) ?_ ?_
  rotate_left
  · intro w'
    go_simp
    with_reducible rfl
  rotate_left
  · simp only [Act.put, putS]
    rfl
  refine take_ (i := 0) (N := some 51) (v := ?_) (a' := ?_) #[true, true, false, false, false, false] rfl rfl (by kernel_rfl) (fun _ _ _ h => h) (Or.inl ⟨by rfl, ?_⟩) hHeld ?_ ?_
  rotate_left
  · rintro w' ⟨s0, s1, s2, s3, s4, s5, s6, s7⟩
    go_simp
    with_reducible rfl
  rotate_left
  · simp only [Act.put, putS]
    rfl
  refine one_ (i := 2) (N := some 53) #[true, true, true, false, false, false] rfl rfl (by kernel_rfl) (by decide) (fun K hK => ?_)
  refine goes_ Tryz.func96 (by kernel_rfl) rfl #[.int .u32 w] (by rfl) rfl rfl (by simp only [List.map_toArray, List.map_cons, List.map_nil]; rfl) ?_
  refine (F3 _).mono ?_
  rintro e w8 ⟨rfl, ⟨nd8, rfl⟩⟩
  refine ⟨_, rfl, ?_⟩
  refine hK.out _ _ (cells8a H3.out) (fun hHeld => ?_)
  clear hK K
  refine norm_ (a' := ?_) ?_ ?_
  rotate_left
  · show Act.put _ (some 53) _ = _
    simp only [Act.put, putS]
    rfl
  refine pure_ (i := 3) (N := some 54) (v := ?_) (a' := ?_) #[true, true, true, true, false, false] rfl rfl (by kernel_rfl) (fun _ _ _ h => h) (Or.inl ⟨by rfl, ?_⟩) ?_ ?_
  rotate_left
  · intro w'
    go_simp
    with_reducible rfl
  rotate_left
  · simp only [Act.put, putS]
    rfl
  refine one_ (i := 4) (N := none) #[true, true, true, true, true, false] rfl rfl (by kernel_rfl) (by decide) (fun K hK => ?_)
  refine skip_ (by rfl) rfl (run_store_row 23 (.tmp 4) (.tmp 51) rfl #[.int .i64 7, .int .i64 0, .int .i64 rd, .int .i64 rs1, .int .i64 rs2, .int .i64 imm, .int .i64 (wrap64 (2 ^ min (f3W w).toNat 64)), .bool false] H4.out rfl rfl (by kernel_rfl) rfl rfl) ?_
  refine hK.out _ _ (cells8a ((row_far _ g4 _ g3 HN.out).trans H3.out)) (fun hHeld => ?_)
  clear hK K
  refine pure_ (i := 5) (N := some 5) (v := ?_) (a' := ?_) #[true, true, true, true, true, true] rfl rfl (by kernel_rfl) (fun _ _ _ h => h) (Or.inl ⟨by rfl, ?_⟩) ?_ ?_
  rotate_left
  · intro w'
    go_simp
    with_reducible rfl
  rotate_left
  · simp only [Act.put, putS]
    rfl
  refine done_ (by kernel_rfl) ?_
  have H4' := Aside0.mk (setRow_heap _ g4 _ #[.int .i64 7, .int .i64 0, .int .i64 rd, .int .i64 rs1, .int .i64 rs2, .int .i64 imm, .int .i64 (wrap64 (2 ^ min (f3W w).toNat 64)), .bool false] 23 (0, 0) H4.out)
  have HB' := Aside0.mk (row_below (g := g4) (cs := #[.int .i64 7, .int .i64 0, .int .i64 rd, .int .i64 rs1, .int .i64 rs2, .int .i64 imm, .int .i64 (wrap64 (2 ^ min (f3W w).toNat 64)), .bool false]) HB.out HL4.out)
  go_wp2
  refine bodyPost_ret (results_ct rfl _ _ g4 23 #[.int .i64 7, .int .i64 0, .int .i64 rd, .int .i64 rs1, .int .i64 rs2, .int .i64 imm, .int .i64 (wrap64 (2 ^ min (f3W w).toNat 64)), .bool false] (0, 0) _ rfl H4'.out Tryz.underlying23 rfl (by kernel_rfl)) rfl ?_
  exact ⟨rfl, by repeat (first | (with_reducible first | exact HB'.out | apply pw_below_drewN | apply below_drew1 | refine row_below ?_ HL4.out) | exact HB.out | exact HB'.out)⟩

theorem plain6_calls {w rd rs1 rs2 imm : Int} (W : World) (w0 : 0 ≤ w) (w1 : w < 4294967296) : Calls Tryz.prog 103 #[.int .u32 w, .agg #[.int .i64 6, .int .i64 0, .int .i64 rd, .int .i64 rs1, .int .i64 rs2, .int .i64 imm, .int .i64 0, .bool false]] W fun e w' => e = .returned (.tuple #[.agg #[.int .i64 6, .int .i64 0, .int .i64 rd, .int .i64 rs1, .int .i64 rs2, .int .i64 imm, .int .i64 (p2 (f3W w % 4)), .bool (decide (f3W w < 4))], .bool (decide (f3W w < 7))]) ∧ Below W.heap.size W w' := by
  have HB := Aside0.mk (Below.refl W.heap.size W)
  have F3 : ∀ W, Calls Tryz.prog 96 #[.int .u32 w] W fun e w' => e = .returned (.int .i64 (f3W w)) ∧ Drawn0 W w' := fun W => f3_calls W w0 w1
  have hu23 := Tryz.underlying23
  have hf := f3W_b w
  have ha : Go.bits .and .i64 (f3W w) 3 = f3W w % 4 := and_i64 (f3W w) 2 (by omega) (by omega) (by omega)
  have d0 : decide (0 ≤ f3W w % 4) = true := by simp; omega
  have d1 : (0 : Int) ≤ f3W w % 4 := by omega
  have he : wrap64 (2 ^ (f3W w % 4).toNat) = p2 (f3W w % 4) := by
    have hc : f3W w % 4 = 0 ∨ f3W w % 4 = 1 ∨ f3W w % 4 = 2 ∨ f3W w % 4 = 3 := by omega
    rcases hc with c | c | c | c <;> rw [c] <;> decide +kernel
  rw [← he]
  clear he hf w0 w1
  go_enter Tryz.func103, Tryz.ntmps103
  go_upto_region 12 with (first | ((with_reducible refine gate_dst (N := 3) rfl ?_); refine box_event (by rfl) (N := 3) (by rfl) (cs := #[.int .i64 6, .int .i64 0, .int .i64 rd, .int .i64 rs1, .int .i64 rs2, .int .i64 imm, .int .i64 0, .bool false]) (t := 23) (by first | (go_simp; done) | (go_simp; rfl)) ?_; intro g3 hg w3 hbox hb; have H3 := Aside0.mk hbox; have HB' := Aside0.mk (below_step HB.out hb); have HL3 := Aside0.mk (show W.heap.size ≤ g3 by omega); clear HB; have HB := HB'; clear HB'; clear hbox hb hg) | ((with_reducible refine gate_dst (N := 4) rfl ?_); refine box_event (by rfl) (N := 4) (by rfl) (cs := #[.int .i64 0, .int .i64 0, .int .i64 0, .int .i64 0, .int .i64 0, .int .i64 0, .int .i64 0, .bool false]) (t := 23) (by first | (go_simp; done) | (go_simp; rfl)) ?_; intro g4 hg w4 hbox hb; have H4 := Aside0.mk hbox; have HB' := Aside0.mk (below_step HB.out hb); have H3' := Aside0.mk (blk_below H3.out hb); have HL4 := Aside0.mk (show W.heap.size ≤ g4 by have h1 := HB.out.size; omega); have HN := Aside0.mk (show g3 ≠ g4 by have h1 := blk_lt H3.out; omega); clear HB H3; have HB := HB'; have H3 := H3'; clear HB' H3'; obtain ⟨y0, y1, y2, y3, y4, y5, y6, y7, yf0, yf1, yf2, yf3, yf4, yf5, yf6, yf7⟩ := cells8 H3.out; clear hbox hb hg) | fail)
  refine start_ (n := 11) (S := fun w' => True) (ds := []) #[false, false, false, false, false, false, false, false, false, false, false] (by kernel_rfl) rfl rfl trivial (fun hHeld => ?_)
  refine pure_ (i := 0) (N := some 32) (v := ?_) (a' := ?_) #[true, false, false, false, false, false, false, false, false, false, false] rfl rfl (by kernel_rfl) (fun _ _ _ h => h) (Or.inl ⟨by rfl, ?_⟩) ?_ ?_
  rotate_left
  · intro w'
    go_simp
    with_reducible rfl
  rotate_left
  · simp only [Act.put, putS]
    rfl
  refine pure_ (i := 4) (N := some 36) (v := ?_) (a' := ?_) #[true, false, false, false, true, false, false, false, false, false, false] rfl rfl (by kernel_rfl) (fun _ _ _ h => h) (Or.inl ⟨by rfl, ?_⟩) ?_ ?_
  rotate_left
  · intro w'
    go_simp
    with_reducible rfl
  rotate_left
  · simp only [Act.put, putS]
    rfl
  refine one_ (i := 1) (N := some 33) #[true, true, false, false, true, false, false, false, false, false, false] rfl rfl (by kernel_rfl) (by decide) (fun K hK => ?_)
  refine goes_ Tryz.func96 (by kernel_rfl) rfl #[.int .u32 w] (by rfl) rfl rfl (by simp only [List.map_toArray, List.map_cons, List.map_nil]; rfl) ?_
  refine (F3 _).mono ?_
  rintro e w8 ⟨rfl, ⟨nd8, rfl⟩⟩
  refine ⟨_, rfl, ?_⟩
  refine hK.out _ _ trivial (fun hHeld => ?_)
  clear hK K
  refine norm_ (a' := ?_) ?_ ?_
  rotate_left
  · show Act.put _ (some 33) _ = _
    simp only [Act.put, putS]
    rfl
  refine pure_ (i := 2) (N := some 34) (v := ?_) (a' := ?_) #[true, true, true, false, true, false, false, false, false, false, false] rfl rfl (by kernel_rfl) (fun _ _ _ h => h) (Or.inl ⟨by rfl, ?_⟩) ?_ ?_
  rotate_left
  · intro w'
    go_simp
    with_reducible rfl
  rotate_left
  · simp only [Act.put, putS]
    rfl
  refine pure_ (i := 3) (N := some 35) (v := ?_) (a' := ?_) #[true, true, true, true, true, false, false, false, false, false, false] rfl rfl (by kernel_rfl) (fun _ _ _ h => h) (Or.inl ⟨by rfl, ?_⟩) ?_ ?_
  rotate_left
  · intro w'
    go_simp
    with_reducible rfl
  rotate_left
  · simp only [Act.put, putS]
    rfl
  refine pure_ (i := 7) (N := some 39) (v := ?_) (a' := ?_) #[true, true, true, true, true, false, false, true, false, false, false] rfl rfl (by kernel_rfl) (fun _ _ _ h => h) (Or.inl ⟨by rfl, ?_⟩) ?_ ?_
  rotate_left
  · intro w'
    go_simp
    with_reducible rfl
  rotate_left
  · simp only [Act.put, putS]
    rfl
  refine one_ (i := 5) (N := some 37) #[true, true, true, true, true, true, false, true, false, false, false] rfl rfl (by kernel_rfl) (by decide) (fun K hK => ?_)
  refine goes_ Tryz.func96 (by kernel_rfl) rfl #[.int .u32 w] (by rfl) rfl rfl (by simp only [List.map_toArray, List.map_cons, List.map_nil]; rfl) ?_
  refine (F3 _).mono ?_
  rintro e w9 ⟨rfl, ⟨nd9, rfl⟩⟩
  refine ⟨_, rfl, ?_⟩
  refine hK.out _ _ trivial (fun hHeld => ?_)
  clear hK K
  refine norm_ (a' := ?_) ?_ ?_
  rotate_left
  · show Act.put _ (some 37) _ = _
    simp only [Act.put, putS]
    rfl
  refine pure_ (i := 6) (N := some 38) (v := ?_) (a' := ?_) #[true, true, true, true, true, true, true, true, false, false, false] rfl rfl (by kernel_rfl) (fun _ _ _ h => h) (Or.inl ⟨by rfl, ?_⟩) ?_ ?_
  rotate_left
  · intro w'
    go_simp
    with_reducible rfl
  rotate_left
  · simp only [Act.put, putS]
    rfl
  refine one_ (i := 8) (N := none) #[true, true, true, true, true, true, true, true, true, false, false] rfl rfl (by kernel_rfl) (by decide) (fun K hK => ?_)
  refine skip_ (by rfl) rfl (run_store_cell 3 (.tmp 39) (.tmp 35) rfl 6 (.int .i64 (wrap64 (2 ^ (f3W w % 4).toNat))) H3.out (by simp) rfl rfl (by kernel_rfl) rfl rfl) ?_
  refine hK.out _ _ trivial (fun hHeld => ?_)
  clear hK K
  refine pure_ (i := 9) (N := some 40) (v := ?_) (a' := ?_) #[true, true, true, true, true, true, true, true, true, true, false] rfl rfl (by kernel_rfl) (fun _ _ _ h => h) (Or.inl ⟨by rfl, ?_⟩) ?_ ?_
  rotate_left
  · intro w'
    go_simp
    with_reducible rfl
  rotate_left
  · simp only [Act.put, putS]
    rfl
  refine one_ (i := 10) (N := none) #[true, true, true, true, true, true, true, true, true, true, true] rfl rfl (by kernel_rfl) (by decide) (fun K hK => ?_)
  refine skip_ (by rfl) rfl (run_store_cell 4 (.tmp 40) (.tmp 38) rfl 7 (.bool (decide (f3W w < 4))) (blk_set H3.out 6 (.int .i64 (wrap64 (2 ^ (f3W w % 4).toNat)))) (by simp) rfl rfl (by kernel_rfl) rfl rfl) ?_
  refine hK.out _ _ trivial (fun hHeld => ?_)
  clear hK K
  refine done_ (by kernel_rfl) ?_
  have H3a := Aside0.mk (show _ = _ from blk_put (blk_put (w := (w4.drew.drewN nd8).drewN nd9) H3.out 6 (.int .i64 (wrap64 (2 ^ (f3W w % 4).toNat))) rfl) 7 (.bool (decide (f3W w < 4))) rfl)
  have H4a := Aside0.mk (show _ = _ from blk_far (blk_far (w := (w4.drew.drewN nd8).drewN nd9) (p := ⟨g3, 6, none⟩) H4.out (fun e => HN.out e.symm) (.int .i64 (wrap64 (2 ^ (f3W w % 4).toNat)))) (p := ⟨g3, 7, none⟩) (fun e => HN.out e.symm) (.bool (decide (f3W w < 4))))
  have HBa := Aside0.mk (below_set (j := 7) (v := .bool (decide (f3W w < 4))) (below_set (j := 6) (v := .int .i64 (wrap64 (2 ^ (f3W w % 4).toNat))) (show Below W.heap.size W ((w4.drew.drewN nd8).drewN nd9) from (by repeat (first | (with_reducible first | exact HB.out | apply below_alloc | apply pw_below_drewN | apply below_drew1) | exact HB.out))) HL3.out) HL3.out)
  obtain ⟨w6, hw6⟩ : ∃ x, x = (((w4.drew.drewN nd8).drewN nd9).setCell ⟨g3, 6, none⟩ (.int .i64 (wrap64 (2 ^ (f3W w % 4).toNat)))).setCell ⟨g3, 7, none⟩ (.bool (decide (f3W w < 4))) := ⟨_, rfl⟩
  rw [← hw6] at H3a H4a HBa ⊢
  clear hw6 H3 H4 HB hHeld y0 y1 y2 y3 y4 y5 y6 y7 yf0 yf1 yf2 yf3 yf4 yf5 yf6 yf7
  have H3 := H3a; have H4 := H4a; have HB := HBa
  clear H3a H4a HBa
  obtain ⟨y0, y1, y2, y3, y4, y5, y6, y7, yf0, yf1, yf2, yf3, yf4, yf5, yf6, yf7⟩ := cells8 H3.out
  go_upto_region 13 with fail
  refine start_ (n := 6) (S := fun w' => w'.cell? ⟨g3, 0, none⟩ = some (.int .i64 6) ∧ w'.cell? ⟨g3, 1, none⟩ = some (.int .i64 0) ∧ w'.cell? ⟨g3, 2, none⟩ = some (.int .i64 rd) ∧ w'.cell? ⟨g3, 3, none⟩ = some (.int .i64 rs1) ∧ w'.cell? ⟨g3, 4, none⟩ = some (.int .i64 rs2) ∧ w'.cell? ⟨g3, 5, none⟩ = some (.int .i64 imm) ∧ w'.cell? ⟨g3, 6, none⟩ = some (.int .i64 (wrap64 (2 ^ (f3W w % 4).toNat))) ∧ w'.cell? ⟨g3, 7, none⟩ = some (.bool (decide (f3W w < 4)))) (ds := []) #[false, false, false, false, false, false] (by kernel_rfl) rfl rfl (cells8a H3.out) (fun hHeld => ?_)
  refine pure_ (i := 1) (N := some 42) (v := ?_) (a' := ?_) #[false, true, false, false, false, false] rfl rfl (by kernel_rfl) (fun _ _ _ h => h) (Or.inl ⟨by rfl, ?_⟩) ?_ ?_
  rotate_left
  · intro w'
    go_simp
    with_reducible rfl
  rotate_left
  · simp only [Act.put, putS]
    rfl
  refine take_ (i := 0) (N := some 41) (v := ?_) (a' := ?_) #[true, true, false, false, false, false] rfl rfl (by kernel_rfl) (fun _ _ _ h => h) (Or.inl ⟨by rfl, ?_⟩) hHeld ?_ ?_
  rotate_left
  · rintro w' ⟨s0, s1, s2, s3, s4, s5, s6, s7⟩
    go_simp
    with_reducible rfl
  rotate_left
  · simp only [Act.put, putS]
    rfl
  refine one_ (i := 2) (N := some 43) #[true, true, true, false, false, false] rfl rfl (by kernel_rfl) (by decide) (fun K hK => ?_)
  refine goes_ Tryz.func96 (by kernel_rfl) rfl #[.int .u32 w] (by rfl) rfl rfl (by simp only [List.map_toArray, List.map_cons, List.map_nil]; rfl) ?_
  refine (F3 _).mono ?_
  rintro e w8 ⟨rfl, ⟨nd8, rfl⟩⟩
  refine ⟨_, rfl, ?_⟩
  refine hK.out _ _ (cells8a H3.out) (fun hHeld => ?_)
  clear hK K
  refine norm_ (a' := ?_) ?_ ?_
  rotate_left
  · show Act.put _ (some 43) _ = _
    simp only [Act.put, putS]
    rfl
  refine pure_ (i := 3) (N := some 44) (v := ?_) (a' := ?_) #[true, true, true, true, false, false] rfl rfl (by kernel_rfl) (fun _ _ _ h => h) (Or.inl ⟨by rfl, ?_⟩) ?_ ?_
  rotate_left
  · intro w'
    go_simp
    with_reducible rfl
  rotate_left
  · simp only [Act.put, putS]
    rfl
  refine one_ (i := 4) (N := none) #[true, true, true, true, true, false] rfl rfl (by kernel_rfl) (by decide) (fun K hK => ?_)
  refine skip_ (by rfl) rfl (run_store_row 23 (.tmp 4) (.tmp 41) rfl #[.int .i64 6, .int .i64 0, .int .i64 rd, .int .i64 rs1, .int .i64 rs2, .int .i64 imm, .int .i64 (wrap64 (2 ^ (f3W w % 4).toNat)), .bool (decide (f3W w < 4))] H4.out rfl rfl (by kernel_rfl) rfl rfl) ?_
  refine hK.out _ _ (cells8a ((row_far _ g4 _ g3 HN.out).trans H3.out)) (fun hHeld => ?_)
  clear hK K
  refine pure_ (i := 5) (N := some 5) (v := ?_) (a' := ?_) #[true, true, true, true, true, true] rfl rfl (by kernel_rfl) (fun _ _ _ h => h) (Or.inl ⟨by rfl, ?_⟩) ?_ ?_
  rotate_left
  · intro w'
    go_simp
    with_reducible rfl
  rotate_left
  · simp only [Act.put, putS]
    rfl
  refine done_ (by kernel_rfl) ?_
  have H4' := Aside0.mk (setRow_heap _ g4 _ #[.int .i64 6, .int .i64 0, .int .i64 rd, .int .i64 rs1, .int .i64 rs2, .int .i64 imm, .int .i64 (wrap64 (2 ^ (f3W w % 4).toNat)), .bool (decide (f3W w < 4))] 23 (0, 0) H4.out)
  have HB' := Aside0.mk (row_below (g := g4) (cs := #[.int .i64 6, .int .i64 0, .int .i64 rd, .int .i64 rs1, .int .i64 rs2, .int .i64 imm, .int .i64 (wrap64 (2 ^ (f3W w % 4).toNat)), .bool (decide (f3W w < 4))]) HB.out HL4.out)
  go_wp2
  refine bodyPost_ret (results_ct rfl _ _ g4 23 #[.int .i64 6, .int .i64 0, .int .i64 rd, .int .i64 rs1, .int .i64 rs2, .int .i64 imm, .int .i64 (wrap64 (2 ^ (f3W w % 4).toNat)), .bool (decide (f3W w < 4))] (0, 0) _ rfl H4'.out Tryz.underlying23 rfl (by kernel_rfl)) rfl ?_
  exact ⟨rfl, by repeat (first | (with_reducible first | exact HB'.out | apply pw_below_drewN | apply below_drew1 | refine row_below ?_ HL4.out) | exact HB.out | exact HB'.out)⟩

theorem plain8_calls {w rd rs1 rs2 imm : Int} (W : World) (w0 : 0 ≤ w) (w1 : w < 4294967296) : Calls Tryz.prog 103 #[.int .u32 w, .agg #[.int .i64 8, .int .i64 0, .int .i64 rd, .int .i64 rs1, .int .i64 rs2, .int .i64 imm, .int .i64 0, .bool false]] W fun e w' => e = .returned (.tuple #[.agg #[.int .i64 8, .int .i64 (registerL (decide (opW w = 0x33)) (f3W w) (f7W w)), .int .i64 rd, .int .i64 rs1, .int .i64 rs2, .int .i64 imm, .int .i64 0, .bool false], .bool (registerL (decide (opW w = 0x33)) (f3W w) (f7W w) != 0)]) ∧ Below W.heap.size W w' := by
  have HB := Aside0.mk (Below.refl W.heap.size W)
  have F3 : ∀ W, Calls Tryz.prog 96 #[.int .u32 w] W fun e w' => e = .returned (.int .i64 (f3W w)) ∧ Drawn0 W w' := fun W => f3_calls W w0 w1
  have hu23 := Tryz.underlying23
  go_enter Tryz.func103, Tryz.ntmps103
  go_wp2_with (first | ((with_reducible refine gate_dst (N := 3) rfl ?_); refine box_event (by rfl) (N := 3) (by rfl) (cs := #[.int .i64 8, .int .i64 0, .int .i64 rd, .int .i64 rs1, .int .i64 rs2, .int .i64 imm, .int .i64 0, .bool false]) (t := 23) (by first | (go_simp; done) | (go_simp; rfl)) ?_; intro g3 hg w3 hbox hb; have H3 := Aside0.mk hbox; have HB' := Aside0.mk (below_step HB.out hb); have HL3 := Aside0.mk (show W.heap.size ≤ g3 by omega); clear HB; have HB := HB'; clear HB'; clear hbox hb hg) | ((with_reducible refine gate_dst (N := 4) rfl ?_); refine box_event (by rfl) (N := 4) (by rfl) (cs := #[.int .i64 0, .int .i64 0, .int .i64 0, .int .i64 0, .int .i64 0, .int .i64 0, .int .i64 0, .bool false]) (t := 23) (by first | (go_simp; done) | (go_simp; rfl)) ?_; intro g4 hg w4 hbox hb; have H4 := Aside0.mk hbox; have HB' := Aside0.mk (below_step HB.out hb); have H3' := Aside0.mk (blk_below H3.out hb); have HL4 := Aside0.mk (show W.heap.size ≤ g4 by have h1 := HB.out.size; omega); have HN := Aside0.mk (show g3 ≠ g4 by have h1 := blk_lt H3.out; omega); clear HB H3; have HB := HB'; have H3 := H3'; clear HB' H3'; obtain ⟨y0, y1, y2, y3, y4, y5, y6, y7, yf0, yf1, yf2, yf3, yf4, yf5, yf6, yf7⟩ := cells8 H3.out; clear hbox hb hg) | fail)
  refine (register_calls _ w0 w1).mono ?_
  rintro e w' ⟨rfl, hb⟩
  have H3a := Aside0.mk (blk_below H3.out hb)
  have H4a := Aside0.mk (blk_below H4.out hb)
  have HBa := Aside0.mk (below_step HB.out hb)
  clear H3 H4 HB hb y0 y1 y2 y3 y4 y5 y6 y7 yf0 yf1 yf2 yf3 yf4 yf5 yf6 yf7
  have H3 := H3a; have H4 := H4a; have HB := HBa
  clear H3a H4a HBa
  obtain ⟨y0, y1, y2, y3, y4, y5, y6, y7, yf0, yf1, yf2, yf3, yf4, yf5, yf6, yf7⟩ := cells8 H3.out
  go_upto_region 20 with (first | ((with_reducible refine gate_store (t := 3) rfl ?_); refine set_event rfl 3 _ _ rfl (g := g3) 1 (.int .i64 (registerL (decide (opW w = 0x33)) (f3W w) (f7W w))) #[.int .i64 8, .int .i64 (registerL (decide (opW w = 0x33)) (f3W w) (f7W w)), .int .i64 rd, .int .i64 rs1, .int .i64 rs2, .int .i64 imm, .int .i64 0, .bool false] H3.out (by simp) rfl rfl (by kernel_rfl) rfl rfl rfl ?_; intro w7 hbox hfar hbel; have H3' := Aside0.mk hbox; have H4' := Aside0.mk (far_blk hfar (fun e => HN.out e.symm) H4.out); have HB' := Aside0.mk (hbel _ _ (by repeat (first | (with_reducible first | exact HB.out | apply below_alloc | apply pw_below_drewN | apply below_drew1) | exact HB.out)) HL3.out); clear hbox hfar hbel H3 H4 HB y0 y1 y2 y3 y4 y5 y6 y7 yf0 yf1 yf2 yf3 yf4 yf5 yf6 yf7; have H3 := H3'; have H4 := H4'; have HB := HB'; clear H3' H4' HB'; obtain ⟨y0, y1, y2, y3, y4, y5, y6, y7, yf0, yf1, yf2, yf3, yf4, yf5, yf6, yf7⟩ := cells8 H3.out) | fail)
  refine start_ (n := 6) (S := fun w' => w'.cell? ⟨g3, 0, none⟩ = some (.int .i64 8) ∧ w'.cell? ⟨g3, 1, none⟩ = some (.int .i64 (registerL (decide (opW w = 0x33)) (f3W w) (f7W w))) ∧ w'.cell? ⟨g3, 2, none⟩ = some (.int .i64 rd) ∧ w'.cell? ⟨g3, 3, none⟩ = some (.int .i64 rs1) ∧ w'.cell? ⟨g3, 4, none⟩ = some (.int .i64 rs2) ∧ w'.cell? ⟨g3, 5, none⟩ = some (.int .i64 imm) ∧ w'.cell? ⟨g3, 6, none⟩ = some (.int .i64 0) ∧ w'.cell? ⟨g3, 7, none⟩ = some (.bool false)) (ds := []) #[false, false, false, false, false, false] (by kernel_rfl) rfl rfl (cells8a H3.out) (fun hHeld => ?_)
  refine pure_ (i := 1) (N := some 66) (v := ?_) (a' := ?_) #[false, true, false, false, false, false] rfl rfl (by kernel_rfl) (fun _ _ _ h => h) (Or.inl ⟨by rfl, ?_⟩) ?_ ?_
  rotate_left
  · intro w'
    go_simp
    with_reducible rfl
  rotate_left
  · simp only [Act.put, putS]
    rfl
  refine take_ (i := 0) (N := some 65) (v := ?_) (a' := ?_) #[true, true, false, false, false, false] rfl rfl (by kernel_rfl) (fun _ _ _ h => h) (Or.inl ⟨by rfl, ?_⟩) hHeld ?_ ?_
  rotate_left
  · rintro w' ⟨s0, s1, s2, s3, s4, s5, s6, s7⟩
    go_simp
    with_reducible rfl
  rotate_left
  · simp only [Act.put, putS]
    rfl
  refine take_ (i := 2) (N := some 67) (v := ?_) (a' := ?_) #[true, true, true, false, false, false] rfl rfl (by kernel_rfl) (fun _ _ _ h => h) (Or.inl ⟨by rfl, ?_⟩) hHeld ?_ ?_
  rotate_left
  · rintro w' ⟨s0, s1, s2, s3, s4, s5, s6, s7⟩
    go_simp
    with_reducible rfl
  rotate_left
  · simp only [Act.put, putS]
    rfl
  refine pure_ (i := 3) (N := some 68) (v := ?_) (a' := ?_) #[true, true, true, true, false, false] rfl rfl (by kernel_rfl) (fun _ _ _ h => h) (Or.inl ⟨by rfl, ?_⟩) ?_ ?_
  rotate_left
  · intro w'
    go_simp
    with_reducible rfl
  rotate_left
  · simp only [Act.put, putS]
    rfl
  refine one_ (i := 4) (N := none) #[true, true, true, true, true, false] rfl rfl (by kernel_rfl) (by decide) (fun K hK => ?_)
  refine skip_ (by rfl) rfl (run_store_row 23 (.tmp 4) (.tmp 65) rfl #[.int .i64 8, .int .i64 (registerL (decide (opW w = 0x33)) (f3W w) (f7W w)), .int .i64 rd, .int .i64 rs1, .int .i64 rs2, .int .i64 imm, .int .i64 0, .bool false] H4.out rfl rfl (by kernel_rfl) rfl rfl) ?_
  refine hK.out _ _ (cells8a ((row_far _ g4 _ g3 HN.out).trans H3.out)) (fun hHeld => ?_)
  clear hK K
  refine pure_ (i := 5) (N := some 5) (v := ?_) (a' := ?_) #[true, true, true, true, true, true] rfl rfl (by kernel_rfl) (fun _ _ _ h => h) (Or.inl ⟨by rfl, ?_⟩) ?_ ?_
  rotate_left
  · intro w'
    go_simp
    with_reducible rfl
  rotate_left
  · simp only [Act.put, putS]
    rfl
  refine done_ (by kernel_rfl) ?_
  have H4' := Aside0.mk (setRow_heap _ g4 _ #[.int .i64 8, .int .i64 (registerL (decide (opW w = 0x33)) (f3W w) (f7W w)), .int .i64 rd, .int .i64 rs1, .int .i64 rs2, .int .i64 imm, .int .i64 0, .bool false] 23 (0, 0) H4.out)
  have HB' := Aside0.mk (row_below (g := g4) (cs := #[.int .i64 8, .int .i64 (registerL (decide (opW w = 0x33)) (f3W w) (f7W w)), .int .i64 rd, .int .i64 rs1, .int .i64 rs2, .int .i64 imm, .int .i64 0, .bool false]) HB.out HL4.out)
  go_wp2
  refine bodyPost_ret (results_ct rfl _ _ g4 23 #[.int .i64 8, .int .i64 (registerL (decide (opW w = 0x33)) (f3W w) (f7W w)), .int .i64 rd, .int .i64 rs1, .int .i64 rs2, .int .i64 imm, .int .i64 0, .bool false] (0, 0) _ rfl H4'.out Tryz.underlying23 rfl (by kernel_rfl)) rfl ?_
  exact ⟨rfl, by repeat (first | (with_reducible first | exact HB'.out | apply pw_below_drewN | apply below_drew1 | refine row_below ?_ HL4.out) | exact HB.out | exact HB'.out)⟩

theorem plain9_calls {w rd rs1 rs2 imm : Int} (W : World) {r0 r1 r2 r3 r4 r5 r6 : Int} {r7 ok : Bool} (hI : ∀ W, Calls Tryz.prog 138 #[.int .u32 w, .agg #[.int .i64 9, .int .i64 0, .int .i64 rd, .int .i64 rs1, .int .i64 rs2, .int .i64 imm, .int .i64 0, .bool false]] W fun e w' => e = .returned (.tuple #[.agg #[.int .i64 r0, .int .i64 r1, .int .i64 r2, .int .i64 r3, .int .i64 r4, .int .i64 r5, .int .i64 r6, .bool r7], .bool ok]) ∧ Below W.heap.size W w') :
    Calls Tryz.prog 103 #[.int .u32 w, .agg #[.int .i64 9, .int .i64 0, .int .i64 rd, .int .i64 rs1, .int .i64 rs2, .int .i64 imm, .int .i64 0, .bool false]] W fun e w' => e = .returned (.tuple #[.agg #[.int .i64 r0, .int .i64 r1, .int .i64 r2, .int .i64 r3, .int .i64 r4, .int .i64 r5, .int .i64 r6, .bool r7], .bool ok]) ∧ Below W.heap.size W w' := by
  have HB := Aside0.mk (Below.refl W.heap.size W)
  have hu23 := Tryz.underlying23
  go_enter Tryz.func103, Tryz.ntmps103
  go_wp2_with (first | ((with_reducible refine gate_dst (N := 3) rfl ?_); refine box_event (by rfl) (N := 3) (by rfl) (cs := #[.int .i64 9, .int .i64 0, .int .i64 rd, .int .i64 rs1, .int .i64 rs2, .int .i64 imm, .int .i64 0, .bool false]) (t := 23) (by first | (go_simp; done) | (go_simp; rfl)) ?_; intro g3 hg w3 hbox hb; have H3 := Aside0.mk hbox; have HB' := Aside0.mk (below_step HB.out hb); have HL3 := Aside0.mk (show W.heap.size ≤ g3 by omega); clear HB; have HB := HB'; clear HB'; clear hbox hb hg) | ((with_reducible refine gate_dst (N := 4) rfl ?_); refine box_event (by rfl) (N := 4) (by rfl) (cs := #[.int .i64 0, .int .i64 0, .int .i64 0, .int .i64 0, .int .i64 0, .int .i64 0, .int .i64 0, .bool false]) (t := 23) (by first | (go_simp; done) | (go_simp; rfl)) ?_; intro g4 hg w4 hbox hb; have H4 := Aside0.mk hbox; have HB' := Aside0.mk (below_step HB.out hb); have H3' := Aside0.mk (blk_below H3.out hb); have HL4 := Aside0.mk (show W.heap.size ≤ g4 by have h1 := HB.out.size; omega); have HN := Aside0.mk (show g3 ≠ g4 by have h1 := blk_lt H3.out; omega); clear HB H3; have HB := HB'; have H3 := H3'; clear HB' H3'; obtain ⟨y0, y1, y2, y3, y4, y5, y6, y7, yf0, yf1, yf2, yf3, yf4, yf5, yf6, yf7⟩ := cells8 H3.out; clear hbox hb hg) | fail)
  refine (hI _).mono ?_
  rintro e w' ⟨rfl, hb⟩
  have H3a := Aside0.mk (blk_below H3.out hb)
  have H4a := Aside0.mk (blk_below H4.out hb)
  have HBa := Aside0.mk (below_step HB.out hb)
  clear H3 H4 HB hb y0 y1 y2 y3 y4 y5 y6 y7 yf0 yf1 yf2 yf3 yf4 yf5 yf6 yf7
  have H3 := H3a; have H4 := H4a; have HB := HBa
  clear H3a H4a HBa
  go_wp2_with (first | ((with_reducible refine gate_store (t := 23) rfl ?_); refine store_event rfl 23 (.tmp 4) (.tmp 60) rfl (g := g4) #[.int .i64 r0, .int .i64 r1, .int .i64 r2, .int .i64 r3, .int .i64 r4, .int .i64 r5, .int .i64 r6, .bool r7] H4.out rfl rfl (by kernel_rfl) rfl rfl ?_; intro w7 hbox hfar hbel; have H4' := Aside0.mk hbox; have HB' := Aside0.mk (hbel _ _ (by repeat (first | (with_reducible first | exact HB.out | apply below_alloc | apply pw_below_drewN | apply below_drew1) | exact HB.out)) HL4.out); clear hbox hfar hbel H4 H3 HB; have H4 := H4'; have HB := HB'; clear H4' HB') | fail)
  refine bodyPost_ret (results_ct rfl _ _ g4 23 #[.int .i64 r0, .int .i64 r1, .int .i64 r2, .int .i64 r3, .int .i64 r4, .int .i64 r5, .int .i64 r6, .bool r7] (0, 0) _ rfl H4.out Tryz.underlying23 rfl (by kernel_rfl)) rfl ?_
  exact ⟨rfl, HB.out⟩

end Go.Proofs.YtjapahcbhjjeiaaGreatDoor.AS
