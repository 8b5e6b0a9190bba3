/- The walks of inst.decode for ops without a row. -/
import Derived.Test.YtjapahcbhjjeiaaGreatDoorF1
import Derived.Test.YtjapahcbhjjeiaaGreatDoorG3
namespace Go.Proofs.YtjapahcbhjjeiaaGreatDoor.AS
open Go.RowKit Go.MapKept Go.Proofs.YtjapahcbhjjeiaaGreatDoorW.PrintWords Go.Proofs.YtjapahcbhjjeiaaGreatDoorW.PrintLast Go.Proofs.YtjapahcbhjjeiaaGreatDoorW.PrintMore Go.Proofs.YtjapahcbhjjeiaaGreatDoor.PA
set_option linter.unusedVariables false
set_option maxHeartbeats 4000000
set_option maxRecDepth 100000
set_option linter.unusedSimpArgs false

theorem decode_fence {w : Int} (W : World) (w0 : 0 ≤ w) (w1 : w < 4294967296) (hop : opW w = 15) : Calls Tryz.prog 68 #[.int .u32 w] W fun e w' => e = .returned (.tuple #[.agg #[.int .i64 10, .int .i64 0, .int .i64 0, .int .i64 0, .int .i64 0, .int .i64 0, .int .i64 0, .bool false], .bool (decide (f3W w < 2))]) ∧ Below W.heap.size W w' := by
  have HB := Aside0.mk (Below.refl W.heap.size W)
  have hu23 := Tryz.underlying23
  have O : ∀ W, Calls Tryz.prog 95 #[.int .u32 w] W fun e w' => e = .returned (.int .i64 15) ∧ Drawn0 W w' := fun W => by rw [← hop]; exact op_calls W w0 w1
  have F3 : ∀ W, Calls Tryz.prog 96 #[.int .u32 w] W fun e w' => e = .returned (.int .i64 (f3W w)) ∧ Drawn0 W w' := fun W => f3_calls W w0 w1
  clear hop w0 w1
  go_enter Tryz.func68, Tryz.ntmps68
  go_wp2_with (first | ((with_reducible refine gate_dst (N := 2) rfl ?_); refine box_event (by rfl) (N := 2) (by rfl) (cs := #[.int .i64 0, .int .i64 0, .int .i64 0, .int .i64 0, .int .i64 0, .int .i64 0, .int .i64 0, .bool false]) (t := 23) (by first | (go_simp; done) | (go_simp; rfl)) ?_; intro g4 hg w4 hbox hb; have H4 := Aside0.mk hbox; have HB' := Aside0.mk (below_step HB.out hb); have HL4 := Aside0.mk (show W.heap.size ≤ g4 by omega); clear HB; have HB := HB'; clear HB'; clear hbox hb hg) | fail)
  refine (O _).mono ?_
  rintro e w' ⟨rfl, ⟨nd, rfl⟩⟩
  go_wp2_with fail
  refine (F3 _).mono ?_
  rintro e w' ⟨rfl, ⟨nd, rfl⟩⟩
  go_wp2_with (first | ((with_reducible refine gate_store (t := 23) rfl ?_); refine store_event rfl 23 (.tmp 2) (.tmp 11) rfl (g := g4) #[.int .i64 10, .int .i64 0, .int .i64 0, .int .i64 0, .int .i64 0, .int .i64 0, .int .i64 0, .bool false] H4.out rfl rfl (by kernel_rfl) rfl rfl ?_; intro w5 hbox hfar hbel; have H4' := Aside0.mk hbox; have HB' := Aside0.mk (hbel _ _ (by repeat (first | (with_reducible first | exact HB.out | apply below_alloc | apply pw_below_drewN | apply below_drew1) | exact HB.out)) HL4.out); clear hbox hfar hbel H4 HB; have H4 := H4'; have HB := HB'; clear H4' HB') | fail)
  refine bodyPost_ret (results_ct rfl _ _ g4 23 #[.int .i64 10, .int .i64 0, .int .i64 0, .int .i64 0, .int .i64 0, .int .i64 0, .int .i64 0, .bool false] (0, 0) _ rfl H4.out Tryz.underlying23 rfl (by kernel_rfl)) rfl ?_
  exact ⟨rfl, HB.out⟩

theorem decode_sys {w : Int} (W : World) (w0 : 0 ≤ w) (w1 : w < 4294967296) (hop : opW w = 115) {r0 r1 r2 r3 r4 r5 r6 : Int} {r7 ok : Bool} (hS : ∀ W, Calls Tryz.prog 97 #[.int .u32 w] W fun e w' => e = .returned (.tuple #[.agg #[.int .i64 r0, .int .i64 r1, .int .i64 r2, .int .i64 r3, .int .i64 r4, .int .i64 r5, .int .i64 r6, .bool r7], .bool ok]) ∧ Below W.heap.size W w') : Calls Tryz.prog 68 #[.int .u32 w] W fun e w' => e = .returned (.tuple #[.agg #[.int .i64 r0, .int .i64 r1, .int .i64 r2, .int .i64 r3, .int .i64 r4, .int .i64 r5, .int .i64 r6, .bool r7], .bool ok]) ∧ Below W.heap.size W w' := by
  have HB := Aside0.mk (Below.refl W.heap.size W)
  have hu23 := Tryz.underlying23
  have O : ∀ W, Calls Tryz.prog 95 #[.int .u32 w] W fun e w' => e = .returned (.int .i64 115) ∧ Drawn0 W w' := fun W => by rw [← hop]; exact op_calls W w0 w1
  clear hop w0 w1
  go_enter Tryz.func68, Tryz.ntmps68
  go_wp2_with (first | ((with_reducible refine gate_dst (N := 2) rfl ?_); refine box_event (by rfl) (N := 2) (by rfl) (cs := #[.int .i64 0, .int .i64 0, .int .i64 0, .int .i64 0, .int .i64 0, .int .i64 0, .int .i64 0, .bool false]) (t := 23) (by first | (go_simp; done) | (go_simp; rfl)) ?_; intro g4 hg w4 hbox hb; have H4 := Aside0.mk hbox; have HB' := Aside0.mk (below_step HB.out hb); have HL4 := Aside0.mk (show W.heap.size ≤ g4 by omega); clear HB; have HB := HB'; clear HB'; clear hbox hb hg) | fail)
  refine (O _).mono ?_
  rintro e w' ⟨rfl, ⟨nd, rfl⟩⟩
  go_wp2_with fail
  refine (hS _).mono ?_
  rintro e w' ⟨rfl, hb⟩
  have H4a := Aside0.mk (blk_below (by (with_reducible repeat (first | refine blk_drewN ?_ _ | refine blk_drew ?_ | refine blk_alloc ?_ _)); exact H4.out) hb)
  have HBa := Aside0.mk (below_step (by repeat (first | (with_reducible first | exact HB.out | apply below_alloc | apply pw_below_drewN | apply below_drew1) | exact HB.out)) hb)
  clear H4 HB hb
  have H4 := H4a; have HB := HBa
  clear H4a HBa
  go_wp2_with (first | ((with_reducible refine gate_store (t := 23) rfl ?_); refine store_event rfl 23 (.tmp 2) (.tmp 19) rfl (g := g4) #[.int .i64 r0, .int .i64 r1, .int .i64 r2, .int .i64 r3, .int .i64 r4, .int .i64 r5, .int .i64 r6, .bool r7] H4.out rfl rfl (by kernel_rfl) rfl rfl ?_; intro w5 hbox hfar hbel; have H4' := Aside0.mk hbox; have HB' := Aside0.mk (hbel _ _ (by repeat (first | (with_reducible first | exact HB.out | apply below_alloc | apply pw_below_drewN | apply below_drew1) | exact HB.out)) HL4.out); clear hbox hfar hbel H4 HB; have H4 := H4'; have HB := HB'; clear H4' HB') | fail)
  refine bodyPost_ret (results_ct rfl _ _ g4 23 #[.int .i64 r0, .int .i64 r1, .int .i64 r2, .int .i64 r3, .int .i64 r4, .int .i64 r5, .int .i64 r6, .bool r7] (0, 0) _ rfl H4.out Tryz.underlying23 rfl (by kernel_rfl)) rfl ?_
  exact ⟨rfl, HB.out⟩

theorem decode_at {w : Int} (W : World) (w0 : 0 ≤ w) (w1 : w < 4294967296) (hop : opW w = 47) {r0 r1 r2 r3 r4 r5 r6 : Int} {r7 ok : Bool} (hS : ∀ W, Calls Tryz.prog 98 #[.int .u32 w] W fun e w' => e = .returned (.tuple #[.agg #[.int .i64 r0, .int .i64 r1, .int .i64 r2, .int .i64 r3, .int .i64 r4, .int .i64 r5, .int .i64 r6, .bool r7], .bool ok]) ∧ Below W.heap.size W w') : Calls Tryz.prog 68 #[.int .u32 w] W fun e w' => e = .returned (.tuple #[.agg #[.int .i64 r0, .int .i64 r1, .int .i64 r2, .int .i64 r3, .int .i64 r4, .int .i64 r5, .int .i64 r6, .bool r7], .bool ok]) ∧ Below W.heap.size W w' := by
  have HB := Aside0.mk (Below.refl W.heap.size W)
  have hu23 := Tryz.underlying23
  have O : ∀ W, Calls Tryz.prog 95 #[.int .u32 w] W fun e w' => e = .returned (.int .i64 47) ∧ Drawn0 W w' := fun W => by rw [← hop]; exact op_calls W w0 w1
  clear hop w0 w1
  go_enter Tryz.func68, Tryz.ntmps68
  go_wp2_with (first | ((with_reducible refine gate_dst (N := 2) rfl ?_); refine box_event (by rfl) (N := 2) (by rfl) (cs := #[.int .i64 0, .int .i64 0, .int .i64 0, .int .i64 0, .int .i64 0, .int .i64 0, .int .i64 0, .bool false]) (t := 23) (by first | (go_simp; done) | (go_simp; rfl)) ?_; intro g4 hg w4 hbox hb; have H4 := Aside0.mk hbox; have HB' := Aside0.mk (below_step HB.out hb); have HL4 := Aside0.mk (show W.heap.size ≤ g4 by omega); clear HB; have HB := HB'; clear HB'; clear hbox hb hg) | fail)
  refine (O _).mono ?_
  rintro e w' ⟨rfl, ⟨nd, rfl⟩⟩
  go_wp2_with fail
  refine (hS _).mono ?_
  rintro e w' ⟨rfl, hb⟩
  have H4a := Aside0.mk (blk_below (by (with_reducible repeat (first | refine blk_drewN ?_ _ | refine blk_drew ?_ | refine blk_alloc ?_ _)); exact H4.out) hb)
  have HBa := Aside0.mk (below_step (by repeat (first | (with_reducible first | exact HB.out | apply below_alloc | apply pw_below_drewN | apply below_drew1) | exact HB.out)) hb)
  clear H4 HB hb
  have H4 := H4a; have HB := HBa
  clear H4a HBa
  go_wp2_with (first | ((with_reducible refine gate_store (t := 23) rfl ?_); refine store_event rfl 23 (.tmp 2) (.tmp 25) rfl (g := g4) #[.int .i64 r0, .int .i64 r1, .int .i64 r2, .int .i64 r3, .int .i64 r4, .int .i64 r5, .int .i64 r6, .bool r7] H4.out rfl rfl (by kernel_rfl) rfl rfl ?_; intro w5 hbox hfar hbel; have H4' := Aside0.mk hbox; have HB' := Aside0.mk (hbel _ _ (by repeat (first | (with_reducible first | exact HB.out | apply below_alloc | apply pw_below_drewN | apply below_drew1) | exact HB.out)) HL4.out); clear hbox hfar hbel H4 HB; have H4 := H4'; have HB := HB'; clear H4' HB') | fail)
  refine bodyPost_ret (results_ct rfl _ _ g4 23 #[.int .i64 r0, .int .i64 r1, .int .i64 r2, .int .i64 r3, .int .i64 r4, .int .i64 r5, .int .i64 r6, .bool r7] (0, 0) _ rfl H4.out Tryz.underlying23 rfl (by kernel_rfl)) rfl ?_
  exact ⟨rfl, HB.out⟩

theorem zero114 (w : World) : (zeroValue 114).run Tryz.prog w = .ok (.agg #[.int .i64 0, .nilFunc, .bool false, .bool false, .bool false]) w := by kernel_rfl
theorem decode_none {w : Int} (W : World) (w0 : 0 ≤ w) (w1 : w < 4294967296) {op : Int} (hop : opW w = op) (n1 : (op == 15) = false) (n2 : (op == 115) = false) (n3 : (op == 47) = false) (hm : ∀ p ∈ rowsV, p.1 ≠ Value.int .i64 op) : Calls Tryz.prog 68 #[.int .u32 w] W fun e w' => e = .returned (.tuple #[.agg #[.int .i64 0, .int .i64 0, .int .i64 0, .int .i64 0, .int .i64 0, .int .i64 0, .int .i64 0, .bool false], .bool false]) ∧ Below W.heap.size W w' := by
  have HB := Aside0.mk (Below.refl W.heap.size W)
  have hu23 := Tryz.underlying23
  have O : ∀ W, Calls Tryz.prog 95 #[.int .u32 w] W fun e w' => e = .returned (.int .i64 op) ∧ Drawn0 W w' := fun W => by rw [← hop]; exact op_calls W w0 w1
  have HMI := Aside0.mk hm
  have HKS := Aside0.mk (show ∀ p ∈ rowsV, IsKey (.int .i64) p.1 by simp [rowsV, IsKey])
  clear hop w0 w1 hm
  go_enter Tryz.func68, Tryz.ntmps68
  go_wp2_with (first | ((with_reducible refine gate_dst (N := 2) rfl ?_); refine box_event (by rfl) (N := 2) (by rfl) (cs := #[.int .i64 0, .int .i64 0, .int .i64 0, .int .i64 0, .int .i64 0, .int .i64 0, .int .i64 0, .bool false]) (t := 23) (by first | (go_simp; done) | (go_simp; rfl)) ?_; intro g4 hg w4 hbox hb; have H4 := Aside0.mk hbox; have HB' := Aside0.mk (below_step HB.out hb); have HL4 := Aside0.mk (show W.heap.size ≤ g4 by omega); clear HB; have HB := HB'; clear HB'; clear hbox hb hg) | fail)
  refine (O _).mono ?_
  rintro e w' ⟨rfl, ⟨nd, rfl⟩⟩
  go_wp2_with fail
  refine (rows_calls _).mono ?_
  rintro e w5 ⟨rfl, hM, hb⟩
  have HBa := Aside0.mk (below_step (by repeat (first | (with_reducible first | exact HB.out | apply below_alloc | apply pw_below_drewN | apply below_drew1) | exact HB.out)) hb)
  have H4a := Aside0.mk (blk_below (by (with_reducible repeat (first | refine blk_drewN ?_ _ | refine blk_drew ?_ | refine blk_alloc ?_ _)); exact H4.out) hb)
  clear HB H4 hb
  have HB := HBa; have H4 := H4a
  clear HBa H4a
  obtain ⟨bm, hbm⟩ : ∃ x, x = (w4.drewN nd).heap.size := ⟨_, rfl⟩
  have HM : Aside0 (MapAt w5 bm rowsV) := ⟨by rw [hbm]; exact hM⟩
  clear hM
  rw [← hbm]
  clear hbm
  go_wp2_with fail
  refine (O _).mono ?_
  rintro e w' ⟨rfl, ⟨nd2, rfl⟩⟩
  have HLK : Aside0 ((Instr.lookup 116 (.map (some bm)) (.int .i64 op) true).run Tryz.prog (w5.drewN nd2) = .ok (.tuple #[.agg #[.int .i64 0, .nilFunc, .bool false, .bool false, .bool false], .bool false]) (w5.drewN nd2)) := ⟨(HM.out.same (w1 := w5.drewN nd2) rfl).miss Tryz.underlying116 Tryz.underlying3 (zero114 _) (show IsKey (.int .i64) (.int .i64 op) from rfl) HKS.out HMI.out true⟩
  go_wp2_with (first | ((with_reducible refine gate_dst (N := 31) rfl ?_); refine look_event rfl _ _ 116 true rfl (.map (some bm)) (.int .i64 op) (.tuple #[.agg #[.int .i64 0, .nilFunc, .bool false, .bool false, .bool false], .bool false]) rfl rfl HLK.out ?_) | ((with_reducible refine gate_dst (N := 4) rfl ?_); refine box_event (by rfl) (N := 4) (by rfl) (cs := #[.int .i64 0, .nilFunc, .bool false, .bool false, .bool false]) (t := 114) (by first | (go_simp; done) | (go_simp; rfl)) ?_; intro g5 hg w5 hbox hb; have H5 := Aside0.mk hbox; have H4' := Aside0.mk (blk_below (by (with_reducible repeat (first | refine blk_drewN ?_ _ | refine blk_drew ?_ | refine blk_alloc ?_ _)); exact H4.out) hb); have HL5 := Aside0.mk (show W.heap.size ≤ g5 by have h1 := HB.out.size; simp at hg; omega); have HN := Aside0.mk (show g5 ≠ g4 by have h1 := blk_lt H4.out; simp at hg; omega); have HB' := Aside0.mk (below_step (by repeat (first | (with_reducible first | exact HB.out | apply below_alloc | apply pw_below_drewN | apply below_drew1) | exact HB.out)) hb); clear HB H4 hbox hb hg; have HB := HB'; have H4 := H4'; clear HB' H4') | ((with_reducible refine gate_store (t := 114) rfl ?_); refine store_event rfl 114 (.tmp 4) (.tmp 32) rfl (g := g5) #[.int .i64 0, .nilFunc, .bool false, .bool false, .bool false] H5.out rfl rfl (by kernel_rfl) rfl rfl ?_; intro w6 hbox hfar hbel; have H4' := Aside0.mk (far_blk hfar (fun e => HN.out e.symm) H4.out); have HB' := Aside0.mk (hbel _ _ HB.out HL5.out); clear hbox hfar hbel H4 H5 HB; have H4 := H4'; have HB := HB'; clear H4' HB') | ((with_reducible refine gate_store (t := 23) rfl ?_); refine store_event rfl 23 (.tmp 2) (.tmp 36) rfl (g := g4) #[.int .i64 0, .int .i64 0, .int .i64 0, .int .i64 0, .int .i64 0, .int .i64 0, .int .i64 0, .bool false] H4.out rfl rfl (by kernel_rfl) rfl rfl ?_; intro w7 hbox hfar hbel; have H4' := Aside0.mk hbox; have HB' := Aside0.mk (hbel _ _ (by repeat (first | (with_reducible first | exact HB.out | apply below_alloc | apply pw_below_drewN | apply below_drew1) | exact HB.out)) HL4.out); clear hbox hfar hbel H4 HB; have H4 := H4'; have HB := HB'; clear H4' HB') | fail)
  refine bodyPost_ret (results_ct rfl _ _ g4 23 #[.int .i64 0, .int .i64 0, .int .i64 0, .int .i64 0, .int .i64 0, .int .i64 0, .int .i64 0, .bool false] (0, 0) _ rfl H4.out Tryz.underlying23 rfl (by kernel_rfl)) rfl ?_
  exact ⟨rfl, HB.out⟩

end Go.Proofs.YtjapahcbhjjeiaaGreatDoor.AS
