/- The walk of inst.encode, kind by kind. -/
import Derived.Test.YtjapahcbhjjeiaaGreatDoorF1
import Derived.Test.YtjapahcbhjjeiaaGreatDoorG11
import Derived.Test.YtjapahcbhjjeiaaGreatDoorF2
namespace Go.Proofs.YtjapahcbhjjeiaaGreatDoor.AS
open Go.RowKit Go.Proofs.YtjapahcbhjjeiaaGreatDoorW.PrintWords Go.Proofs.YtjapahcbhjjeiaaGreatDoorW.PrintLast Go.Proofs.YtjapahcbhjjeiaaGreatDoorW.PrintMore Go.Proofs.YtjapahcbhjjeiaaGreatDoor.PA
set_option linter.unusedVariables false
set_option maxHeartbeats 4000000
set_option maxRecDepth 100000
set_option linter.unusedSimpArgs false

theorem enc_1 {kind fn rd rs1 rs2 imm size : Int} {sg : Bool} (W : World) : Calls Tryz.prog 43 #[.agg #[.int .i64 1, .int .i64 fn, .int .i64 rd, .int .i64 rs1, .int .i64 rs2, .int .i64 imm, .int .i64 size, .bool sg]] W fun e w' => e = .returned (.int .u32 (Go.bits .or .u32 (Go.bits .or .u32 (55) ((Go.bits .or .u32 (Go.bits .or .u32 (putL rd 11 7) (putL rs1 19 15)) (putL rs2 24 20)))) (putL (imm / 4096) 31 12))) ∧ Below W.heap.size W w' := by
  have HB := Aside0.mk (Below.refl W.heap.size W)
  have hu23 := Tryz.underlying23
  go_enter Tryz.func43, Tryz.ntmps43
  go_upto_region 1 with (first | ((with_reducible refine gate_dst (N := 1) rfl ?_); refine box_event (by rfl) (N := 1) (by rfl) (cs := #[.int .i64 1, .int .i64 fn, .int .i64 rd, .int .i64 rs1, .int .i64 rs2, .int .i64 imm, .int .i64 size, .bool sg]) (t := 23) (by first | (go_simp; done) | (go_simp; rfl)) ?_; intro g3 hg w3 hbox hb; have H3 := Aside0.mk hbox; have HB' := Aside0.mk (below_step HB.out hb); clear HB; have HB := HB'; clear HB'; obtain ⟨y0, y1, y2, y3, y4, y5, y6, y7, yf0, yf1, yf2, yf3, yf4, yf5, yf6, yf7⟩ := cells8 H3.out; clear hbox hb hg) | fail)
  go_quiet (first | (go_at_call 64; refine Calls.quiet_of (put_q _ _ _ _ (by decide) (by decide) (by decide))))
  go_wp2_with fail
  refine (put_calls _ _ _ _ (by decide) (by decide) (by decide)).mono ?_
  rintro e w' ⟨rfl, ⟨nd, rfl⟩⟩
  go_wp2_with fail
  go_ret
  exact ⟨rfl, by repeat (first | (with_reducible first | exact HB.out | apply below_alloc | apply pw_below_drewN | apply below_drew1) | exact HB.out)⟩

theorem enc_2 {kind fn rd rs1 rs2 imm size : Int} {sg : Bool} (W : World) : Calls Tryz.prog 43 #[.agg #[.int .i64 2, .int .i64 fn, .int .i64 rd, .int .i64 rs1, .int .i64 rs2, .int .i64 imm, .int .i64 size, .bool sg]] W fun e w' => e = .returned (.int .u32 (Go.bits .or .u32 (Go.bits .or .u32 (23) ((Go.bits .or .u32 (Go.bits .or .u32 (putL rd 11 7) (putL rs1 19 15)) (putL rs2 24 20)))) (putL (imm / 4096) 31 12))) ∧ Below W.heap.size W w' := by
  have HB := Aside0.mk (Below.refl W.heap.size W)
  have hu23 := Tryz.underlying23
  go_enter Tryz.func43, Tryz.ntmps43
  go_upto_region 1 with (first | ((with_reducible refine gate_dst (N := 1) rfl ?_); refine box_event (by rfl) (N := 1) (by rfl) (cs := #[.int .i64 2, .int .i64 fn, .int .i64 rd, .int .i64 rs1, .int .i64 rs2, .int .i64 imm, .int .i64 size, .bool sg]) (t := 23) (by first | (go_simp; done) | (go_simp; rfl)) ?_; intro g3 hg w3 hbox hb; have H3 := Aside0.mk hbox; have HB' := Aside0.mk (below_step HB.out hb); clear HB; have HB := HB'; clear HB'; obtain ⟨y0, y1, y2, y3, y4, y5, y6, y7, yf0, yf1, yf2, yf3, yf4, yf5, yf6, yf7⟩ := cells8 H3.out; clear hbox hb hg) | fail)
  go_quiet (first | (go_at_call 64; refine Calls.quiet_of (put_q _ _ _ _ (by decide) (by decide) (by decide))))
  go_wp2_with fail
  refine (put_calls _ _ _ _ (by decide) (by decide) (by decide)).mono ?_
  rintro e w' ⟨rfl, ⟨nd, rfl⟩⟩
  go_wp2_with fail
  go_ret
  exact ⟨rfl, by repeat (first | (with_reducible first | exact HB.out | apply below_alloc | apply pw_below_drewN | apply below_drew1) | exact HB.out)⟩

theorem enc_3 {kind fn rd rs1 rs2 imm size : Int} {sg : Bool} (W : World) : Calls Tryz.prog 43 #[.agg #[.int .i64 3, .int .i64 fn, .int .i64 rd, .int .i64 rs1, .int .i64 rs2, .int .i64 imm, .int .i64 size, .bool sg]] W fun e w' => e = .returned (.int .u32 (Go.bits .or .u32 (Go.bits .or .u32 (Go.bits .or .u32 (Go.bits .or .u32 (Go.bits .or .u32 (111) ((Go.bits .or .u32 (Go.bits .or .u32 (putL rd 11 7) (putL rs1 19 15)) (putL rs2 24 20)))) (putL (imm / 1048576) 31 31)) (putL (imm / 4096) 19 12)) (putL (imm / 2048) 20 20)) (putL (imm / 2) 30 21))) ∧ Below W.heap.size W w' := by
  have HB := Aside0.mk (Below.refl W.heap.size W)
  have hu23 := Tryz.underlying23
  go_enter Tryz.func43, Tryz.ntmps43
  go_upto_region 1 with (first | ((with_reducible refine gate_dst (N := 1) rfl ?_); refine box_event (by rfl) (N := 1) (by rfl) (cs := #[.int .i64 3, .int .i64 fn, .int .i64 rd, .int .i64 rs1, .int .i64 rs2, .int .i64 imm, .int .i64 size, .bool sg]) (t := 23) (by first | (go_simp; done) | (go_simp; rfl)) ?_; intro g3 hg w3 hbox hb; have H3 := Aside0.mk hbox; have HB' := Aside0.mk (below_step HB.out hb); clear HB; have HB := HB'; clear HB'; obtain ⟨y0, y1, y2, y3, y4, y5, y6, y7, yf0, yf1, yf2, yf3, yf4, yf5, yf6, yf7⟩ := cells8 H3.out; clear hbox hb hg) | fail)
  go_quiet (first | (go_at_call 64; refine Calls.quiet_of (put_q _ _ _ _ (by decide) (by decide) (by decide))))
  go_upto_region 8 with fail
  refine start_ (n := 23) (S := fun w' => w'.cell? ⟨g3, 0, none⟩ = some (.int .i64 3) ∧ w'.cell? ⟨g3, 1, none⟩ = some (.int .i64 fn) ∧ w'.cell? ⟨g3, 2, none⟩ = some (.int .i64 rd) ∧ w'.cell? ⟨g3, 3, none⟩ = some (.int .i64 rs1) ∧ w'.cell? ⟨g3, 4, none⟩ = some (.int .i64 rs2) ∧ w'.cell? ⟨g3, 5, none⟩ = some (.int .i64 imm) ∧ w'.cell? ⟨g3, 6, none⟩ = some (.int .i64 size) ∧ w'.cell? ⟨g3, 7, none⟩ = some (.bool sg)) (ds := []) #[false, false, false, false, false, false, false, false, false, false, false, false, false, false, false, false, false, false, false, false, false, false, false] (by kernel_rfl) rfl rfl (cells8a (by (with_reducible repeat (first | refine blk_drewN ?_ _ | refine blk_drew ?_ | refine blk_alloc ?_ _)); exact H3.out)) (fun hHeld => ?_)
  refine pure_ (i := 0) (N := some 41) (v := ?_) (a' := ?_) #[true, false, false, false, false, false, false, false, false, false, false, false, false, false, false, false, false, false, false, false, false, false, false] rfl rfl (by kernel_rfl) (fun _ _ _ h => h) (Or.inl ⟨by rfl, ?_⟩) ?_ ?_
  rotate_left
  · intro w'
    go_simp
    with_reducible rfl
  rotate_left
  · simp only [Act.put, putS]
    rfl
  refine pure_ (i := 1) (N := some 42) (v := ?_) (a' := ?_) #[true, true, false, false, false, false, false, false, false, false, false, false, false, false, false, false, false, false, false, false, false, false, false] rfl rfl (by kernel_rfl) (fun _ _ _ h => h) (Or.inl ⟨by rfl, ?_⟩) ?_ ?_
  rotate_left
  · intro w'
    go_simp
    with_reducible rfl
  rotate_left
  · simp only [Act.put, putS]
    rfl
  refine pure_ (i := 2) (N := some 43) (v := ?_) (a' := ?_) #[true, true, true, false, false, false, false, false, false, false, false, false, false, false, false, false, false, false, false, false, false, false, false] rfl rfl (by kernel_rfl) (fun _ _ _ h => h) (Or.inl ⟨by rfl, ?_⟩) ?_ ?_
  rotate_left
  · intro w'
    go_simp
    with_reducible rfl
  rotate_left
  · simp only [Act.put, putS]
    rfl
  refine pure_ (i := 7) (N := some 48) (v := ?_) (a' := ?_) #[true, true, true, false, false, false, false, true, false, false, false, false, false, false, false, false, false, false, false, false, false, false, false] rfl rfl (by kernel_rfl) (fun _ _ _ h => h) (Or.inl ⟨by rfl, ?_⟩) ?_ ?_
  rotate_left
  · intro w'
    go_simp
    with_reducible rfl
  rotate_left
  · simp only [Act.put, putS]
    rfl
  refine pure_ (i := 12) (N := some 53) (v := ?_) (a' := ?_) #[true, true, true, false, false, false, false, true, false, false, false, false, true, false, false, false, false, false, false, false, false, false, false] rfl rfl (by kernel_rfl) (fun _ _ _ h => h) (Or.inl ⟨by rfl, ?_⟩) ?_ ?_
  rotate_left
  · intro w'
    go_simp
    with_reducible rfl
  rotate_left
  · simp only [Act.put, putS]
    rfl
  refine pure_ (i := 17) (N := some 58) (v := ?_) (a' := ?_) #[true, true, true, false, false, false, false, true, false, false, false, false, true, false, false, false, false, true, false, false, false, false, false] rfl rfl (by kernel_rfl) (fun _ _ _ h => h) (Or.inl ⟨by rfl, ?_⟩) ?_ ?_
  rotate_left
  · intro w'
    go_simp
    with_reducible rfl
  rotate_left
  · simp only [Act.put, putS]
    rfl
  refine take_ (i := 3) (N := some 44) (v := ?_) (a' := ?_) #[true, true, true, true, false, false, false, true, false, false, false, false, true, false, false, false, false, true, false, false, false, false, false] rfl rfl (by kernel_rfl) (fun _ _ _ h => h) (Or.inl ⟨by rfl, ?_⟩) hHeld ?_ ?_
  rotate_left
  · rintro w' ⟨s0, s1, s2, s3, s4, s5, s6, s7⟩
    go_simp
    with_reducible rfl
  rotate_left
  · simp only [Act.put, putS]
    rfl
  refine pure_ (i := 4) (N := some 45) (v := ?_) (a' := ?_) #[true, true, true, true, true, false, false, true, false, false, false, false, true, false, false, false, false, true, false, false, false, false, false] rfl rfl (by kernel_rfl) (fun _ _ _ h => h) (Or.inl ⟨by rfl, ?_⟩) ?_ ?_
  rotate_left
  · intro w'
    go_simp
    with_reducible rfl
  rotate_left
  · simp only [Act.put, putS]
    rfl
  refine take_ (i := 8) (N := some 49) (v := ?_) (a' := ?_) #[true, true, true, true, true, false, false, true, true, false, false, false, true, false, false, false, false, true, false, false, false, false, false] rfl rfl (by kernel_rfl) (fun _ _ _ h => h) (Or.inl ⟨by rfl, ?_⟩) hHeld ?_ ?_
  rotate_left
  · rintro w' ⟨s0, s1, s2, s3, s4, s5, s6, s7⟩
    go_simp
    with_reducible rfl
  rotate_left
  · simp only [Act.put, putS]
    rfl
  refine pure_ (i := 9) (N := some 50) (v := ?_) (a' := ?_) #[true, true, true, true, true, false, false, true, true, true, false, false, true, false, false, false, false, true, false, false, false, false, false] rfl rfl (by kernel_rfl) (fun _ _ _ h => h) (Or.inl ⟨by rfl, ?_⟩) ?_ ?_
  rotate_left
  · intro w'
    go_simp
    with_reducible rfl
  rotate_left
  · simp only [Act.put, putS]
    rfl
  refine take_ (i := 13) (N := some 54) (v := ?_) (a' := ?_) #[true, true, true, true, true, false, false, true, true, true, false, false, true, true, false, false, false, true, false, false, false, false, false] rfl rfl (by kernel_rfl) (fun _ _ _ h => h) (Or.inl ⟨by rfl, ?_⟩) hHeld ?_ ?_
  rotate_left
  · rintro w' ⟨s0, s1, s2, s3, s4, s5, s6, s7⟩
    go_simp
    with_reducible rfl
  rotate_left
  · simp only [Act.put, putS]
    rfl
  refine pure_ (i := 14) (N := some 55) (v := ?_) (a' := ?_) #[true, true, true, true, true, false, false, true, true, true, false, false, true, true, true, false, false, true, false, false, false, false, false] rfl rfl (by kernel_rfl) (fun _ _ _ h => h) (Or.inl ⟨by rfl, ?_⟩) ?_ ?_
  rotate_left
  · intro w'
    go_simp
    with_reducible rfl
  rotate_left
  · simp only [Act.put, putS]
    rfl
  refine take_ (i := 18) (N := some 59) (v := ?_) (a' := ?_) #[true, true, true, true, true, false, false, true, true, true, false, false, true, true, true, false, false, true, true, false, false, false, false] rfl rfl (by kernel_rfl) (fun _ _ _ h => h) (Or.inl ⟨by rfl, ?_⟩) hHeld ?_ ?_
  rotate_left
  · rintro w' ⟨s0, s1, s2, s3, s4, s5, s6, s7⟩
    go_simp
    with_reducible rfl
  rotate_left
  · simp only [Act.put, putS]
    rfl
  refine pure_ (i := 19) (N := some 60) (v := ?_) (a' := ?_) #[true, true, true, true, true, false, false, true, true, true, false, false, true, true, true, false, false, true, true, true, false, false, false] rfl rfl (by kernel_rfl) (fun _ _ _ h => h) (Or.inl ⟨by rfl, ?_⟩) ?_ ?_
  rotate_left
  · intro w'
    go_simp
    with_reducible rfl
  rotate_left
  · simp only [Act.put, putS]
    rfl
  refine one_ (i := 5) (N := some 46) #[true, true, true, true, true, true, false, true, true, true, false, false, true, true, true, false, false, true, true, true, false, false, false] rfl rfl (by kernel_rfl) (by decide) (fun K hK => ?_)
  refine goes_ Tryz.func64 (by kernel_rfl) rfl #[.int .i64 (imm / 1048576), .int .i64 31, .int .i64 31] (by rfl) rfl rfl (by simp only [List.map_toArray, List.map_cons, List.map_nil]; rfl) ?_
  refine (put_calls _ _ _ _ (by decide) (by decide) (by decide)).mono ?_
  rintro e w10 ⟨rfl, ⟨nd10, rfl⟩⟩
  refine ⟨_, rfl, ?_⟩
  refine hK.out _ _ (cells8a (by (with_reducible repeat (first | refine blk_drewN ?_ _ | refine blk_drew ?_ | refine blk_alloc ?_ _)); exact H3.out)) (fun hHeld => ?_)
  clear hK K
  refine norm_ (a' := ?_) ?_ ?_
  rotate_left
  · show Act.put _ (some 46) _ = _
    simp only [Act.put, putS]
    rfl
  refine pure_ (i := 6) (N := some 47) (v := ?_) (a' := ?_) #[true, true, true, true, true, true, true, true, true, true, false, false, true, true, true, false, false, true, true, true, false, false, false] rfl rfl (by kernel_rfl) (fun _ _ _ h => h) (Or.inl ⟨by rfl, ?_⟩) ?_ ?_
  rotate_left
  · intro w'
    go_simp
    with_reducible rfl
  rotate_left
  · simp only [Act.put, putS]
    rfl
  refine one_ (i := 10) (N := some 51) #[true, true, true, true, true, true, true, true, true, true, true, false, true, true, true, false, false, true, true, true, false, false, false] rfl rfl (by kernel_rfl) (by decide) (fun K hK => ?_)
  refine goes_ Tryz.func64 (by kernel_rfl) rfl #[.int .i64 (imm / 4096), .int .i64 19, .int .i64 12] (by rfl) rfl rfl (by simp only [List.map_toArray, List.map_cons, List.map_nil]; rfl) ?_
  refine (put_calls _ _ _ _ (by decide) (by decide) (by decide)).mono ?_
  rintro e w11 ⟨rfl, ⟨nd11, rfl⟩⟩
  refine ⟨_, rfl, ?_⟩
  refine hK.out _ _ (cells8a (by (with_reducible repeat (first | refine blk_drewN ?_ _ | refine blk_drew ?_ | refine blk_alloc ?_ _)); exact H3.out)) (fun hHeld => ?_)
  clear hK K
  refine norm_ (a' := ?_) ?_ ?_
  rotate_left
  · show Act.put _ (some 51) _ = _
    simp only [Act.put, putS]
    rfl
  refine pure_ (i := 11) (N := some 52) (v := ?_) (a' := ?_) #[true, true, true, true, true, true, true, true, true, true, true, true, true, true, true, false, false, true, true, true, false, false, false] rfl rfl (by kernel_rfl) (fun _ _ _ h => h) (Or.inl ⟨by rfl, ?_⟩) ?_ ?_
  rotate_left
  · intro w'
    go_simp
    with_reducible rfl
  rotate_left
  · simp only [Act.put, putS]
    rfl
  refine one_ (i := 15) (N := some 56) #[true, true, true, true, true, true, true, true, true, true, true, true, true, true, true, true, false, true, true, true, false, false, false] rfl rfl (by kernel_rfl) (by decide) (fun K hK => ?_)
  refine goes_ Tryz.func64 (by kernel_rfl) rfl #[.int .i64 (imm / 2048), .int .i64 20, .int .i64 20] (by rfl) rfl rfl (by simp only [List.map_toArray, List.map_cons, List.map_nil]; rfl) ?_
  refine (put_calls _ _ _ _ (by decide) (by decide) (by decide)).mono ?_
  rintro e w12 ⟨rfl, ⟨nd12, rfl⟩⟩
  refine ⟨_, rfl, ?_⟩
  refine hK.out _ _ (cells8a (by (with_reducible repeat (first | refine blk_drewN ?_ _ | refine blk_drew ?_ | refine blk_alloc ?_ _)); exact H3.out)) (fun hHeld => ?_)
  clear hK K
  refine norm_ (a' := ?_) ?_ ?_
  rotate_left
  · show Act.put _ (some 56) _ = _
    simp only [Act.put, putS]
    rfl
  refine pure_ (i := 16) (N := some 57) (v := ?_) (a' := ?_) #[true, true, true, true, true, true, true, true, true, true, true, true, true, true, true, true, true, true, true, true, false, false, false] rfl rfl (by kernel_rfl) (fun _ _ _ h => h) (Or.inl ⟨by rfl, ?_⟩) ?_ ?_
  rotate_left
  · intro w'
    go_simp
    with_reducible rfl
  rotate_left
  · simp only [Act.put, putS]
    rfl
  refine one_ (i := 20) (N := some 61) #[true, true, true, true, true, true, true, true, true, true, true, true, true, true, true, true, true, true, true, true, true, false, false] rfl rfl (by kernel_rfl) (by decide) (fun K hK => ?_)
  refine goes_ Tryz.func64 (by kernel_rfl) rfl #[.int .i64 (imm / 2), .int .i64 30, .int .i64 21] (by rfl) rfl rfl (by simp only [List.map_toArray, List.map_cons, List.map_nil]; rfl) ?_
  refine (put_calls _ _ _ _ (by decide) (by decide) (by decide)).mono ?_
  rintro e w13 ⟨rfl, ⟨nd13, rfl⟩⟩
  refine ⟨_, rfl, ?_⟩
  refine hK.out _ _ (cells8a (by (with_reducible repeat (first | refine blk_drewN ?_ _ | refine blk_drew ?_ | refine blk_alloc ?_ _)); exact H3.out)) (fun hHeld => ?_)
  clear hK K
  refine norm_ (a' := ?_) ?_ ?_
  rotate_left
  · show Act.put _ (some 61) _ = _
    simp only [Act.put, putS]
    rfl
  refine pure_ (i := 21) (N := some 62) (v := ?_) (a' := ?_) #[true, true, true, true, true, true, true, true, true, true, true, true, true, true, true, true, true, true, true, true, true, true, false] rfl rfl (by kernel_rfl) (fun _ _ _ h => h) (Or.inl ⟨by rfl, ?_⟩) ?_ ?_
  rotate_left
  · intro w'
    go_simp
    with_reducible rfl
  rotate_left
  · simp only [Act.put, putS]
    rfl
  refine pure_ (i := 22) (N := some 2) (v := ?_) (a' := ?_) #[true, true, true, true, true, true, true, true, true, true, true, true, true, true, true, true, true, true, true, true, true, true, true] rfl rfl (by kernel_rfl) (fun _ _ _ h => h) (Or.inl ⟨by rfl, ?_⟩) ?_ ?_
  rotate_left
  · intro w'
    go_simp
    with_reducible rfl
  rotate_left
  · simp only [Act.put, putS]
    rfl
  refine done_ (by kernel_rfl) ?_
  go_wp2
  go_ret
  exact ⟨rfl, by repeat (first | (with_reducible first | exact HB.out | apply below_alloc | apply pw_below_drewN | apply below_drew1) | exact HB.out)⟩

theorem enc_4 {kind fn rd rs1 rs2 imm size : Int} {sg : Bool} (W : World) : Calls Tryz.prog 43 #[.agg #[.int .i64 4, .int .i64 fn, .int .i64 rd, .int .i64 rs1, .int .i64 rs2, .int .i64 imm, .int .i64 size, .bool sg]] W fun e w' => e = .returned (.int .u32 (Go.bits .or .u32 (Go.bits .or .u32 (103) ((Go.bits .or .u32 (Go.bits .or .u32 (putL rd 11 7) (putL rs1 19 15)) (putL rs2 24 20)))) (putL imm 31 20))) ∧ Below W.heap.size W w' := by
  have HB := Aside0.mk (Below.refl W.heap.size W)
  have hu23 := Tryz.underlying23
  go_enter Tryz.func43, Tryz.ntmps43
  go_upto_region 1 with (first | ((with_reducible refine gate_dst (N := 1) rfl ?_); refine box_event (by rfl) (N := 1) (by rfl) (cs := #[.int .i64 4, .int .i64 fn, .int .i64 rd, .int .i64 rs1, .int .i64 rs2, .int .i64 imm, .int .i64 size, .bool sg]) (t := 23) (by first | (go_simp; done) | (go_simp; rfl)) ?_; intro g3 hg w3 hbox hb; have H3 := Aside0.mk hbox; have HB' := Aside0.mk (below_step HB.out hb); clear HB; have HB := HB'; clear HB'; obtain ⟨y0, y1, y2, y3, y4, y5, y6, y7, yf0, yf1, yf2, yf3, yf4, yf5, yf6, yf7⟩ := cells8 H3.out; clear hbox hb hg) | fail)
  go_quiet (first | (go_at_call 64; refine Calls.quiet_of (put_q _ _ _ _ (by decide) (by decide) (by decide))))
  go_wp2_with fail
  refine (put_calls _ _ _ _ (by decide) (by decide) (by decide)).mono ?_
  rintro e w' ⟨rfl, ⟨nd, rfl⟩⟩
  go_wp2_with fail
  go_ret
  exact ⟨rfl, by repeat (first | (with_reducible first | exact HB.out | apply below_alloc | apply pw_below_drewN | apply below_drew1) | exact HB.out)⟩

theorem enc_5 {kind fn rd rs1 rs2 imm size : Int} {sg : Bool} (W : World) : Calls Tryz.prog 43 #[.agg #[.int .i64 5, .int .i64 fn, .int .i64 rd, .int .i64 rs1, .int .i64 rs2, .int .i64 imm, .int .i64 size, .bool sg]] W fun e w' => e = .returned (.int .u32 (Go.bits .or .u32 (Go.bits .or .u32 (Go.bits .or .u32 (Go.bits .or .u32 (Go.bits .or .u32 (Go.bits .or .u32 (99) ((Go.bits .or .u32 (Go.bits .or .u32 (putL rd 11 7) (putL rs1 19 15)) (putL rs2 24 20)))) (putL (idxL [1, 2, 0, 0, 3, 4, 5, 6] fn) 14 12)) (putL (imm / 4096) 31 31)) (putL (imm / 2048) 7 7)) (putL (imm / 32) 30 25)) (putL (imm / 2) 11 8))) ∧ Below W.heap.size W w' := by
  have HB := Aside0.mk (Below.refl W.heap.size W)
  have hu23 := Tryz.underlying23
  go_enter Tryz.func43, Tryz.ntmps43
  go_upto_region 1 with (first | ((with_reducible refine gate_dst (N := 1) rfl ?_); refine box_event (by rfl) (N := 1) (by rfl) (cs := #[.int .i64 5, .int .i64 fn, .int .i64 rd, .int .i64 rs1, .int .i64 rs2, .int .i64 imm, .int .i64 size, .bool sg]) (t := 23) (by first | (go_simp; done) | (go_simp; rfl)) ?_; intro g3 hg w3 hbox hb; have H3 := Aside0.mk hbox; have HB' := Aside0.mk (below_step HB.out hb); clear HB; have HB := HB'; clear HB'; obtain ⟨y0, y1, y2, y3, y4, y5, y6, y7, yf0, yf1, yf2, yf3, yf4, yf5, yf6, yf7⟩ := cells8 H3.out; clear hbox hb hg) | fail)
  go_quiet (first | (go_at_call 64; refine Calls.quiet_of (put_q _ _ _ _ (by decide) (by decide) (by decide))))
  go_wp2_with (first | ((with_reducible refine gate_dst (N := 73) rfl ?_); refine lit_event (by rfl) (N := 73) (by rfl) [1, 2, 0, 0, 3, 4, 5, 6] (by decide) (by first | (go_simp; done) | (go_simp; rfl)) ?_; intro Aa wa hCa hb; have HCa := Aside0.mk hCa; have H3' := Aside0.mk (blk_below (by (with_reducible repeat (first | refine blk_drewN ?_ _ | refine blk_drew ?_ | refine blk_alloc ?_ _)); exact H3.out) hb); have HB' := Aside0.mk (below_step (by repeat (first | (with_reducible first | exact HB.out | apply below_alloc | apply pw_below_drewN | apply below_drew1) | exact HB.out)) hb); clear HB H3 hCa hb y0 y1 y2 y3 y4 y5 y6 y7 yf0 yf1 yf2 yf3 yf4 yf5 yf6 yf7; have HB := HB'; have H3 := H3'; clear HB' H3'; obtain ⟨y0, y1, y2, y3, y4, y5, y6, y7, yf0, yf1, yf2, yf3, yf4, yf5, yf6, yf7⟩ := cells8 H3.out) | fail)
  refine (idx_at [1, 2, 0, 0, 3, 4, 5, 6] fn (by repeat (first | exact HCa.out | apply Kd.C_drewN | apply Kd.C_drew)) rfl (by decide) (by decide)).mono ?_
  rintro e w' ⟨rfl, ⟨nd, rfl⟩⟩
  go_upto_region 13 with fail
  refine start_ (n := 26) (S := fun w' => w'.cell? ⟨g3, 0, none⟩ = some (.int .i64 5) ∧ w'.cell? ⟨g3, 1, none⟩ = some (.int .i64 fn) ∧ w'.cell? ⟨g3, 2, none⟩ = some (.int .i64 rd) ∧ w'.cell? ⟨g3, 3, none⟩ = some (.int .i64 rs1) ∧ w'.cell? ⟨g3, 4, none⟩ = some (.int .i64 rs2) ∧ w'.cell? ⟨g3, 5, none⟩ = some (.int .i64 imm) ∧ w'.cell? ⟨g3, 6, none⟩ = some (.int .i64 size) ∧ w'.cell? ⟨g3, 7, none⟩ = some (.bool sg)) (ds := []) #[false, false, false, false, false, false, false, false, false, false, false, false, false, false, false, false, false, false, false, false, false, false, false, false, false, false] (by kernel_rfl) rfl rfl (cells8a (by (with_reducible repeat (first | refine blk_drewN ?_ _ | refine blk_drew ?_ | refine blk_alloc ?_ _)); exact H3.out)) (fun hHeld => ?_)
  refine pure_ (i := 0) (N := some 77) (v := ?_) (a' := ?_) #[true, false, false, false, false, false, false, false, false, false, false, false, false, false, false, false, false, false, false, false, false, false, false, false, false, false] rfl rfl (by kernel_rfl) (fun _ _ _ h => h) (Or.inl ⟨by rfl, ?_⟩) ?_ ?_
  rotate_left
  · intro w'
    go_simp
    with_reducible rfl
  rotate_left
  · simp only [Act.put, putS]
    rfl
  refine pure_ (i := 1) (N := some 78) (v := ?_) (a' := ?_) #[true, true, false, false, false, false, false, false, false, false, false, false, false, false, false, false, false, false, false, false, false, false, false, false, false, false] rfl rfl (by kernel_rfl) (fun _ _ _ h => h) (Or.inl ⟨by rfl, ?_⟩) ?_ ?_
  rotate_left
  · intro w'
    go_simp
    with_reducible rfl
  rotate_left
  · simp only [Act.put, putS]
    rfl
  refine pure_ (i := 2) (N := some 79) (v := ?_) (a' := ?_) #[true, true, true, false, false, false, false, false, false, false, false, false, false, false, false, false, false, false, false, false, false, false, false, false, false, false] rfl rfl (by kernel_rfl) (fun _ _ _ h => h) (Or.inl ⟨by rfl, ?_⟩) ?_ ?_
  rotate_left
  · intro w'
    go_simp
    with_reducible rfl
  rotate_left
  · simp only [Act.put, putS]
    rfl
  refine pure_ (i := 5) (N := some 82) (v := ?_) (a' := ?_) #[true, true, true, false, false, true, false, false, false, false, false, false, false, false, false, false, false, false, false, false, false, false, false, false, false, false] rfl rfl (by kernel_rfl) (fun _ _ _ h => h) (Or.inl ⟨by rfl, ?_⟩) ?_ ?_
  rotate_left
  · intro w'
    go_simp
    with_reducible rfl
  rotate_left
  · simp only [Act.put, putS]
    rfl
  refine pure_ (i := 10) (N := some 87) (v := ?_) (a' := ?_) #[true, true, true, false, false, true, false, false, false, false, true, false, false, false, false, false, false, false, false, false, false, false, false, false, false, false] rfl rfl (by kernel_rfl) (fun _ _ _ h => h) (Or.inl ⟨by rfl, ?_⟩) ?_ ?_
  rotate_left
  · intro w'
    go_simp
    with_reducible rfl
  rotate_left
  · simp only [Act.put, putS]
    rfl
  refine pure_ (i := 15) (N := some 92) (v := ?_) (a' := ?_) #[true, true, true, false, false, true, false, false, false, false, true, false, false, false, false, true, false, false, false, false, false, false, false, false, false, false] rfl rfl (by kernel_rfl) (fun _ _ _ h => h) (Or.inl ⟨by rfl, ?_⟩) ?_ ?_
  rotate_left
  · intro w'
    go_simp
    with_reducible rfl
  rotate_left
  · simp only [Act.put, putS]
    rfl
  refine pure_ (i := 20) (N := some 97) (v := ?_) (a' := ?_) #[true, true, true, false, false, true, false, false, false, false, true, false, false, false, false, true, false, false, false, false, true, false, false, false, false, false] rfl rfl (by kernel_rfl) (fun _ _ _ h => h) (Or.inl ⟨by rfl, ?_⟩) ?_ ?_
  rotate_left
  · intro w'
    go_simp
    with_reducible rfl
  rotate_left
  · simp only [Act.put, putS]
    rfl
  refine take_ (i := 6) (N := some 83) (v := ?_) (a' := ?_) #[true, true, true, false, false, true, true, false, false, false, true, false, false, false, false, true, false, false, false, false, true, false, false, false, false, false] rfl rfl (by kernel_rfl) (fun _ _ _ h => h) (Or.inl ⟨by rfl, ?_⟩) hHeld ?_ ?_
  rotate_left
  · rintro w' ⟨s0, s1, s2, s3, s4, s5, s6, s7⟩
    go_simp
    with_reducible rfl
  rotate_left
  · simp only [Act.put, putS]
    rfl
  refine pure_ (i := 7) (N := some 84) (v := ?_) (a' := ?_) #[true, true, true, false, false, true, true, true, false, false, true, false, false, false, false, true, false, false, false, false, true, false, false, false, false, false] rfl rfl (by kernel_rfl) (fun _ _ _ h => h) (Or.inl ⟨by rfl, ?_⟩) ?_ ?_
  rotate_left
  · intro w'
    go_simp
    with_reducible rfl
  rotate_left
  · simp only [Act.put, putS]
    rfl
  refine take_ (i := 11) (N := some 88) (v := ?_) (a' := ?_) #[true, true, true, false, false, true, true, true, false, false, true, true, false, false, false, true, false, false, false, false, true, false, false, false, false, false] rfl rfl (by kernel_rfl) (fun _ _ _ h => h) (Or.inl ⟨by rfl, ?_⟩) hHeld ?_ ?_
  rotate_left
  · rintro w' ⟨s0, s1, s2, s3, s4, s5, s6, s7⟩
    go_simp
    with_reducible rfl
  rotate_left
  · simp only [Act.put, putS]
    rfl
  refine pure_ (i := 12) (N := some 89) (v := ?_) (a' := ?_) #[true, true, true, false, false, true, true, true, false, false, true, true, true, false, false, true, false, false, false, false, true, false, false, false, false, false] rfl rfl (by kernel_rfl) (fun _ _ _ h => h) (Or.inl ⟨by rfl, ?_⟩) ?_ ?_
  rotate_left
  · intro w'
    go_simp
    with_reducible rfl
  rotate_left
  · simp only [Act.put, putS]
    rfl
  refine take_ (i := 16) (N := some 93) (v := ?_) (a' := ?_) #[true, true, true, false, false, true, true, true, false, false, true, true, true, false, false, true, true, false, false, false, true, false, false, false, false, false] rfl rfl (by kernel_rfl) (fun _ _ _ h => h) (Or.inl ⟨by rfl, ?_⟩) hHeld ?_ ?_
  rotate_left
  · rintro w' ⟨s0, s1, s2, s3, s4, s5, s6, s7⟩
    go_simp
    with_reducible rfl
  rotate_left
  · simp only [Act.put, putS]
    rfl
  refine pure_ (i := 17) (N := some 94) (v := ?_) (a' := ?_) #[true, true, true, false, false, true, true, true, false, false, true, true, true, false, false, true, true, true, false, false, true, false, false, false, false, false] rfl rfl (by kernel_rfl) (fun _ _ _ h => h) (Or.inl ⟨by rfl, ?_⟩) ?_ ?_
  rotate_left
  · intro w'
    go_simp
    with_reducible rfl
  rotate_left
  · simp only [Act.put, putS]
    rfl
  refine take_ (i := 21) (N := some 98) (v := ?_) (a' := ?_) #[true, true, true, false, false, true, true, true, false, false, true, true, true, false, false, true, true, true, false, false, true, true, false, false, false, false] rfl rfl (by kernel_rfl) (fun _ _ _ h => h) (Or.inl ⟨by rfl, ?_⟩) hHeld ?_ ?_
  rotate_left
  · rintro w' ⟨s0, s1, s2, s3, s4, s5, s6, s7⟩
    go_simp
    with_reducible rfl
  rotate_left
  · simp only [Act.put, putS]
    rfl
  refine pure_ (i := 22) (N := some 99) (v := ?_) (a' := ?_) #[true, true, true, false, false, true, true, true, false, false, true, true, true, false, false, true, true, true, false, false, true, true, true, false, false, false] rfl rfl (by kernel_rfl) (fun _ _ _ h => h) (Or.inl ⟨by rfl, ?_⟩) ?_ ?_
  rotate_left
  · intro w'
    go_simp
    with_reducible rfl
  rotate_left
  · simp only [Act.put, putS]
    rfl
  refine one_ (i := 3) (N := some 80) #[true, true, true, true, false, true, true, true, false, false, true, true, true, false, false, true, true, true, false, false, true, true, true, false, false, false] rfl rfl (by kernel_rfl) (by decide) (fun K hK => ?_)
  refine goes_ Tryz.func64 (by kernel_rfl) rfl #[.int .i64 (idxL [1, 2, 0, 0, 3, 4, 5, 6] fn), .int .i64 14, .int .i64 12] (by rfl) rfl rfl (by simp only [List.map_toArray, List.map_cons, List.map_nil]; rfl) ?_
  refine (put_calls _ _ _ _ (by decide) (by decide) (by decide)).mono ?_
  rintro e w10 ⟨rfl, ⟨nd10, rfl⟩⟩
  refine ⟨_, rfl, ?_⟩
  refine hK.out _ _ (cells8a (by (with_reducible repeat (first | refine blk_drewN ?_ _ | refine blk_drew ?_ | refine blk_alloc ?_ _)); exact H3.out)) (fun hHeld => ?_)
  clear hK K
  refine norm_ (a' := ?_) ?_ ?_
  rotate_left
  · show Act.put _ (some 80) _ = _
    simp only [Act.put, putS]
    rfl
  refine pure_ (i := 4) (N := some 81) (v := ?_) (a' := ?_) #[true, true, true, true, true, true, true, true, false, false, true, true, true, false, false, true, true, true, false, false, true, true, true, false, false, false] rfl rfl (by kernel_rfl) (fun _ _ _ h => h) (Or.inl ⟨by rfl, ?_⟩) ?_ ?_
  rotate_left
  · intro w'
    go_simp
    with_reducible rfl
  rotate_left
  · simp only [Act.put, putS]
    rfl
  refine one_ (i := 8) (N := some 85) #[true, true, true, true, true, true, true, true, true, false, true, true, true, false, false, true, true, true, false, false, true, true, true, false, false, false] rfl rfl (by kernel_rfl) (by decide) (fun K hK => ?_)
  refine goes_ Tryz.func64 (by kernel_rfl) rfl #[.int .i64 (imm / 4096), .int .i64 31, .int .i64 31] (by rfl) rfl rfl (by simp only [List.map_toArray, List.map_cons, List.map_nil]; rfl) ?_
  refine (put_calls _ _ _ _ (by decide) (by decide) (by decide)).mono ?_
  rintro e w11 ⟨rfl, ⟨nd11, rfl⟩⟩
  refine ⟨_, rfl, ?_⟩
  refine hK.out _ _ (cells8a (by (with_reducible repeat (first | refine blk_drewN ?_ _ | refine blk_drew ?_ | refine blk_alloc ?_ _)); exact H3.out)) (fun hHeld => ?_)
  clear hK K
  refine norm_ (a' := ?_) ?_ ?_
  rotate_left
  · show Act.put _ (some 85) _ = _
    simp only [Act.put, putS]
    rfl
  refine pure_ (i := 9) (N := some 86) (v := ?_) (a' := ?_) #[true, true, true, true, true, true, true, true, true, true, true, true, true, false, false, true, true, true, false, false, true, true, true, false, false, false] rfl rfl (by kernel_rfl) (fun _ _ _ h => h) (Or.inl ⟨by rfl, ?_⟩) ?_ ?_
  rotate_left
  · intro w'
    go_simp
    with_reducible rfl
  rotate_left
  · simp only [Act.put, putS]
    rfl
  refine one_ (i := 13) (N := some 90) #[true, true, true, true, true, true, true, true, true, true, true, true, true, true, false, true, true, true, false, false, true, true, true, false, false, false] rfl rfl (by kernel_rfl) (by decide) (fun K hK => ?_)
  refine goes_ Tryz.func64 (by kernel_rfl) rfl #[.int .i64 (imm / 2048), .int .i64 7, .int .i64 7] (by rfl) rfl rfl (by simp only [List.map_toArray, List.map_cons, List.map_nil]; rfl) ?_
  refine (put_calls _ _ _ _ (by decide) (by decide) (by decide)).mono ?_
  rintro e w12 ⟨rfl, ⟨nd12, rfl⟩⟩
  refine ⟨_, rfl, ?_⟩
  refine hK.out _ _ (cells8a (by (with_reducible repeat (first | refine blk_drewN ?_ _ | refine blk_drew ?_ | refine blk_alloc ?_ _)); exact H3.out)) (fun hHeld => ?_)
  clear hK K
  refine norm_ (a' := ?_) ?_ ?_
  rotate_left
  · show Act.put _ (some 90) _ = _
    simp only [Act.put, putS]
    rfl
  refine pure_ (i := 14) (N := some 91) (v := ?_) (a' := ?_) #[true, true, true, true, true, true, true, true, true, true, true, true, true, true, true, true, true, true, false, false, true, true, true, false, false, false] rfl rfl (by kernel_rfl) (fun _ _ _ h => h) (Or.inl ⟨by rfl, ?_⟩) ?_ ?_
  rotate_left
  · intro w'
    go_simp
    with_reducible rfl
  rotate_left
  · simp only [Act.put, putS]
    rfl
  refine one_ (i := 18) (N := some 95) #[true, true, true, true, true, true, true, true, true, true, true, true, true, true, true, true, true, true, true, false, true, true, true, false, false, false] rfl rfl (by kernel_rfl) (by decide) (fun K hK => ?_)
  refine goes_ Tryz.func64 (by kernel_rfl) rfl #[.int .i64 (imm / 32), .int .i64 30, .int .i64 25] (by rfl) rfl rfl (by simp only [List.map_toArray, List.map_cons, List.map_nil]; rfl) ?_
  refine (put_calls _ _ _ _ (by decide) (by decide) (by decide)).mono ?_
  rintro e w13 ⟨rfl, ⟨nd13, rfl⟩⟩
  refine ⟨_, rfl, ?_⟩
  refine hK.out _ _ (cells8a (by (with_reducible repeat (first | refine blk_drewN ?_ _ | refine blk_drew ?_ | refine blk_alloc ?_ _)); exact H3.out)) (fun hHeld => ?_)
  clear hK K
  refine norm_ (a' := ?_) ?_ ?_
  rotate_left
  · show Act.put _ (some 95) _ = _
    simp only [Act.put, putS]
    rfl
  refine pure_ (i := 19) (N := some 96) (v := ?_) (a' := ?_) #[true, true, true, true, true, true, true, true, true, true, true, true, true, true, true, true, true, true, true, true, true, true, true, false, false, false] rfl rfl (by kernel_rfl) (fun _ _ _ h => h) (Or.inl ⟨by rfl, ?_⟩) ?_ ?_
  rotate_left
  · intro w'
    go_simp
    with_reducible rfl
  rotate_left
  · simp only [Act.put, putS]
    rfl
  refine one_ (i := 23) (N := some 100) #[true, true, true, true, true, true, true, true, true, true, true, true, true, true, true, true, true, true, true, true, true, true, true, true, false, false] rfl rfl (by kernel_rfl) (by decide) (fun K hK => ?_)
  refine goes_ Tryz.func64 (by kernel_rfl) rfl #[.int .i64 (imm / 2), .int .i64 11, .int .i64 8] (by rfl) rfl rfl (by simp only [List.map_toArray, List.map_cons, List.map_nil]; rfl) ?_
  refine (put_calls _ _ _ _ (by decide) (by decide) (by decide)).mono ?_
  rintro e w14 ⟨rfl, ⟨nd14, rfl⟩⟩
  refine ⟨_, rfl, ?_⟩
  refine hK.out _ _ (cells8a (by (with_reducible repeat (first | refine blk_drewN ?_ _ | refine blk_drew ?_ | refine blk_alloc ?_ _)); exact H3.out)) (fun hHeld => ?_)
  clear hK K
  refine norm_ (a' := ?_) ?_ ?_
  rotate_left
  · show Act.put _ (some 100) _ = _
    simp only [Act.put, putS]
    rfl
  refine pure_ (i := 24) (N := some 101) (v := ?_) (a' := ?_) #[true, true, true, true, true, true, true, true, true, true, true, true, true, true, true, true, true, true, true, true, true, true, true, true, true, false] rfl rfl (by kernel_rfl) (fun _ _ _ h => h) (Or.inl ⟨by rfl, ?_⟩) ?_ ?_
  rotate_left
  · intro w'
    go_simp
    with_reducible rfl
  rotate_left
  · simp only [Act.put, putS]
    rfl
  refine pure_ (i := 25) (N := some 2) (v := ?_) (a' := ?_) #[true, true, true, true, true, true, true, true, true, true, true, true, true, true, true, true, true, true, true, true, true, true, true, true, true, true] rfl rfl (by kernel_rfl) (fun _ _ _ h => h) (Or.inl ⟨by rfl, ?_⟩) ?_ ?_
  rotate_left
  · intro w'
    go_simp
    with_reducible rfl
  rotate_left
  · simp only [Act.put, putS]
    rfl
  refine done_ (by kernel_rfl) ?_
  go_wp2
  go_ret
  exact ⟨rfl, by repeat (first | (with_reducible first | exact HB.out | apply below_alloc | apply pw_below_drewN | apply below_drew1) | exact HB.out)⟩

theorem enc_6t {kind fn rd rs1 rs2 imm size : Int} {sg : Bool} (W : World) : Calls Tryz.prog 43 #[.agg #[.int .i64 6, .int .i64 fn, .int .i64 rd, .int .i64 rs1, .int .i64 rs2, .int .i64 imm, .int .i64 size, .bool true]] W fun e w' => e = .returned (.int .u32 (Go.bits .or .u32 (Go.bits .or .u32 (Go.bits .or .u32 (3) ((Go.bits .or .u32 (Go.bits .or .u32 (putL rd 11 7) (putL rs1 19 15)) (putL rs2 24 20)))) (putL (idxL [1, 2, 4, 8] size) 14 12)) (putL imm 31 20))) ∧ Below W.heap.size W w' := by
  have HB := Aside0.mk (Below.refl W.heap.size W)
  have hu23 := Tryz.underlying23
  go_enter Tryz.func43, Tryz.ntmps43
  go_upto_region 1 with (first | ((with_reducible refine gate_dst (N := 1) rfl ?_); refine box_event (by rfl) (N := 1) (by rfl) (cs := #[.int .i64 6, .int .i64 fn, .int .i64 rd, .int .i64 rs1, .int .i64 rs2, .int .i64 imm, .int .i64 size, .bool true]) (t := 23) (by first | (go_simp; done) | (go_simp; rfl)) ?_; intro g3 hg w3 hbox hb; have H3 := Aside0.mk hbox; have HB' := Aside0.mk (below_step HB.out hb); clear HB; have HB := HB'; clear HB'; obtain ⟨y0, y1, y2, y3, y4, y5, y6, y7, yf0, yf1, yf2, yf3, yf4, yf5, yf6, yf7⟩ := cells8 H3.out; clear hbox hb hg) | fail)
  go_quiet (first | (go_at_call 64; refine Calls.quiet_of (put_q _ _ _ _ (by decide) (by decide) (by decide))))
  go_wp2_with (first | ((with_reducible refine gate_dst (N := 104) rfl ?_); refine lit_event (by rfl) (N := 104) (by rfl) [1, 2, 4, 8] (by decide) (by first | (go_simp; done) | (go_simp; rfl)) ?_; intro Aa wa hCa hb; have HCa := Aside0.mk hCa; have H3' := Aside0.mk (blk_below (by (with_reducible repeat (first | refine blk_drewN ?_ _ | refine blk_drew ?_ | refine blk_alloc ?_ _)); exact H3.out) hb); have HB' := Aside0.mk (below_step (by repeat (first | (with_reducible first | exact HB.out | apply below_alloc | apply pw_below_drewN | apply below_drew1) | exact HB.out)) hb); clear HB H3 hCa hb y0 y1 y2 y3 y4 y5 y6 y7 yf0 yf1 yf2 yf3 yf4 yf5 yf6 yf7; have HB := HB'; have H3 := H3'; clear HB' H3'; obtain ⟨y0, y1, y2, y3, y4, y5, y6, y7, yf0, yf1, yf2, yf3, yf4, yf5, yf6, yf7⟩ := cells8 H3.out) | fail)
  refine (idx_at [1, 2, 4, 8] size (by repeat (first | exact HCa.out | apply Kd.C_drewN | apply Kd.C_drew)) rfl (by decide) (by decide)).mono ?_
  rintro e w' ⟨rfl, ⟨nd, rfl⟩⟩
  go_upto_region 18 with fail
  refine start_ (n := 10) (S := fun w' => w'.cell? ⟨g3, 0, none⟩ = some (.int .i64 6) ∧ w'.cell? ⟨g3, 1, none⟩ = some (.int .i64 fn) ∧ w'.cell? ⟨g3, 2, none⟩ = some (.int .i64 rd) ∧ w'.cell? ⟨g3, 3, none⟩ = some (.int .i64 rs1) ∧ w'.cell? ⟨g3, 4, none⟩ = some (.int .i64 rs2) ∧ w'.cell? ⟨g3, 5, none⟩ = some (.int .i64 imm) ∧ w'.cell? ⟨g3, 6, none⟩ = some (.int .i64 size) ∧ w'.cell? ⟨g3, 7, none⟩ = some (.bool true)) (ds := []) #[false, false, false, false, false, false, false, false, false, false] (by kernel_rfl) rfl rfl (cells8a (by (with_reducible repeat (first | refine blk_drewN ?_ _ | refine blk_drew ?_ | refine blk_alloc ?_ _)); exact H3.out)) (fun hHeld => ?_)
  refine pure_ (i := 0) (N := some 113) (v := ?_) (a' := ?_) #[true, false, false, false, false, false, false, false, false, false] rfl rfl (by kernel_rfl) (fun _ _ _ h => h) (Or.inl ⟨by rfl, ?_⟩) ?_ ?_
  rotate_left
  · intro w'
    go_simp
    with_reducible rfl
  rotate_left
  · simp only [Act.put, putS]
    rfl
  refine pure_ (i := 1) (N := some 114) (v := ?_) (a' := ?_) #[true, true, false, false, false, false, false, false, false, false] rfl rfl (by kernel_rfl) (fun _ _ _ h => h) (Or.inl ⟨by rfl, ?_⟩) ?_ ?_
  rotate_left
  · intro w'
    go_simp
    with_reducible rfl
  rotate_left
  · simp only [Act.put, putS]
    rfl
  refine pure_ (i := 2) (N := some 115) (v := ?_) (a' := ?_) #[true, true, true, false, false, false, false, false, false, false] rfl rfl (by kernel_rfl) (fun _ _ _ h => h) (Or.inl ⟨by rfl, ?_⟩) ?_ ?_
  rotate_left
  · intro w'
    go_simp
    with_reducible rfl
  rotate_left
  · simp only [Act.put, putS]
    rfl
  refine pure_ (i := 5) (N := some 118) (v := ?_) (a' := ?_) #[true, true, true, false, false, true, false, false, false, false] rfl rfl (by kernel_rfl) (fun _ _ _ h => h) (Or.inl ⟨by rfl, ?_⟩) ?_ ?_
  rotate_left
  · intro w'
    go_simp
    with_reducible rfl
  rotate_left
  · simp only [Act.put, putS]
    rfl
  refine take_ (i := 6) (N := some 119) (v := ?_) (a' := ?_) #[true, true, true, false, false, true, true, false, false, false] rfl rfl (by kernel_rfl) (fun _ _ _ h => h) (Or.inl ⟨by rfl, ?_⟩) hHeld ?_ ?_
  rotate_left
  · rintro w' ⟨s0, s1, s2, s3, s4, s5, s6, s7⟩
    go_simp
    with_reducible rfl
  rotate_left
  · simp only [Act.put, putS]
    rfl
  refine one_ (i := 3) (N := some 116) #[true, true, true, true, false, true, true, false, false, false] rfl rfl (by kernel_rfl) (by decide) (fun K hK => ?_)
  refine goes_ Tryz.func64 (by kernel_rfl) rfl #[.int .i64 (idxL [1, 2, 4, 8] size), .int .i64 14, .int .i64 12] (by rfl) rfl rfl (by simp only [List.map_toArray, List.map_cons, List.map_nil]; rfl) ?_
  refine (put_calls _ _ _ _ (by decide) (by decide) (by decide)).mono ?_
  rintro e w10 ⟨rfl, ⟨nd10, rfl⟩⟩
  refine ⟨_, rfl, ?_⟩
  refine hK.out _ _ (cells8a (by (with_reducible repeat (first | refine blk_drewN ?_ _ | refine blk_drew ?_ | refine blk_alloc ?_ _)); exact H3.out)) (fun hHeld => ?_)
  clear hK K
  refine norm_ (a' := ?_) ?_ ?_
  rotate_left
  · show Act.put _ (some 116) _ = _
    simp only [Act.put, putS]
    rfl
  refine pure_ (i := 4) (N := some 117) (v := ?_) (a' := ?_) #[true, true, true, true, true, true, true, false, false, false] rfl rfl (by kernel_rfl) (fun _ _ _ h => h) (Or.inl ⟨by rfl, ?_⟩) ?_ ?_
  rotate_left
  · intro w'
    go_simp
    with_reducible rfl
  rotate_left
  · simp only [Act.put, putS]
    rfl
  refine one_ (i := 7) (N := some 120) #[true, true, true, true, true, true, true, true, false, false] rfl rfl (by kernel_rfl) (by decide) (fun K hK => ?_)
  refine goes_ Tryz.func64 (by kernel_rfl) rfl #[.int .i64 (imm), .int .i64 31, .int .i64 20] (by rfl) rfl rfl (by simp only [List.map_toArray, List.map_cons, List.map_nil]; rfl) ?_
  refine (put_calls _ _ _ _ (by decide) (by decide) (by decide)).mono ?_
  rintro e w11 ⟨rfl, ⟨nd11, rfl⟩⟩
  refine ⟨_, rfl, ?_⟩
  refine hK.out _ _ (cells8a (by (with_reducible repeat (first | refine blk_drewN ?_ _ | refine blk_drew ?_ | refine blk_alloc ?_ _)); exact H3.out)) (fun hHeld => ?_)
  clear hK K
  refine norm_ (a' := ?_) ?_ ?_
  rotate_left
  · show Act.put _ (some 120) _ = _
    simp only [Act.put, putS]
    rfl
  refine pure_ (i := 8) (N := some 121) (v := ?_) (a' := ?_) #[true, true, true, true, true, true, true, true, true, false] rfl rfl (by kernel_rfl) (fun _ _ _ h => h) (Or.inl ⟨by rfl, ?_⟩) ?_ ?_
  rotate_left
  · intro w'
    go_simp
    with_reducible rfl
  rotate_left
  · simp only [Act.put, putS]
    rfl
  refine pure_ (i := 9) (N := some 2) (v := ?_) (a' := ?_) #[true, true, true, true, true, true, true, true, true, true] rfl rfl (by kernel_rfl) (fun _ _ _ h => h) (Or.inl ⟨by rfl, ?_⟩) ?_ ?_
  rotate_left
  · intro w'
    go_simp
    with_reducible rfl
  rotate_left
  · simp only [Act.put, putS]
    rfl
  refine done_ (by kernel_rfl) ?_
  go_wp2
  go_ret
  exact ⟨rfl, by repeat (first | (with_reducible first | exact HB.out | apply below_alloc | apply pw_below_drewN | apply below_drew1) | exact HB.out)⟩

theorem enc_6f {kind fn rd rs1 rs2 imm size : Int} {sg : Bool} (W : World) : Calls Tryz.prog 43 #[.agg #[.int .i64 6, .int .i64 fn, .int .i64 rd, .int .i64 rs1, .int .i64 rs2, .int .i64 imm, .int .i64 size, .bool false]] W fun e w' => e = .returned (.int .u32 (Go.bits .or .u32 (Go.bits .or .u32 (Go.bits .or .u32 (3) ((Go.bits .or .u32 (Go.bits .or .u32 (putL rd 11 7) (putL rs1 19 15)) (putL rs2 24 20)))) (putL (wrap64 (idxL [1, 2, 4, 8] size + 4)) 14 12)) (putL imm 31 20))) ∧ Below W.heap.size W w' := by
  have HB := Aside0.mk (Below.refl W.heap.size W)
  have hu23 := Tryz.underlying23
  go_enter Tryz.func43, Tryz.ntmps43
  go_upto_region 1 with (first | ((with_reducible refine gate_dst (N := 1) rfl ?_); refine box_event (by rfl) (N := 1) (by rfl) (cs := #[.int .i64 6, .int .i64 fn, .int .i64 rd, .int .i64 rs1, .int .i64 rs2, .int .i64 imm, .int .i64 size, .bool false]) (t := 23) (by first | (go_simp; done) | (go_simp; rfl)) ?_; intro g3 hg w3 hbox hb; have H3 := Aside0.mk hbox; have HB' := Aside0.mk (below_step HB.out hb); clear HB; have HB := HB'; clear HB'; obtain ⟨y0, y1, y2, y3, y4, y5, y6, y7, yf0, yf1, yf2, yf3, yf4, yf5, yf6, yf7⟩ := cells8 H3.out; clear hbox hb hg) | fail)
  go_quiet (first | (go_at_call 64; refine Calls.quiet_of (put_q _ _ _ _ (by decide) (by decide) (by decide))))
  go_wp2_with (first | ((with_reducible refine gate_dst (N := 104) rfl ?_); refine lit_event (by rfl) (N := 104) (by rfl) [1, 2, 4, 8] (by decide) (by first | (go_simp; done) | (go_simp; rfl)) ?_; intro Aa wa hCa hb; have HCa := Aside0.mk hCa; have H3' := Aside0.mk (blk_below (by (with_reducible repeat (first | refine blk_drewN ?_ _ | refine blk_drew ?_ | refine blk_alloc ?_ _)); exact H3.out) hb); have HB' := Aside0.mk (below_step (by repeat (first | (with_reducible first | exact HB.out | apply below_alloc | apply pw_below_drewN | apply below_drew1) | exact HB.out)) hb); clear HB H3 hCa hb y0 y1 y2 y3 y4 y5 y6 y7 yf0 yf1 yf2 yf3 yf4 yf5 yf6 yf7; have HB := HB'; have H3 := H3'; clear HB' H3'; obtain ⟨y0, y1, y2, y3, y4, y5, y6, y7, yf0, yf1, yf2, yf3, yf4, yf5, yf6, yf7⟩ := cells8 H3.out) | fail)
  refine (idx_at [1, 2, 4, 8] size (by repeat (first | exact HCa.out | apply Kd.C_drewN | apply Kd.C_drew)) rfl (by decide) (by decide)).mono ?_
  rintro e w' ⟨rfl, ⟨nd, rfl⟩⟩
  go_upto_region 18 with fail
  refine start_ (n := 10) (S := fun w' => w'.cell? ⟨g3, 0, none⟩ = some (.int .i64 6) ∧ w'.cell? ⟨g3, 1, none⟩ = some (.int .i64 fn) ∧ w'.cell? ⟨g3, 2, none⟩ = some (.int .i64 rd) ∧ w'.cell? ⟨g3, 3, none⟩ = some (.int .i64 rs1) ∧ w'.cell? ⟨g3, 4, none⟩ = some (.int .i64 rs2) ∧ w'.cell? ⟨g3, 5, none⟩ = some (.int .i64 imm) ∧ w'.cell? ⟨g3, 6, none⟩ = some (.int .i64 size) ∧ w'.cell? ⟨g3, 7, none⟩ = some (.bool false)) (ds := []) #[false, false, false, false, false, false, false, false, false, false] (by kernel_rfl) rfl rfl (cells8a (by (with_reducible repeat (first | refine blk_drewN ?_ _ | refine blk_drew ?_ | refine blk_alloc ?_ _)); exact H3.out)) (fun hHeld => ?_)
  refine pure_ (i := 0) (N := some 113) (v := ?_) (a' := ?_) #[true, false, false, false, false, false, false, false, false, false] rfl rfl (by kernel_rfl) (fun _ _ _ h => h) (Or.inl ⟨by rfl, ?_⟩) ?_ ?_
  rotate_left
  · intro w'
    go_simp
    with_reducible rfl
  rotate_left
  · simp only [Act.put, putS]
    rfl
  refine pure_ (i := 1) (N := some 114) (v := ?_) (a' := ?_) #[true, true, false, false, false, false, false, false, false, false] rfl rfl (by kernel_rfl) (fun _ _ _ h => h) (Or.inl ⟨by rfl, ?_⟩) ?_ ?_
  rotate_left
  · intro w'
    go_simp
    with_reducible rfl
  rotate_left
  · simp only [Act.put, putS]
    rfl
  refine pure_ (i := 2) (N := some 115) (v := ?_) (a' := ?_) #[true, true, true, false, false, false, false, false, false, false] rfl rfl (by kernel_rfl) (fun _ _ _ h => h) (Or.inl ⟨by rfl, ?_⟩) ?_ ?_
  rotate_left
  · intro w'
    go_simp
    with_reducible rfl
  rotate_left
  · simp only [Act.put, putS]
    rfl
  refine pure_ (i := 5) (N := some 118) (v := ?_) (a' := ?_) #[true, true, true, false, false, true, false, false, false, false] rfl rfl (by kernel_rfl) (fun _ _ _ h => h) (Or.inl ⟨by rfl, ?_⟩) ?_ ?_
  rotate_left
  · intro w'
    go_simp
    with_reducible rfl
  rotate_left
  · simp only [Act.put, putS]
    rfl
  refine take_ (i := 6) (N := some 119) (v := ?_) (a' := ?_) #[true, true, true, false, false, true, true, false, false, false] rfl rfl (by kernel_rfl) (fun _ _ _ h => h) (Or.inl ⟨by rfl, ?_⟩) hHeld ?_ ?_
  rotate_left
  · rintro w' ⟨s0, s1, s2, s3, s4, s5, s6, s7⟩
    go_simp
    with_reducible rfl
  rotate_left
  · simp only [Act.put, putS]
    rfl
  refine one_ (i := 3) (N := some 116) #[true, true, true, true, false, true, true, false, false, false] rfl rfl (by kernel_rfl) (by decide) (fun K hK => ?_)
  refine goes_ Tryz.func64 (by kernel_rfl) rfl #[.int .i64 (wrap64 (idxL [1, 2, 4, 8] size + 4)), .int .i64 14, .int .i64 12] (by rfl) rfl rfl (by simp only [List.map_toArray, List.map_cons, List.map_nil]; rfl) ?_
  refine (put_calls _ _ _ _ (by decide) (by decide) (by decide)).mono ?_
  rintro e w10 ⟨rfl, ⟨nd10, rfl⟩⟩
  refine ⟨_, rfl, ?_⟩
  refine hK.out _ _ (cells8a (by (with_reducible repeat (first | refine blk_drewN ?_ _ | refine blk_drew ?_ | refine blk_alloc ?_ _)); exact H3.out)) (fun hHeld => ?_)
  clear hK K
  refine norm_ (a' := ?_) ?_ ?_
  rotate_left
  · show Act.put _ (some 116) _ = _
    simp only [Act.put, putS]
    rfl
  refine pure_ (i := 4) (N := some 117) (v := ?_) (a' := ?_) #[true, true, true, true, true, true, true, false, false, false] rfl rfl (by kernel_rfl) (fun _ _ _ h => h) (Or.inl ⟨by rfl, ?_⟩) ?_ ?_
  rotate_left
  · intro w'
    go_simp
    with_reducible rfl
  rotate_left
  · simp only [Act.put, putS]
    rfl
  refine one_ (i := 7) (N := some 120) #[true, true, true, true, true, true, true, true, false, false] rfl rfl (by kernel_rfl) (by decide) (fun K hK => ?_)
  refine goes_ Tryz.func64 (by kernel_rfl) rfl #[.int .i64 (imm), .int .i64 31, .int .i64 20] (by rfl) rfl rfl (by simp only [List.map_toArray, List.map_cons, List.map_nil]; rfl) ?_
  refine (put_calls _ _ _ _ (by decide) (by decide) (by decide)).mono ?_
  rintro e w11 ⟨rfl, ⟨nd11, rfl⟩⟩
  refine ⟨_, rfl, ?_⟩
  refine hK.out _ _ (cells8a (by (with_reducible repeat (first | refine blk_drewN ?_ _ | refine blk_drew ?_ | refine blk_alloc ?_ _)); exact H3.out)) (fun hHeld => ?_)
  clear hK K
  refine norm_ (a' := ?_) ?_ ?_
  rotate_left
  · show Act.put _ (some 120) _ = _
    simp only [Act.put, putS]
    rfl
  refine pure_ (i := 8) (N := some 121) (v := ?_) (a' := ?_) #[true, true, true, true, true, true, true, true, true, false] rfl rfl (by kernel_rfl) (fun _ _ _ h => h) (Or.inl ⟨by rfl, ?_⟩) ?_ ?_
  rotate_left
  · intro w'
    go_simp
    with_reducible rfl
  rotate_left
  · simp only [Act.put, putS]
    rfl
  refine pure_ (i := 9) (N := some 2) (v := ?_) (a' := ?_) #[true, true, true, true, true, true, true, true, true, true] rfl rfl (by kernel_rfl) (fun _ _ _ h => h) (Or.inl ⟨by rfl, ?_⟩) ?_ ?_
  rotate_left
  · intro w'
    go_simp
    with_reducible rfl
  rotate_left
  · simp only [Act.put, putS]
    rfl
  refine done_ (by kernel_rfl) ?_
  go_wp2
  go_ret
  exact ⟨rfl, by repeat (first | (with_reducible first | exact HB.out | apply below_alloc | apply pw_below_drewN | apply below_drew1) | exact HB.out)⟩

theorem enc_10 {kind fn rd rs1 rs2 imm size : Int} {sg : Bool} (W : World) : Calls Tryz.prog 43 #[.agg #[.int .i64 10, .int .i64 fn, .int .i64 rd, .int .i64 rs1, .int .i64 rs2, .int .i64 imm, .int .i64 size, .bool sg]] W fun e w' => e = .returned (.int .u32 (15)) ∧ Below W.heap.size W w' := by
  have HB := Aside0.mk (Below.refl W.heap.size W)
  have hu23 := Tryz.underlying23
  go_enter Tryz.func43, Tryz.ntmps43
  go_upto_region 1 with (first | ((with_reducible refine gate_dst (N := 1) rfl ?_); refine box_event (by rfl) (N := 1) (by rfl) (cs := #[.int .i64 10, .int .i64 fn, .int .i64 rd, .int .i64 rs1, .int .i64 rs2, .int .i64 imm, .int .i64 size, .bool sg]) (t := 23) (by first | (go_simp; done) | (go_simp; rfl)) ?_; intro g3 hg w3 hbox hb; have H3 := Aside0.mk hbox; have HB' := Aside0.mk (below_step HB.out hb); clear HB; have HB := HB'; clear HB'; obtain ⟨y0, y1, y2, y3, y4, y5, y6, y7, yf0, yf1, yf2, yf3, yf4, yf5, yf6, yf7⟩ := cells8 H3.out; clear hbox hb hg) | fail)
  go_quiet (first | (go_at_call 64; refine Calls.quiet_of (put_q _ _ _ _ (by decide) (by decide) (by decide))))
  go_wp2
  go_ret
  exact ⟨rfl, by repeat (first | (with_reducible first | exact HB.out | apply below_alloc | apply pw_below_drewN | apply below_drew1) | exact HB.out)⟩

theorem enc_11 {kind fn rd rs1 rs2 imm size : Int} {sg : Bool} (W : World) : Calls Tryz.prog 43 #[.agg #[.int .i64 11, .int .i64 fn, .int .i64 rd, .int .i64 rs1, .int .i64 rs2, .int .i64 imm, .int .i64 size, .bool sg]] W fun e w' => e = .returned (.int .u32 (115)) ∧ Below W.heap.size W w' := by
  have HB := Aside0.mk (Below.refl W.heap.size W)
  have hu23 := Tryz.underlying23
  go_enter Tryz.func43, Tryz.ntmps43
  go_upto_region 1 with (first | ((with_reducible refine gate_dst (N := 1) rfl ?_); refine box_event (by rfl) (N := 1) (by rfl) (cs := #[.int .i64 11, .int .i64 fn, .int .i64 rd, .int .i64 rs1, .int .i64 rs2, .int .i64 imm, .int .i64 size, .bool sg]) (t := 23) (by first | (go_simp; done) | (go_simp; rfl)) ?_; intro g3 hg w3 hbox hb; have H3 := Aside0.mk hbox; have HB' := Aside0.mk (below_step HB.out hb); clear HB; have HB := HB'; clear HB'; obtain ⟨y0, y1, y2, y3, y4, y5, y6, y7, yf0, yf1, yf2, yf3, yf4, yf5, yf6, yf7⟩ := cells8 H3.out; clear hbox hb hg) | fail)
  go_quiet (first | (go_at_call 64; refine Calls.quiet_of (put_q _ _ _ _ (by decide) (by decide) (by decide))))
  go_wp2
  go_ret
  exact ⟨rfl, by repeat (first | (with_reducible first | exact HB.out | apply below_alloc | apply pw_below_drewN | apply below_drew1) | exact HB.out)⟩

theorem enc_12 {kind fn rd rs1 rs2 imm size : Int} {sg : Bool} (W : World) : Calls Tryz.prog 43 #[.agg #[.int .i64 12, .int .i64 fn, .int .i64 rd, .int .i64 rs1, .int .i64 rs2, .int .i64 imm, .int .i64 size, .bool sg]] W fun e w' => e = .returned (.int .u32 (1048691)) ∧ Below W.heap.size W w' := by
  have HB := Aside0.mk (Below.refl W.heap.size W)
  have hu23 := Tryz.underlying23
  go_enter Tryz.func43, Tryz.ntmps43
  go_upto_region 1 with (first | ((with_reducible refine gate_dst (N := 1) rfl ?_); refine box_event (by rfl) (N := 1) (by rfl) (cs := #[.int .i64 12, .int .i64 fn, .int .i64 rd, .int .i64 rs1, .int .i64 rs2, .int .i64 imm, .int .i64 size, .bool sg]) (t := 23) (by first | (go_simp; done) | (go_simp; rfl)) ?_; intro g3 hg w3 hbox hb; have H3 := Aside0.mk hbox; have HB' := Aside0.mk (below_step HB.out hb); clear HB; have HB := HB'; clear HB'; obtain ⟨y0, y1, y2, y3, y4, y5, y6, y7, yf0, yf1, yf2, yf3, yf4, yf5, yf6, yf7⟩ := cells8 H3.out; clear hbox hb hg) | fail)
  go_quiet (first | (go_at_call 64; refine Calls.quiet_of (put_q _ _ _ _ (by decide) (by decide) (by decide))))
  go_wp2
  go_ret
  exact ⟨rfl, by repeat (first | (with_reducible first | exact HB.out | apply below_alloc | apply pw_below_drewN | apply below_drew1) | exact HB.out)⟩

theorem enc_18 {kind fn rd rs1 rs2 imm size : Int} {sg : Bool} (W : World) : Calls Tryz.prog 43 #[.agg #[.int .i64 18, .int .i64 fn, .int .i64 rd, .int .i64 rs1, .int .i64 rs2, .int .i64 imm, .int .i64 size, .bool sg]] W fun e w' => e = .returned (.int .u32 (270532723)) ∧ Below W.heap.size W w' := by
  have HB := Aside0.mk (Below.refl W.heap.size W)
  have hu23 := Tryz.underlying23
  go_enter Tryz.func43, Tryz.ntmps43
  go_upto_region 1 with (first | ((with_reducible refine gate_dst (N := 1) rfl ?_); refine box_event (by rfl) (N := 1) (by rfl) (cs := #[.int .i64 18, .int .i64 fn, .int .i64 rd, .int .i64 rs1, .int .i64 rs2, .int .i64 imm, .int .i64 size, .bool sg]) (t := 23) (by first | (go_simp; done) | (go_simp; rfl)) ?_; intro g3 hg w3 hbox hb; have H3 := Aside0.mk hbox; have HB' := Aside0.mk (below_step HB.out hb); clear HB; have HB := HB'; clear HB'; obtain ⟨y0, y1, y2, y3, y4, y5, y6, y7, yf0, yf1, yf2, yf3, yf4, yf5, yf6, yf7⟩ := cells8 H3.out; clear hbox hb hg) | fail)
  go_quiet (first | (go_at_call 64; refine Calls.quiet_of (put_q _ _ _ _ (by decide) (by decide) (by decide))))
  go_wp2
  go_ret
  exact ⟨rfl, by repeat (first | (with_reducible first | exact HB.out | apply below_alloc | apply pw_below_drewN | apply below_drew1) | exact HB.out)⟩

theorem enc_19 {kind fn rd rs1 rs2 imm size : Int} {sg : Bool} (W : World) : Calls Tryz.prog 43 #[.agg #[.int .i64 19, .int .i64 fn, .int .i64 rd, .int .i64 rs1, .int .i64 rs2, .int .i64 imm, .int .i64 size, .bool sg]] W fun e w' => e = .returned (.int .u32 (273678451)) ∧ Below W.heap.size W w' := by
  have HB := Aside0.mk (Below.refl W.heap.size W)
  have hu23 := Tryz.underlying23
  go_enter Tryz.func43, Tryz.ntmps43
  go_upto_region 1 with (first | ((with_reducible refine gate_dst (N := 1) rfl ?_); refine box_event (by rfl) (N := 1) (by rfl) (cs := #[.int .i64 19, .int .i64 fn, .int .i64 rd, .int .i64 rs1, .int .i64 rs2, .int .i64 imm, .int .i64 size, .bool sg]) (t := 23) (by first | (go_simp; done) | (go_simp; rfl)) ?_; intro g3 hg w3 hbox hb; have H3 := Aside0.mk hbox; have HB' := Aside0.mk (below_step HB.out hb); clear HB; have HB := HB'; clear HB'; obtain ⟨y0, y1, y2, y3, y4, y5, y6, y7, yf0, yf1, yf2, yf3, yf4, yf5, yf6, yf7⟩ := cells8 H3.out; clear hbox hb hg) | fail)
  go_quiet (first | (go_at_call 64; refine Calls.quiet_of (put_q _ _ _ _ (by decide) (by decide) (by decide))))
  go_wp2
  go_ret
  exact ⟨rfl, by repeat (first | (with_reducible first | exact HB.out | apply below_alloc | apply pw_below_drewN | apply below_drew1) | exact HB.out)⟩

theorem enc_20 {kind fn rd rs1 rs2 imm size : Int} {sg : Bool} (W : World) : Calls Tryz.prog 43 #[.agg #[.int .i64 20, .int .i64 fn, .int .i64 rd, .int .i64 rs1, .int .i64 rs2, .int .i64 imm, .int .i64 size, .bool sg]] W fun e w' => e = .returned (.int .u32 (Go.bits .or .u32 (301990003) ((Go.bits .or .u32 (Go.bits .or .u32 (putL rd 11 7) (putL rs1 19 15)) (putL rs2 24 20))))) ∧ Below W.heap.size W w' := by
  have HB := Aside0.mk (Below.refl W.heap.size W)
  have hu23 := Tryz.underlying23
  go_enter Tryz.func43, Tryz.ntmps43
  go_upto_region 1 with (first | ((with_reducible refine gate_dst (N := 1) rfl ?_); refine box_event (by rfl) (N := 1) (by rfl) (cs := #[.int .i64 20, .int .i64 fn, .int .i64 rd, .int .i64 rs1, .int .i64 rs2, .int .i64 imm, .int .i64 size, .bool sg]) (t := 23) (by first | (go_simp; done) | (go_simp; rfl)) ?_; intro g3 hg w3 hbox hb; have H3 := Aside0.mk hbox; have HB' := Aside0.mk (below_step HB.out hb); clear HB; have HB := HB'; clear HB'; obtain ⟨y0, y1, y2, y3, y4, y5, y6, y7, yf0, yf1, yf2, yf3, yf4, yf5, yf6, yf7⟩ := cells8 H3.out; clear hbox hb hg) | fail)
  go_quiet (first | (go_at_call 64; refine Calls.quiet_of (put_q _ _ _ _ (by decide) (by decide) (by decide))))
  go_wp2
  go_ret
  exact ⟨rfl, by repeat (first | (with_reducible first | exact HB.out | apply below_alloc | apply pw_below_drewN | apply below_drew1) | exact HB.out)⟩

theorem enc_13 {kind fn rd rs1 rs2 imm size : Int} {sg : Bool} (W : World) : Calls Tryz.prog 43 #[.agg #[.int .i64 13, .int .i64 fn, .int .i64 rd, .int .i64 rs1, .int .i64 rs2, .int .i64 imm, .int .i64 size, .bool sg]] W fun e w' => e = .returned (.int .u32 (Go.bits .or .u32 (Go.bits .or .u32 (Go.bits .or .u32 (115) (Go.bits .and .u32 (Go.bits .or .u32 (Go.bits .or .u32 (putL rd 11 7) (putL rs1 19 15)) (putL rs2 24 20)) 1048575)) (putL fn 13 12)) (putL imm 31 20))) ∧ Below W.heap.size W w' := by
  have HB := Aside0.mk (Below.refl W.heap.size W)
  have hu23 := Tryz.underlying23
  go_enter Tryz.func43, Tryz.ntmps43
  go_upto_region 1 with (first | ((with_reducible refine gate_dst (N := 1) rfl ?_); refine box_event (by rfl) (N := 1) (by rfl) (cs := #[.int .i64 13, .int .i64 fn, .int .i64 rd, .int .i64 rs1, .int .i64 rs2, .int .i64 imm, .int .i64 size, .bool sg]) (t := 23) (by first | (go_simp; done) | (go_simp; rfl)) ?_; intro g3 hg w3 hbox hb; have H3 := Aside0.mk hbox; have HB' := Aside0.mk (below_step HB.out hb); clear HB; have HB := HB'; clear HB'; obtain ⟨y0, y1, y2, y3, y4, y5, y6, y7, yf0, yf1, yf2, yf3, yf4, yf5, yf6, yf7⟩ := cells8 H3.out; clear hbox hb hg) | fail)
  go_quiet (first | (go_at_call 64; refine Calls.quiet_of (put_q _ _ _ _ (by decide) (by decide) (by decide))))
  go_upto_region 38 with fail
  refine start_ (n := 12) (S := fun w' => w'.cell? ⟨g3, 0, none⟩ = some (.int .i64 13) ∧ w'.cell? ⟨g3, 1, none⟩ = some (.int .i64 fn) ∧ w'.cell? ⟨g3, 2, none⟩ = some (.int .i64 rd) ∧ w'.cell? ⟨g3, 3, none⟩ = some (.int .i64 rs1) ∧ w'.cell? ⟨g3, 4, none⟩ = some (.int .i64 rs2) ∧ w'.cell? ⟨g3, 5, none⟩ = some (.int .i64 imm) ∧ w'.cell? ⟨g3, 6, none⟩ = some (.int .i64 size) ∧ w'.cell? ⟨g3, 7, none⟩ = some (.bool sg)) (ds := []) #[false, false, false, false, false, false, false, false, false, false, false, false] (by kernel_rfl) rfl rfl (cells8a (by (with_reducible repeat (first | refine blk_drewN ?_ _ | refine blk_drew ?_ | refine blk_alloc ?_ _)); exact H3.out)) (fun hHeld => ?_)
  refine pure_ (i := 0) (N := some 169) (v := ?_) (a' := ?_) #[true, false, false, false, false, false, false, false, false, false, false, false] rfl rfl (by kernel_rfl) (fun _ _ _ h => h) (Or.inl ⟨by rfl, ?_⟩) ?_ ?_
  rotate_left
  · intro w'
    go_simp
    with_reducible rfl
  rotate_left
  · simp only [Act.put, putS]
    rfl
  refine pure_ (i := 1) (N := some 170) (v := ?_) (a' := ?_) #[true, true, false, false, false, false, false, false, false, false, false, false] rfl rfl (by kernel_rfl) (fun _ _ _ h => h) (Or.inl ⟨by rfl, ?_⟩) ?_ ?_
  rotate_left
  · intro w'
    go_simp
    with_reducible rfl
  rotate_left
  · simp only [Act.put, putS]
    rfl
  refine pure_ (i := 2) (N := some 171) (v := ?_) (a' := ?_) #[true, true, true, false, false, false, false, false, false, false, false, false] rfl rfl (by kernel_rfl) (fun _ _ _ h => h) (Or.inl ⟨by rfl, ?_⟩) ?_ ?_
  rotate_left
  · intro w'
    go_simp
    with_reducible rfl
  rotate_left
  · simp only [Act.put, putS]
    rfl
  refine pure_ (i := 3) (N := some 172) (v := ?_) (a' := ?_) #[true, true, true, true, false, false, false, false, false, false, false, false] rfl rfl (by kernel_rfl) (fun _ _ _ h => h) (Or.inl ⟨by rfl, ?_⟩) ?_ ?_
  rotate_left
  · intro w'
    go_simp
    with_reducible rfl
  rotate_left
  · simp only [Act.put, putS]
    rfl
  refine pure_ (i := 7) (N := some 176) (v := ?_) (a' := ?_) #[true, true, true, true, false, false, false, true, false, false, false, false] rfl rfl (by kernel_rfl) (fun _ _ _ h => h) (Or.inl ⟨by rfl, ?_⟩) ?_ ?_
  rotate_left
  · intro w'
    go_simp
    with_reducible rfl
  rotate_left
  · simp only [Act.put, putS]
    rfl
  refine take_ (i := 4) (N := some 173) (v := ?_) (a' := ?_) #[true, true, true, true, true, false, false, true, false, false, false, false] rfl rfl (by kernel_rfl) (fun _ _ _ h => h) (Or.inl ⟨by rfl, ?_⟩) hHeld ?_ ?_
  rotate_left
  · rintro w' ⟨s0, s1, s2, s3, s4, s5, s6, s7⟩
    go_simp
    with_reducible rfl
  rotate_left
  · simp only [Act.put, putS]
    rfl
  refine take_ (i := 8) (N := some 177) (v := ?_) (a' := ?_) #[true, true, true, true, true, false, false, true, true, false, false, false] rfl rfl (by kernel_rfl) (fun _ _ _ h => h) (Or.inl ⟨by rfl, ?_⟩) hHeld ?_ ?_
  rotate_left
  · rintro w' ⟨s0, s1, s2, s3, s4, s5, s6, s7⟩
    go_simp
    with_reducible rfl
  rotate_left
  · simp only [Act.put, putS]
    rfl
  refine one_ (i := 5) (N := some 174) #[true, true, true, true, true, true, false, true, true, false, false, false] rfl rfl (by kernel_rfl) (by decide) (fun K hK => ?_)
  refine goes_ Tryz.func64 (by kernel_rfl) rfl #[.int .i64 (fn), .int .i64 13, .int .i64 12] (by rfl) rfl rfl (by simp only [List.map_toArray, List.map_cons, List.map_nil]; rfl) ?_
  refine (put_calls _ _ _ _ (by decide) (by decide) (by decide)).mono ?_
  rintro e w10 ⟨rfl, ⟨nd10, rfl⟩⟩
  refine ⟨_, rfl, ?_⟩
  refine hK.out _ _ (cells8a (by (with_reducible repeat (first | refine blk_drewN ?_ _ | refine blk_drew ?_ | refine blk_alloc ?_ _)); exact H3.out)) (fun hHeld => ?_)
  clear hK K
  refine norm_ (a' := ?_) ?_ ?_
  rotate_left
  · show Act.put _ (some 174) _ = _
    simp only [Act.put, putS]
    rfl
  refine pure_ (i := 6) (N := some 175) (v := ?_) (a' := ?_) #[true, true, true, true, true, true, true, true, true, false, false, false] rfl rfl (by kernel_rfl) (fun _ _ _ h => h) (Or.inl ⟨by rfl, ?_⟩) ?_ ?_
  rotate_left
  · intro w'
    go_simp
    with_reducible rfl
  rotate_left
  · simp only [Act.put, putS]
    rfl
  refine one_ (i := 9) (N := some 178) #[true, true, true, true, true, true, true, true, true, true, false, false] rfl rfl (by kernel_rfl) (by decide) (fun K hK => ?_)
  refine goes_ Tryz.func64 (by kernel_rfl) rfl #[.int .i64 (imm), .int .i64 31, .int .i64 20] (by rfl) rfl rfl (by simp only [List.map_toArray, List.map_cons, List.map_nil]; rfl) ?_
  refine (put_calls _ _ _ _ (by decide) (by decide) (by decide)).mono ?_
  rintro e w11 ⟨rfl, ⟨nd11, rfl⟩⟩
  refine ⟨_, rfl, ?_⟩
  refine hK.out _ _ (cells8a (by (with_reducible repeat (first | refine blk_drewN ?_ _ | refine blk_drew ?_ | refine blk_alloc ?_ _)); exact H3.out)) (fun hHeld => ?_)
  clear hK K
  refine norm_ (a' := ?_) ?_ ?_
  rotate_left
  · show Act.put _ (some 178) _ = _
    simp only [Act.put, putS]
    rfl
  refine pure_ (i := 10) (N := some 179) (v := ?_) (a' := ?_) #[true, true, true, true, true, true, true, true, true, true, true, false] rfl rfl (by kernel_rfl) (fun _ _ _ h => h) (Or.inl ⟨by rfl, ?_⟩) ?_ ?_
  rotate_left
  · intro w'
    go_simp
    with_reducible rfl
  rotate_left
  · simp only [Act.put, putS]
    rfl
  refine pure_ (i := 11) (N := some 2) (v := ?_) (a' := ?_) #[true, true, true, true, true, true, true, true, true, true, true, true] rfl rfl (by kernel_rfl) (fun _ _ _ h => h) (Or.inl ⟨by rfl, ?_⟩) ?_ ?_
  rotate_left
  · intro w'
    go_simp
    with_reducible rfl
  rotate_left
  · simp only [Act.put, putS]
    rfl
  refine done_ (by kernel_rfl) ?_
  go_wp2
  go_ret
  exact ⟨rfl, by repeat (first | (with_reducible first | exact HB.out | apply below_alloc | apply pw_below_drewN | apply below_drew1) | exact HB.out)⟩

theorem enc_14 {kind fn rd rs1 rs2 imm size : Int} {sg : Bool} (W : World) : Calls Tryz.prog 43 #[.agg #[.int .i64 14, .int .i64 fn, .int .i64 rd, .int .i64 rs1, .int .i64 rs2, .int .i64 imm, .int .i64 size, .bool sg]] W fun e w' => e = .returned (.int .u32 (Go.bits .or .u32 (Go.bits .or .u32 (Go.bits .or .u32 (16499) (Go.bits .and .u32 (Go.bits .or .u32 (Go.bits .or .u32 (putL rd 11 7) (putL rs1 19 15)) (putL rs2 24 20)) 1048575)) (putL fn 13 12)) (putL imm 31 20))) ∧ Below W.heap.size W w' := by
  have HB := Aside0.mk (Below.refl W.heap.size W)
  have hu23 := Tryz.underlying23
  go_enter Tryz.func43, Tryz.ntmps43
  go_upto_region 1 with (first | ((with_reducible refine gate_dst (N := 1) rfl ?_); refine box_event (by rfl) (N := 1) (by rfl) (cs := #[.int .i64 14, .int .i64 fn, .int .i64 rd, .int .i64 rs1, .int .i64 rs2, .int .i64 imm, .int .i64 size, .bool sg]) (t := 23) (by first | (go_simp; done) | (go_simp; rfl)) ?_; intro g3 hg w3 hbox hb; have H3 := Aside0.mk hbox; have HB' := Aside0.mk (below_step HB.out hb); clear HB; have HB := HB'; clear HB'; obtain ⟨y0, y1, y2, y3, y4, y5, y6, y7, yf0, yf1, yf2, yf3, yf4, yf5, yf6, yf7⟩ := cells8 H3.out; clear hbox hb hg) | fail)
  go_quiet (first | (go_at_call 64; refine Calls.quiet_of (put_q _ _ _ _ (by decide) (by decide) (by decide))))
  go_upto_region 40 with fail
  refine start_ (n := 12) (S := fun w' => w'.cell? ⟨g3, 0, none⟩ = some (.int .i64 14) ∧ w'.cell? ⟨g3, 1, none⟩ = some (.int .i64 fn) ∧ w'.cell? ⟨g3, 2, none⟩ = some (.int .i64 rd) ∧ w'.cell? ⟨g3, 3, none⟩ = some (.int .i64 rs1) ∧ w'.cell? ⟨g3, 4, none⟩ = some (.int .i64 rs2) ∧ w'.cell? ⟨g3, 5, none⟩ = some (.int .i64 imm) ∧ w'.cell? ⟨g3, 6, none⟩ = some (.int .i64 size) ∧ w'.cell? ⟨g3, 7, none⟩ = some (.bool sg)) (ds := []) #[false, false, false, false, false, false, false, false, false, false, false, false] (by kernel_rfl) rfl rfl (cells8a (by (with_reducible repeat (first | refine blk_drewN ?_ _ | refine blk_drew ?_ | refine blk_alloc ?_ _)); exact H3.out)) (fun hHeld => ?_)
  refine pure_ (i := 0) (N := some 182) (v := ?_) (a' := ?_) #[true, false, false, false, false, false, false, false, false, false, false, false] rfl rfl (by kernel_rfl) (fun _ _ _ h => h) (Or.inl ⟨by rfl, ?_⟩) ?_ ?_
  rotate_left
  · intro w'
    go_simp
    with_reducible rfl
  rotate_left
  · simp only [Act.put, putS]
    rfl
  refine pure_ (i := 1) (N := some 183) (v := ?_) (a' := ?_) #[true, true, false, false, false, false, false, false, false, false, false, false] rfl rfl (by kernel_rfl) (fun _ _ _ h => h) (Or.inl ⟨by rfl, ?_⟩) ?_ ?_
  rotate_left
  · intro w'
    go_simp
    with_reducible rfl
  rotate_left
  · simp only [Act.put, putS]
    rfl
  refine pure_ (i := 2) (N := some 184) (v := ?_) (a' := ?_) #[true, true, true, false, false, false, false, false, false, false, false, false] rfl rfl (by kernel_rfl) (fun _ _ _ h => h) (Or.inl ⟨by rfl, ?_⟩) ?_ ?_
  rotate_left
  · intro w'
    go_simp
    with_reducible rfl
  rotate_left
  · simp only [Act.put, putS]
    rfl
  refine pure_ (i := 3) (N := some 185) (v := ?_) (a' := ?_) #[true, true, true, true, false, false, false, false, false, false, false, false] rfl rfl (by kernel_rfl) (fun _ _ _ h => h) (Or.inl ⟨by rfl, ?_⟩) ?_ ?_
  rotate_left
  · intro w'
    go_simp
    with_reducible rfl
  rotate_left
  · simp only [Act.put, putS]
    rfl
  refine pure_ (i := 7) (N := some 189) (v := ?_) (a' := ?_) #[true, true, true, true, false, false, false, true, false, false, false, false] rfl rfl (by kernel_rfl) (fun _ _ _ h => h) (Or.inl ⟨by rfl, ?_⟩) ?_ ?_
  rotate_left
  · intro w'
    go_simp
    with_reducible rfl
  rotate_left
  · simp only [Act.put, putS]
    rfl
  refine take_ (i := 4) (N := some 186) (v := ?_) (a' := ?_) #[true, true, true, true, true, false, false, true, false, false, false, false] rfl rfl (by kernel_rfl) (fun _ _ _ h => h) (Or.inl ⟨by rfl, ?_⟩) hHeld ?_ ?_
  rotate_left
  · rintro w' ⟨s0, s1, s2, s3, s4, s5, s6, s7⟩
    go_simp
    with_reducible rfl
  rotate_left
  · simp only [Act.put, putS]
    rfl
  refine take_ (i := 8) (N := some 190) (v := ?_) (a' := ?_) #[true, true, true, true, true, false, false, true, true, false, false, false] rfl rfl (by kernel_rfl) (fun _ _ _ h => h) (Or.inl ⟨by rfl, ?_⟩) hHeld ?_ ?_
  rotate_left
  · rintro w' ⟨s0, s1, s2, s3, s4, s5, s6, s7⟩
    go_simp
    with_reducible rfl
  rotate_left
  · simp only [Act.put, putS]
    rfl
  refine one_ (i := 5) (N := some 187) #[true, true, true, true, true, true, false, true, true, false, false, false] rfl rfl (by kernel_rfl) (by decide) (fun K hK => ?_)
  refine goes_ Tryz.func64 (by kernel_rfl) rfl #[.int .i64 (fn), .int .i64 13, .int .i64 12] (by rfl) rfl rfl (by simp only [List.map_toArray, List.map_cons, List.map_nil]; rfl) ?_
  refine (put_calls _ _ _ _ (by decide) (by decide) (by decide)).mono ?_
  rintro e w10 ⟨rfl, ⟨nd10, rfl⟩⟩
  refine ⟨_, rfl, ?_⟩
  refine hK.out _ _ (cells8a (by (with_reducible repeat (first | refine blk_drewN ?_ _ | refine blk_drew ?_ | refine blk_alloc ?_ _)); exact H3.out)) (fun hHeld => ?_)
  clear hK K
  refine norm_ (a' := ?_) ?_ ?_
  rotate_left
  · show Act.put _ (some 187) _ = _
    simp only [Act.put, putS]
    rfl
  refine pure_ (i := 6) (N := some 188) (v := ?_) (a' := ?_) #[true, true, true, true, true, true, true, true, true, false, false, false] rfl rfl (by kernel_rfl) (fun _ _ _ h => h) (Or.inl ⟨by rfl, ?_⟩) ?_ ?_
  rotate_left
  · intro w'
    go_simp
    with_reducible rfl
  rotate_left
  · simp only [Act.put, putS]
    rfl
  refine one_ (i := 9) (N := some 191) #[true, true, true, true, true, true, true, true, true, true, false, false] rfl rfl (by kernel_rfl) (by decide) (fun K hK => ?_)
  refine goes_ Tryz.func64 (by kernel_rfl) rfl #[.int .i64 (imm), .int .i64 31, .int .i64 20] (by rfl) rfl rfl (by simp only [List.map_toArray, List.map_cons, List.map_nil]; rfl) ?_
  refine (put_calls _ _ _ _ (by decide) (by decide) (by decide)).mono ?_
  rintro e w11 ⟨rfl, ⟨nd11, rfl⟩⟩
  refine ⟨_, rfl, ?_⟩
  refine hK.out _ _ (cells8a (by (with_reducible repeat (first | refine blk_drewN ?_ _ | refine blk_drew ?_ | refine blk_alloc ?_ _)); exact H3.out)) (fun hHeld => ?_)
  clear hK K
  refine norm_ (a' := ?_) ?_ ?_
  rotate_left
  · show Act.put _ (some 191) _ = _
    simp only [Act.put, putS]
    rfl
  refine pure_ (i := 10) (N := some 192) (v := ?_) (a' := ?_) #[true, true, true, true, true, true, true, true, true, true, true, false] rfl rfl (by kernel_rfl) (fun _ _ _ h => h) (Or.inl ⟨by rfl, ?_⟩) ?_ ?_
  rotate_left
  · intro w'
    go_simp
    with_reducible rfl
  rotate_left
  · simp only [Act.put, putS]
    rfl
  refine pure_ (i := 11) (N := some 2) (v := ?_) (a' := ?_) #[true, true, true, true, true, true, true, true, true, true, true, true] rfl rfl (by kernel_rfl) (fun _ _ _ h => h) (Or.inl ⟨by rfl, ?_⟩) ?_ ?_
  rotate_left
  · intro w'
    go_simp
    with_reducible rfl
  rotate_left
  · simp only [Act.put, putS]
    rfl
  refine done_ (by kernel_rfl) ?_
  go_wp2
  go_ret
  exact ⟨rfl, by repeat (first | (with_reducible first | exact HB.out | apply below_alloc | apply pw_below_drewN | apply below_drew1) | exact HB.out)⟩

theorem enc_15 {kind fn rd rs1 rs2 imm size : Int} {sg : Bool} (W : World) : Calls Tryz.prog 43 #[.agg #[.int .i64 15, .int .i64 fn, .int .i64 rd, .int .i64 rs1, .int .i64 rs2, .int .i64 imm, .int .i64 size, .bool sg]] W fun e w' => e = .returned (.int .u32 (Go.bits .or .u32 (Go.bits .or .u32 (268435503) ((Go.bits .or .u32 (Go.bits .or .u32 (putL rd 11 7) (putL rs1 19 15)) (putL rs2 24 20)))) ((putL (wrap64 (idxL [4, 8] size + 2)) 14 12)))) ∧ Below W.heap.size W w' := by
  have HB := Aside0.mk (Below.refl W.heap.size W)
  have hu23 := Tryz.underlying23
  go_enter Tryz.func43, Tryz.ntmps43
  go_upto_region 1 with (first | ((with_reducible refine gate_dst (N := 1) rfl ?_); refine box_event (by rfl) (N := 1) (by rfl) (cs := #[.int .i64 15, .int .i64 fn, .int .i64 rd, .int .i64 rs1, .int .i64 rs2, .int .i64 imm, .int .i64 size, .bool sg]) (t := 23) (by first | (go_simp; done) | (go_simp; rfl)) ?_; intro g3 hg w3 hbox hb; have H3 := Aside0.mk hbox; have HB' := Aside0.mk (below_step HB.out hb); clear HB; have HB := HB'; clear HB'; obtain ⟨y0, y1, y2, y3, y4, y5, y6, y7, yf0, yf1, yf2, yf3, yf4, yf5, yf6, yf7⟩ := cells8 H3.out; clear hbox hb hg) | fail)
  go_quiet (first | (go_at_call 64; refine Calls.quiet_of (put_q _ _ _ _ (by decide) (by decide) (by decide))))
  go_wp2_with (first | ((with_reducible refine gate_dst (N := 193) rfl ?_); refine lit_event (by rfl) (N := 193) (by rfl) [4, 8] (by decide) (by first | (go_simp; done) | (go_simp; rfl)) ?_; intro Aa wa hCa hb; have HCa := Aside0.mk hCa; have H3' := Aside0.mk (blk_below (by (with_reducible repeat (first | refine blk_drewN ?_ _ | refine blk_drew ?_ | refine blk_alloc ?_ _)); exact H3.out) hb); have HB' := Aside0.mk (below_step (by repeat (first | (with_reducible first | exact HB.out | apply below_alloc | apply pw_below_drewN | apply below_drew1) | exact HB.out)) hb); clear HB H3 hCa hb y0 y1 y2 y3 y4 y5 y6 y7 yf0 yf1 yf2 yf3 yf4 yf5 yf6 yf7; have HB := HB'; have H3 := H3'; clear HB' H3'; obtain ⟨y0, y1, y2, y3, y4, y5, y6, y7, yf0, yf1, yf2, yf3, yf4, yf5, yf6, yf7⟩ := cells8 H3.out) | fail)
  refine (idx_at [4, 8] size (by repeat (first | exact HCa.out | apply Kd.C_drewN | apply Kd.C_drew)) rfl (by decide) (by decide)).mono ?_
  rintro e w' ⟨rfl, ⟨nd, rfl⟩⟩
  go_wp2_with fail
  refine (put_calls _ _ _ _ (by decide) (by decide) (by decide)).mono ?_
  rintro e w' ⟨rfl, ⟨nd, rfl⟩⟩
  go_wp2_with fail
  go_ret
  exact ⟨rfl, by repeat (first | (with_reducible first | exact HB.out | apply below_alloc | apply pw_below_drewN | apply below_drew1) | exact HB.out)⟩

theorem enc_16 {kind fn rd rs1 rs2 imm size : Int} {sg : Bool} (W : World) : Calls Tryz.prog 43 #[.agg #[.int .i64 16, .int .i64 fn, .int .i64 rd, .int .i64 rs1, .int .i64 rs2, .int .i64 imm, .int .i64 size, .bool sg]] W fun e w' => e = .returned (.int .u32 (Go.bits .or .u32 (Go.bits .or .u32 (402653231) ((Go.bits .or .u32 (Go.bits .or .u32 (putL rd 11 7) (putL rs1 19 15)) (putL rs2 24 20)))) ((putL (wrap64 (idxL [4, 8] size + 2)) 14 12)))) ∧ Below W.heap.size W w' := by
  have HB := Aside0.mk (Below.refl W.heap.size W)
  have hu23 := Tryz.underlying23
  go_enter Tryz.func43, Tryz.ntmps43
  go_upto_region 1 with (first | ((with_reducible refine gate_dst (N := 1) rfl ?_); refine box_event (by rfl) (N := 1) (by rfl) (cs := #[.int .i64 16, .int .i64 fn, .int .i64 rd, .int .i64 rs1, .int .i64 rs2, .int .i64 imm, .int .i64 size, .bool sg]) (t := 23) (by first | (go_simp; done) | (go_simp; rfl)) ?_; intro g3 hg w3 hbox hb; have H3 := Aside0.mk hbox; have HB' := Aside0.mk (below_step HB.out hb); clear HB; have HB := HB'; clear HB'; obtain ⟨y0, y1, y2, y3, y4, y5, y6, y7, yf0, yf1, yf2, yf3, yf4, yf5, yf6, yf7⟩ := cells8 H3.out; clear hbox hb hg) | fail)
  go_quiet (first | (go_at_call 64; refine Calls.quiet_of (put_q _ _ _ _ (by decide) (by decide) (by decide))))
  go_wp2_with (first | ((with_reducible refine gate_dst (N := 193) rfl ?_); refine lit_event (by rfl) (N := 193) (by rfl) [4, 8] (by decide) (by first | (go_simp; done) | (go_simp; rfl)) ?_; intro Aa wa hCa hb; have HCa := Aside0.mk hCa; have H3' := Aside0.mk (blk_below (by (with_reducible repeat (first | refine blk_drewN ?_ _ | refine blk_drew ?_ | refine blk_alloc ?_ _)); exact H3.out) hb); have HB' := Aside0.mk (below_step (by repeat (first | (with_reducible first | exact HB.out | apply below_alloc | apply pw_below_drewN | apply below_drew1) | exact HB.out)) hb); clear HB H3 hCa hb y0 y1 y2 y3 y4 y5 y6 y7 yf0 yf1 yf2 yf3 yf4 yf5 yf6 yf7; have HB := HB'; have H3 := H3'; clear HB' H3'; obtain ⟨y0, y1, y2, y3, y4, y5, y6, y7, yf0, yf1, yf2, yf3, yf4, yf5, yf6, yf7⟩ := cells8 H3.out) | fail)
  refine (idx_at [4, 8] size (by repeat (first | exact HCa.out | apply Kd.C_drewN | apply Kd.C_drew)) rfl (by decide) (by decide)).mono ?_
  rintro e w' ⟨rfl, ⟨nd, rfl⟩⟩
  go_wp2_with fail
  refine (put_calls _ _ _ _ (by decide) (by decide) (by decide)).mono ?_
  rintro e w' ⟨rfl, ⟨nd, rfl⟩⟩
  go_wp2_with fail
  go_ret
  exact ⟨rfl, by repeat (first | (with_reducible first | exact HB.out | apply below_alloc | apply pw_below_drewN | apply below_drew1) | exact HB.out)⟩

theorem enc_17 {kind fn rd rs1 rs2 imm size : Int} {sg : Bool} (W : World) : Calls Tryz.prog 43 #[.agg #[.int .i64 17, .int .i64 fn, .int .i64 rd, .int .i64 rs1, .int .i64 rs2, .int .i64 imm, .int .i64 size, .bool sg]] W fun e w' => e = .returned (.int .u32 (Go.bits .or .u32 (Go.bits .or .u32 (Go.bits .or .u32 (47) ((Go.bits .or .u32 (Go.bits .or .u32 (putL rd 11 7) (putL rs1 19 15)) (putL rs2 24 20)))) ((putL (wrap64 (idxL [4, 8] size + 2)) 14 12))) (putL (idxL [2, 1, 0, 0, 3, 0, 0, 0, 5, 0, 0, 0, 4, 0, 0, 0, 6, 0, 0, 0, 7, 0, 0, 0, 8, 0, 0, 0, 9] fn) 31 27))) ∧ Below W.heap.size W w' := by
  have HB := Aside0.mk (Below.refl W.heap.size W)
  have hu23 := Tryz.underlying23
  go_enter Tryz.func43, Tryz.ntmps43
  go_upto_region 1 with (first | ((with_reducible refine gate_dst (N := 1) rfl ?_); refine box_event (by rfl) (N := 1) (by rfl) (cs := #[.int .i64 17, .int .i64 fn, .int .i64 rd, .int .i64 rs1, .int .i64 rs2, .int .i64 imm, .int .i64 size, .bool sg]) (t := 23) (by first | (go_simp; done) | (go_simp; rfl)) ?_; intro g3 hg w3 hbox hb; have H3 := Aside0.mk hbox; have HB' := Aside0.mk (below_step HB.out hb); clear HB; have HB := HB'; clear HB'; obtain ⟨y0, y1, y2, y3, y4, y5, y6, y7, yf0, yf1, yf2, yf3, yf4, yf5, yf6, yf7⟩ := cells8 H3.out; clear hbox hb hg) | fail)
  go_quiet (first | (go_at_call 64; refine Calls.quiet_of (put_q _ _ _ _ (by decide) (by decide) (by decide))))
  go_wp2_with (first | ((with_reducible refine gate_dst (N := 193) rfl ?_); refine lit_event (by rfl) (N := 193) (by rfl) [4, 8] (by decide) (by first | (go_simp; done) | (go_simp; rfl)) ?_; intro Aa wa hCa hb; have HCa := Aside0.mk hCa; have H3' := Aside0.mk (blk_below (by (with_reducible repeat (first | refine blk_drewN ?_ _ | refine blk_drew ?_ | refine blk_alloc ?_ _)); exact H3.out) hb); have HB' := Aside0.mk (below_step (by repeat (first | (with_reducible first | exact HB.out | apply below_alloc | apply pw_below_drewN | apply below_drew1) | exact HB.out)) hb); clear HB H3 hCa hb y0 y1 y2 y3 y4 y5 y6 y7 yf0 yf1 yf2 yf3 yf4 yf5 yf6 yf7; have HB := HB'; have H3 := H3'; clear HB' H3'; obtain ⟨y0, y1, y2, y3, y4, y5, y6, y7, yf0, yf1, yf2, yf3, yf4, yf5, yf6, yf7⟩ := cells8 H3.out) | fail)
  refine (idx_at [4, 8] size (by repeat (first | exact HCa.out | apply Kd.C_drewN | apply Kd.C_drew)) rfl (by decide) (by decide)).mono ?_
  rintro e w' ⟨rfl, ⟨nd, rfl⟩⟩
  go_wp2_with fail
  refine (put_calls _ _ _ _ (by decide) (by decide) (by decide)).mono ?_
  rintro e w' ⟨rfl, ⟨nd, rfl⟩⟩
  go_wp2_with (first | ((with_reducible refine gate_dst (N := 215) rfl ?_); refine lit_event (by rfl) (N := 215) (by rfl) [2, 1, 0, 0, 3, 0, 0, 0, 5, 0, 0, 0, 4, 0, 0, 0, 6, 0, 0, 0, 7, 0, 0, 0, 8, 0, 0, 0, 9] (by decide) (by first | (go_simp; done) | (go_simp; rfl)) ?_; intro Ab wb hCb hb; have HCb := Aside0.mk hCb; have H3' := Aside0.mk (blk_below (by (with_reducible repeat (first | refine blk_drewN ?_ _ | refine blk_drew ?_ | refine blk_alloc ?_ _)); exact H3.out) hb); have HB' := Aside0.mk (below_step (by repeat (first | (with_reducible first | exact HB.out | apply below_alloc | apply pw_below_drewN | apply below_drew1) | exact HB.out)) hb); clear HB H3 hCb hb y0 y1 y2 y3 y4 y5 y6 y7 yf0 yf1 yf2 yf3 yf4 yf5 yf6 yf7; have HB := HB'; have H3 := H3'; clear HB' H3'; obtain ⟨y0, y1, y2, y3, y4, y5, y6, y7, yf0, yf1, yf2, yf3, yf4, yf5, yf6, yf7⟩ := cells8 H3.out) | fail)
  refine (idx_at [2, 1, 0, 0, 3, 0, 0, 0, 5, 0, 0, 0, 4, 0, 0, 0, 6, 0, 0, 0, 7, 0, 0, 0, 8, 0, 0, 0, 9] fn (by repeat (first | exact HCb.out | apply Kd.C_drewN | apply Kd.C_drew)) rfl (by decide) (by decide)).mono ?_
  rintro e w' ⟨rfl, ⟨nd, rfl⟩⟩
  go_wp2_with fail
  refine (put_calls _ _ _ _ (by decide) (by decide) (by decide)).mono ?_
  rintro e w' ⟨rfl, ⟨nd, rfl⟩⟩
  go_wp2_with fail
  go_ret
  exact ⟨rfl, by repeat (first | (with_reducible first | exact HB.out | apply below_alloc | apply pw_below_drewN | apply below_drew1) | exact HB.out)⟩

theorem enc_9 {kind fn rd rs1 rs2 imm size : Int} {sg : Bool} (W : World) : Calls Tryz.prog 43 #[.agg #[.int .i64 9, .int .i64 fn, .int .i64 rd, .int .i64 rs1, .int .i64 rs2, .int .i64 imm, .int .i64 size, .bool sg]] W fun e w' => e = .returned (.int .u32 (Go.bits .or .u32 (encImmL ⟨9, fn, rd, rs1, rs2, imm, size, sg⟩) ((Go.bits .or .u32 (Go.bits .or .u32 (putL rd 11 7) (putL rs1 19 15)) (putL rs2 24 20))))) ∧ Below W.heap.size W w' := by
  have HB := Aside0.mk (Below.refl W.heap.size W)
  have hu23 := Tryz.underlying23
  go_enter Tryz.func43, Tryz.ntmps43
  go_upto_region 1 with (first | ((with_reducible refine gate_dst (N := 1) rfl ?_); refine box_event (by rfl) (N := 1) (by rfl) (cs := #[.int .i64 9, .int .i64 fn, .int .i64 rd, .int .i64 rs1, .int .i64 rs2, .int .i64 imm, .int .i64 size, .bool sg]) (t := 23) (by first | (go_simp; done) | (go_simp; rfl)) ?_; intro g3 hg w3 hbox hb; have H3 := Aside0.mk hbox; have HB' := Aside0.mk (below_step HB.out hb); clear HB; have HB := HB'; clear HB'; obtain ⟨y0, y1, y2, y3, y4, y5, y6, y7, yf0, yf1, yf2, yf3, yf4, yf5, yf6, yf7⟩ := cells8 H3.out; clear hbox hb hg) | fail)
  go_quiet (first | (go_at_call 64; refine Calls.quiet_of (put_q _ _ _ _ (by decide) (by decide) (by decide))))
  go_wp2_with fail
  refine (inst_encodeImmediate.calls 20 9 fn rd rs1 rs2 imm size sg _ _ (encImm_f ⟨9, fn, rd, rs1, rs2, imm, size, sg⟩)).mono ?_
  rintro e w' ⟨rfl, hb⟩
  have HB2 := Aside0.mk (below_step (by repeat (first | (with_reducible first | exact HB.out | apply below_alloc | apply pw_below_drewN | apply below_drew1) | exact HB.out)) hb)
  clear HB
  have HB := HB2
  clear HB2 hb
  go_wp2_with fail
  go_ret
  exact ⟨rfl, by repeat (first | (with_reducible first | exact HB.out | apply below_alloc | apply pw_below_drewN | apply below_drew1) | exact HB.out)⟩

theorem enc_8 {kind fn rd rs1 rs2 imm size : Int} {sg : Bool} (W : World) : Calls Tryz.prog 43 #[.agg #[.int .i64 8, .int .i64 fn, .int .i64 rd, .int .i64 rs1, .int .i64 rs2, .int .i64 imm, .int .i64 size, .bool sg]] W fun e w' => e = .returned (.int .u32 (Go.bits .or .u32 (encRegL ⟨8, fn, rd, rs1, rs2, imm, size, sg⟩) ((Go.bits .or .u32 (Go.bits .or .u32 (putL rd 11 7) (putL rs1 19 15)) (putL rs2 24 20))))) ∧ Below W.heap.size W w' := by
  have HB := Aside0.mk (Below.refl W.heap.size W)
  have hu23 := Tryz.underlying23
  go_enter Tryz.func43, Tryz.ntmps43
  go_upto_region 1 with (first | ((with_reducible refine gate_dst (N := 1) rfl ?_); refine box_event (by rfl) (N := 1) (by rfl) (cs := #[.int .i64 8, .int .i64 fn, .int .i64 rd, .int .i64 rs1, .int .i64 rs2, .int .i64 imm, .int .i64 size, .bool sg]) (t := 23) (by first | (go_simp; done) | (go_simp; rfl)) ?_; intro g3 hg w3 hbox hb; have H3 := Aside0.mk hbox; have HB' := Aside0.mk (below_step HB.out hb); clear HB; have HB := HB'; clear HB'; obtain ⟨y0, y1, y2, y3, y4, y5, y6, y7, yf0, yf1, yf2, yf3, yf4, yf5, yf6, yf7⟩ := cells8 H3.out; clear hbox hb hg) | fail)
  go_quiet (first | (go_at_call 64; refine Calls.quiet_of (put_q _ _ _ _ (by decide) (by decide) (by decide))))
  go_wp2_with fail
  refine (inst_encodeRegister.calls 100 8 fn rd rs1 rs2 imm size sg _ _ (encReg_f ⟨8, fn, rd, rs1, rs2, imm, size, sg⟩)).mono ?_
  rintro e w' ⟨rfl, hb⟩
  have HB2 := Aside0.mk (below_step (by repeat (first | (with_reducible first | exact HB.out | apply below_alloc | apply pw_below_drewN | apply below_drew1) | exact HB.out)) hb)
  clear HB
  have HB := HB2
  clear HB2 hb
  go_wp2_with fail
  go_ret
  exact ⟨rfl, by repeat (first | (with_reducible first | exact HB.out | apply below_alloc | apply pw_below_drewN | apply below_drew1) | exact HB.out)⟩

theorem enc_x {kind fn rd rs1 rs2 imm size : Int} {sg : Bool} (W : World) (n1 : (kind == 1) = false) (n2 : (kind == 2) = false) (n3 : (kind == 3) = false) (n4 : (kind == 4) = false) (n5 : (kind == 5) = false) (n6 : (kind == 6) = false) (n7 : (kind == 7) = false) (n9 : (kind == 9) = false) (n8 : (kind == 8) = false) (n10 : (kind == 10) = false) (n11 : (kind == 11) = false) (n12 : (kind == 12) = false) (n18 : (kind == 18) = false) (n19 : (kind == 19) = false) (n20 : (kind == 20) = false) (n13 : (kind == 13) = false) (n14 : (kind == 14) = false) (n15 : (kind == 15) = false) (n16 : (kind == 16) = false) (n17 : (kind == 17) = false) : Calls Tryz.prog 43 #[.agg #[.int .i64 kind, .int .i64 fn, .int .i64 rd, .int .i64 rs1, .int .i64 rs2, .int .i64 imm, .int .i64 size, .bool sg]] W fun e w' => e = .returned (.int .u32 (0)) ∧ Below W.heap.size W w' := by
  have HB := Aside0.mk (Below.refl W.heap.size W)
  have hu23 := Tryz.underlying23
  go_enter Tryz.func43, Tryz.ntmps43
  go_upto_region 1 with (first | ((with_reducible refine gate_dst (N := 1) rfl ?_); refine box_event (by rfl) (N := 1) (by rfl) (cs := #[.int .i64 kind, .int .i64 fn, .int .i64 rd, .int .i64 rs1, .int .i64 rs2, .int .i64 imm, .int .i64 size, .bool sg]) (t := 23) (by first | (go_simp; done) | (go_simp; rfl)) ?_; intro g3 hg w3 hbox hb; have H3 := Aside0.mk hbox; have HB' := Aside0.mk (below_step HB.out hb); clear HB; have HB := HB'; clear HB'; obtain ⟨y0, y1, y2, y3, y4, y5, y6, y7, yf0, yf1, yf2, yf3, yf4, yf5, yf6, yf7⟩ := cells8 H3.out; clear hbox hb hg) | fail)
  go_quiet (first | (go_at_call 64; refine Calls.quiet_of (put_q _ _ _ _ (by decide) (by decide) (by decide))))
  go_wp2_with (first | ((with_reducible refine gate_dst (N := 193) rfl ?_); refine lit_event (by rfl) (N := 193) (by rfl) [4, 8] (by decide) (by first | (go_simp; done) | (go_simp; rfl)) ?_; intro Aa wa hCa hb; have HCa := Aside0.mk hCa; have H3' := Aside0.mk (blk_below (by (with_reducible repeat (first | refine blk_drewN ?_ _ | refine blk_drew ?_ | refine blk_alloc ?_ _)); exact H3.out) hb); have HB' := Aside0.mk (below_step (by repeat (first | (with_reducible first | exact HB.out | apply below_alloc | apply pw_below_drewN | apply below_drew1) | exact HB.out)) hb); clear HB H3 hCa hb y0 y1 y2 y3 y4 y5 y6 y7 yf0 yf1 yf2 yf3 yf4 yf5 yf6 yf7; have HB := HB'; have H3 := H3'; clear HB' H3'; obtain ⟨y0, y1, y2, y3, y4, y5, y6, y7, yf0, yf1, yf2, yf3, yf4, yf5, yf6, yf7⟩ := cells8 H3.out) | fail)
  refine (idx_at [4, 8] size (by repeat (first | exact HCa.out | apply Kd.C_drewN | apply Kd.C_drew)) rfl (by decide) (by decide)).mono ?_
  rintro e w' ⟨rfl, ⟨nd, rfl⟩⟩
  go_wp2_with fail
  refine (put_calls _ _ _ _ (by decide) (by decide) (by decide)).mono ?_
  rintro e w' ⟨rfl, ⟨nd, rfl⟩⟩
  go_wp2_with fail
  go_ret
  exact ⟨rfl, by repeat (first | (with_reducible first | exact HB.out | apply below_alloc | apply pw_below_drewN | apply below_drew1) | exact HB.out)⟩

theorem enc_7 {kind fn rd rs1 rs2 imm size : Int} {sg : Bool} (W : World) : Calls Tryz.prog 43 #[.agg #[.int .i64 7, .int .i64 fn, .int .i64 rd, .int .i64 rs1, .int .i64 rs2, .int .i64 imm, .int .i64 size, .bool sg]] W fun e w' => e = .returned (.int .u32 (Go.bits .or .u32 (Go.bits .or .u32 (Go.bits .or .u32 (Go.bits .or .u32 (35) ((Go.bits .or .u32 (Go.bits .or .u32 (putL rd 11 7) (putL rs1 19 15)) (putL rs2 24 20)))) (putL (idxL [1, 2, 4, 8] size) 14 12)) (putL (imm / 32) 31 25)) (putL imm 11 7))) ∧ Below W.heap.size W w' := by
  have HB := Aside0.mk (Below.refl W.heap.size W)
  have hu23 := Tryz.underlying23
  go_enter Tryz.func43, Tryz.ntmps43
  go_upto_region 1 with (first | ((with_reducible refine gate_dst (N := 1) rfl ?_); refine box_event (by rfl) (N := 1) (by rfl) (cs := #[.int .i64 7, .int .i64 fn, .int .i64 rd, .int .i64 rs1, .int .i64 rs2, .int .i64 imm, .int .i64 size, .bool sg]) (t := 23) (by first | (go_simp; done) | (go_simp; rfl)) ?_; intro g3 hg w3 hbox hb; have H3 := Aside0.mk hbox; have HB' := Aside0.mk (below_step HB.out hb); clear HB; have HB := HB'; clear HB'; obtain ⟨y0, y1, y2, y3, y4, y5, y6, y7, yf0, yf1, yf2, yf3, yf4, yf5, yf6, yf7⟩ := cells8 H3.out; clear hbox hb hg) | fail)
  go_quiet (first | (go_at_call 64; refine Calls.quiet_of (put_q _ _ _ _ (by decide) (by decide) (by decide))))
  go_upto_region 20 with fail
  refine start_ (n := 18) (S := fun w' => w'.cell? ⟨g3, 0, none⟩ = some (.int .i64 7) ∧ w'.cell? ⟨g3, 1, none⟩ = some (.int .i64 fn) ∧ w'.cell? ⟨g3, 2, none⟩ = some (.int .i64 rd) ∧ w'.cell? ⟨g3, 3, none⟩ = some (.int .i64 rs1) ∧ w'.cell? ⟨g3, 4, none⟩ = some (.int .i64 rs2) ∧ w'.cell? ⟨g3, 5, none⟩ = some (.int .i64 imm) ∧ w'.cell? ⟨g3, 6, none⟩ = some (.int .i64 size) ∧ w'.cell? ⟨g3, 7, none⟩ = some (.bool sg)) (ds := []) #[false, false, false, false, false, false, false, false, false, false, false, false, false, false, false, false, false, false] (by kernel_rfl) rfl rfl (cells8a (by (with_reducible repeat (first | refine blk_drewN ?_ _ | refine blk_drew ?_ | refine blk_alloc ?_ _)); exact H3.out)) (fun hHeld => ?_)
  refine pure_ (i := 0) (N := some 124) (v := ?_) (a' := ?_) #[true, false, false, false, false, false, false, false, false, false, false, false, false, false, false, false, false, false] rfl rfl (by kernel_rfl) (fun _ _ _ h => h) (Or.inl ⟨by rfl, ?_⟩) ?_ ?_
  rotate_left
  · intro w'
    go_simp
    with_reducible rfl
  rotate_left
  · simp only [Act.put, putS]
    rfl
  refine pure_ (i := 1) (N := some 125) (v := ?_) (a' := ?_) #[true, true, false, false, false, false, false, false, false, false, false, false, false, false, false, false, false, false] rfl rfl (by kernel_rfl) (fun _ _ _ h => h) (Or.inl ⟨by rfl, ?_⟩) ?_ ?_
  rotate_left
  · intro w'
    go_simp
    with_reducible rfl
  rotate_left
  · simp only [Act.put, putS]
    rfl
  refine pure_ (i := 3) (N := some 127) (v := ?_) (a' := ?_) #[true, true, false, true, false, false, false, false, false, false, false, false, false, false, false, false, false, false] rfl rfl (by kernel_rfl) (fun _ _ _ h => h) (Or.inl ⟨by rfl, ?_⟩) ?_ ?_
  rotate_left
  · intro w'
    go_simp
    with_reducible rfl
  rotate_left
  · simp only [Act.put, putS]
    rfl
  refine pure_ (i := 8) (N := some 132) (v := ?_) (a' := ?_) #[true, true, false, true, false, false, false, false, true, false, false, false, false, false, false, false, false, false] rfl rfl (by kernel_rfl) (fun _ _ _ h => h) (Or.inl ⟨by rfl, ?_⟩) ?_ ?_
  rotate_left
  · intro w'
    go_simp
    with_reducible rfl
  rotate_left
  · simp only [Act.put, putS]
    rfl
  refine pure_ (i := 13) (N := some 137) (v := ?_) (a' := ?_) #[true, true, false, true, false, false, false, false, true, false, false, false, false, true, false, false, false, false] rfl rfl (by kernel_rfl) (fun _ _ _ h => h) (Or.inl ⟨by rfl, ?_⟩) ?_ ?_
  rotate_left
  · intro w'
    go_simp
    with_reducible rfl
  rotate_left
  · simp only [Act.put, putS]
    rfl
  refine take_ (i := 4) (N := some 128) (v := ?_) (a' := ?_) #[true, true, false, true, true, false, false, false, true, false, false, false, false, true, false, false, false, false] rfl rfl (by kernel_rfl) (fun _ _ _ h => h) (Or.inl ⟨by rfl, ?_⟩) hHeld ?_ ?_
  rotate_left
  · rintro w' ⟨s0, s1, s2, s3, s4, s5, s6, s7⟩
    go_simp
    with_reducible rfl
  rotate_left
  · simp only [Act.put, putS]
    rfl
  refine take_ (i := 9) (N := some 133) (v := ?_) (a' := ?_) #[true, true, false, true, true, false, false, false, true, true, false, false, false, true, false, false, false, false] rfl rfl (by kernel_rfl) (fun _ _ _ h => h) (Or.inl ⟨by rfl, ?_⟩) hHeld ?_ ?_
  rotate_left
  · rintro w' ⟨s0, s1, s2, s3, s4, s5, s6, s7⟩
    go_simp
    with_reducible rfl
  rotate_left
  · simp only [Act.put, putS]
    rfl
  refine pure_ (i := 10) (N := some 134) (v := ?_) (a' := ?_) #[true, true, false, true, true, false, false, false, true, true, true, false, false, true, false, false, false, false] rfl rfl (by kernel_rfl) (fun _ _ _ h => h) (Or.inl ⟨by rfl, ?_⟩) ?_ ?_
  rotate_left
  · intro w'
    go_simp
    with_reducible rfl
  rotate_left
  · simp only [Act.put, putS]
    rfl
  refine take_ (i := 14) (N := some 138) (v := ?_) (a' := ?_) #[true, true, false, true, true, false, false, false, true, true, true, false, false, true, true, false, false, false] rfl rfl (by kernel_rfl) (fun _ _ _ h => h) (Or.inl ⟨by rfl, ?_⟩) hHeld ?_ ?_
  rotate_left
  · rintro w' ⟨s0, s1, s2, s3, s4, s5, s6, s7⟩
    go_simp
    with_reducible rfl
  rotate_left
  · simp only [Act.put, putS]
    rfl
  refine one_ (i := 2) (N := some 126) #[true, true, true, true, true, false, false, false, true, true, true, false, false, true, true, false, false, false] rfl rfl (by kernel_rfl) (by decide) (fun K hK => ?_)
  refine value_ (w1 := ?_) (v := ?_) (by rfl) rfl ?_ ?_
  rotate_left 2
  · go_simp
    constructor
    · rfl
    · rfl
  refine hK.out _ _ (cells8a (by (with_reducible repeat (first | refine blk_drewN ?_ _ | refine blk_drew ?_ | refine blk_alloc ?_ _)); exact H3.out)) (fun hHeld => ?_)
  clear hK K
  refine norm_ (a' := ?_) ?_ ?_
  rotate_left
  · show Act.put _ (some 126) _ = _
    simp only [Act.put, putS]
    rfl
  refine one_ (i := 5) (N := some 129) #[true, true, true, true, true, true, false, false, true, true, true, false, false, true, true, false, false, false] rfl rfl (by kernel_rfl) (by decide) (fun K hK => ?_)
  refine goes_ Tryz.func65 (by kernel_rfl) rfl #[.slice (some ⟨_, 0, none⟩) 4 4, .int .i64 size] (by rfl) rfl rfl (by simp only [List.map_toArray, List.map_cons, List.map_nil]; rfl) ?_
  refine (idx_at [1, 2, 4, 8] size (by repeat (first | exact lit_C _ _ (by decide) | apply Kd.C_drewN | apply Kd.C_drew)) rfl (by decide) (by decide)).mono ?_
  rintro e w9 ⟨rfl, ⟨nd9, rfl⟩⟩
  refine ⟨_, rfl, ?_⟩
  refine hK.out _ _ (cells8a (by (with_reducible repeat (first | refine blk_drewN ?_ _ | refine blk_drew ?_ | refine blk_alloc ?_ _)); exact H3.out)) (fun hHeld => ?_)
  clear hK K
  refine norm_ (a' := ?_) ?_ ?_
  rotate_left
  · show Act.put _ (some 129) _ = _
    simp only [Act.put, putS]
    rfl
  refine one_ (i := 6) (N := some 130) #[true, true, true, true, true, true, true, false, true, true, true, false, false, true, true, false, false, false] rfl rfl (by kernel_rfl) (by decide) (fun K hK => ?_)
  refine goes_ Tryz.func64 (by kernel_rfl) rfl #[.int .i64 (idxL [1, 2, 4, 8] size), .int .i64 14, .int .i64 12] (by rfl) rfl rfl (by simp only [List.map_toArray, List.map_cons, List.map_nil]; rfl) ?_
  refine (put_calls _ _ _ _ (by decide) (by decide) (by decide)).mono ?_
  rintro e w10 ⟨rfl, ⟨nd10, rfl⟩⟩
  refine ⟨_, rfl, ?_⟩
  refine hK.out _ _ (cells8a (by (with_reducible repeat (first | refine blk_drewN ?_ _ | refine blk_drew ?_ | refine blk_alloc ?_ _)); exact H3.out)) (fun hHeld => ?_)
  clear hK K
  refine norm_ (a' := ?_) ?_ ?_
  rotate_left
  · show Act.put _ (some 130) _ = _
    simp only [Act.put, putS]
    rfl
  refine pure_ (i := 7) (N := some 131) (v := ?_) (a' := ?_) #[true, true, true, true, true, true, true, true, true, true, true, false, false, true, true, false, false, false] rfl rfl (by kernel_rfl) (fun _ _ _ h => h) (Or.inl ⟨by rfl, ?_⟩) ?_ ?_
  rotate_left
  · intro w'
    go_simp
    with_reducible rfl
  rotate_left
  · simp only [Act.put, putS]
    rfl
  refine one_ (i := 11) (N := some 135) #[true, true, true, true, true, true, true, true, true, true, true, true, false, true, true, false, false, false] rfl rfl (by kernel_rfl) (by decide) (fun K hK => ?_)
  refine goes_ Tryz.func64 (by kernel_rfl) rfl #[.int .i64 (imm / 32), .int .i64 31, .int .i64 25] (by rfl) rfl rfl (by simp only [List.map_toArray, List.map_cons, List.map_nil]; rfl) ?_
  refine (put_calls _ _ _ _ (by decide) (by decide) (by decide)).mono ?_
  rintro e w11 ⟨rfl, ⟨nd11, rfl⟩⟩
  refine ⟨_, rfl, ?_⟩
  refine hK.out _ _ (cells8a (by (with_reducible repeat (first | refine blk_drewN ?_ _ | refine blk_drew ?_ | refine blk_alloc ?_ _)); exact H3.out)) (fun hHeld => ?_)
  clear hK K
  refine norm_ (a' := ?_) ?_ ?_
  rotate_left
  · show Act.put _ (some 135) _ = _
    simp only [Act.put, putS]
    rfl
  refine pure_ (i := 12) (N := some 136) (v := ?_) (a' := ?_) #[true, true, true, true, true, true, true, true, true, true, true, true, true, true, true, false, false, false] rfl rfl (by kernel_rfl) (fun _ _ _ h => h) (Or.inl ⟨by rfl, ?_⟩) ?_ ?_
  rotate_left
  · intro w'
    go_simp
    with_reducible rfl
  rotate_left
  · simp only [Act.put, putS]
    rfl
  refine one_ (i := 15) (N := some 139) #[true, true, true, true, true, true, true, true, true, true, true, true, true, true, true, true, false, false] rfl rfl (by kernel_rfl) (by decide) (fun K hK => ?_)
  refine goes_ Tryz.func64 (by kernel_rfl) rfl #[.int .i64 (imm), .int .i64 11, .int .i64 7] (by rfl) rfl rfl (by simp only [List.map_toArray, List.map_cons, List.map_nil]; rfl) ?_
  refine (put_calls _ _ _ _ (by decide) (by decide) (by decide)).mono ?_
  rintro e w12 ⟨rfl, ⟨nd12, rfl⟩⟩
  refine ⟨_, rfl, ?_⟩
  refine hK.out _ _ (cells8a (by (with_reducible repeat (first | refine blk_drewN ?_ _ | refine blk_drew ?_ | refine blk_alloc ?_ _)); exact H3.out)) (fun hHeld => ?_)
  clear hK K
  refine norm_ (a' := ?_) ?_ ?_
  rotate_left
  · show Act.put _ (some 139) _ = _
    simp only [Act.put, putS]
    rfl
  refine pure_ (i := 16) (N := some 140) (v := ?_) (a' := ?_) #[true, true, true, true, true, true, true, true, true, true, true, true, true, true, true, true, true, false] rfl rfl (by kernel_rfl) (fun _ _ _ h => h) (Or.inl ⟨by rfl, ?_⟩) ?_ ?_
  rotate_left
  · intro w'
    go_simp
    with_reducible rfl
  rotate_left
  · simp only [Act.put, putS]
    rfl
  refine pure_ (i := 17) (N := some 2) (v := ?_) (a' := ?_) #[true, true, true, true, true, true, true, true, true, true, true, true, true, true, true, true, true, true] rfl rfl (by kernel_rfl) (fun _ _ _ h => h) (Or.inl ⟨by rfl, ?_⟩) ?_ ?_
  rotate_left
  · intro w'
    go_simp
    with_reducible rfl
  rotate_left
  · simp only [Act.put, putS]
    rfl
  refine done_ (by kernel_rfl) ?_
  go_wp2
  go_ret
  exact ⟨rfl, by repeat (first | (with_reducible first | exact HB.out | apply below_alloc | apply pw_below_drewN | apply below_drew1) | exact HB.out)⟩

end Go.Proofs.YtjapahcbhjjeiaaGreatDoor.AS
