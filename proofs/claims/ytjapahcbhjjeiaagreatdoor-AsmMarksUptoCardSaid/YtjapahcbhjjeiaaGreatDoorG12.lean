/- Several texts in one. -/
import Derived.Test.YtjapahcbhjjeiaaGreatDoorG11
import Derived.Test.YtjapahcbhjjeiaaGreatDoorF2
import Derived.Test.YtjapahcbhjjeiaaGreatDoorRX
/- inst.encodeImmediate by its contract. -/
namespace Go.Proofs.YtjapahcbhjjeiaaGreatDoor.AS
open Go.RowKit Go.Proofs.YtjapahcbhjjeiaaGreatDoorW.PrintWords Go.Proofs.YtjapahcbhjjeiaaGreatDoorW.PrintLast Go.Proofs.YtjapahcbhjjeiaaGreatDoorW.PrintMore Go.Proofs.YtjapahcbhjjeiaaGreatDoor.PA
set_option linter.unusedVariables false
set_option linter.unusedSimpArgs false
set_option maxRecDepth 100000
set_option maxHeartbeats 8000000

theorem encImm_calls {kind fn rd rs1 rs2 imm size : Int} {sg : Bool} (W : World) : Calls Tryz.prog 66 #[.agg #[.int .i64 kind, .int .i64 fn, .int .i64 rd, .int .i64 rs1, .int .i64 rs2, .int .i64 imm, .int .i64 size, .bool sg]] W fun e w' => e = .returned (.int .u32 (encImmL ⟨kind, fn, rd, rs1, rs2, imm, size, sg⟩)) ∧ Below W.heap.size W w' := by
  have HB := Aside0.mk (Below.refl W.heap.size W)
  have hu23 := Tryz.underlying23
  obtain ⟨v, hv⟩ : ∃ x, x = encImmL ⟨kind, fn, rd, rs1, rs2, imm, size, sg⟩ := ⟨_, rfl⟩
  rw [← hv]
  unfold encImmL at hv
  simp only at hv
  by_cases hf : fn = 3 ∨ fn = 7 ∨ fn = 8 ∨ fn = 19 ∨ fn = 21 ∨ fn = 22 ∨ fn = 23
  · rcases hf with rfl | rfl | rfl | rfl | rfl | rfl | rfl
    all_goals
      simp only [Int.reduceEq, reduceIte] at hv
      have HV := Aside0.mk hv
      clear hv
      go_enter Tryz.func66, Tryz.ntmps66
      go_wp2_with (first | ((with_reducible refine gate_dst (N := 1) rfl ?_); refine box_event (by rfl) (N := 1) (by rfl) (cs := #[.int .i64 kind, .int .i64 fn, .int .i64 rd, .int .i64 rs1, .int .i64 rs2, .int .i64 imm, .int .i64 size, .bool sg]) (t := 23) (by first | (go_simp; done) | (go_simp; rfl)) ?_; intro g3 hg w3 hbox hb; have H3 := Aside0.mk hbox; have HB2 := Aside0.mk (below_step HB.out hb); clear HB; have HB := HB2; clear HB2 hbox hb hg; obtain ⟨y0, y1, y2, y3, y4, y5, y6, y7, yf0, yf1, yf2, yf3, yf4, yf5, yf6, yf7⟩ := cells8 H3.out) | (go_at_call 64; (with_reducible refine (put_q _ _ _ _ (by decide) (by decide) (by decide)).mono ?_); rintro e w' ⟨rfl, ⟨nd, rfl⟩⟩) | fail)
      go_ret
      refine ⟨?_, (by repeat (first | (with_reducible first | exact HB.out | apply below_alloc | apply pw_below_drewN | apply below_drew1) | exact HB.out))⟩
      rw [HV.out]
      rfl
  · have HV : Aside0 (v = Go.bits .or .u32 (Go.bits .or .u32 19 (putL imm 31 20)) (putL (idxL immsL fn) 14 12)) := ⟨by
      simp only [not_or] at hf
      rw [hv]
      repeat' rw [if_neg (show ¬ fn = _ by omega)]⟩
    have n3 : (fn == 3) = false := beq_false_of_ne (by omega)
    have n7 : (fn == 7) = false := beq_false_of_ne (by omega)
    have n8 : (fn == 8) = false := beq_false_of_ne (by omega)
    have n19 : (fn == 19) = false := beq_false_of_ne (by omega)
    have n21 : (fn == 21) = false := beq_false_of_ne (by omega)
    have n22 : (fn == 22) = false := beq_false_of_ne (by omega)
    have n23 : (fn == 23) = false := beq_false_of_ne (by omega)
    clear hf hv
    go_enter Tryz.func66, Tryz.ntmps66
    go_wp2_with (first | ((with_reducible refine gate_dst (N := 1) rfl ?_); refine box_event (by rfl) (N := 1) (by rfl) (cs := #[.int .i64 kind, .int .i64 fn, .int .i64 rd, .int .i64 rs1, .int .i64 rs2, .int .i64 imm, .int .i64 size, .bool sg]) (t := 23) (by first | (go_simp; done) | (go_simp; rfl)) ?_; intro g3 hg w3 hbox hb; have H3 := Aside0.mk hbox; have HB2 := Aside0.mk (below_step HB.out hb); clear HB; have HB := HB2; clear HB2 hbox hb hg; obtain ⟨y0, y1, y2, y3, y4, y5, y6, y7, yf0, yf1, yf2, yf3, yf4, yf5, yf6, yf7⟩ := cells8 H3.out) | (go_at_call 64; (with_reducible refine (put_q _ _ _ _ (by decide) (by decide) (by decide)).mono ?_); rintro e w' ⟨rfl, ⟨nd, rfl⟩⟩) | ((with_reducible refine gate_dst (N := 54) rfl ?_); refine lit_event (by rfl) (N := 54) (by rfl) [1, 0, 4, 5, 6, 0, 9, 10] (by decide) (by first | (go_simp; done) | (go_simp; rfl)) ?_; intro Aa wa hCa hb; have HCa := Aside0.mk hCa; have H32 := Aside0.mk (blk_below (by (with_reducible repeat (first | refine blk_drewN ?_ _ | refine blk_drew ?_ | refine blk_alloc ?_ _)); exact H3.out) hb); have HB2 := Aside0.mk (below_step (by repeat (first | (with_reducible first | exact HB.out | apply below_alloc | apply pw_below_drewN | apply below_drew1) | exact HB.out)) hb); clear HB H3 hCa hb y0 y1 y2 y3 y4 y5 y6 y7 yf0 yf1 yf2 yf3 yf4 yf5 yf6 yf7; have HB := HB2; have H3 := H32; clear HB2 H32; obtain ⟨y0, y1, y2, y3, y4, y5, y6, y7, yf0, yf1, yf2, yf3, yf4, yf5, yf6, yf7⟩ := cells8 H3.out) | (go_at_call 65; (refine (idx_at [1, 0, 4, 5, 6, 0, 9, 10] fn (by repeat (first | exact HCa.out | apply Kd.C_drewN | apply Kd.C_drew)) rfl (by decide) (by decide)).mono ?_); rintro e w' ⟨rfl, ⟨nd, rfl⟩⟩) | fail)
    go_ret
    refine ⟨?_, (by repeat (first | (with_reducible first | exact HB.out | apply below_alloc | apply pw_below_drewN | apply below_drew1) | exact HB.out))⟩
    rw [HV.out]
    rfl

end Go.Proofs.YtjapahcbhjjeiaaGreatDoor.AS

/- inst.encode by its contract. -/
namespace Go.Proofs.YtjapahcbhjjeiaaGreatDoor.AS
open Go.RowKit Go.Proofs.YtjapahcbhjjeiaaGreatDoorW.PrintWords Go.Proofs.YtjapahcbhjjeiaaGreatDoorW.PrintLast Go.Proofs.YtjapahcbhjjeiaaGreatDoorW.PrintMore Go.Proofs.YtjapahcbhjjeiaaGreatDoor.PA
set_option linter.unusedVariables false
set_option linter.unusedSimpArgs false
set_option maxRecDepth 100000
set_option maxHeartbeats 8000000

theorem encode_calls (i : Ins) (W : World) : Calls Tryz.prog 43 #[insV i] W fun e w' => e = .returned (.int .u32 (encL i)) ∧ Below W.heap.size W w' := by
  obtain ⟨kind, fn, rd, rs1, rs2, imm, size, sg⟩ := i
  unfold insV
  dsimp only
  have HB := Aside0.mk (Below.refl W.heap.size W)
  have hu23 := Tryz.underlying23
  go_enter Tryz.func43, Tryz.ntmps43
  go_upto_region 1 with (first | ((with_reducible refine gate_dst (N := 1) rfl ?_); refine box_event (by rfl) (N := 1) (by rfl) (cs := #[.int .i64 kind, .int .i64 fn, .int .i64 rd, .int .i64 rs1, .int .i64 rs2, .int .i64 imm, .int .i64 size, .bool sg]) (t := 23) (by first | (go_simp; done) | (go_simp; rfl)) ?_; intro g3 hg w3 hbox hb; have H3 := Aside0.mk hbox; have HB2 := Aside0.mk (below_step HB.out hb); clear HB; have HB := HB2; clear HB2 hbox hb hg; obtain ⟨y0, y1, y2, y3, y4, y5, y6, y7, yf0, yf1, yf2, yf3, yf4, yf5, yf6, yf7⟩ := cells8 H3.out) | fail)
  go_quiet ((go_at_call 64; with_reducible first | refine quiet_from (put_q _ _ _ _ ?_ ?_ ?_) | refine Calls.quiet_of (put_q _ _ _ _ ?_ ?_ ?_)) <;> decide)
  go_upto_region 3 with fail
  have hk : kind = 3 ∨ kind = 5 ∨ kind = 6 ∨ kind = 7 ∨ kind = 13 ∨ kind = 14 ∨ kind = 9 ∨ kind = 8 ∨ kind = 17 ∨ kind = 1 ∨ kind = 2 ∨ kind = 4 ∨ kind = 10 ∨ kind = 11 ∨ kind = 12 ∨ kind = 15 ∨ kind = 16 ∨ kind = 18 ∨ kind = 19 ∨ kind = 20 ∨ kind < 1 ∨ 20 < kind := by omega
  rcases hk with rfl | rfl | rfl | rfl | rfl | rfl | rfl | rfl | rfl | rfl | rfl | rfl | rfl | rfl | rfl | rfl | rfl | rfl | rfl | rfl | h | h
  · go_upto_region 8 with fail
    go_quiet ((go_at_call 64; with_reducible first | refine quiet_from (put_q _ _ _ _ ?_ ?_ ?_) | refine Calls.quiet_of (put_q _ _ _ _ ?_ ?_ ?_)) <;> decide)
    go_wp2
    go_ret
    exact ⟨rfl, (by repeat (first | (with_reducible first | exact HB.out | apply below_alloc | apply pw_below_drewN | apply below_drew1) | exact HB.out))⟩
  · go_upto_region 13 with (first | ((with_reducible refine gate_dst (N := 73) rfl ?_); refine lit_event (by rfl) (N := 73) (by rfl) [1, 2, 0, 0, 3, 4, 5, 6] (by decide) (by first | (go_simp; done) | (go_simp; rfl)) ?_; intro Aa wa hCa hb; have HCa := Aside0.mk hCa; have H32 := Aside0.mk (blk_below (by (with_reducible repeat (first | refine blk_drewN ?_ _ | refine blk_drew ?_ | refine blk_alloc ?_ _)); exact H3.out) hb); have HB2 := Aside0.mk (below_step (by repeat (first | (with_reducible first | exact HB.out | apply below_alloc | apply pw_below_drewN | apply below_drew1) | exact HB.out)) hb); clear HB H3 hCa hb y0 y1 y2 y3 y4 y5 y6 y7 yf0 yf1 yf2 yf3 yf4 yf5 yf6 yf7; have HB := HB2; have H3 := H32; clear HB2 H32; obtain ⟨y0, y1, y2, y3, y4, y5, y6, y7, yf0, yf1, yf2, yf3, yf4, yf5, yf6, yf7⟩ := cells8 H3.out) | (go_at_call 65; (refine (idx_at [1, 2, 0, 0, 3, 4, 5, 6] fn (by repeat (first | exact HCa.out | apply Kd.C_drewN | apply Kd.C_drew)) rfl (by decide) (by decide)).mono ?_); rintro e w' ⟨rfl, ⟨nd, rfl⟩⟩) | fail)
    go_quiet ((go_at_call 64; with_reducible first | refine quiet_from (put_q _ _ _ _ ?_ ?_ ?_) | refine Calls.quiet_of (put_q _ _ _ _ ?_ ?_ ?_)) <;> decide)
    go_wp2
    go_ret
    exact ⟨rfl, (by repeat (first | (with_reducible first | exact HB.out | apply below_alloc | apply pw_below_drewN | apply below_drew1) | exact HB.out))⟩
  · cases sg
    all_goals
      go_upto_region 18 with (first | ((with_reducible refine gate_dst (N := 104) rfl ?_); refine lit_event (by rfl) (N := 104) (by rfl) [1, 2, 4, 8] (by decide) (by first | (go_simp; done) | (go_simp; rfl)) ?_; intro Aa wa hCa hb; have HCa := Aside0.mk hCa; have H32 := Aside0.mk (blk_below (by (with_reducible repeat (first | refine blk_drewN ?_ _ | refine blk_drew ?_ | refine blk_alloc ?_ _)); exact H3.out) hb); have HB2 := Aside0.mk (below_step (by repeat (first | (with_reducible first | exact HB.out | apply below_alloc | apply pw_below_drewN | apply below_drew1) | exact HB.out)) hb); clear HB H3 hCa hb y0 y1 y2 y3 y4 y5 y6 y7 yf0 yf1 yf2 yf3 yf4 yf5 yf6 yf7; have HB := HB2; have H3 := H32; clear HB2 H32; obtain ⟨y0, y1, y2, y3, y4, y5, y6, y7, yf0, yf1, yf2, yf3, yf4, yf5, yf6, yf7⟩ := cells8 H3.out) | (go_at_call 65; (refine (idx_at [1, 2, 4, 8] size (by repeat (first | exact HCa.out | apply Kd.C_drewN | apply Kd.C_drew)) rfl (by decide) (by decide)).mono ?_); rintro e w' ⟨rfl, ⟨nd, rfl⟩⟩) | fail)
      go_quiet ((go_at_call 64; with_reducible first | refine quiet_from (put_q _ _ _ _ ?_ ?_ ?_) | refine Calls.quiet_of (put_q _ _ _ _ ?_ ?_ ?_)) <;> decide)
      go_wp2
      go_ret
      exact ⟨rfl, (by repeat (first | (with_reducible first | exact HB.out | apply below_alloc | apply pw_below_drewN | apply below_drew1) | exact HB.out))⟩
  · go_upto_region 20 with fail
    refine startR (n := 18) (S := fun w' => w'.cell? ⟨g3, 6, none⟩ = some (.int .i64 size) ∧ w'.cell? ⟨g3, 5, none⟩ = some (.int .i64 imm)) (ds := []) (by kernel_rfl) rfl ⟨(blk_cell (by (with_reducible repeat (first | refine blk_drewN ?_ _ | refine blk_drew ?_ | refine blk_alloc ?_ _)); exact H3.out) 6).trans rfl, (blk_cell (by (with_reducible repeat (first | refine blk_drewN ?_ _ | refine blk_drew ?_ | refine blk_alloc ?_ _)); exact H3.out) 5).trans rfl⟩ (fun hS => ?_)
    refine pureR 0 (N := some 124) (v := ?_) (a' := ?_) rfl rfl (by kernel_rfl) (fun _ _ _ h => h) (Or.inl ⟨by rfl, ?_⟩) ?_ ?_; rotate_left; (· (intro w'; first | (go_simp; done) | (go_simp; with_reducible rfl))); rotate_left; (· (simp only [Act.put, putS]; rfl))
    refine pureR 1 (N := some 125) (v := ?_) (a' := ?_) rfl rfl (by kernel_rfl) (fun _ _ _ h => h) (Or.inl ⟨by rfl, ?_⟩) ?_ ?_; rotate_left; (· (intro w'; first | (go_simp; done) | (go_simp; with_reducible rfl))); rotate_left; (· (simp only [Act.put, putS]; rfl))
    refine pureR 3 (N := some 127) (v := ?_) (a' := ?_) rfl rfl (by kernel_rfl) (fun _ _ _ h => h) (Or.inl ⟨by rfl, ?_⟩) ?_ ?_; rotate_left; (· (intro w'; first | (go_simp; done) | (go_simp; with_reducible rfl))); rotate_left; (· (simp only [Act.put, putS]; rfl))
    refine takeR 4 (N := some 128) (v := ?_) (a' := ?_) rfl rfl (by kernel_rfl) (fun _ _ _ h => h) (Or.inl ⟨by rfl, fun w' hS' => ?_⟩) (by assumption) ?_ ?_; rotate_left; (· (obtain ⟨s6, s5⟩ := hS'; first | (go_simp; done) | (go_simp; with_reducible rfl))); rotate_left; (· (simp only [Act.put, putS]; rfl))
    refine pureR 8 (N := some 132) (v := ?_) (a' := ?_) rfl rfl (by kernel_rfl) (fun _ _ _ h => h) (Or.inl ⟨by rfl, ?_⟩) ?_ ?_; rotate_left; (· (intro w'; first | (go_simp; done) | (go_simp; with_reducible rfl))); rotate_left; (· (simp only [Act.put, putS]; rfl))
    refine takeR 9 (N := some 133) (v := ?_) (a' := ?_) rfl rfl (by kernel_rfl) (fun _ _ _ h => h) (Or.inl ⟨by rfl, fun w' hS' => ?_⟩) (by assumption) ?_ ?_; rotate_left; (· (obtain ⟨s6, s5⟩ := hS'; first | (go_simp; done) | (go_simp; with_reducible rfl))); rotate_left; (· (simp only [Act.put, putS]; rfl))
    refine pureR 10 (N := some 134) (v := ?_) (a' := ?_) rfl rfl (by kernel_rfl) (fun _ _ _ h => h) (Or.inl ⟨by rfl, ?_⟩) ?_ ?_; rotate_left; (· (intro w'; first | (go_simp; done) | (go_simp; with_reducible rfl))); rotate_left; (· (simp only [Act.put, putS]; rfl))
    refine pureR 13 (N := some 137) (v := ?_) (a' := ?_) rfl rfl (by kernel_rfl) (fun _ _ _ h => h) (Or.inl ⟨by rfl, ?_⟩) ?_ ?_; rotate_left; (· (intro w'; first | (go_simp; done) | (go_simp; with_reducible rfl))); rotate_left; (· (simp only [Act.put, putS]; rfl))
    refine takeR 14 (N := some 138) (v := ?_) (a' := ?_) rfl rfl (by kernel_rfl) (fun _ _ _ h => h) (Or.inl ⟨by rfl, fun w' hS' => ?_⟩) (by assumption) ?_ ?_; rotate_left; (· (obtain ⟨s6, s5⟩ := hS'; first | (go_simp; done) | (go_simp; with_reducible rfl))); rotate_left; (· (simp only [Act.put, putS]; rfl))
    refine oneR 2 (N := some 126) rfl rfl (by kernel_rfl) (by decide) (fun K hK => ?_); (refine lit_step ?hg [1, 2, 4, 8] (by decide) ?hr ?_; (case hg => rfl); (case hr => first | (go_simp; done) | (go_simp; rfl)); intro Aa wa hCa hb; have HCa := Aside0.mk hCa; have H32 := Aside0.mk (blk_below (by (with_reducible repeat (first | refine blk_drewN ?_ _ | refine blk_drew ?_ | refine blk_alloc ?_ _)); exact H3.out) hb); have HB2 := Aside0.mk (below_step (by repeat (first | (with_reducible first | exact HB.out | apply below_alloc | apply pw_below_drewN | apply below_drew1) | exact HB.out)) hb); clear hb hCa HB H3; have HB := HB2; have H3 := H32; clear HB2 H32; refine hK.out _ _ ⟨(blk_cell (by (with_reducible repeat (first | refine blk_drewN ?_ _ | refine blk_drew ?_ | refine blk_alloc ?_ _)); exact H3.out) 6).trans rfl, (blk_cell (by (with_reducible repeat (first | refine blk_drewN ?_ _ | refine blk_drew ?_ | refine blk_alloc ?_ _)); exact H3.out) 5).trans rfl⟩ (fun hS => ?_); clear hK K; refine norm_ (a' := ?_) ?_ ?_; rotate_left; (· (show Act.put _ (some 126) _ = _; simp only [Act.put, putS]; rfl)))
    refine oneR 5 (N := some 129) rfl rfl (by kernel_rfl) (by decide) (fun K hK => ?_); (refine goes_ Tryz.func65 (by kernel_rfl) rfl #[.slice Aa 4 4, .int .i64 size] (by rfl) rfl rfl (by (try simp only [List.map_toArray, List.map_cons, List.map_nil]); first | done | rfl) ?_; refine (idx_at [1, 2, 4, 8] size (by repeat (first | exact HCa.out | apply Kd.C_drewN | apply Kd.C_drew)) rfl (by decide) (by decide)).mono ?_; rintro e w' ⟨rfl, ⟨nd, rfl⟩⟩; refine ⟨_, rfl, ?_⟩; refine hK.out _ _ ⟨(blk_cell (by (with_reducible repeat (first | refine blk_drewN ?_ _ | refine blk_drew ?_ | refine blk_alloc ?_ _)); exact H3.out) 6).trans rfl, (blk_cell (by (with_reducible repeat (first | refine blk_drewN ?_ _ | refine blk_drew ?_ | refine blk_alloc ?_ _)); exact H3.out) 5).trans rfl⟩ (fun hS => ?_); clear hK K; refine norm_ (a' := ?_) ?_ ?_; rotate_left; (· (show Act.put _ (some 129) _ = _; simp only [Act.put, putS]; rfl)))
    refine oneR 6 (N := some 130) rfl rfl (by kernel_rfl) (by decide) (fun K hK => ?_); (refine goes_ Tryz.func64 (by kernel_rfl) rfl #[.int .i64 (idxL [1, 2, 4, 8] size), .int .i64 14, .int .i64 12] (by rfl) rfl rfl (by (try simp only [List.map_toArray, List.map_cons, List.map_nil]); first | done | rfl) ?_; refine (put_q _ _ _ _ (by decide) (by decide) (by decide)).mono ?_; rintro e w' ⟨rfl, ⟨nd, rfl⟩⟩; refine ⟨_, rfl, ?_⟩; refine hK.out _ _ ⟨(blk_cell (by (with_reducible repeat (first | refine blk_drewN ?_ _ | refine blk_drew ?_ | refine blk_alloc ?_ _)); exact H3.out) 6).trans rfl, (blk_cell (by (with_reducible repeat (first | refine blk_drewN ?_ _ | refine blk_drew ?_ | refine blk_alloc ?_ _)); exact H3.out) 5).trans rfl⟩ (fun hS => ?_); clear hK K; refine norm_ (a' := ?_) ?_ ?_; rotate_left; (· (show Act.put _ (some 130) _ = _; simp only [Act.put, putS]; rfl)))
    refine pureR 7 (N := some 131) (v := ?_) (a' := ?_) rfl rfl (by kernel_rfl) (fun _ _ _ h => h) (Or.inl ⟨by rfl, ?_⟩) ?_ ?_; rotate_left; (· (intro w'; first | (go_simp; done) | (go_simp; with_reducible rfl))); rotate_left; (· (simp only [Act.put, putS]; rfl))
    refine oneR 11 (N := some 135) rfl rfl (by kernel_rfl) (by decide) (fun K hK => ?_); (refine goes_ Tryz.func64 (by kernel_rfl) rfl #[.int .i64 (imm / 32), .int .i64 31, .int .i64 25] (by rfl) rfl rfl (by (try simp only [List.map_toArray, List.map_cons, List.map_nil]); first | done | rfl) ?_; refine (put_q _ _ _ _ (by decide) (by decide) (by decide)).mono ?_; rintro e w' ⟨rfl, ⟨nd, rfl⟩⟩; refine ⟨_, rfl, ?_⟩; refine hK.out _ _ ⟨(blk_cell (by (with_reducible repeat (first | refine blk_drewN ?_ _ | refine blk_drew ?_ | refine blk_alloc ?_ _)); exact H3.out) 6).trans rfl, (blk_cell (by (with_reducible repeat (first | refine blk_drewN ?_ _ | refine blk_drew ?_ | refine blk_alloc ?_ _)); exact H3.out) 5).trans rfl⟩ (fun hS => ?_); clear hK K; refine norm_ (a' := ?_) ?_ ?_; rotate_left; (· (show Act.put _ (some 135) _ = _; simp only [Act.put, putS]; rfl)))
    refine pureR 12 (N := some 136) (v := ?_) (a' := ?_) rfl rfl (by kernel_rfl) (fun _ _ _ h => h) (Or.inl ⟨by rfl, ?_⟩) ?_ ?_; rotate_left; (· (intro w'; first | (go_simp; done) | (go_simp; with_reducible rfl))); rotate_left; (· (simp only [Act.put, putS]; rfl))
    refine oneR 15 (N := some 139) rfl rfl (by kernel_rfl) (by decide) (fun K hK => ?_); (refine goes_ Tryz.func64 (by kernel_rfl) rfl #[.int .i64 (imm), .int .i64 11, .int .i64 7] (by rfl) rfl rfl (by (try simp only [List.map_toArray, List.map_cons, List.map_nil]); first | done | rfl) ?_; refine (put_q _ _ _ _ (by decide) (by decide) (by decide)).mono ?_; rintro e w' ⟨rfl, ⟨nd, rfl⟩⟩; refine ⟨_, rfl, ?_⟩; refine hK.out _ _ ⟨(blk_cell (by (with_reducible repeat (first | refine blk_drewN ?_ _ | refine blk_drew ?_ | refine blk_alloc ?_ _)); exact H3.out) 6).trans rfl, (blk_cell (by (with_reducible repeat (first | refine blk_drewN ?_ _ | refine blk_drew ?_ | refine blk_alloc ?_ _)); exact H3.out) 5).trans rfl⟩ (fun hS => ?_); clear hK K; refine norm_ (a' := ?_) ?_ ?_; rotate_left; (· (show Act.put _ (some 139) _ = _; simp only [Act.put, putS]; rfl)))
    refine pureR 16 (N := some 140) (v := ?_) (a' := ?_) rfl rfl (by kernel_rfl) (fun _ _ _ h => h) (Or.inl ⟨by rfl, ?_⟩) ?_ ?_; rotate_left; (· (intro w'; first | (go_simp; done) | (go_simp; with_reducible rfl))); rotate_left; (· (simp only [Act.put, putS]; rfl))
    refine pureR 17 (N := some 2) (v := ?_) (a' := ?_) rfl rfl (by kernel_rfl) (fun _ _ _ h => h) (Or.inl ⟨by rfl, ?_⟩) ?_ ?_; rotate_left; (· (intro w'; first | (go_simp; done) | (go_simp; with_reducible rfl))); rotate_left; (· (simp only [Act.put, putS]; rfl))
    refine done_ (by kernel_rfl) ?_
    go_wp2
    go_ret
    exact ⟨rfl, (by repeat (first | (with_reducible first | exact HB.out | apply below_alloc | apply pw_below_drewN | apply below_drew1) | exact HB.out))⟩
  · go_upto_region 38 with fail
    go_quiet ((go_at_call 64; with_reducible first | refine quiet_from (put_q _ _ _ _ ?_ ?_ ?_) | refine Calls.quiet_of (put_q _ _ _ _ ?_ ?_ ?_)) <;> decide)
    go_wp2
    go_ret
    exact ⟨rfl, (by repeat (first | (with_reducible first | exact HB.out | apply below_alloc | apply pw_below_drewN | apply below_drew1) | exact HB.out))⟩
  · go_upto_region 40 with fail
    go_quiet ((go_at_call 64; with_reducible first | refine quiet_from (put_q _ _ _ _ ?_ ?_ ?_) | refine Calls.quiet_of (put_q _ _ _ _ ?_ ?_ ?_)) <;> decide)
    go_wp2
    go_ret
    exact ⟨rfl, (by repeat (first | (with_reducible first | exact HB.out | apply below_alloc | apply pw_below_drewN | apply below_drew1) | exact HB.out))⟩
  · go_wp2_with (first | (go_at_call 66; (with_reducible refine (encImm_calls _).mono ?_); rintro e w' ⟨rfl, hb⟩; have HB2 := Aside0.mk (below_step (by repeat (first | (with_reducible first | exact HB.out | apply below_alloc | apply pw_below_drewN | apply below_drew1) | exact HB.out)) hb); clear HB hb; have HB := HB2; clear HB2) | fail)
    go_wp2
    go_ret
    exact ⟨rfl, (by repeat (first | (with_reducible first | exact HB.out | apply below_alloc | apply pw_below_drewN | apply below_drew1) | exact HB.out))⟩
  · go_wp2_with (first | (go_at_call 67; (with_reducible refine (inst_encodeRegister.calls 100 8 fn rd rs1 rs2 imm size sg _ _ (encReg_f ⟨8, fn, rd, rs1, rs2, imm, size, sg⟩)).mono ?_); rintro e w' ⟨rfl, hb⟩; have HB2 := Aside0.mk (below_step (by repeat (first | (with_reducible first | exact HB.out | apply below_alloc | apply pw_below_drewN | apply below_drew1) | exact HB.out)) hb); clear HB hb; have HB := HB2; clear HB2) | fail)
    go_wp2
    go_ret
    exact ⟨rfl, (by repeat (first | (with_reducible first | exact HB.out | apply below_alloc | apply pw_below_drewN | apply below_drew1) | exact HB.out))⟩
  · go_upto_region 48 with (first | ((with_reducible refine gate_dst (N := 193) rfl ?_); refine lit_event (by rfl) (N := 193) (by rfl) [4, 8] (by decide) (by first | (go_simp; done) | (go_simp; rfl)) ?_; intro Aa wa hCa hb; have HCa := Aside0.mk hCa; have H32 := Aside0.mk (blk_below (by (with_reducible repeat (first | refine blk_drewN ?_ _ | refine blk_drew ?_ | refine blk_alloc ?_ _)); exact H3.out) hb); have HB2 := Aside0.mk (below_step (by repeat (first | (with_reducible first | exact HB.out | apply below_alloc | apply pw_below_drewN | apply below_drew1) | exact HB.out)) hb); clear HB H3 hCa hb y0 y1 y2 y3 y4 y5 y6 y7 yf0 yf1 yf2 yf3 yf4 yf5 yf6 yf7; have HB := HB2; have H3 := H32; clear HB2 H32; obtain ⟨y0, y1, y2, y3, y4, y5, y6, y7, yf0, yf1, yf2, yf3, yf4, yf5, yf6, yf7⟩ := cells8 H3.out) | (go_at_call 65; (refine (idx_at [4, 8] size (by repeat (first | exact HCa.out | apply Kd.C_drewN | apply Kd.C_drew)) rfl (by decide) (by decide)).mono ?_); rintro e w' ⟨rfl, ⟨nd, rfl⟩⟩) | (go_at_call 64; (with_reducible refine (put_q _ _ _ _ (by decide) (by decide) (by decide)).mono ?_); rintro e w' ⟨rfl, ⟨nd, rfl⟩⟩) | fail)
    go_wp2_with (first | ((with_reducible refine gate_dst (N := 215) rfl ?_); refine lit_event (by rfl) (N := 215) (by rfl) [2, 1, 0, 0, 3, 0, 0, 0, 5, 0, 0, 0, 4, 0, 0, 0, 6, 0, 0, 0, 7, 0, 0, 0, 8, 0, 0, 0, 9] (by decide) (by first | (go_simp; done) | (go_simp; rfl)) ?_; intro Aa wa hCa hb; have HCa := Aside0.mk hCa; have H32 := Aside0.mk (blk_below (by (with_reducible repeat (first | refine blk_drewN ?_ _ | refine blk_drew ?_ | refine blk_alloc ?_ _)); exact H3.out) hb); have HB2 := Aside0.mk (below_step (by repeat (first | (with_reducible first | exact HB.out | apply below_alloc | apply pw_below_drewN | apply below_drew1) | exact HB.out)) hb); clear HB H3 hCa hb y0 y1 y2 y3 y4 y5 y6 y7 yf0 yf1 yf2 yf3 yf4 yf5 yf6 yf7; have HB := HB2; have H3 := H32; clear HB2 H32; obtain ⟨y0, y1, y2, y3, y4, y5, y6, y7, yf0, yf1, yf2, yf3, yf4, yf5, yf6, yf7⟩ := cells8 H3.out) | (go_at_call 65; (refine (idx_at [2, 1, 0, 0, 3, 0, 0, 0, 5, 0, 0, 0, 4, 0, 0, 0, 6, 0, 0, 0, 7, 0, 0, 0, 8, 0, 0, 0, 9] fn (by repeat (first | exact HCa.out | apply Kd.C_drewN | apply Kd.C_drew)) rfl (by decide) (by decide)).mono ?_); rintro e w' ⟨rfl, ⟨nd, rfl⟩⟩) | (go_at_call 64; (with_reducible refine (put_q _ _ _ _ (by decide) (by decide) (by decide)).mono ?_); rintro e w' ⟨rfl, ⟨nd, rfl⟩⟩) | fail)
    go_wp2
    go_ret
    exact ⟨rfl, (by repeat (first | (with_reducible first | exact HB.out | apply below_alloc | apply pw_below_drewN | apply below_drew1) | exact HB.out))⟩
  iterate 11 (rotate_left 1)
  · have HV : Aside0 (encL ⟨kind, fn, rd, rs1, rs2, imm, size, sg⟩ = 0) := ⟨by
      unfold encL
      repeat' rw [if_neg (show ¬ kind = _ by omega)]⟩
    have n1 : (kind == 1) = false := beq_false_of_ne (by omega)
    have n2 : (kind == 2) = false := beq_false_of_ne (by omega)
    have n3 : (kind == 3) = false := beq_false_of_ne (by omega)
    have n4 : (kind == 4) = false := beq_false_of_ne (by omega)
    have n5 : (kind == 5) = false := beq_false_of_ne (by omega)
    have n6 : (kind == 6) = false := beq_false_of_ne (by omega)
    have n7 : (kind == 7) = false := beq_false_of_ne (by omega)
    have n8 : (kind == 8) = false := beq_false_of_ne (by omega)
    have n9 : (kind == 9) = false := beq_false_of_ne (by omega)
    have n10 : (kind == 10) = false := beq_false_of_ne (by omega)
    have n11 : (kind == 11) = false := beq_false_of_ne (by omega)
    have n12 : (kind == 12) = false := beq_false_of_ne (by omega)
    have n13 : (kind == 13) = false := beq_false_of_ne (by omega)
    have n14 : (kind == 14) = false := beq_false_of_ne (by omega)
    have n15 : (kind == 15) = false := beq_false_of_ne (by omega)
    have n16 : (kind == 16) = false := beq_false_of_ne (by omega)
    have n17 : (kind == 17) = false := beq_false_of_ne (by omega)
    have n18 : (kind == 18) = false := beq_false_of_ne (by omega)
    have n19 : (kind == 19) = false := beq_false_of_ne (by omega)
    have n20 : (kind == 20) = false := beq_false_of_ne (by omega)
    clear h
    go_wp2_with (first | (go_at_call 64; (with_reducible refine (put_q _ _ _ _ (by decide) (by decide) (by decide)).mono ?_); rintro e w' ⟨rfl, ⟨nd, rfl⟩⟩) | ((with_reducible refine gate_dst (N := 193) rfl ?_); refine lit_event (by rfl) (N := 193) (by rfl) [4, 8] (by decide) (by first | (go_simp; done) | (go_simp; rfl)) ?_; intro Aa wa hCa hb; have HCa := Aside0.mk hCa; have H32 := Aside0.mk (blk_below (by (with_reducible repeat (first | refine blk_drewN ?_ _ | refine blk_drew ?_ | refine blk_alloc ?_ _)); exact H3.out) hb); have HB2 := Aside0.mk (below_step (by repeat (first | (with_reducible first | exact HB.out | apply below_alloc | apply pw_below_drewN | apply below_drew1) | exact HB.out)) hb); clear HB H3 hCa hb y0 y1 y2 y3 y4 y5 y6 y7 yf0 yf1 yf2 yf3 yf4 yf5 yf6 yf7; have HB := HB2; have H3 := H32; clear HB2 H32; obtain ⟨y0, y1, y2, y3, y4, y5, y6, y7, yf0, yf1, yf2, yf3, yf4, yf5, yf6, yf7⟩ := cells8 H3.out) | (go_at_call 65; (refine (idx_at [4, 8] size (by repeat (first | exact HCa.out | apply Kd.C_drewN | apply Kd.C_drew)) rfl (by decide) (by decide)).mono ?_); rintro e w' ⟨rfl, ⟨nd, rfl⟩⟩) | fail)
    go_wp2
    go_ret
    exact ⟨by rw [HV.out]; rfl, (by repeat (first | (with_reducible first | exact HB.out | apply below_alloc | apply pw_below_drewN | apply below_drew1) | exact HB.out))⟩
  · have HV : Aside0 (encL ⟨kind, fn, rd, rs1, rs2, imm, size, sg⟩ = 0) := ⟨by
      unfold encL
      repeat' rw [if_neg (show ¬ kind = _ by omega)]⟩
    have n1 : (kind == 1) = false := beq_false_of_ne (by omega)
    have n2 : (kind == 2) = false := beq_false_of_ne (by omega)
    have n3 : (kind == 3) = false := beq_false_of_ne (by omega)
    have n4 : (kind == 4) = false := beq_false_of_ne (by omega)
    have n5 : (kind == 5) = false := beq_false_of_ne (by omega)
    have n6 : (kind == 6) = false := beq_false_of_ne (by omega)
    have n7 : (kind == 7) = false := beq_false_of_ne (by omega)
    have n8 : (kind == 8) = false := beq_false_of_ne (by omega)
    have n9 : (kind == 9) = false := beq_false_of_ne (by omega)
    have n10 : (kind == 10) = false := beq_false_of_ne (by omega)
    have n11 : (kind == 11) = false := beq_false_of_ne (by omega)
    have n12 : (kind == 12) = false := beq_false_of_ne (by omega)
    have n13 : (kind == 13) = false := beq_false_of_ne (by omega)
    have n14 : (kind == 14) = false := beq_false_of_ne (by omega)
    have n15 : (kind == 15) = false := beq_false_of_ne (by omega)
    have n16 : (kind == 16) = false := beq_false_of_ne (by omega)
    have n17 : (kind == 17) = false := beq_false_of_ne (by omega)
    have n18 : (kind == 18) = false := beq_false_of_ne (by omega)
    have n19 : (kind == 19) = false := beq_false_of_ne (by omega)
    have n20 : (kind == 20) = false := beq_false_of_ne (by omega)
    clear h
    go_wp2_with (first | (go_at_call 64; (with_reducible refine (put_q _ _ _ _ (by decide) (by decide) (by decide)).mono ?_); rintro e w' ⟨rfl, ⟨nd, rfl⟩⟩) | ((with_reducible refine gate_dst (N := 193) rfl ?_); refine lit_event (by rfl) (N := 193) (by rfl) [4, 8] (by decide) (by first | (go_simp; done) | (go_simp; rfl)) ?_; intro Aa wa hCa hb; have HCa := Aside0.mk hCa; have H32 := Aside0.mk (blk_below (by (with_reducible repeat (first | refine blk_drewN ?_ _ | refine blk_drew ?_ | refine blk_alloc ?_ _)); exact H3.out) hb); have HB2 := Aside0.mk (below_step (by repeat (first | (with_reducible first | exact HB.out | apply below_alloc | apply pw_below_drewN | apply below_drew1) | exact HB.out)) hb); clear HB H3 hCa hb y0 y1 y2 y3 y4 y5 y6 y7 yf0 yf1 yf2 yf3 yf4 yf5 yf6 yf7; have HB := HB2; have H3 := H32; clear HB2 H32; obtain ⟨y0, y1, y2, y3, y4, y5, y6, y7, yf0, yf1, yf2, yf3, yf4, yf5, yf6, yf7⟩ := cells8 H3.out) | (go_at_call 65; (refine (idx_at [4, 8] size (by repeat (first | exact HCa.out | apply Kd.C_drewN | apply Kd.C_drew)) rfl (by decide) (by decide)).mono ?_); rintro e w' ⟨rfl, ⟨nd, rfl⟩⟩) | fail)
    go_wp2
    go_ret
    exact ⟨by rw [HV.out]; rfl, (by repeat (first | (with_reducible first | exact HB.out | apply below_alloc | apply pw_below_drewN | apply below_drew1) | exact HB.out))⟩
  all_goals
    go_wp2_with (first | (go_at_call 64; (with_reducible refine (put_q _ _ _ _ (by decide) (by decide) (by decide)).mono ?_); rintro e w' ⟨rfl, ⟨nd, rfl⟩⟩) | ((with_reducible refine gate_dst (N := 193) rfl ?_); refine lit_event (by rfl) (N := 193) (by rfl) [4, 8] (by decide) (by first | (go_simp; done) | (go_simp; rfl)) ?_; intro Aa wa hCa hb; have HCa := Aside0.mk hCa; have H32 := Aside0.mk (blk_below (by (with_reducible repeat (first | refine blk_drewN ?_ _ | refine blk_drew ?_ | refine blk_alloc ?_ _)); exact H3.out) hb); have HB2 := Aside0.mk (below_step (by repeat (first | (with_reducible first | exact HB.out | apply below_alloc | apply pw_below_drewN | apply below_drew1) | exact HB.out)) hb); clear HB H3 hCa hb y0 y1 y2 y3 y4 y5 y6 y7 yf0 yf1 yf2 yf3 yf4 yf5 yf6 yf7; have HB := HB2; have H3 := H32; clear HB2 H32; obtain ⟨y0, y1, y2, y3, y4, y5, y6, y7, yf0, yf1, yf2, yf3, yf4, yf5, yf6, yf7⟩ := cells8 H3.out) | (go_at_call 65; (refine (idx_at [4, 8] size (by repeat (first | exact HCa.out | apply Kd.C_drewN | apply Kd.C_drew)) rfl (by decide) (by decide)).mono ?_); rintro e w' ⟨rfl, ⟨nd, rfl⟩⟩) | fail)
    go_wp2
    go_ret
    exact ⟨rfl, (by repeat (first | (with_reducible first | exact HB.out | apply below_alloc | apply pw_below_drewN | apply below_drew1) | exact HB.out))⟩

end Go.Proofs.YtjapahcbhjjeiaaGreatDoor.AS
