/- Several texts in one. -/
import Derived.Test.YtjapahcbhjjeiaaGreatDoorL8
import Derived.Test.YtjapahcbhjjeiaaGreatDoorF2
import Derived.Test.YtjapahcbhjjeiaaGreatDoorRX
import Derived.Deep.QuietTactic
import Derived.BigQuiet
import Derived.Test.YtjapahcbhjjeiaaGreatDoorL9
import Derived.Test.YtjapahcbhjjeiaaGreatDoorG14
/- The document's word of an instruction, walked. -/
namespace Go.Proofs.YtjapahcbhjjeiaaGreatDoor.AS
open Go.RowKit Go.Proofs.YtjapahcbhjjeiaaGreatDoorW.PrintWords Go.Proofs.YtjapahcbhjjeiaaGreatDoorW.PrintLast Go.Proofs.YtjapahcbhjjeiaaGreatDoorW.PrintMore Go.Proofs.YtjapahcbhjjeiaaGreatDoor.PA
set_option linter.unusedVariables false
set_option linter.unusedSimpArgs false
set_option maxRecDepth 100000
set_option maxHeartbeats 8000000

theorem rat_q (v n lo : Int) (W : World) (hv : -9223372036854775808 ≤ v ∧ v ≤ 9223372036854775807) (h1 : 1 ≤ n) (h0 : 0 ≤ lo) (h2 : n + lo ≤ 32) (h3 : lo ≤ 31) :
    Calls Tryz.prog 76 #[.int .i64 v, .int .i64 n, .int .i64 lo] W fun e w' => e = .returned (.int .u32 (atL v n.toNat lo.toNat)) ∧ ∃ m, w' = W.drewN m :=
  rat_calls v n.toNat lo.toNat W hv.1 hv.2 (by omega) (by omega) (by omega) (by omega) (by omega)
theorem rpick_q {W : World} {A : Option Addr} {n c : Nat} (xs : List Int) (i : Int) (hC : Kd.C (Kd.int .i64) W A xs.length xs) (hn : n = xs.length) (hc : n ≤ c) :
    Calls Tryz.prog 77 #[.slice A n c, .int .i64 i] W fun e w' => e = .returned (.int .i64 (pickL xs i)) ∧ ∃ m, w' = W.drewN m :=
  (rpick_at xs i hC hn hc).mono fun e w' h => ⟨h.1, h.2.out⟩
structure Rg (i : Ins) : Prop where
  imm : -2147483648 ≤ i.imm ∧ i.imm < 2147483648
  rd : 0 ≤ i.rd ∧ i.rd ≤ 31
  rs1 : 0 ≤ i.rs1 ∧ i.rs1 ≤ 31
  rs2 : 0 ≤ i.rs2 ∧ i.rs2 ≤ 31
  fn : 0 ≤ i.fn ∧ i.fn ≤ 28
  size : 0 ≤ i.size ∧ i.size ≤ 8
theorem pick_b (l : List Int) (h : (l.all fun x => decide (0 ≤ x ∧ x ≤ 31)) = true) (k : Int) : 0 ≤ pickL l k ∧ pickL l k ≤ 31 := by
  unfold pickL
  split
  · omega
  · rename_i hk
    have hlt : k.toNat < l.length := by omega
    rw [List.getD_eq_getElem?_getD, List.getElem?_eq_getElem hlt, Option.getD_some]
    have := List.all_eq_true.1 h _ (List.getElem_mem hlt)
    simpa using this

theorem in_q (v l h : Int) (W : World) : Calls Tryz.prog 50 #[.int .i64 v, .int .i64 l, .int .i64 h] W fun e w' => e = .returned (.bool (decide (l ≤ v ∧ v ≤ h))) ∧ ∃ m, w' = W.drewN m :=
  (citadelref02_in.calls v l h _ W (by
    unfold citadelref02_in.f
    by_cases a : v ≥ l
    · rw [if_pos a]; congr 1; simp [show l ≤ v from a]
    · rw [if_neg a]; congr 1; simp [show ¬ l ≤ v from a])).mono fun e w' h => ⟨h.1, h.2.out⟩
theorem alu_calls {fn : Int} (hf : 0 ≤ fn ∧ fn ≤ 28) (W : World) : Calls Tryz.prog 78 #[.int .i64 fn] W fun e w' => e = .returned (.int .u32 (aluR fn)) ∧ Below W.heap.size W w' := by
  have HB := Aside0.mk (Below.refl W.heap.size W)
  have hp := pick_b f3R (by decide) fn
  unfold f3R at hp
  go_enter Tryz.func78, Tryz.ntmps78
  go_upto_region 3 with (first | ((with_reducible refine gate_dst (N := 5) rfl ?_); refine lit_event (by rfl) (N := 5) (by rfl) [0, 0, 0, 1, 2, 3, 4, 5, 5, 6, 7, 0, 1, 2, 3, 4, 5, 6, 7, 0, 0, 1, 5, 5, 0, 4, 5, 6, 7] (by decide) (by first | (go_simp; done) | (go_simp; rfl)) ?_; intro Aa wa hCa hb; have HCa := Aside0.mk hCa; have HB2 := Aside0.mk (below_step (by repeat (first | (with_reducible first | exact HB.out | apply below_alloc | apply pw_below_drewN | apply below_drew1) | exact HB.out)) hb); clear HB hCa hb; have HB := HB2; clear HB2) | (go_at_call 77; (refine (rpick_q [0, 0, 0, 1, 2, 3, 4, 5, 5, 6, 7, 0, 1, 2, 3, 4, 5, 6, 7, 0, 0, 1, 5, 5, 0, 4, 5, 6, 7] fn (by repeat (first | exact HCa.out | apply Kd.C_drewN | apply Kd.C_drew)) rfl (by decide)).mono ?_); rintro e w' ⟨rfl, ⟨nd, rfl⟩⟩) | (go_at_call 76; (with_reducible refine (rat_q _ _ _ _ (by omega) (by decide) (by decide) (by decide) (by decide)).mono ?_); rintro e w' ⟨rfl, ⟨nd, rfl⟩⟩) | fail)
  have hc : fn = 0 ∨ fn = 1 ∨ fn = 2 ∨ fn = 3 ∨ fn = 4 ∨ fn = 5 ∨ fn = 6 ∨ fn = 7 ∨ fn = 8 ∨ fn = 9 ∨ fn = 10 ∨ fn = 11 ∨ fn = 12 ∨ fn = 13 ∨ fn = 14 ∨ fn = 15 ∨ fn = 16 ∨ fn = 17 ∨ fn = 18 ∨ fn = 19 ∨ fn = 20 ∨ fn = 21 ∨ fn = 22 ∨ fn = 23 ∨ fn = 24 ∨ fn = 25 ∨ fn = 26 ∨ fn = 27 ∨ fn = 28 := by omega
  rcases hc with rfl | rfl | rfl | rfl | rfl | rfl | rfl | rfl | rfl | rfl | rfl | rfl | rfl | rfl | rfl | rfl | rfl | rfl | rfl | rfl | rfl | rfl | rfl | rfl | rfl | rfl | rfl | rfl | rfl
  all_goals
    go_wp2_with (first | (go_at_call 50; (with_reducible refine (in_q _ _ _ _).mono ?_); rintro e w' ⟨rfl, ⟨nd, rfl⟩⟩) | fail)
    go_ret
    exact ⟨rfl, (by repeat (first | (with_reducible first | exact HB.out | apply below_alloc | apply pw_below_drewN | apply below_drew1) | exact HB.out))⟩

theorem word_calls {kind fn rd rs1 rs2 imm size : Int} {sg : Bool} (hR : Rg ⟨kind, fn, rd, rs1, rs2, imm, size, sg⟩) (W : World) : Calls Tryz.prog 51 #[.agg #[.int .i64 kind, .int .i64 fn, .int .i64 rd, .int .i64 rs1, .int .i64 rs2, .int .i64 imm, .int .i64 size, .bool sg]] W fun e w' => e = .returned (.int .u32 (wordR ⟨kind, fn, rd, rs1, rs2, imm, size, sg⟩)) ∧ Below W.heap.size W w' := by
  have HB := Aside0.mk (Below.refl W.heap.size W)
  have hu23 := Tryz.underlying23
  have r1 : -2147483648 ≤ imm ∧ imm < 2147483648 := hR.imm
  have r2 : 0 ≤ rd ∧ rd ≤ 31 := hR.rd
  have r3 : 0 ≤ rs1 ∧ rs1 ≤ 31 := hR.rs1
  have r4 : 0 ≤ rs2 ∧ rs2 ≤ 31 := hR.rs2
  have r5 : 0 ≤ fn ∧ fn ≤ 28 := hR.fn
  have p1 := pick_b [0, 0, 1, 4, 5, 6, 7] (by decide) fn
  have p2 := pick_b [0, 1, 0, 4, 12, 8, 16, 20, 24, 28] (by decide) fn
  clear hR
  go_enter Tryz.func51, Tryz.ntmps51
  go_upto_region 5 with (first | ((with_reducible refine gate_dst (N := 1) rfl ?_); refine box_event (by rfl) (N := 1) (by rfl) (cs := #[.int .i64 kind, .int .i64 fn, .int .i64 rd, .int .i64 rs1, .int .i64 rs2, .int .i64 imm, .int .i64 size, .bool sg]) (t := 23) (by first | (go_simp; done) | (go_simp; rfl)) ?_; intro g3 hg w3 hbox hb; have H3 := Aside0.mk hbox; have HB2 := Aside0.mk (below_step HB.out hb); have HL3 := Aside0.mk (show W.heap.size ≤ g3 by rw [hg]; exact below_size HB.out); clear HB; have HB := HB2; clear HB2 hbox hb hg; obtain ⟨y0, y1, y2, y3, y4, y5, y6, y7, yf0, yf1, yf2, yf3, yf4, yf5, yf6, yf7⟩ := cells8 H3.out) | (go_at_call 76; (with_reducible refine (rat_q _ _ _ _ (by omega) (by decide) (by decide) (by decide) (by decide)).mono ?_); rintro e w' ⟨rfl, ⟨nd, rfl⟩⟩) | fail)
  go_quiet ((go_at_call 76; with_reducible first | refine quiet_from (rat_q _ _ _ _ ?_ ?_ ?_ ?_ ?_) | refine Calls.quiet_of (rat_q _ _ _ _ ?_ ?_ ?_ ?_ ?_)) <;> omega)
  go_upto_region 6 with fail
  go_quiet ((go_at_call 76; with_reducible first | refine quiet_from (rat_q _ _ _ _ ?_ ?_ ?_ ?_ ?_) | refine Calls.quiet_of (rat_q _ _ _ _ ?_ ?_ ?_ ?_ ?_)) <;> omega)
  go_upto_region 10 with (first | ((with_reducible refine gate_dst (N := 63) rfl ?_); refine lit_event (by rfl) (N := 63) (by rfl) [0, 0, 1, 0, 2, 0, 0, 0, 3] (by decide) (by first | (go_simp; done) | (go_simp; rfl)) ?_; intro Aa wa hCa hb; have HCa := Aside0.mk hCa; have H32 := Aside0.mk (blk_below (by (with_reducible repeat (first | refine blk_drewN ?_ _ | refine blk_drew ?_ | refine blk_alloc ?_ _)); exact H3.out) hb); have HB2 := Aside0.mk (below_step (by repeat (first | (with_reducible first | exact HB.out | apply below_alloc | apply pw_below_drewN | apply below_drew1) | exact HB.out)) hb); clear HB H3 hCa hb y0 y1 y2 y3 y4 y5 y6 y7 yf0 yf1 yf2 yf3 yf4 yf5 yf6 yf7; have HB := HB2; have H3 := H32; clear HB2 H32; obtain ⟨y0, y1, y2, y3, y4, y5, y6, y7, yf0, yf1, yf2, yf3, yf4, yf5, yf6, yf7⟩ := cells8 H3.out) | (go_at_call 77; (refine (rpick_q [0, 0, 1, 0, 2, 0, 0, 0, 3] size (by repeat (first | exact HCa.out | apply Kd.C_drewN | apply Kd.C_drew)) rfl (by decide)).mono ?_); rintro e w' ⟨rfl, ⟨nd, rfl⟩⟩) | fail)
  have hk : kind = 13 ∨ kind = 14 ∨ kind = 7 ∨ kind = 6 ∨ kind = 9 ∨ kind = 8 ∨ kind = 17 ∨ kind = 1 ∨ kind = 2 ∨ kind = 3 ∨ kind = 4 ∨ kind = 5 ∨ kind = 10 ∨ kind = 11 ∨ kind = 12 ∨ kind = 15 ∨ kind = 16 ∨ kind = 18 ∨ kind = 19 ∨ kind = 20 ∨ kind < 1 ∨ 20 < kind := by omega
  rcases hk with rfl | rfl | rfl | rfl | rfl | rfl | rfl | rfl | rfl | rfl | rfl | rfl | rfl | rfl | rfl | rfl | rfl | rfl | rfl | rfl | h | h
  · go_upto_region 47 with fail
    go_quiet ((go_at_call 76; with_reducible first | refine quiet_from (rat_q _ _ _ _ ?_ ?_ ?_ ?_ ?_) | refine Calls.quiet_of (rat_q _ _ _ _ ?_ ?_ ?_ ?_ ?_)) <;> omega)
    go_wp2
    go_ret
    exact ⟨rfl, (by repeat (first | (with_reducible first | exact HB.out | apply below_alloc | apply pw_below_drewN | apply below_drew1) | exact HB.out))⟩
  · go_upto_region 49 with fail
    go_quiet ((go_at_call 76; with_reducible first | refine quiet_from (rat_q _ _ _ _ ?_ ?_ ?_ ?_ ?_) | refine Calls.quiet_of (rat_q _ _ _ _ ?_ ?_ ?_ ?_ ?_)) <;> omega)
    go_wp2
    go_ret
    exact ⟨rfl, (by repeat (first | (with_reducible first | exact HB.out | apply below_alloc | apply pw_below_drewN | apply below_drew1) | exact HB.out))⟩
  · go_upto_region 25 with fail
    go_quiet ((go_at_call 76; with_reducible first | refine quiet_from (rat_q _ _ _ _ ?_ ?_ ?_ ?_ ?_) | refine Calls.quiet_of (rat_q _ _ _ _ ?_ ?_ ?_ ?_ ?_)) <;> omega)
    go_wp2
    go_ret
    exact ⟨rfl, (by repeat (first | (with_reducible first | exact HB.out | apply below_alloc | apply pw_below_drewN | apply below_drew1) | exact HB.out))⟩
  · cases sg
    all_goals
      go_wp2_with (first | (go_at_call 76; (with_reducible refine (rat_q _ _ _ _ (by omega) (by decide) (by decide) (by decide) (by decide)).mono ?_); rintro e w' ⟨rfl, ⟨nd, rfl⟩⟩) | fail)
      go_wp2
      go_ret
      exact ⟨rfl, (by repeat (first | (with_reducible first | exact HB.out | apply below_alloc | apply pw_below_drewN | apply below_drew1) | exact HB.out))⟩
  · by_cases hc : 19 ≤ fn ∧ fn ≤ 23
    · have HV : Aside0 (wordR ⟨9, fn, rd, rs1, rs2, imm, size, sg⟩ = orU (orU (orU (orU 27 (aluR fn)) (rdR ⟨9, fn, rd, rs1, rs2, imm, size, sg⟩)) (r1R ⟨9, fn, rd, rs1, rs2, imm, size, sg⟩)) (atL imm 12 20)) := ⟨by simp [wordR, hc]⟩
      have hc1 : decide (19 ≤ fn ∧ fn ≤ 23) = true := by simpa using hc
      go_upto_region 28 with (first | (go_at_call 50; (with_reducible refine (in_q _ _ _ _).mono ?_); rintro e w' ⟨rfl, ⟨nd, rfl⟩⟩) | fail)
      refine startR (n := 13) (S := fun w' => w'.cell? ⟨g3, 1, none⟩ = some (.int .i64 fn) ∧ w'.cell? ⟨g3, 5, none⟩ = some (.int .i64 imm)) (ds := []) (by kernel_rfl) rfl ⟨(blk_cell (by (with_reducible repeat (first | refine blk_drewN ?_ _ | refine blk_drew ?_ | refine blk_alloc ?_ _)); exact H3.out) 1).trans rfl, (blk_cell (by (with_reducible repeat (first | refine blk_drewN ?_ _ | refine blk_drew ?_ | refine blk_alloc ?_ _)); exact H3.out) 5).trans rfl⟩ (fun hS => ?_)
      refine pureR 0 (N := some 160) (v := ?_) (a' := ?_) rfl rfl (by kernel_rfl) (fun _ _ _ h => h) (Or.inl ⟨by rfl, ?_⟩) ?_ ?_; rotate_left; (· (intro w'; first | (go_simp; done) | (go_simp; with_reducible rfl))); rotate_left; (· (simp only [Act.put, putS]; rfl))
      refine takeR 1 (N := some 161) (v := ?_) (a' := ?_) rfl rfl (by kernel_rfl) (fun _ _ _ h => h) (Or.inl ⟨by rfl, fun w' hS' => ?_⟩) (by assumption) ?_ ?_; rotate_left; (· (obtain ⟨s1, s5⟩ := hS'; first | (go_simp; done) | (go_simp; with_reducible rfl))); rotate_left; (· (simp only [Act.put, putS]; rfl))
      refine pureR 4 (N := some 164) (v := ?_) (a' := ?_) rfl rfl (by kernel_rfl) (fun _ _ _ h => h) (Or.inl ⟨by rfl, ?_⟩) ?_ ?_; rotate_left; (· (intro w'; first | (go_simp; done) | (go_simp; with_reducible rfl))); rotate_left; (· (simp only [Act.put, putS]; rfl))
      refine pureR 6 (N := some 166) (v := ?_) (a' := ?_) rfl rfl (by kernel_rfl) (fun _ _ _ h => h) (Or.inl ⟨by rfl, ?_⟩) ?_ ?_; rotate_left; (· (intro w'; first | (go_simp; done) | (go_simp; with_reducible rfl))); rotate_left; (· (simp only [Act.put, putS]; rfl))
      refine pureR 8 (N := some 168) (v := ?_) (a' := ?_) rfl rfl (by kernel_rfl) (fun _ _ _ h => h) (Or.inl ⟨by rfl, ?_⟩) ?_ ?_; rotate_left; (· (intro w'; first | (go_simp; done) | (go_simp; with_reducible rfl))); rotate_left; (· (simp only [Act.put, putS]; rfl))
      refine takeR 9 (N := some 169) (v := ?_) (a' := ?_) rfl rfl (by kernel_rfl) (fun _ _ _ h => h) (Or.inl ⟨by rfl, fun w' hS' => ?_⟩) (by assumption) ?_ ?_; rotate_left; (· (obtain ⟨s1, s5⟩ := hS'; first | (go_simp; done) | (go_simp; with_reducible rfl))); rotate_left; (· (simp only [Act.put, putS]; rfl))
      refine oneR 2 (N := some 162) rfl rfl (by kernel_rfl) (by decide) (fun K hK => ?_); (refine goes_ Tryz.func78 (by kernel_rfl) rfl #[.int .i64 fn] (by rfl) rfl rfl (by simp only [List.map_toArray, List.map_cons, List.map_nil]; rfl) ?_; refine (alu_calls r5 _).mono ?_; rintro e w' ⟨rfl, hb⟩; have H32 := Aside0.mk (blk_below (by (with_reducible repeat (first | refine blk_drewN ?_ _ | refine blk_drew ?_ | refine blk_alloc ?_ _)); exact H3.out) hb); have HB2 := Aside0.mk (below_step (by repeat (first | (with_reducible first | exact HB.out | apply below_alloc | apply pw_below_drewN | apply below_drew1) | exact HB.out)) hb); clear HB H3 hb; have HB := HB2; have H3 := H32; clear HB2 H32; refine ⟨_, rfl, ?_⟩; refine hK.out _ _ ⟨(blk_cell (by (with_reducible repeat (first | refine blk_drewN ?_ _ | refine blk_drew ?_ | refine blk_alloc ?_ _)); exact H3.out) 1).trans rfl, (blk_cell (by (with_reducible repeat (first | refine blk_drewN ?_ _ | refine blk_drew ?_ | refine blk_alloc ?_ _)); exact H3.out) 5).trans rfl⟩ (fun hS => ?_); clear hK K; refine norm_ (a' := ?_) ?_ ?_; rotate_left; (· (show Act.put _ (some 162) _ = _; simp only [Act.put, putS]; rfl)))
      refine pureR 3 (N := some 163) (v := ?_) (a' := ?_) rfl rfl (by kernel_rfl) (fun _ _ _ h => h) (Or.inl ⟨by rfl, ?_⟩) ?_ ?_; rotate_left; (· (intro w'; first | (go_simp; done) | (go_simp; with_reducible rfl))); rotate_left; (· (simp only [Act.put, putS]; rfl))
      refine pureR 5 (N := some 165) (v := ?_) (a' := ?_) rfl rfl (by kernel_rfl) (fun _ _ _ h => h) (Or.inl ⟨by rfl, ?_⟩) ?_ ?_; rotate_left; (· (intro w'; first | (go_simp; done) | (go_simp; with_reducible rfl))); rotate_left; (· (simp only [Act.put, putS]; rfl))
      refine pureR 7 (N := some 167) (v := ?_) (a' := ?_) rfl rfl (by kernel_rfl) (fun _ _ _ h => h) (Or.inl ⟨by rfl, ?_⟩) ?_ ?_; rotate_left; (· (intro w'; first | (go_simp; done) | (go_simp; with_reducible rfl))); rotate_left; (· (simp only [Act.put, putS]; rfl))
      refine oneR 10 (N := some 170) rfl rfl (by kernel_rfl) (by decide) (fun K hK => ?_); (refine goes_ Tryz.func76 (by kernel_rfl) rfl #[.int .i64 imm, .int .i64 12, .int .i64 20] (by rfl) rfl rfl (by simp only [List.map_toArray, List.map_cons, List.map_nil]; rfl) ?_; refine (rat_q _ _ _ _ (by omega) (by decide) (by decide) (by decide) (by decide)).mono ?_; rintro e w' ⟨rfl, ⟨nd, rfl⟩⟩; refine ⟨_, rfl, ?_⟩; refine hK.out _ _ ⟨(blk_cell (by (with_reducible repeat (first | refine blk_drewN ?_ _ | refine blk_drew ?_ | refine blk_alloc ?_ _)); exact H3.out) 1).trans rfl, (blk_cell (by (with_reducible repeat (first | refine blk_drewN ?_ _ | refine blk_drew ?_ | refine blk_alloc ?_ _)); exact H3.out) 5).trans rfl⟩ (fun hS => ?_); clear hK K; refine norm_ (a' := ?_) ?_ ?_; rotate_left; (· (show Act.put _ (some 170) _ = _; simp only [Act.put, putS]; rfl)))
      refine pureR 11 (N := some 171) (v := ?_) (a' := ?_) rfl rfl (by kernel_rfl) (fun _ _ _ h => h) (Or.inl ⟨by rfl, ?_⟩) ?_ ?_; rotate_left; (· (intro w'; first | (go_simp; done) | (go_simp; with_reducible rfl))); rotate_left; (· (simp only [Act.put, putS]; rfl))
      refine pureR 12 (N := some 2) (v := ?_) (a' := ?_) rfl rfl (by kernel_rfl) (fun _ _ _ h => h) (Or.inl ⟨by rfl, ?_⟩) ?_ ?_; rotate_left; (· (intro w'; first | (go_simp; done) | (go_simp; with_reducible rfl))); rotate_left; (· (simp only [Act.put, putS]; rfl))
      refine done_ (by kernel_rfl) ?_
      go_wp2
      go_ret
      exact ⟨by rw [HV.out]; rfl, (by repeat (first | (with_reducible first | exact HB.out | apply below_alloc | apply pw_below_drewN | apply below_drew1) | exact HB.out))⟩
    · have HV : Aside0 (wordR ⟨9, fn, rd, rs1, rs2, imm, size, sg⟩ = orU (orU (orU (orU 19 (aluR fn)) (rdR ⟨9, fn, rd, rs1, rs2, imm, size, sg⟩)) (r1R ⟨9, fn, rd, rs1, rs2, imm, size, sg⟩)) (atL imm 12 20)) := ⟨by simp [wordR, hc]⟩
      have hc1 : decide (19 ≤ fn ∧ fn ≤ 23) = false := by simpa using hc
      go_upto_region 29 with (first | (go_at_call 50; (with_reducible refine (in_q _ _ _ _).mono ?_); rintro e w' ⟨rfl, ⟨nd, rfl⟩⟩) | fail)
      refine startR (n := 13) (S := fun w' => w'.cell? ⟨g3, 1, none⟩ = some (.int .i64 fn) ∧ w'.cell? ⟨g3, 5, none⟩ = some (.int .i64 imm)) (ds := []) (by kernel_rfl) rfl ⟨(blk_cell (by (with_reducible repeat (first | refine blk_drewN ?_ _ | refine blk_drew ?_ | refine blk_alloc ?_ _)); exact H3.out) 1).trans rfl, (blk_cell (by (with_reducible repeat (first | refine blk_drewN ?_ _ | refine blk_drew ?_ | refine blk_alloc ?_ _)); exact H3.out) 5).trans rfl⟩ (fun hS => ?_)
      refine pureR 0 (N := some 172) (v := ?_) (a' := ?_) rfl rfl (by kernel_rfl) (fun _ _ _ h => h) (Or.inl ⟨by rfl, ?_⟩) ?_ ?_; rotate_left; (· (intro w'; first | (go_simp; done) | (go_simp; with_reducible rfl))); rotate_left; (· (simp only [Act.put, putS]; rfl))
      refine takeR 1 (N := some 173) (v := ?_) (a' := ?_) rfl rfl (by kernel_rfl) (fun _ _ _ h => h) (Or.inl ⟨by rfl, fun w' hS' => ?_⟩) (by assumption) ?_ ?_; rotate_left; (· (obtain ⟨s1, s5⟩ := hS'; first | (go_simp; done) | (go_simp; with_reducible rfl))); rotate_left; (· (simp only [Act.put, putS]; rfl))
      refine pureR 4 (N := some 176) (v := ?_) (a' := ?_) rfl rfl (by kernel_rfl) (fun _ _ _ h => h) (Or.inl ⟨by rfl, ?_⟩) ?_ ?_; rotate_left; (· (intro w'; first | (go_simp; done) | (go_simp; with_reducible rfl))); rotate_left; (· (simp only [Act.put, putS]; rfl))
      refine pureR 6 (N := some 178) (v := ?_) (a' := ?_) rfl rfl (by kernel_rfl) (fun _ _ _ h => h) (Or.inl ⟨by rfl, ?_⟩) ?_ ?_; rotate_left; (· (intro w'; first | (go_simp; done) | (go_simp; with_reducible rfl))); rotate_left; (· (simp only [Act.put, putS]; rfl))
      refine pureR 8 (N := some 180) (v := ?_) (a' := ?_) rfl rfl (by kernel_rfl) (fun _ _ _ h => h) (Or.inl ⟨by rfl, ?_⟩) ?_ ?_; rotate_left; (· (intro w'; first | (go_simp; done) | (go_simp; with_reducible rfl))); rotate_left; (· (simp only [Act.put, putS]; rfl))
      refine takeR 9 (N := some 181) (v := ?_) (a' := ?_) rfl rfl (by kernel_rfl) (fun _ _ _ h => h) (Or.inl ⟨by rfl, fun w' hS' => ?_⟩) (by assumption) ?_ ?_; rotate_left; (· (obtain ⟨s1, s5⟩ := hS'; first | (go_simp; done) | (go_simp; with_reducible rfl))); rotate_left; (· (simp only [Act.put, putS]; rfl))
      refine oneR 2 (N := some 174) rfl rfl (by kernel_rfl) (by decide) (fun K hK => ?_); (refine goes_ Tryz.func78 (by kernel_rfl) rfl #[.int .i64 fn] (by rfl) rfl rfl (by simp only [List.map_toArray, List.map_cons, List.map_nil]; rfl) ?_; refine (alu_calls r5 _).mono ?_; rintro e w' ⟨rfl, hb⟩; have H32 := Aside0.mk (blk_below (by (with_reducible repeat (first | refine blk_drewN ?_ _ | refine blk_drew ?_ | refine blk_alloc ?_ _)); exact H3.out) hb); have HB2 := Aside0.mk (below_step (by repeat (first | (with_reducible first | exact HB.out | apply below_alloc | apply pw_below_drewN | apply below_drew1) | exact HB.out)) hb); clear HB H3 hb; have HB := HB2; have H3 := H32; clear HB2 H32; refine ⟨_, rfl, ?_⟩; refine hK.out _ _ ⟨(blk_cell (by (with_reducible repeat (first | refine blk_drewN ?_ _ | refine blk_drew ?_ | refine blk_alloc ?_ _)); exact H3.out) 1).trans rfl, (blk_cell (by (with_reducible repeat (first | refine blk_drewN ?_ _ | refine blk_drew ?_ | refine blk_alloc ?_ _)); exact H3.out) 5).trans rfl⟩ (fun hS => ?_); clear hK K; refine norm_ (a' := ?_) ?_ ?_; rotate_left; (· (show Act.put _ (some 174) _ = _; simp only [Act.put, putS]; rfl)))
      refine pureR 3 (N := some 175) (v := ?_) (a' := ?_) rfl rfl (by kernel_rfl) (fun _ _ _ h => h) (Or.inl ⟨by rfl, ?_⟩) ?_ ?_; rotate_left; (· (intro w'; first | (go_simp; done) | (go_simp; with_reducible rfl))); rotate_left; (· (simp only [Act.put, putS]; rfl))
      refine pureR 5 (N := some 177) (v := ?_) (a' := ?_) rfl rfl (by kernel_rfl) (fun _ _ _ h => h) (Or.inl ⟨by rfl, ?_⟩) ?_ ?_; rotate_left; (· (intro w'; first | (go_simp; done) | (go_simp; with_reducible rfl))); rotate_left; (· (simp only [Act.put, putS]; rfl))
      refine pureR 7 (N := some 179) (v := ?_) (a' := ?_) rfl rfl (by kernel_rfl) (fun _ _ _ h => h) (Or.inl ⟨by rfl, ?_⟩) ?_ ?_; rotate_left; (· (intro w'; first | (go_simp; done) | (go_simp; with_reducible rfl))); rotate_left; (· (simp only [Act.put, putS]; rfl))
      refine oneR 10 (N := some 182) rfl rfl (by kernel_rfl) (by decide) (fun K hK => ?_); (refine goes_ Tryz.func76 (by kernel_rfl) rfl #[.int .i64 imm, .int .i64 12, .int .i64 20] (by rfl) rfl rfl (by simp only [List.map_toArray, List.map_cons, List.map_nil]; rfl) ?_; refine (rat_q _ _ _ _ (by omega) (by decide) (by decide) (by decide) (by decide)).mono ?_; rintro e w' ⟨rfl, ⟨nd, rfl⟩⟩; refine ⟨_, rfl, ?_⟩; refine hK.out _ _ ⟨(blk_cell (by (with_reducible repeat (first | refine blk_drewN ?_ _ | refine blk_drew ?_ | refine blk_alloc ?_ _)); exact H3.out) 1).trans rfl, (blk_cell (by (with_reducible repeat (first | refine blk_drewN ?_ _ | refine blk_drew ?_ | refine blk_alloc ?_ _)); exact H3.out) 5).trans rfl⟩ (fun hS => ?_); clear hK K; refine norm_ (a' := ?_) ?_ ?_; rotate_left; (· (show Act.put _ (some 182) _ = _; simp only [Act.put, putS]; rfl)))
      refine pureR 11 (N := some 183) (v := ?_) (a' := ?_) rfl rfl (by kernel_rfl) (fun _ _ _ h => h) (Or.inl ⟨by rfl, ?_⟩) ?_ ?_; rotate_left; (· (intro w'; first | (go_simp; done) | (go_simp; with_reducible rfl))); rotate_left; (· (simp only [Act.put, putS]; rfl))
      refine pureR 12 (N := some 2) (v := ?_) (a' := ?_) rfl rfl (by kernel_rfl) (fun _ _ _ h => h) (Or.inl ⟨by rfl, ?_⟩) ?_ ?_; rotate_left; (· (intro w'; first | (go_simp; done) | (go_simp; with_reducible rfl))); rotate_left; (· (simp only [Act.put, putS]; rfl))
      refine done_ (by kernel_rfl) ?_
      go_wp2
      go_ret
      exact ⟨by rw [HV.out]; rfl, (by repeat (first | (with_reducible first | exact HB.out | apply below_alloc | apply pw_below_drewN | apply below_drew1) | exact HB.out))⟩
  · by_cases hc : 19 ≤ fn
    · have HV : Aside0 (wordR ⟨8, fn, rd, rs1, rs2, imm, size, sg⟩ = orU (orU 59 (aluR fn)) (rR ⟨8, fn, rd, rs1, rs2, imm, size, sg⟩)) := ⟨by simp [wordR, hc]⟩
      go_wp2_with (first | (go_at_call 78; (with_reducible refine (alu_calls r5 _).mono ?_); rintro e w' ⟨rfl, hb⟩; have H32 := Aside0.mk (blk_below (by (with_reducible repeat (first | refine blk_drewN ?_ _ | refine blk_drew ?_ | refine blk_alloc ?_ _)); exact H3.out) hb); have HB2 := Aside0.mk (below_step (by repeat (first | (with_reducible first | exact HB.out | apply below_alloc | apply pw_below_drewN | apply below_drew1) | exact HB.out)) hb); clear HB H3 hb y0 y1 y2 y3 y4 y5 y6 y7 yf0 yf1 yf2 yf3 yf4 yf5 yf6 yf7; have HB := HB2; have H3 := H32; clear HB2 H32; obtain ⟨y0, y1, y2, y3, y4, y5, y6, y7, yf0, yf1, yf2, yf3, yf4, yf5, yf6, yf7⟩ := cells8 H3.out) | fail)
      go_wp2
      go_ret
      exact ⟨by rw [HV.out]; rfl, (by repeat (first | (with_reducible first | exact HB.out | apply below_alloc | apply pw_below_drewN | apply below_drew1) | exact HB.out))⟩
    · have HV : Aside0 (wordR ⟨8, fn, rd, rs1, rs2, imm, size, sg⟩ = orU (orU 51 (aluR fn)) (rR ⟨8, fn, rd, rs1, rs2, imm, size, sg⟩)) := ⟨by simp [wordR, hc]⟩
      go_wp2_with (first | (go_at_call 78; (with_reducible refine (alu_calls r5 _).mono ?_); rintro e w' ⟨rfl, hb⟩; have H32 := Aside0.mk (blk_below (by (with_reducible repeat (first | refine blk_drewN ?_ _ | refine blk_drew ?_ | refine blk_alloc ?_ _)); exact H3.out) hb); have HB2 := Aside0.mk (below_step (by repeat (first | (with_reducible first | exact HB.out | apply below_alloc | apply pw_below_drewN | apply below_drew1) | exact HB.out)) hb); clear HB H3 hb y0 y1 y2 y3 y4 y5 y6 y7 yf0 yf1 yf2 yf3 yf4 yf5 yf6 yf7; have HB := HB2; have H3 := H32; clear HB2 H32; obtain ⟨y0, y1, y2, y3, y4, y5, y6, y7, yf0, yf1, yf2, yf3, yf4, yf5, yf6, yf7⟩ := cells8 H3.out) | fail)
      go_wp2
      go_ret
      exact ⟨by rw [HV.out]; rfl, (by repeat (first | (with_reducible first | exact HB.out | apply below_alloc | apply pw_below_drewN | apply below_drew1) | exact HB.out))⟩
  · go_wp2_with (first | (go_at_call 76; (with_reducible refine (rat_q _ _ _ _ (by omega) (by decide) (by decide) (by decide) (by decide)).mono ?_); rintro e w' ⟨rfl, ⟨nd, rfl⟩⟩) | ((with_reducible refine gate_dst (N := 263) rfl ?_); refine lit_event (by rfl) (N := 263) (by rfl) [0, 1, 0, 4, 12, 8, 16, 20, 24, 28] (by decide) (by first | (go_simp; done) | (go_simp; rfl)) ?_; intro Aa wa hCa hb; have HCa := Aside0.mk hCa; have H32 := Aside0.mk (blk_below (by (with_reducible repeat (first | refine blk_drewN ?_ _ | refine blk_drew ?_ | refine blk_alloc ?_ _)); exact H3.out) hb); have HB2 := Aside0.mk (below_step (by repeat (first | (with_reducible first | exact HB.out | apply below_alloc | apply pw_below_drewN | apply below_drew1) | exact HB.out)) hb); clear HB H3 hCa hb y0 y1 y2 y3 y4 y5 y6 y7 yf0 yf1 yf2 yf3 yf4 yf5 yf6 yf7; have HB := HB2; have H3 := H32; clear HB2 H32; obtain ⟨y0, y1, y2, y3, y4, y5, y6, y7, yf0, yf1, yf2, yf3, yf4, yf5, yf6, yf7⟩ := cells8 H3.out) | (go_at_call 77; (refine (rpick_q [0, 1, 0, 4, 12, 8, 16, 20, 24, 28] fn (by repeat (first | exact HCa.out | apply Kd.C_drewN | apply Kd.C_drew)) rfl (by decide)).mono ?_); rintro e w' ⟨rfl, ⟨nd, rfl⟩⟩) | fail)
    go_wp2
    go_ret
    exact ⟨rfl, (by repeat (first | (with_reducible first | exact HB.out | apply below_alloc | apply pw_below_drewN | apply below_drew1) | exact HB.out))⟩
  iterate 13 (rotate_left 1)
  · have HV : Aside0 (wordR ⟨kind, fn, rd, rs1, rs2, imm, size, sg⟩ = 0) := ⟨by
      unfold wordR
      repeat' rw [if_neg (show ¬ kind = _ by omega)]⟩
    have n1 : (kind == 1) = false := beq_false_of_ne (by omega)
    have n2 : (kind == 2) = false := beq_false_of_ne (by omega)
    have n3 : (kind == 3) = false := beq_false_of_ne (by omega)
    have n4 : (kind == 4) = false := beq_false_of_ne (by omega)
    have n5 : (kind == 5) = false := beq_false_of_ne (by omega)
    have n6 : (kind == 6) = false := beq_false_of_ne (by omega)
    have n7 : (kind == 7) = false := beq_false_of_ne (by omega)
    have n8 : (kind == 8) = false := beq_false_of_ne (by omega)
    have n9 : (kind == 9) = false := beq_false_of_ne (by omega)
    have n10 : (kind == 10) = false := beq_false_of_ne (by omega)
    have n11 : (kind == 11) = false := beq_false_of_ne (by omega)
    have n12 : (kind == 12) = false := beq_false_of_ne (by omega)
    have n13 : (kind == 13) = false := beq_false_of_ne (by omega)
    have n14 : (kind == 14) = false := beq_false_of_ne (by omega)
    have n15 : (kind == 15) = false := beq_false_of_ne (by omega)
    have n16 : (kind == 16) = false := beq_false_of_ne (by omega)
    have n17 : (kind == 17) = false := beq_false_of_ne (by omega)
    have n18 : (kind == 18) = false := beq_false_of_ne (by omega)
    have n19 : (kind == 19) = false := beq_false_of_ne (by omega)
    have n20 : (kind == 20) = false := beq_false_of_ne (by omega)
    clear h
    go_wp2
    go_ret
    exact ⟨by rw [HV.out]; rfl, (by repeat (first | (with_reducible first | exact HB.out | apply below_alloc | apply pw_below_drewN | apply below_drew1) | exact HB.out))⟩
  · have HV : Aside0 (wordR ⟨kind, fn, rd, rs1, rs2, imm, size, sg⟩ = 0) := ⟨by
      unfold wordR
      repeat' rw [if_neg (show ¬ kind = _ by omega)]⟩
    have n1 : (kind == 1) = false := beq_false_of_ne (by omega)
    have n2 : (kind == 2) = false := beq_false_of_ne (by omega)
    have n3 : (kind == 3) = false := beq_false_of_ne (by omega)
    have n4 : (kind == 4) = false := beq_false_of_ne (by omega)
    have n5 : (kind == 5) = false := beq_false_of_ne (by omega)
    have n6 : (kind == 6) = false := beq_false_of_ne (by omega)
    have n7 : (kind == 7) = false := beq_false_of_ne (by omega)
    have n8 : (kind == 8) = false := beq_false_of_ne (by omega)
    have n9 : (kind == 9) = false := beq_false_of_ne (by omega)
    have n10 : (kind == 10) = false := beq_false_of_ne (by omega)
    have n11 : (kind == 11) = false := beq_false_of_ne (by omega)
    have n12 : (kind == 12) = false := beq_false_of_ne (by omega)
    have n13 : (kind == 13) = false := beq_false_of_ne (by omega)
    have n14 : (kind == 14) = false := beq_false_of_ne (by omega)
    have n15 : (kind == 15) = false := beq_false_of_ne (by omega)
    have n16 : (kind == 16) = false := beq_false_of_ne (by omega)
    have n17 : (kind == 17) = false := beq_false_of_ne (by omega)
    have n18 : (kind == 18) = false := beq_false_of_ne (by omega)
    have n19 : (kind == 19) = false := beq_false_of_ne (by omega)
    have n20 : (kind == 20) = false := beq_false_of_ne (by omega)
    clear h
    go_wp2
    go_ret
    exact ⟨by rw [HV.out]; rfl, (by repeat (first | (with_reducible first | exact HB.out | apply below_alloc | apply pw_below_drewN | apply below_drew1) | exact HB.out))⟩
  all_goals
    go_wp2_with (first | (go_at_call 76; (with_reducible refine (rat_q _ _ _ _ (by omega) (by decide) (by decide) (by decide) (by decide)).mono ?_); rintro e w' ⟨rfl, ⟨nd, rfl⟩⟩) | ((with_reducible refine gate_dst (N := 107) rfl ?_); refine lit_event (by rfl) (N := 107) (by rfl) [0, 0, 1, 4, 5, 6, 7] (by decide) (by first | (go_simp; done) | (go_simp; rfl)) ?_; intro Aa wa hCa hb; have HCa := Aside0.mk hCa; have H32 := Aside0.mk (blk_below (by (with_reducible repeat (first | refine blk_drewN ?_ _ | refine blk_drew ?_ | refine blk_alloc ?_ _)); exact H3.out) hb); have HB2 := Aside0.mk (below_step (by repeat (first | (with_reducible first | exact HB.out | apply below_alloc | apply pw_below_drewN | apply below_drew1) | exact HB.out)) hb); clear HB H3 hCa hb y0 y1 y2 y3 y4 y5 y6 y7 yf0 yf1 yf2 yf3 yf4 yf5 yf6 yf7; have HB := HB2; have H3 := H32; clear HB2 H32; obtain ⟨y0, y1, y2, y3, y4, y5, y6, y7, yf0, yf1, yf2, yf3, yf4, yf5, yf6, yf7⟩ := cells8 H3.out) | (go_at_call 77; (refine (rpick_q [0, 0, 1, 4, 5, 6, 7] fn (by repeat (first | exact HCa.out | apply Kd.C_drewN | apply Kd.C_drew)) rfl (by decide)).mono ?_); rintro e w' ⟨rfl, ⟨nd, rfl⟩⟩) | fail)
    go_wp2
    go_ret
    exact ⟨rfl, (by repeat (first | (with_reducible first | exact HB.out | apply below_alloc | apply pw_below_drewN | apply below_drew1) | exact HB.out))⟩

end Go.Proofs.YtjapahcbhjjeiaaGreatDoor.AS

/- The document's Encode by its contract: it and the program's write the same. -/
namespace Go.Proofs.YtjapahcbhjjeiaaGreatDoor.AS
open Go.RowKit Go.Proofs.YtjapahcbhjjeiaaGreatDoorW.PrintWords Go.Proofs.YtjapahcbhjjeiaaGreatDoorW.PrintLast Go.Proofs.YtjapahcbhjjeiaaGreatDoorW.PrintMore Go.Proofs.YtjapahcbhjjeiaaGreatDoor.PA
set_option linter.unusedVariables false
set_option linter.unusedSimpArgs false
set_option maxRecDepth 100000
set_option maxHeartbeats 8000000

theorem insNe (i j : Ins) (W : World) : (binOp .neq 23 (.agg #[.int .i64 i.kind, .int .i64 i.fn, .int .i64 i.rd, .int .i64 i.rs1, .int .i64 i.rs2, .int .i64 i.imm, .int .i64 i.size, .bool i.sg]) (.agg #[.int .i64 j.kind, .int .i64 j.fn, .int .i64 j.rd, .int .i64 j.rs1, .int .i64 j.rs2, .int .i64 j.imm, .int .i64 j.size, .bool j.sg])).run Tryz.prog W = .ok (.bool (!decide (i = j))) W := by
  have h := insEq i j W
  simp only [binOp] at h ⊢
  simp only [Sem.run_bind, Sem.run_pure] at h ⊢
  revert h
  generalize (Op.equal 23 _ _).run Tryz.prog W = r
  intro h
  cases r with
  | ok b w' => simp only [Result.andThen_ok, Result.ok.injEq, Value.bool.injEq] at h ⊢; exact ⟨by rw [h.1], h.2⟩
  | _ => simp [Result.andThen] at h
inductive Out (kind fn rd rs1 rs2 imm size : Int) : Prop
  | a (h : decide (imm < -2147483648) = true) : Out kind fn rd rs1 rs2 imm size
  | b (h0 : decide (imm < -2147483648) = false) (h : decide (2147483648 ≤ imm) = true) : Out kind fn rd rs1 rs2 imm size
  | c (h0 : decide (imm < -2147483648) = false) (h1 : decide (2147483648 ≤ imm) = false) (h : decide (0 ≤ rd ∧ rd ≤ 31) = false) : Out kind fn rd rs1 rs2 imm size
  | d (h0 : decide (imm < -2147483648) = false) (h1 : decide (2147483648 ≤ imm) = false) (h2 : decide (0 ≤ rd ∧ rd ≤ 31) = true) (h : decide (0 ≤ rs1 ∧ rs1 ≤ 31) = false) : Out kind fn rd rs1 rs2 imm size
  | e (h0 : decide (imm < -2147483648) = false) (h1 : decide (2147483648 ≤ imm) = false) (h2 : decide (0 ≤ rd ∧ rd ≤ 31) = true) (h3 : decide (0 ≤ rs1 ∧ rs1 ≤ 31) = true) (h : decide (0 ≤ rs2 ∧ rs2 ≤ 31) = false) : Out kind fn rd rs1 rs2 imm size
  | f (h0 : decide (imm < -2147483648) = false) (h1 : decide (2147483648 ≤ imm) = false) (h2 : decide (0 ≤ rd ∧ rd ≤ 31) = true) (h3 : decide (0 ≤ rs1 ∧ rs1 ≤ 31) = true) (h4 : decide (0 ≤ rs2 ∧ rs2 ≤ 31) = true) (h : decide (0 ≤ fn ∧ fn ≤ 28) = false) : Out kind fn rd rs1 rs2 imm size
  | g (h0 : decide (imm < -2147483648) = false) (h1 : decide (2147483648 ≤ imm) = false) (h2 : decide (0 ≤ rd ∧ rd ≤ 31) = true) (h3 : decide (0 ≤ rs1 ∧ rs1 ≤ 31) = true) (h4 : decide (0 ≤ rs2 ∧ rs2 ≤ 31) = true) (h5 : decide (0 ≤ fn ∧ fn ≤ 28) = true) (h : decide (0 ≤ size ∧ size ≤ 8) = false) : Out kind fn rd rs1 rs2 imm size
theorem renc_out {kind fn rd rs1 rs2 imm size : Int} {sg : Bool} (h : Out kind fn rd rs1 rs2 imm size) (W : World) : Calls Tryz.prog 19 #[.agg #[.int .i64 kind, .int .i64 fn, .int .i64 rd, .int .i64 rs1, .int .i64 rs2, .int .i64 imm, .int .i64 size, .bool sg]] W fun e w' => e = .returned (.tuple #[.int .u32 0, .bool false]) ∧ Below W.heap.size W w' := by
  have HB := Aside0.mk (Below.refl W.heap.size W)
  have hu23 := Tryz.underlying23
  cases h
  all_goals
    go_enter Tryz.func19, Tryz.ntmps19
    go_wp2_with (first | ((with_reducible refine gate_dst (N := 1) rfl ?_); refine box_event (by rfl) (N := 1) (by rfl) (cs := #[.int .i64 kind, .int .i64 fn, .int .i64 rd, .int .i64 rs1, .int .i64 rs2, .int .i64 imm, .int .i64 size, .bool sg]) (t := 23) (by first | (go_simp; done) | (go_simp; rfl)) ?_; intro g3 hg w3 hbox hb; have H3 := Aside0.mk hbox; have HB2 := Aside0.mk (below_step HB.out hb); clear HB; have HB := HB2; clear HB2 hbox hb hg; obtain ⟨y0, y1, y2, y3, y4, y5, y6, y7, yf0, yf1, yf2, yf3, yf4, yf5, yf6, yf7⟩ := cells8 H3.out) | (go_at_call 50; (with_reducible refine (in_q _ _ _ _).mono ?_); rintro e w' ⟨rfl, ⟨nd, rfl⟩⟩) | fail)
    go_ret2
    exact ⟨rfl, (by repeat (first | (with_reducible first | exact HB.out | apply below_alloc | apply pw_below_drewN | apply below_drew1) | exact HB.out))⟩
theorem renc_in {kind fn rd rs1 rs2 imm size : Int} {sg : Bool} {wv : Int} {j : Ins} {ok q : Bool} (hR : Rg ⟨kind, fn, rd, rs1, rs2, imm, size, sg⟩) (hW : ∀ W, Calls Tryz.prog 51 #[.agg #[.int .i64 kind, .int .i64 fn, .int .i64 rd, .int .i64 rs1, .int .i64 rs2, .int .i64 imm, .int .i64 size, .bool sg]] W fun e w' => e = .returned (.int .u32 wv) ∧ Below W.heap.size W w') (hD : ∀ W, Calls Tryz.prog 52 #[.int .u32 wv] W fun e w' => e = .returned (.tuple #[.agg #[.int .i64 j.kind, .int .i64 j.fn, .int .i64 j.rd, .int .i64 j.rs1, .int .i64 j.rs2, .int .i64 j.imm, .int .i64 j.size, .bool j.sg], .bool ok]) ∧ Below W.heap.size W w')
    (hq : ∀ W, (binOp .neq 23 (.agg #[.int .i64 j.kind, .int .i64 j.fn, .int .i64 j.rd, .int .i64 j.rs1, .int .i64 j.rs2, .int .i64 j.imm, .int .i64 j.size, .bool j.sg]) (.agg #[.int .i64 kind, .int .i64 fn, .int .i64 rd, .int .i64 rs1, .int .i64 rs2, .int .i64 imm, .int .i64 size, .bool sg])).run Tryz.prog W = .ok (.bool q) W) (W : World) : Calls Tryz.prog 19 #[.agg #[.int .i64 kind, .int .i64 fn, .int .i64 rd, .int .i64 rs1, .int .i64 rs2, .int .i64 imm, .int .i64 size, .bool sg]] W fun e w' => e = .returned (.tuple #[.int .u32 (if (ok && !q) = true then wv else 0), .bool (ok && !q)]) ∧ Below W.heap.size W w' := by
  have HB := Aside0.mk (Below.refl W.heap.size W)
  have hu23 := Tryz.underlying23
  have d0 : decide (imm < -2147483648) = false := decide_eq_false (by have := hR.imm.1; simp only at this; omega)
  have d1 : decide (2147483648 ≤ imm) = false := decide_eq_false (by have := hR.imm.2; simp only at this; omega)
  have d2 : decide (0 ≤ rd ∧ rd ≤ 31) = true := decide_eq_true hR.rd
  have d3 : decide (0 ≤ rs1 ∧ rs1 ≤ 31) = true := decide_eq_true hR.rs1
  have d4 : decide (0 ≤ rs2 ∧ rs2 ≤ 31) = true := decide_eq_true hR.rs2
  have d5 : decide (0 ≤ fn ∧ fn ≤ 28) = true := decide_eq_true hR.fn
  have d6 : decide (0 ≤ size ∧ size ≤ 8) = true := decide_eq_true hR.size
  clear hR
  cases ok <;> cases q
  all_goals
    go_enter Tryz.func19, Tryz.ntmps19
    go_wp2_with (first | ((with_reducible refine gate_dst (N := 1) rfl ?_); refine box_event (by rfl) (N := 1) (by rfl) (cs := #[.int .i64 kind, .int .i64 fn, .int .i64 rd, .int .i64 rs1, .int .i64 rs2, .int .i64 imm, .int .i64 size, .bool sg]) (t := 23) (by first | (go_simp; done) | (go_simp; rfl)) ?_; intro g3 hg w3 hbox hb; have H3 := Aside0.mk hbox; have HB2 := Aside0.mk (below_step HB.out hb); clear HB; have HB := HB2; clear HB2 hbox hb hg; obtain ⟨y0, y1, y2, y3, y4, y5, y6, y7, yf0, yf1, yf2, yf3, yf4, yf5, yf6, yf7⟩ := cells8 H3.out) | (go_at_call 50; (with_reducible refine (in_q _ _ _ _).mono ?_); rintro e w' ⟨rfl, ⟨nd, rfl⟩⟩) | (go_at_call 51; (with_reducible refine (hW _).mono ?_); rintro e w' ⟨rfl, hb⟩; have H32 := Aside0.mk (blk_below (by (with_reducible repeat (first | refine blk_drewN ?_ _ | refine blk_drew ?_ | refine blk_alloc ?_ _)); exact H3.out) hb); have HB2 := Aside0.mk (below_step (by repeat (first | (with_reducible first | exact HB.out | apply below_alloc | apply pw_below_drewN | apply below_drew1) | exact HB.out)) hb); clear hb HB H3 y0 y1 y2 y3 y4 y5 y6 y7 yf0 yf1 yf2 yf3 yf4 yf5 yf6 yf7; have HB := HB2; have H3 := H32; clear HB2 H32; obtain ⟨y0, y1, y2, y3, y4, y5, y6, y7, yf0, yf1, yf2, yf3, yf4, yf5, yf6, yf7⟩ := cells8 H3.out) | (go_at_call 52; (with_reducible refine (hD _).mono ?_); rintro e w' ⟨rfl, hb⟩; have H32 := Aside0.mk (blk_below (by (with_reducible repeat (first | refine blk_drewN ?_ _ | refine blk_drew ?_ | refine blk_alloc ?_ _)); exact H3.out) hb); have HB2 := Aside0.mk (below_step (by repeat (first | (with_reducible first | exact HB.out | apply below_alloc | apply pw_below_drewN | apply below_drew1) | exact HB.out)) hb); clear hb HB H3 y0 y1 y2 y3 y4 y5 y6 y7 yf0 yf1 yf2 yf3 yf4 yf5 yf6 yf7; have HB := HB2; have H3 := H32; clear HB2 H32; obtain ⟨y0, y1, y2, y3, y4, y5, y6, y7, yf0, yf1, yf2, yf3, yf4, yf5, yf6, yf7⟩ := cells8 H3.out) | ((with_reducible refine gate_dst (N := 5) rfl ?_); refine box_event (by rfl) (N := 5) (by rfl) (cs := #[.int .i64 0, .int .i64 0, .int .i64 0, .int .i64 0, .int .i64 0, .int .i64 0, .int .i64 0, .bool false]) (t := 23) (by first | (go_simp; done) | (go_simp; rfl)) ?_; intro g4 hg w5 hbox hb; have H4 := Aside0.mk hbox; have H32 := Aside0.mk (blk_below (by (with_reducible repeat (first | refine blk_drewN ?_ _ | refine blk_drew ?_ | refine blk_alloc ?_ _)); exact H3.out) hb); have HN := Aside0.mk (show g3 ≠ g4 by rw [hg]; exact Nat.ne_of_lt (blk_lt (by (with_reducible repeat (first | refine blk_drewN ?_ _ | refine blk_drew ?_ | refine blk_alloc ?_ _)); exact H3.out))); have HL4 := Aside0.mk (show W.heap.size ≤ g4 by rw [hg]; exact below_size (by repeat (first | (with_reducible first | exact HB.out | apply below_alloc | apply pw_below_drewN | apply below_drew1) | exact HB.out))); have HB2 := Aside0.mk (below_step (by repeat (first | (with_reducible first | exact HB.out | apply below_alloc | apply pw_below_drewN | apply below_drew1) | exact HB.out)) hb); clear hb hbox hg HB H3 y0 y1 y2 y3 y4 y5 y6 y7 yf0 yf1 yf2 yf3 yf4 yf5 yf6 yf7; have HB := HB2; have H3 := H32; clear HB2 H32; obtain ⟨y0, y1, y2, y3, y4, y5, y6, y7, yf0, yf1, yf2, yf3, yf4, yf5, yf6, yf7⟩ := cells8 H3.out) | ((with_reducible refine gate_any rfl ?_); refine setR rfl rfl H4.out rfl rfl (by kernel_rfl) rfl rfl ?_; intro w7 hbox hfar hbel; have H42 := Aside0.mk hbox; have H32 := Aside0.mk (far_blk hfar HN.out H3.out); have HB2 := Aside0.mk (hbel _ _ (by repeat (first | (with_reducible first | exact HB.out | apply below_alloc | apply pw_below_drewN | apply below_drew1) | exact HB.out)) HL4.out); clear hbox hfar hbel H4 H3 HB y0 y1 y2 y3 y4 y5 y6 y7 yf0 yf1 yf2 yf3 yf4 yf5 yf6 yf7; have H4 := H42; have H3 := H32; have HB := HB2; clear H42 H32 HB2; obtain ⟨y0, y1, y2, y3, y4, y5, y6, y7, yf0, yf1, yf2, yf3, yf4, yf5, yf6, yf7⟩ := cells8 H3.out; obtain ⟨z0, z1, z2, z3, z4, z5, z6, z7, zf0, zf1, zf2, zf3, zf4, zf5, zf6, zf7⟩ := cells8 H4.out) | fail)
    go_ret2
    exact ⟨rfl, (by repeat (first | (with_reducible first | exact HB.out | apply below_alloc | apply pw_below_drewN | apply below_drew1) | exact HB.out))⟩

theorem out_of {kind fn rd rs1 rs2 imm size : Int} {sg : Bool} (h : ¬ Rg ⟨kind, fn, rd, rs1, rs2, imm, size, sg⟩) : Out kind fn rd rs1 rs2 imm size := by
  by_cases h0 : imm < -2147483648
  · exact .a (decide_eq_true h0)
  by_cases h1 : 2147483648 ≤ imm
  · exact .b (decide_eq_false h0) (decide_eq_true h1)
  by_cases h2 : 0 ≤ rd ∧ rd ≤ 31
  · by_cases h3 : 0 ≤ rs1 ∧ rs1 ≤ 31
    · by_cases h4 : 0 ≤ rs2 ∧ rs2 ≤ 31
      · by_cases h5 : 0 ≤ fn ∧ fn ≤ 28
        · by_cases h6 : 0 ≤ size ∧ size ≤ 8
          · exact absurd ⟨by simp only; omega, h2, h3, h4, h5, h6⟩ h
          · exact .g (decide_eq_false h0) (decide_eq_false h1) (decide_eq_true h2) (decide_eq_true h3) (decide_eq_true h4) (decide_eq_true h5) (decide_eq_false h6)
        · exact .f (decide_eq_false h0) (decide_eq_false h1) (decide_eq_true h2) (decide_eq_true h3) (decide_eq_true h4) (decide_eq_false h5)
      · exact .e (decide_eq_false h0) (decide_eq_false h1) (decide_eq_true h2) (decide_eq_true h3) (decide_eq_false h4)
    · exact .d (decide_eq_false h0) (decide_eq_false h1) (decide_eq_true h2) (decide_eq_false h3)
  · exact .c (decide_eq_false h0) (decide_eq_false h1) (decide_eq_false h2)
theorem heads_b : (heads.all fun h => decide (0 ≤ h.2.1 ∧ h.2.1 ≤ 28) && decide (0 ≤ h.2.2.1 ∧ h.2.2.1 ≤ 8)) = true := by decide
theorem fit_rg {i : Ins} (h : Fit i) : Rg i := by
  have := List.all_eq_true.1 heads_b _ h.head
  simp only [Bool.and_eq_true, decide_eq_true_eq] at this
  have h1 := h.lo
  have h2 := h.hi
  have h3 := h.rdr
  have h4 := h.rs1r
  have h5 := h.rs2r
  exact ⟨by omega, by omega, by omega, by omega, this.1, this.2⟩
theorem rEncode_calls (i : Ins) (W : World) : Calls Tryz.prog 19 #[insV i] W fun e w' => e = .returned (.tuple #[.int .u32 (if mayL i = true then encL i else 0), .bool (mayL i)]) ∧ Below W.heap.size W w' := by
  obtain ⟨m1, m2⟩ := mayR i
  obtain ⟨kind, fn, rd, rs1, rs2, imm, size, sg⟩ := i
  by_cases hR : Rg ⟨kind, fn, rd, rs1, rs2, imm, size, sg⟩
  · obtain ⟨wv, hwv⟩ : ∃ x, x = wordR ⟨kind, fn, rd, rs1, rs2, imm, size, sg⟩ := ⟨_, rfl⟩
    have hW := fun W => word_calls hR W
    have hb : U32 wv := by rw [hwv]; exact wordR_b _
    rw [← hwv] at hW m1 m2
    clear hwv
    have hD := rdec_calls hb
    unfold DecR at hD
    obtain ⟨d, hd⟩ : ∃ x, x = decodeL wv := ⟨_, rfl⟩
    rw [← hd] at hD m1
    clear hd hb
    obtain ⟨v, hv⟩ : ∃ x, x = encL ⟨kind, fn, rd, rs1, rs2, imm, size, sg⟩ := ⟨_, rfl⟩
    obtain ⟨b, hbm⟩ : ∃ x, x = mayL ⟨kind, fn, rd, rs1, rs2, imm, size, sg⟩ := ⟨_, rfl⟩
    rw [← hv] at m2 ⊢
    rw [← hbm] at m1 m2 ⊢
    clear hv hbm
    obtain ⟨j, hj⟩ : ∃ x, x = d.getD zeroI := ⟨_, rfl⟩
    obtain ⟨ok, hok⟩ : ∃ x, x = d.isSome := ⟨_, rfl⟩
    have e : (ok && !!decide (j = ⟨kind, fn, rd, rs1, rs2, imm, size, sg⟩)) = b := by
      rw [m1, hj, hok]
      cases d <;> simp
    rw [← hj, ← hok] at hD
    clear hj hok m1
    have h := renc_in hR hW hD (fun W => insNe j ⟨kind, fn, rd, rs1, rs2, imm, size, sg⟩ W) W
    rw [e] at h
    cases b with
    | true => rw [m2 rfl]; exact h
    | false => exact h
  · have hm : mayL ⟨kind, fn, rd, rs1, rs2, imm, size, sg⟩ = false := by
      cases hm : mayL ⟨kind, fn, rd, rs1, rs2, imm, size, sg⟩ with
      | true => exact absurd (fit_rg (mayL_fit _ hm)) hR
      | false => rfl
    rw [hm]
    exact renc_out (out_of hR) W

end Go.Proofs.YtjapahcbhjjeiaaGreatDoor.AS
