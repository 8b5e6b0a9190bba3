/- The walk of asm.name, kind by kind, size by size. -/
import Derived.Test.YtjapahcbhjjeiaaGreatDoorF2
import Derived.Deep.DeepCutAuto
namespace Go.Proofs.YtjapahcbhjjeiaaGreatDoor.AS
open Go.RowKit Go.Proofs.YtjapahcbhjjeiaaGreatDoorW.PrintWords Go.Proofs.YtjapahcbhjjeiaaGreatDoorW.PrintLast Go.Proofs.YtjapahcbhjjeiaaGreatDoorW.PrintMore Go.Proofs.YtjapahcbhjjeiaaGreatDoor.PA
set_option linter.unusedVariables false
set_option maxHeartbeats 4000000
set_option maxRecDepth 100000
set_option linter.unusedSimpArgs false

theorem ofB_size (i : Int) (l : List ByteArray) (m : Nat) (h : ∀ x ∈ l, x.size ≤ m) : (ofB i l).size ≤ m := by
  unfold ofB
  by_cases c : i < 0 ∨ (l.length : Int) ≤ i
  · rw [if_pos c]; exact Nat.zero_le _
  · rw [if_neg c]
    have hl : i.toNat < l.length := by omega
    rw [List.getD_eq_getElem?_getD, List.getElem?_eq_getElem hl]
    exact h _ (List.getElem_mem hl)
def opZ : Array Value := #[.string ⟨#[]⟩, .string ⟨#[]⟩, .string ⟨#[]⟩, .string ⟨#[]⟩, .string ⟨#[]⟩, .string ⟨#[]⟩, .string ⟨#[]⟩, .string ⟨#[]⟩, .string ⟨#[]⟩, .string ⟨#[]⟩, .string ⟨#[]⟩, .string ⟨#[]⟩, .string ⟨#[]⟩, .string ⟨#[]⟩, .string ⟨#[]⟩, .string ⟨#[]⟩, .string ⟨#[]⟩, .string ⟨#[]⟩, .string ⟨#[]⟩, .string ⟨#[]⟩, .string ⟨#[]⟩, .string ⟨#[]⟩, .string ⟨#[]⟩, .string ⟨#[]⟩, .string ⟨#[]⟩, .string ⟨#[]⟩, .string ⟨#[]⟩, .string ⟨#[]⟩, .string ⟨#[]⟩]
def opN : Array Value := #[.string ⟨#[]⟩, .string ⟨#[97, 100, 100]⟩, .string ⟨#[115, 117, 98]⟩, .string ⟨#[115, 108, 108]⟩, .string ⟨#[115, 108, 116]⟩, .string ⟨#[115, 108, 116, 117]⟩, .string ⟨#[120, 111, 114]⟩, .string ⟨#[115, 114, 108]⟩, .string ⟨#[115, 114, 97]⟩, .string ⟨#[111, 114]⟩, .string ⟨#[97, 110, 100]⟩, .string ⟨#[109, 117, 108]⟩, .string ⟨#[109, 117, 108, 104]⟩, .string ⟨#[109, 117, 108, 104, 115, 117]⟩, .string ⟨#[109, 117, 108, 104, 117]⟩, .string ⟨#[100, 105, 118]⟩, .string ⟨#[100, 105, 118, 117]⟩, .string ⟨#[114, 101, 109]⟩, .string ⟨#[114, 101, 109, 117]⟩, .string ⟨#[97, 100, 100, 119]⟩, .string ⟨#[115, 117, 98, 119]⟩, .string ⟨#[115, 108, 108, 119]⟩, .string ⟨#[115, 114, 108, 119]⟩, .string ⟨#[115, 114, 97, 119]⟩, .string ⟨#[109, 117, 108, 119]⟩, .string ⟨#[100, 105, 118, 119]⟩, .string ⟨#[100, 105, 118, 117, 119]⟩, .string ⟨#[114, 101, 109, 119]⟩, .string ⟨#[114, 101, 109, 117, 119]⟩]
def wideB (size : Int) : ByteArray := if size = 4 then ⟨#[46, 119]⟩ else if size = 8 then ⟨#[46, 100]⟩ else ⟨#[]⟩
theorem wideB_x {size : Int} (a : ¬ size = 4) (b : ¬ size = 8) : wideB size = ⟨#[]⟩ := by unfold wideB; rw [if_neg a, if_neg b]
theorem wideB_size (size : Int) : (wideB size).size ≤ 2 := by unfold wideB; split <;> (try split) <;> decide

theorem name_5 {kind fn rd rs1 rs2 imm size : Int} {sg : Bool} (W : World) : Calls Tryz.prog 27 #[.agg #[.int .i64 5, .int .i64 fn, .int .i64 rd, .int .i64 rs1, .int .i64 rs2, .int .i64 imm, .int .i64 size, .bool sg]] W fun e w' => e = .returned (.string (ofB fn ([⟨#[]⟩, ⟨#[98, 101, 113]⟩, ⟨#[98, 110, 101]⟩, ⟨#[98, 108, 116]⟩, ⟨#[98, 103, 101]⟩, ⟨#[98, 108, 116, 117]⟩, ⟨#[98, 103, 101, 117]⟩] : List ByteArray))) ∧ Below W.heap.size W w' := by
  have HB := Aside0.mk (Below.refl W.heap.size W)
  have hu23 := Tryz.underlying23
  go_enter Tryz.func27, Tryz.ntmps27
  go_wp2_with (first | ((with_reducible refine gate_dst (N := 1) rfl ?_); refine box_event (by rfl) (N := 1) (by rfl) (cs := #[.int .i64 5, .int .i64 fn, .int .i64 rd, .int .i64 rs1, .int .i64 rs2, .int .i64 imm, .int .i64 size, .bool sg]) (t := 23) (by first | (go_simp; done) | (go_simp; rfl)) ?_; intro g3 hg w3 hbox hb; have H3 := Aside0.mk hbox; have HB' := Aside0.mk (below_step HB.out hb); clear HB; have HB := HB'; clear HB'; obtain ⟨y0, y1, y2, y3, y4, y5, y6, y7, yf0, yf1, yf2, yf3, yf4, yf5, yf6, yf7⟩ := cells8 H3.out; clear hbox hb hg) | fail)
  refine (operations_calls _).mono ?_
  rintro e w' ⟨rfl, hb⟩
  have H3a := Aside0.mk (blk_below H3.out hb)
  have HBa := Aside0.mk (below_step HB.out hb)
  clear H3 HB hb y0 y1 y2 y3 y4 y5 y6 y7 yf0 yf1 yf2 yf3 yf4 yf5 yf6 yf7
  have H3 := H3a; have HB := HBa
  clear H3a HBa
  go_upto_if 8 with (first | ((with_reducible refine gate_dst (N := 3) rfl ?_); refine box_event (by rfl) (N := 3) (by rfl) (cs := opZ) (t := 83) (by first | (go_simp; done) | (go_simp; rfl)) ?_; intro g5 hg w5 hbox hb; have H5 := Aside0.mk hbox; have H3' := Aside0.mk (blk_below H3.out hb); have HL5 := Aside0.mk (show W.heap.size ≤ g5 by have h1 := HB.out.size; omega); have HN := Aside0.mk (show g3 ≠ g5 by have h1 := blk_lt H3.out; omega); have HB' := Aside0.mk (below_step HB.out hb); clear HB H3; have HB := HB'; have H3 := H3'; clear HB' H3'; clear hbox hb hg) | ((with_reducible refine gate_store (t := 83) rfl ?_); refine store_event rfl 83 (.tmp 3) (.tmp 5) rfl (g := g5) opN H5.out rfl rfl info83 rfl rfl ?_; intro w6 hbox hfar hbel; have H5' := Aside0.mk hbox; have H3' := Aside0.mk (far_blk hfar HN.out H3.out); have HB' := Aside0.mk (hbel _ _ HB.out HL5.out); clear hbox hfar hbel H5 H3 HB; have H3 := H3'; have H5 := H5'; have HB := HB'; clear H3' H5' HB'; obtain ⟨y0, y1, y2, y3, y4, y5, y6, y7, yf0, yf1, yf2, yf3, yf4, yf5, yf6, yf7⟩ := cells8 H3.out) | fail)
  go_cut [4] (fun v4 wx => v4 = .string (wideB size) ∧ w6 = wx)
  case first =>
    by_cases a : size = 4
    · subst a; go_wp2; go_meet; exact ⟨rfl, rfl⟩
    by_cases b : size = 8
    · subst b; go_wp2; go_meet; exact ⟨rfl, rfl⟩
    have a' : (size == 4) = false := by simpa using a
    have b' : (size == 8) = false := by simpa using b
    have e := Aside0.mk (wideB_x a b)
    clear a b
    go_wp2; go_meet; exact ⟨congrArg Value.string e.out.symm, rfl⟩
  obtain ⟨rfl, hwx⟩ := hcut
  subst hwx
  go_wp2_with (first | ((with_reducible refine gate_dst (N := 18) rfl ?_); refine litS_event (by rfl) (N := 18) (by rfl) ([⟨#[]⟩, ⟨#[98, 101, 113]⟩, ⟨#[98, 110, 101]⟩, ⟨#[98, 108, 116]⟩, ⟨#[98, 103, 101]⟩, ⟨#[98, 108, 116, 117]⟩, ⟨#[98, 103, 101, 117]⟩] : List ByteArray) (by decide) (by first | (go_simp; done) | (go_simp; rfl)) ?_; intro A7 w7 hC hb; have HC := Aside0.mk hC; have HB' := Aside0.mk (below_step HB.out hb); clear HB H3 hC hb y0 y1 y2 y3 y4 y5 y6 y7 yf0 yf1 yf2 yf3 yf4 yf5 yf6 yf7; have HB := HB'; clear HB') | fail)
  refine (of_at ([⟨#[]⟩, ⟨#[98, 101, 113]⟩, ⟨#[98, 110, 101]⟩, ⟨#[98, 108, 116]⟩, ⟨#[98, 103, 101]⟩, ⟨#[98, 108, 116, 117]⟩, ⟨#[98, 103, 101, 117]⟩] : List ByteArray) fn (by repeat (first | exact HC.out | apply Kd.C_drewN | apply Kd.C_drew)) rfl (by decide)).mono ?_
  rintro e w' ⟨rfl, ⟨nd, rfl⟩⟩
  go_wp2
  go_ret
  exact ⟨by first | rfl | exact ret_s (congrArg (· ++ _) HV.out) | exact ret_s (HV.out.trans rfl) | exact ret_s (by rw [← HV.out]; rfl), by repeat (first | (with_reducible first | exact HB.out | apply below_alloc | apply pw_below_drewN | apply below_drew1) | exact HB.out)⟩

theorem name_6f {kind fn rd rs1 rs2 imm size : Int} {sg : Bool} (W : World) : Calls Tryz.prog 27 #[.agg #[.int .i64 6, .int .i64 fn, .int .i64 rd, .int .i64 rs1, .int .i64 rs2, .int .i64 imm, .int .i64 size, .bool false]] W fun e w' => e = .returned (.string (ofB size ([⟨#[]⟩, ⟨#[108, 98, 117]⟩, ⟨#[108, 104, 117]⟩, ⟨#[]⟩, ⟨#[108, 119, 117]⟩] : List ByteArray))) ∧ Below W.heap.size W w' := by
  have HB := Aside0.mk (Below.refl W.heap.size W)
  have hu23 := Tryz.underlying23
  go_enter Tryz.func27, Tryz.ntmps27
  go_wp2_with (first | ((with_reducible refine gate_dst (N := 1) rfl ?_); refine box_event (by rfl) (N := 1) (by rfl) (cs := #[.int .i64 6, .int .i64 fn, .int .i64 rd, .int .i64 rs1, .int .i64 rs2, .int .i64 imm, .int .i64 size, .bool false]) (t := 23) (by first | (go_simp; done) | (go_simp; rfl)) ?_; intro g3 hg w3 hbox hb; have H3 := Aside0.mk hbox; have HB' := Aside0.mk (below_step HB.out hb); clear HB; have HB := HB'; clear HB'; obtain ⟨y0, y1, y2, y3, y4, y5, y6, y7, yf0, yf1, yf2, yf3, yf4, yf5, yf6, yf7⟩ := cells8 H3.out; clear hbox hb hg) | fail)
  refine (operations_calls _).mono ?_
  rintro e w' ⟨rfl, hb⟩
  have H3a := Aside0.mk (blk_below H3.out hb)
  have HBa := Aside0.mk (below_step HB.out hb)
  clear H3 HB hb y0 y1 y2 y3 y4 y5 y6 y7 yf0 yf1 yf2 yf3 yf4 yf5 yf6 yf7
  have H3 := H3a; have HB := HBa
  clear H3a HBa
  go_upto_if 8 with (first | ((with_reducible refine gate_dst (N := 3) rfl ?_); refine box_event (by rfl) (N := 3) (by rfl) (cs := opZ) (t := 83) (by first | (go_simp; done) | (go_simp; rfl)) ?_; intro g5 hg w5 hbox hb; have H5 := Aside0.mk hbox; have H3' := Aside0.mk (blk_below H3.out hb); have HL5 := Aside0.mk (show W.heap.size ≤ g5 by have h1 := HB.out.size; omega); have HN := Aside0.mk (show g3 ≠ g5 by have h1 := blk_lt H3.out; omega); have HB' := Aside0.mk (below_step HB.out hb); clear HB H3; have HB := HB'; have H3 := H3'; clear HB' H3'; clear hbox hb hg) | ((with_reducible refine gate_store (t := 83) rfl ?_); refine store_event rfl 83 (.tmp 3) (.tmp 5) rfl (g := g5) opN H5.out rfl rfl info83 rfl rfl ?_; intro w6 hbox hfar hbel; have H5' := Aside0.mk hbox; have H3' := Aside0.mk (far_blk hfar HN.out H3.out); have HB' := Aside0.mk (hbel _ _ HB.out HL5.out); clear hbox hfar hbel H5 H3 HB; have H3 := H3'; have H5 := H5'; have HB := HB'; clear H3' H5' HB'; obtain ⟨y0, y1, y2, y3, y4, y5, y6, y7, yf0, yf1, yf2, yf3, yf4, yf5, yf6, yf7⟩ := cells8 H3.out) | fail)
  go_cut [4] (fun v4 wx => v4 = .string (wideB size) ∧ w6 = wx)
  case first =>
    by_cases a : size = 4
    · subst a; go_wp2; go_meet; exact ⟨rfl, rfl⟩
    by_cases b : size = 8
    · subst b; go_wp2; go_meet; exact ⟨rfl, rfl⟩
    have a' : (size == 4) = false := by simpa using a
    have b' : (size == 8) = false := by simpa using b
    have e := Aside0.mk (wideB_x a b)
    clear a b
    go_wp2; go_meet; exact ⟨congrArg Value.string e.out.symm, rfl⟩
  obtain ⟨rfl, hwx⟩ := hcut
  subst hwx
  go_wp2_with (first | ((with_reducible refine gate_dst (N := 27) rfl ?_); refine litS_event (by rfl) (N := 27) (by rfl) ([⟨#[]⟩, ⟨#[108, 98, 117]⟩, ⟨#[108, 104, 117]⟩, ⟨#[]⟩, ⟨#[108, 119, 117]⟩] : List ByteArray) (by decide) (by first | (go_simp; done) | (go_simp; rfl)) ?_; intro A7 w7 hC hb; have HC := Aside0.mk hC; have HB' := Aside0.mk (below_step HB.out hb); clear HB H3 hC hb y0 y1 y2 y3 y4 y5 y6 y7 yf0 yf1 yf2 yf3 yf4 yf5 yf6 yf7; have HB := HB'; clear HB') | fail)
  refine (of_at ([⟨#[]⟩, ⟨#[108, 98, 117]⟩, ⟨#[108, 104, 117]⟩, ⟨#[]⟩, ⟨#[108, 119, 117]⟩] : List ByteArray) size (by repeat (first | exact HC.out | apply Kd.C_drewN | apply Kd.C_drew)) rfl (by decide)).mono ?_
  rintro e w' ⟨rfl, ⟨nd, rfl⟩⟩
  go_wp2
  go_ret
  exact ⟨by first | rfl | exact ret_s (congrArg (· ++ _) HV.out) | exact ret_s (HV.out.trans rfl) | exact ret_s (by rw [← HV.out]; rfl), by repeat (first | (with_reducible first | exact HB.out | apply below_alloc | apply pw_below_drewN | apply below_drew1) | exact HB.out)⟩

theorem name_6t {kind fn rd rs1 rs2 imm size : Int} {sg : Bool} (W : World) : Calls Tryz.prog 27 #[.agg #[.int .i64 6, .int .i64 fn, .int .i64 rd, .int .i64 rs1, .int .i64 rs2, .int .i64 imm, .int .i64 size, .bool true]] W fun e w' => e = .returned (.string (ofB size ([⟨#[]⟩, ⟨#[108, 98]⟩, ⟨#[108, 104]⟩, ⟨#[]⟩, ⟨#[108, 119]⟩, ⟨#[]⟩, ⟨#[]⟩, ⟨#[]⟩, ⟨#[108, 100]⟩] : List ByteArray))) ∧ Below W.heap.size W w' := by
  have HB := Aside0.mk (Below.refl W.heap.size W)
  have hu23 := Tryz.underlying23
  go_enter Tryz.func27, Tryz.ntmps27
  go_wp2_with (first | ((with_reducible refine gate_dst (N := 1) rfl ?_); refine box_event (by rfl) (N := 1) (by rfl) (cs := #[.int .i64 6, .int .i64 fn, .int .i64 rd, .int .i64 rs1, .int .i64 rs2, .int .i64 imm, .int .i64 size, .bool true]) (t := 23) (by first | (go_simp; done) | (go_simp; rfl)) ?_; intro g3 hg w3 hbox hb; have H3 := Aside0.mk hbox; have HB' := Aside0.mk (below_step HB.out hb); clear HB; have HB := HB'; clear HB'; obtain ⟨y0, y1, y2, y3, y4, y5, y6, y7, yf0, yf1, yf2, yf3, yf4, yf5, yf6, yf7⟩ := cells8 H3.out; clear hbox hb hg) | fail)
  refine (operations_calls _).mono ?_
  rintro e w' ⟨rfl, hb⟩
  have H3a := Aside0.mk (blk_below H3.out hb)
  have HBa := Aside0.mk (below_step HB.out hb)
  clear H3 HB hb y0 y1 y2 y3 y4 y5 y6 y7 yf0 yf1 yf2 yf3 yf4 yf5 yf6 yf7
  have H3 := H3a; have HB := HBa
  clear H3a HBa
  go_upto_if 8 with (first | ((with_reducible refine gate_dst (N := 3) rfl ?_); refine box_event (by rfl) (N := 3) (by rfl) (cs := opZ) (t := 83) (by first | (go_simp; done) | (go_simp; rfl)) ?_; intro g5 hg w5 hbox hb; have H5 := Aside0.mk hbox; have H3' := Aside0.mk (blk_below H3.out hb); have HL5 := Aside0.mk (show W.heap.size ≤ g5 by have h1 := HB.out.size; omega); have HN := Aside0.mk (show g3 ≠ g5 by have h1 := blk_lt H3.out; omega); have HB' := Aside0.mk (below_step HB.out hb); clear HB H3; have HB := HB'; have H3 := H3'; clear HB' H3'; clear hbox hb hg) | ((with_reducible refine gate_store (t := 83) rfl ?_); refine store_event rfl 83 (.tmp 3) (.tmp 5) rfl (g := g5) opN H5.out rfl rfl info83 rfl rfl ?_; intro w6 hbox hfar hbel; have H5' := Aside0.mk hbox; have H3' := Aside0.mk (far_blk hfar HN.out H3.out); have HB' := Aside0.mk (hbel _ _ HB.out HL5.out); clear hbox hfar hbel H5 H3 HB; have H3 := H3'; have H5 := H5'; have HB := HB'; clear H3' H5' HB'; obtain ⟨y0, y1, y2, y3, y4, y5, y6, y7, yf0, yf1, yf2, yf3, yf4, yf5, yf6, yf7⟩ := cells8 H3.out) | fail)
  go_cut [4] (fun v4 wx => v4 = .string (wideB size) ∧ w6 = wx)
  case first =>
    by_cases a : size = 4
    · subst a; go_wp2; go_meet; exact ⟨rfl, rfl⟩
    by_cases b : size = 8
    · subst b; go_wp2; go_meet; exact ⟨rfl, rfl⟩
    have a' : (size == 4) = false := by simpa using a
    have b' : (size == 8) = false := by simpa using b
    have e := Aside0.mk (wideB_x a b)
    clear a b
    go_wp2; go_meet; exact ⟨congrArg Value.string e.out.symm, rfl⟩
  obtain ⟨rfl, hwx⟩ := hcut
  subst hwx
  go_wp2_with (first | ((with_reducible refine gate_dst (N := 31) rfl ?_); refine litS_event (by rfl) (N := 31) (by rfl) ([⟨#[]⟩, ⟨#[108, 98]⟩, ⟨#[108, 104]⟩, ⟨#[]⟩, ⟨#[108, 119]⟩, ⟨#[]⟩, ⟨#[]⟩, ⟨#[]⟩, ⟨#[108, 100]⟩] : List ByteArray) (by decide) (by first | (go_simp; done) | (go_simp; rfl)) ?_; intro A7 w7 hC hb; have HC := Aside0.mk hC; have HB' := Aside0.mk (below_step HB.out hb); clear HB H3 hC hb y0 y1 y2 y3 y4 y5 y6 y7 yf0 yf1 yf2 yf3 yf4 yf5 yf6 yf7; have HB := HB'; clear HB') | fail)
  refine (of_at ([⟨#[]⟩, ⟨#[108, 98]⟩, ⟨#[108, 104]⟩, ⟨#[]⟩, ⟨#[108, 119]⟩, ⟨#[]⟩, ⟨#[]⟩, ⟨#[]⟩, ⟨#[108, 100]⟩] : List ByteArray) size (by repeat (first | exact HC.out | apply Kd.C_drewN | apply Kd.C_drew)) rfl (by decide)).mono ?_
  rintro e w' ⟨rfl, ⟨nd, rfl⟩⟩
  go_wp2
  go_ret
  exact ⟨by first | rfl | exact ret_s (congrArg (· ++ _) HV.out) | exact ret_s (HV.out.trans rfl) | exact ret_s (by rw [← HV.out]; rfl), by repeat (first | (with_reducible first | exact HB.out | apply below_alloc | apply pw_below_drewN | apply below_drew1) | exact HB.out)⟩

theorem name_7 {kind fn rd rs1 rs2 imm size : Int} {sg : Bool} (W : World) : Calls Tryz.prog 27 #[.agg #[.int .i64 7, .int .i64 fn, .int .i64 rd, .int .i64 rs1, .int .i64 rs2, .int .i64 imm, .int .i64 size, .bool sg]] W fun e w' => e = .returned (.string (ofB size ([⟨#[]⟩, ⟨#[115, 98]⟩, ⟨#[115, 104]⟩, ⟨#[]⟩, ⟨#[115, 119]⟩, ⟨#[]⟩, ⟨#[]⟩, ⟨#[]⟩, ⟨#[115, 100]⟩] : List ByteArray))) ∧ Below W.heap.size W w' := by
  have HB := Aside0.mk (Below.refl W.heap.size W)
  have hu23 := Tryz.underlying23
  go_enter Tryz.func27, Tryz.ntmps27
  go_wp2_with (first | ((with_reducible refine gate_dst (N := 1) rfl ?_); refine box_event (by rfl) (N := 1) (by rfl) (cs := #[.int .i64 7, .int .i64 fn, .int .i64 rd, .int .i64 rs1, .int .i64 rs2, .int .i64 imm, .int .i64 size, .bool sg]) (t := 23) (by first | (go_simp; done) | (go_simp; rfl)) ?_; intro g3 hg w3 hbox hb; have H3 := Aside0.mk hbox; have HB' := Aside0.mk (below_step HB.out hb); clear HB; have HB := HB'; clear HB'; obtain ⟨y0, y1, y2, y3, y4, y5, y6, y7, yf0, yf1, yf2, yf3, yf4, yf5, yf6, yf7⟩ := cells8 H3.out; clear hbox hb hg) | fail)
  refine (operations_calls _).mono ?_
  rintro e w' ⟨rfl, hb⟩
  have H3a := Aside0.mk (blk_below H3.out hb)
  have HBa := Aside0.mk (below_step HB.out hb)
  clear H3 HB hb y0 y1 y2 y3 y4 y5 y6 y7 yf0 yf1 yf2 yf3 yf4 yf5 yf6 yf7
  have H3 := H3a; have HB := HBa
  clear H3a HBa
  go_upto_if 8 with (first | ((with_reducible refine gate_dst (N := 3) rfl ?_); refine box_event (by rfl) (N := 3) (by rfl) (cs := opZ) (t := 83) (by first | (go_simp; done) | (go_simp; rfl)) ?_; intro g5 hg w5 hbox hb; have H5 := Aside0.mk hbox; have H3' := Aside0.mk (blk_below H3.out hb); have HL5 := Aside0.mk (show W.heap.size ≤ g5 by have h1 := HB.out.size; omega); have HN := Aside0.mk (show g3 ≠ g5 by have h1 := blk_lt H3.out; omega); have HB' := Aside0.mk (below_step HB.out hb); clear HB H3; have HB := HB'; have H3 := H3'; clear HB' H3'; clear hbox hb hg) | ((with_reducible refine gate_store (t := 83) rfl ?_); refine store_event rfl 83 (.tmp 3) (.tmp 5) rfl (g := g5) opN H5.out rfl rfl info83 rfl rfl ?_; intro w6 hbox hfar hbel; have H5' := Aside0.mk hbox; have H3' := Aside0.mk (far_blk hfar HN.out H3.out); have HB' := Aside0.mk (hbel _ _ HB.out HL5.out); clear hbox hfar hbel H5 H3 HB; have H3 := H3'; have H5 := H5'; have HB := HB'; clear H3' H5' HB'; obtain ⟨y0, y1, y2, y3, y4, y5, y6, y7, yf0, yf1, yf2, yf3, yf4, yf5, yf6, yf7⟩ := cells8 H3.out) | fail)
  go_cut [4] (fun v4 wx => v4 = .string (wideB size) ∧ w6 = wx)
  case first =>
    by_cases a : size = 4
    · subst a; go_wp2; go_meet; exact ⟨rfl, rfl⟩
    by_cases b : size = 8
    · subst b; go_wp2; go_meet; exact ⟨rfl, rfl⟩
    have a' : (size == 4) = false := by simpa using a
    have b' : (size == 8) = false := by simpa using b
    have e := Aside0.mk (wideB_x a b)
    clear a b
    go_wp2; go_meet; exact ⟨congrArg Value.string e.out.symm, rfl⟩
  obtain ⟨rfl, hwx⟩ := hcut
  subst hwx
  go_wp2_with (first | ((with_reducible refine gate_dst (N := 37) rfl ?_); refine litS_event (by rfl) (N := 37) (by rfl) ([⟨#[]⟩, ⟨#[115, 98]⟩, ⟨#[115, 104]⟩, ⟨#[]⟩, ⟨#[115, 119]⟩, ⟨#[]⟩, ⟨#[]⟩, ⟨#[]⟩, ⟨#[115, 100]⟩] : List ByteArray) (by decide) (by first | (go_simp; done) | (go_simp; rfl)) ?_; intro A7 w7 hC hb; have HC := Aside0.mk hC; have HB' := Aside0.mk (below_step HB.out hb); clear HB H3 hC hb y0 y1 y2 y3 y4 y5 y6 y7 yf0 yf1 yf2 yf3 yf4 yf5 yf6 yf7; have HB := HB'; clear HB') | fail)
  refine (of_at ([⟨#[]⟩, ⟨#[115, 98]⟩, ⟨#[115, 104]⟩, ⟨#[]⟩, ⟨#[115, 119]⟩, ⟨#[]⟩, ⟨#[]⟩, ⟨#[]⟩, ⟨#[115, 100]⟩] : List ByteArray) size (by repeat (first | exact HC.out | apply Kd.C_drewN | apply Kd.C_drew)) rfl (by decide)).mono ?_
  rintro e w' ⟨rfl, ⟨nd, rfl⟩⟩
  go_wp2
  go_ret
  exact ⟨by first | rfl | exact ret_s (congrArg (· ++ _) HV.out) | exact ret_s (HV.out.trans rfl) | exact ret_s (by rw [← HV.out]; rfl), by repeat (first | (with_reducible first | exact HB.out | apply below_alloc | apply pw_below_drewN | apply below_drew1) | exact HB.out)⟩

theorem name_13 {kind fn rd rs1 rs2 imm size : Int} {sg : Bool} (W : World) : Calls Tryz.prog 27 #[.agg #[.int .i64 13, .int .i64 fn, .int .i64 rd, .int .i64 rs1, .int .i64 rs2, .int .i64 imm, .int .i64 size, .bool sg]] W fun e w' => e = .returned (.string (ofB fn ([⟨#[]⟩, ⟨#[99, 115, 114, 114, 119]⟩, ⟨#[99, 115, 114, 114, 115]⟩, ⟨#[99, 115, 114, 114, 99]⟩] : List ByteArray))) ∧ Below W.heap.size W w' := by
  have HB := Aside0.mk (Below.refl W.heap.size W)
  have hu23 := Tryz.underlying23
  go_enter Tryz.func27, Tryz.ntmps27
  go_wp2_with (first | ((with_reducible refine gate_dst (N := 1) rfl ?_); refine box_event (by rfl) (N := 1) (by rfl) (cs := #[.int .i64 13, .int .i64 fn, .int .i64 rd, .int .i64 rs1, .int .i64 rs2, .int .i64 imm, .int .i64 size, .bool sg]) (t := 23) (by first | (go_simp; done) | (go_simp; rfl)) ?_; intro g3 hg w3 hbox hb; have H3 := Aside0.mk hbox; have HB' := Aside0.mk (below_step HB.out hb); clear HB; have HB := HB'; clear HB'; obtain ⟨y0, y1, y2, y3, y4, y5, y6, y7, yf0, yf1, yf2, yf3, yf4, yf5, yf6, yf7⟩ := cells8 H3.out; clear hbox hb hg) | fail)
  refine (operations_calls _).mono ?_
  rintro e w' ⟨rfl, hb⟩
  have H3a := Aside0.mk (blk_below H3.out hb)
  have HBa := Aside0.mk (below_step HB.out hb)
  clear H3 HB hb y0 y1 y2 y3 y4 y5 y6 y7 yf0 yf1 yf2 yf3 yf4 yf5 yf6 yf7
  have H3 := H3a; have HB := HBa
  clear H3a HBa
  go_upto_if 8 with (first | ((with_reducible refine gate_dst (N := 3) rfl ?_); refine box_event (by rfl) (N := 3) (by rfl) (cs := opZ) (t := 83) (by first | (go_simp; done) | (go_simp; rfl)) ?_; intro g5 hg w5 hbox hb; have H5 := Aside0.mk hbox; have H3' := Aside0.mk (blk_below H3.out hb); have HL5 := Aside0.mk (show W.heap.size ≤ g5 by have h1 := HB.out.size; omega); have HN := Aside0.mk (show g3 ≠ g5 by have h1 := blk_lt H3.out; omega); have HB' := Aside0.mk (below_step HB.out hb); clear HB H3; have HB := HB'; have H3 := H3'; clear HB' H3'; clear hbox hb hg) | ((with_reducible refine gate_store (t := 83) rfl ?_); refine store_event rfl 83 (.tmp 3) (.tmp 5) rfl (g := g5) opN H5.out rfl rfl info83 rfl rfl ?_; intro w6 hbox hfar hbel; have H5' := Aside0.mk hbox; have H3' := Aside0.mk (far_blk hfar HN.out H3.out); have HB' := Aside0.mk (hbel _ _ HB.out HL5.out); clear hbox hfar hbel H5 H3 HB; have H3 := H3'; have H5 := H5'; have HB := HB'; clear H3' H5' HB'; obtain ⟨y0, y1, y2, y3, y4, y5, y6, y7, yf0, yf1, yf2, yf3, yf4, yf5, yf6, yf7⟩ := cells8 H3.out) | fail)
  go_cut [4] (fun v4 wx => v4 = .string (wideB size) ∧ w6 = wx)
  case first =>
    by_cases a : size = 4
    · subst a; go_wp2; go_meet; exact ⟨rfl, rfl⟩
    by_cases b : size = 8
    · subst b; go_wp2; go_meet; exact ⟨rfl, rfl⟩
    have a' : (size == 4) = false := by simpa using a
    have b' : (size == 8) = false := by simpa using b
    have e := Aside0.mk (wideB_x a b)
    clear a b
    go_wp2; go_meet; exact ⟨congrArg Value.string e.out.symm, rfl⟩
  obtain ⟨rfl, hwx⟩ := hcut
  subst hwx
  go_wp2_with (first | ((with_reducible refine gate_dst (N := 56) rfl ?_); refine litS_event (by rfl) (N := 56) (by rfl) ([⟨#[]⟩, ⟨#[99, 115, 114, 114, 119]⟩, ⟨#[99, 115, 114, 114, 115]⟩, ⟨#[99, 115, 114, 114, 99]⟩] : List ByteArray) (by decide) (by first | (go_simp; done) | (go_simp; rfl)) ?_; intro A7 w7 hC hb; have HC := Aside0.mk hC; have HB' := Aside0.mk (below_step HB.out hb); clear HB H3 hC hb y0 y1 y2 y3 y4 y5 y6 y7 yf0 yf1 yf2 yf3 yf4 yf5 yf6 yf7; have HB := HB'; clear HB') | fail)
  refine (of_at ([⟨#[]⟩, ⟨#[99, 115, 114, 114, 119]⟩, ⟨#[99, 115, 114, 114, 115]⟩, ⟨#[99, 115, 114, 114, 99]⟩] : List ByteArray) fn (by repeat (first | exact HC.out | apply Kd.C_drewN | apply Kd.C_drew)) rfl (by decide)).mono ?_
  rintro e w' ⟨rfl, ⟨nd, rfl⟩⟩
  go_wp2
  go_ret
  exact ⟨by first | rfl | exact ret_s (congrArg (· ++ _) HV.out) | exact ret_s (HV.out.trans rfl) | exact ret_s (by rw [← HV.out]; rfl), by repeat (first | (with_reducible first | exact HB.out | apply below_alloc | apply pw_below_drewN | apply below_drew1) | exact HB.out)⟩

theorem name_14 {kind fn rd rs1 rs2 imm size : Int} {sg : Bool} (W : World) : Calls Tryz.prog 27 #[.agg #[.int .i64 14, .int .i64 fn, .int .i64 rd, .int .i64 rs1, .int .i64 rs2, .int .i64 imm, .int .i64 size, .bool sg]] W fun e w' => e = .returned (.string (ofB fn ([⟨#[]⟩, ⟨#[99, 115, 114, 114, 119, 105]⟩, ⟨#[99, 115, 114, 114, 115, 105]⟩, ⟨#[99, 115, 114, 114, 99, 105]⟩] : List ByteArray))) ∧ Below W.heap.size W w' := by
  have HB := Aside0.mk (Below.refl W.heap.size W)
  have hu23 := Tryz.underlying23
  go_enter Tryz.func27, Tryz.ntmps27
  go_wp2_with (first | ((with_reducible refine gate_dst (N := 1) rfl ?_); refine box_event (by rfl) (N := 1) (by rfl) (cs := #[.int .i64 14, .int .i64 fn, .int .i64 rd, .int .i64 rs1, .int .i64 rs2, .int .i64 imm, .int .i64 size, .bool sg]) (t := 23) (by first | (go_simp; done) | (go_simp; rfl)) ?_; intro g3 hg w3 hbox hb; have H3 := Aside0.mk hbox; have HB' := Aside0.mk (below_step HB.out hb); clear HB; have HB := HB'; clear HB'; obtain ⟨y0, y1, y2, y3, y4, y5, y6, y7, yf0, yf1, yf2, yf3, yf4, yf5, yf6, yf7⟩ := cells8 H3.out; clear hbox hb hg) | fail)
  refine (operations_calls _).mono ?_
  rintro e w' ⟨rfl, hb⟩
  have H3a := Aside0.mk (blk_below H3.out hb)
  have HBa := Aside0.mk (below_step HB.out hb)
  clear H3 HB hb y0 y1 y2 y3 y4 y5 y6 y7 yf0 yf1 yf2 yf3 yf4 yf5 yf6 yf7
  have H3 := H3a; have HB := HBa
  clear H3a HBa
  go_upto_if 8 with (first | ((with_reducible refine gate_dst (N := 3) rfl ?_); refine box_event (by rfl) (N := 3) (by rfl) (cs := opZ) (t := 83) (by first | (go_simp; done) | (go_simp; rfl)) ?_; intro g5 hg w5 hbox hb; have H5 := Aside0.mk hbox; have H3' := Aside0.mk (blk_below H3.out hb); have HL5 := Aside0.mk (show W.heap.size ≤ g5 by have h1 := HB.out.size; omega); have HN := Aside0.mk (show g3 ≠ g5 by have h1 := blk_lt H3.out; omega); have HB' := Aside0.mk (below_step HB.out hb); clear HB H3; have HB := HB'; have H3 := H3'; clear HB' H3'; clear hbox hb hg) | ((with_reducible refine gate_store (t := 83) rfl ?_); refine store_event rfl 83 (.tmp 3) (.tmp 5) rfl (g := g5) opN H5.out rfl rfl info83 rfl rfl ?_; intro w6 hbox hfar hbel; have H5' := Aside0.mk hbox; have H3' := Aside0.mk (far_blk hfar HN.out H3.out); have HB' := Aside0.mk (hbel _ _ HB.out HL5.out); clear hbox hfar hbel H5 H3 HB; have H3 := H3'; have H5 := H5'; have HB := HB'; clear H3' H5' HB'; obtain ⟨y0, y1, y2, y3, y4, y5, y6, y7, yf0, yf1, yf2, yf3, yf4, yf5, yf6, yf7⟩ := cells8 H3.out) | fail)
  go_cut [4] (fun v4 wx => v4 = .string (wideB size) ∧ w6 = wx)
  case first =>
    by_cases a : size = 4
    · subst a; go_wp2; go_meet; exact ⟨rfl, rfl⟩
    by_cases b : size = 8
    · subst b; go_wp2; go_meet; exact ⟨rfl, rfl⟩
    have a' : (size == 4) = false := by simpa using a
    have b' : (size == 8) = false := by simpa using b
    have e := Aside0.mk (wideB_x a b)
    clear a b
    go_wp2; go_meet; exact ⟨congrArg Value.string e.out.symm, rfl⟩
  obtain ⟨rfl, hwx⟩ := hcut
  subst hwx
  go_wp2_with (first | ((with_reducible refine gate_dst (N := 62) rfl ?_); refine litS_event (by rfl) (N := 62) (by rfl) ([⟨#[]⟩, ⟨#[99, 115, 114, 114, 119, 105]⟩, ⟨#[99, 115, 114, 114, 115, 105]⟩, ⟨#[99, 115, 114, 114, 99, 105]⟩] : List ByteArray) (by decide) (by first | (go_simp; done) | (go_simp; rfl)) ?_; intro A7 w7 hC hb; have HC := Aside0.mk hC; have HB' := Aside0.mk (below_step HB.out hb); clear HB H3 hC hb y0 y1 y2 y3 y4 y5 y6 y7 yf0 yf1 yf2 yf3 yf4 yf5 yf6 yf7; have HB := HB'; clear HB') | fail)
  refine (of_at ([⟨#[]⟩, ⟨#[99, 115, 114, 114, 119, 105]⟩, ⟨#[99, 115, 114, 114, 115, 105]⟩, ⟨#[99, 115, 114, 114, 99, 105]⟩] : List ByteArray) fn (by repeat (first | exact HC.out | apply Kd.C_drewN | apply Kd.C_drew)) rfl (by decide)).mono ?_
  rintro e w' ⟨rfl, ⟨nd, rfl⟩⟩
  go_wp2
  go_ret
  exact ⟨by first | rfl | exact ret_s (congrArg (· ++ _) HV.out) | exact ret_s (HV.out.trans rfl) | exact ret_s (by rw [← HV.out]; rfl), by repeat (first | (with_reducible first | exact HB.out | apply below_alloc | apply pw_below_drewN | apply below_drew1) | exact HB.out)⟩

theorem name_17 {kind fn rd rs1 rs2 imm size : Int} {sg : Bool} (W : World) : Calls Tryz.prog 27 #[.agg #[.int .i64 17, .int .i64 fn, .int .i64 rd, .int .i64 rs1, .int .i64 rs2, .int .i64 imm, .int .i64 size, .bool sg]] W fun e w' => e = .returned (.string (ofB fn ([⟨#[]⟩, ⟨#[97, 109, 111, 115, 119, 97, 112]⟩, ⟨#[97, 109, 111, 97, 100, 100]⟩, ⟨#[97, 109, 111, 120, 111, 114]⟩, ⟨#[97, 109, 111, 97, 110, 100]⟩, ⟨#[97, 109, 111, 111, 114]⟩, ⟨#[97, 109, 111, 109, 105, 110]⟩, ⟨#[97, 109, 111, 109, 97, 120]⟩, ⟨#[97, 109, 111, 109, 105, 110, 117]⟩, ⟨#[97, 109, 111, 109, 97, 120, 117]⟩] : List ByteArray) ++ wideB size)) ∧ Below W.heap.size W w' := by
  have HB := Aside0.mk (Below.refl W.heap.size W)
  have hu23 := Tryz.underlying23
  go_enter Tryz.func27, Tryz.ntmps27
  go_wp2_with (first | ((with_reducible refine gate_dst (N := 1) rfl ?_); refine box_event (by rfl) (N := 1) (by rfl) (cs := #[.int .i64 17, .int .i64 fn, .int .i64 rd, .int .i64 rs1, .int .i64 rs2, .int .i64 imm, .int .i64 size, .bool sg]) (t := 23) (by first | (go_simp; done) | (go_simp; rfl)) ?_; intro g3 hg w3 hbox hb; have H3 := Aside0.mk hbox; have HB' := Aside0.mk (below_step HB.out hb); clear HB; have HB := HB'; clear HB'; obtain ⟨y0, y1, y2, y3, y4, y5, y6, y7, yf0, yf1, yf2, yf3, yf4, yf5, yf6, yf7⟩ := cells8 H3.out; clear hbox hb hg) | fail)
  refine (operations_calls _).mono ?_
  rintro e w' ⟨rfl, hb⟩
  have H3a := Aside0.mk (blk_below H3.out hb)
  have HBa := Aside0.mk (below_step HB.out hb)
  clear H3 HB hb y0 y1 y2 y3 y4 y5 y6 y7 yf0 yf1 yf2 yf3 yf4 yf5 yf6 yf7
  have H3 := H3a; have HB := HBa
  clear H3a HBa
  go_upto_if 8 with (first | ((with_reducible refine gate_dst (N := 3) rfl ?_); refine box_event (by rfl) (N := 3) (by rfl) (cs := opZ) (t := 83) (by first | (go_simp; done) | (go_simp; rfl)) ?_; intro g5 hg w5 hbox hb; have H5 := Aside0.mk hbox; have H3' := Aside0.mk (blk_below H3.out hb); have HL5 := Aside0.mk (show W.heap.size ≤ g5 by have h1 := HB.out.size; omega); have HN := Aside0.mk (show g3 ≠ g5 by have h1 := blk_lt H3.out; omega); have HB' := Aside0.mk (below_step HB.out hb); clear HB H3; have HB := HB'; have H3 := H3'; clear HB' H3'; clear hbox hb hg) | ((with_reducible refine gate_store (t := 83) rfl ?_); refine store_event rfl 83 (.tmp 3) (.tmp 5) rfl (g := g5) opN H5.out rfl rfl info83 rfl rfl ?_; intro w6 hbox hfar hbel; have H5' := Aside0.mk hbox; have H3' := Aside0.mk (far_blk hfar HN.out H3.out); have HB' := Aside0.mk (hbel _ _ HB.out HL5.out); clear hbox hfar hbel H5 H3 HB; have H3 := H3'; have H5 := H5'; have HB := HB'; clear H3' H5' HB'; obtain ⟨y0, y1, y2, y3, y4, y5, y6, y7, yf0, yf1, yf2, yf3, yf4, yf5, yf6, yf7⟩ := cells8 H3.out) | fail)
  go_cut [4] (fun v4 wx => v4 = .string (wideB size) ∧ w6 = wx)
  case first =>
    by_cases a : size = 4
    · subst a; go_wp2; go_meet; exact ⟨rfl, rfl⟩
    by_cases b : size = 8
    · subst b; go_wp2; go_meet; exact ⟨rfl, rfl⟩
    have a' : (size == 4) = false := by simpa using a
    have b' : (size == 8) = false := by simpa using b
    have e := Aside0.mk (wideB_x a b)
    clear a b
    go_wp2; go_meet; exact ⟨congrArg Value.string e.out.symm, rfl⟩
  obtain ⟨rfl, hwx⟩ := hcut
  subst hwx
  obtain ⟨wd, hw⟩ : ∃ x, x = wideB size := ⟨_, rfl⟩
  have hw2 : wd.size ≤ 2 := by rw [hw]; exact wideB_size size
  rw [← hw]
  have HW := Aside0.mk hw
  clear hw
  go_wp2_with (first | ((with_reducible refine gate_dst (N := 68) rfl ?_); refine litS_event (by rfl) (N := 68) (by rfl) ([⟨#[]⟩, ⟨#[97, 109, 111, 115, 119, 97, 112]⟩, ⟨#[97, 109, 111, 97, 100, 100]⟩, ⟨#[97, 109, 111, 120, 111, 114]⟩, ⟨#[97, 109, 111, 97, 110, 100]⟩, ⟨#[97, 109, 111, 111, 114]⟩, ⟨#[97, 109, 111, 109, 105, 110]⟩, ⟨#[97, 109, 111, 109, 97, 120]⟩, ⟨#[97, 109, 111, 109, 105, 110, 117]⟩, ⟨#[97, 109, 111, 109, 97, 120, 117]⟩] : List ByteArray) (by decide) (by first | (go_simp; done) | (go_simp; rfl)) ?_; intro A7 w7 hC hb; have HC := Aside0.mk hC; have HB' := Aside0.mk (below_step HB.out hb); clear HB H3 hC hb y0 y1 y2 y3 y4 y5 y6 y7 yf0 yf1 yf2 yf3 yf4 yf5 yf6 yf7; have HB := HB'; clear HB') | fail)
  refine (of_at ([⟨#[]⟩, ⟨#[97, 109, 111, 115, 119, 97, 112]⟩, ⟨#[97, 109, 111, 97, 100, 100]⟩, ⟨#[97, 109, 111, 120, 111, 114]⟩, ⟨#[97, 109, 111, 97, 110, 100]⟩, ⟨#[97, 109, 111, 111, 114]⟩, ⟨#[97, 109, 111, 109, 105, 110]⟩, ⟨#[97, 109, 111, 109, 97, 120]⟩, ⟨#[97, 109, 111, 109, 105, 110, 117]⟩, ⟨#[97, 109, 111, 109, 97, 120, 117]⟩] : List ByteArray) fn (by repeat (first | exact HC.out | apply Kd.C_drewN | apply Kd.C_drew)) rfl (by decide)).mono ?_
  rintro e w' ⟨rfl, ⟨nd, rfl⟩⟩
  obtain ⟨v, hv⟩ : ∃ v, v = ofB fn ([⟨#[]⟩, ⟨#[97, 109, 111, 115, 119, 97, 112]⟩, ⟨#[97, 109, 111, 97, 100, 100]⟩, ⟨#[97, 109, 111, 120, 111, 114]⟩, ⟨#[97, 109, 111, 97, 110, 100]⟩, ⟨#[97, 109, 111, 111, 114]⟩, ⟨#[97, 109, 111, 109, 105, 110]⟩, ⟨#[97, 109, 111, 109, 97, 120]⟩, ⟨#[97, 109, 111, 109, 105, 110, 117]⟩, ⟨#[97, 109, 111, 109, 97, 120, 117]⟩] : List ByteArray) := ⟨_, rfl⟩
  have hvs : v.size ≤ 100 := by rw [hv]; exact ofB_size _ _ 100 (by decide)
  have hsz : ¬ 9223372036854775807 < v.size + wd.size := by omega
  rw [← hv]
  have HV := Aside0.mk hv
  clear hv hvs
  go_wp2
  go_ret
  obtain rfl := HW.out
  exact ⟨by first | rfl | exact ret_s (congrArg (· ++ _) HV.out) | exact ret_s (HV.out.trans rfl) | exact ret_s (by rw [← HV.out]; rfl), by repeat (first | (with_reducible first | exact HB.out | apply below_alloc | apply pw_below_drewN | apply below_drew1) | exact HB.out)⟩

theorem name_15 {kind fn rd rs1 rs2 imm size : Int} {sg : Bool} (W : World) : Calls Tryz.prog 27 #[.agg #[.int .i64 15, .int .i64 fn, .int .i64 rd, .int .i64 rs1, .int .i64 rs2, .int .i64 imm, .int .i64 size, .bool sg]] W fun e w' => e = .returned (.string ((⟨#[108, 114]⟩ : ByteArray) ++ wideB size)) ∧ Below W.heap.size W w' := by
  have HB := Aside0.mk (Below.refl W.heap.size W)
  have hu23 := Tryz.underlying23
  go_enter Tryz.func27, Tryz.ntmps27
  go_wp2_with (first | ((with_reducible refine gate_dst (N := 1) rfl ?_); refine box_event (by rfl) (N := 1) (by rfl) (cs := #[.int .i64 15, .int .i64 fn, .int .i64 rd, .int .i64 rs1, .int .i64 rs2, .int .i64 imm, .int .i64 size, .bool sg]) (t := 23) (by first | (go_simp; done) | (go_simp; rfl)) ?_; intro g3 hg w3 hbox hb; have H3 := Aside0.mk hbox; have HB' := Aside0.mk (below_step HB.out hb); clear HB; have HB := HB'; clear HB'; obtain ⟨y0, y1, y2, y3, y4, y5, y6, y7, yf0, yf1, yf2, yf3, yf4, yf5, yf6, yf7⟩ := cells8 H3.out; clear hbox hb hg) | fail)
  refine (operations_calls _).mono ?_
  rintro e w' ⟨rfl, hb⟩
  have H3a := Aside0.mk (blk_below H3.out hb)
  have HBa := Aside0.mk (below_step HB.out hb)
  clear H3 HB hb y0 y1 y2 y3 y4 y5 y6 y7 yf0 yf1 yf2 yf3 yf4 yf5 yf6 yf7
  have H3 := H3a; have HB := HBa
  clear H3a HBa
  go_upto_if 8 with (first | ((with_reducible refine gate_dst (N := 3) rfl ?_); refine box_event (by rfl) (N := 3) (by rfl) (cs := opZ) (t := 83) (by first | (go_simp; done) | (go_simp; rfl)) ?_; intro g5 hg w5 hbox hb; have H5 := Aside0.mk hbox; have H3' := Aside0.mk (blk_below H3.out hb); have HL5 := Aside0.mk (show W.heap.size ≤ g5 by have h1 := HB.out.size; omega); have HN := Aside0.mk (show g3 ≠ g5 by have h1 := blk_lt H3.out; omega); have HB' := Aside0.mk (below_step HB.out hb); clear HB H3; have HB := HB'; have H3 := H3'; clear HB' H3'; clear hbox hb hg) | ((with_reducible refine gate_store (t := 83) rfl ?_); refine store_event rfl 83 (.tmp 3) (.tmp 5) rfl (g := g5) opN H5.out rfl rfl info83 rfl rfl ?_; intro w6 hbox hfar hbel; have H5' := Aside0.mk hbox; have H3' := Aside0.mk (far_blk hfar HN.out H3.out); have HB' := Aside0.mk (hbel _ _ HB.out HL5.out); clear hbox hfar hbel H5 H3 HB; have H3 := H3'; have H5 := H5'; have HB := HB'; clear H3' H5' HB'; obtain ⟨y0, y1, y2, y3, y4, y5, y6, y7, yf0, yf1, yf2, yf3, yf4, yf5, yf6, yf7⟩ := cells8 H3.out) | fail)
  go_cut [4] (fun v4 wx => v4 = .string (wideB size) ∧ w6 = wx)
  case first =>
    by_cases a : size = 4
    · subst a; go_wp2; go_meet; exact ⟨rfl, rfl⟩
    by_cases b : size = 8
    · subst b; go_wp2; go_meet; exact ⟨rfl, rfl⟩
    have a' : (size == 4) = false := by simpa using a
    have b' : (size == 8) = false := by simpa using b
    have e := Aside0.mk (wideB_x a b)
    clear a b
    go_wp2; go_meet; exact ⟨congrArg Value.string e.out.symm, rfl⟩
  obtain ⟨rfl, hwx⟩ := hcut
  subst hwx
  obtain ⟨wd, hw⟩ : ∃ x, x = wideB size := ⟨_, rfl⟩
  have hw2 : wd.size ≤ 2 := by rw [hw]; exact wideB_size size
  rw [← hw]
  have HW := Aside0.mk hw
  clear hw
  have hsz : ¬ 9223372036854775807 < 2 + wd.size := by omega
  go_wp2
  go_ret
  obtain rfl := HW.out
  exact ⟨by first | rfl | exact ret_s (congrArg (· ++ _) HV.out) | exact ret_s (HV.out.trans rfl) | exact ret_s (by rw [← HV.out]; rfl), by repeat (first | (with_reducible first | exact HB.out | apply below_alloc | apply pw_below_drewN | apply below_drew1) | exact HB.out)⟩

theorem name_16 {kind fn rd rs1 rs2 imm size : Int} {sg : Bool} (W : World) : Calls Tryz.prog 27 #[.agg #[.int .i64 16, .int .i64 fn, .int .i64 rd, .int .i64 rs1, .int .i64 rs2, .int .i64 imm, .int .i64 size, .bool sg]] W fun e w' => e = .returned (.string ((⟨#[115, 99]⟩ : ByteArray) ++ wideB size)) ∧ Below W.heap.size W w' := by
  have HB := Aside0.mk (Below.refl W.heap.size W)
  have hu23 := Tryz.underlying23
  go_enter Tryz.func27, Tryz.ntmps27
  go_wp2_with (first | ((with_reducible refine gate_dst (N := 1) rfl ?_); refine box_event (by rfl) (N := 1) (by rfl) (cs := #[.int .i64 16, .int .i64 fn, .int .i64 rd, .int .i64 rs1, .int .i64 rs2, .int .i64 imm, .int .i64 size, .bool sg]) (t := 23) (by first | (go_simp; done) | (go_simp; rfl)) ?_; intro g3 hg w3 hbox hb; have H3 := Aside0.mk hbox; have HB' := Aside0.mk (below_step HB.out hb); clear HB; have HB := HB'; clear HB'; obtain ⟨y0, y1, y2, y3, y4, y5, y6, y7, yf0, yf1, yf2, yf3, yf4, yf5, yf6, yf7⟩ := cells8 H3.out; clear hbox hb hg) | fail)
  refine (operations_calls _).mono ?_
  rintro e w' ⟨rfl, hb⟩
  have H3a := Aside0.mk (blk_below H3.out hb)
  have HBa := Aside0.mk (below_step HB.out hb)
  clear H3 HB hb y0 y1 y2 y3 y4 y5 y6 y7 yf0 yf1 yf2 yf3 yf4 yf5 yf6 yf7
  have H3 := H3a; have HB := HBa
  clear H3a HBa
  go_upto_if 8 with (first | ((with_reducible refine gate_dst (N := 3) rfl ?_); refine box_event (by rfl) (N := 3) (by rfl) (cs := opZ) (t := 83) (by first | (go_simp; done) | (go_simp; rfl)) ?_; intro g5 hg w5 hbox hb; have H5 := Aside0.mk hbox; have H3' := Aside0.mk (blk_below H3.out hb); have HL5 := Aside0.mk (show W.heap.size ≤ g5 by have h1 := HB.out.size; omega); have HN := Aside0.mk (show g3 ≠ g5 by have h1 := blk_lt H3.out; omega); have HB' := Aside0.mk (below_step HB.out hb); clear HB H3; have HB := HB'; have H3 := H3'; clear HB' H3'; clear hbox hb hg) | ((with_reducible refine gate_store (t := 83) rfl ?_); refine store_event rfl 83 (.tmp 3) (.tmp 5) rfl (g := g5) opN H5.out rfl rfl info83 rfl rfl ?_; intro w6 hbox hfar hbel; have H5' := Aside0.mk hbox; have H3' := Aside0.mk (far_blk hfar HN.out H3.out); have HB' := Aside0.mk (hbel _ _ HB.out HL5.out); clear hbox hfar hbel H5 H3 HB; have H3 := H3'; have H5 := H5'; have HB := HB'; clear H3' H5' HB'; obtain ⟨y0, y1, y2, y3, y4, y5, y6, y7, yf0, yf1, yf2, yf3, yf4, yf5, yf6, yf7⟩ := cells8 H3.out) | fail)
  go_cut [4] (fun v4 wx => v4 = .string (wideB size) ∧ w6 = wx)
  case first =>
    by_cases a : size = 4
    · subst a; go_wp2; go_meet; exact ⟨rfl, rfl⟩
    by_cases b : size = 8
    · subst b; go_wp2; go_meet; exact ⟨rfl, rfl⟩
    have a' : (size == 4) = false := by simpa using a
    have b' : (size == 8) = false := by simpa using b
    have e := Aside0.mk (wideB_x a b)
    clear a b
    go_wp2; go_meet; exact ⟨congrArg Value.string e.out.symm, rfl⟩
  obtain ⟨rfl, hwx⟩ := hcut
  subst hwx
  obtain ⟨wd, hw⟩ : ∃ x, x = wideB size := ⟨_, rfl⟩
  have hw2 : wd.size ≤ 2 := by rw [hw]; exact wideB_size size
  rw [← hw]
  have HW := Aside0.mk hw
  clear hw
  have hsz : ¬ 9223372036854775807 < 2 + wd.size := by omega
  go_wp2
  go_ret
  obtain rfl := HW.out
  exact ⟨by first | rfl | exact ret_s (congrArg (· ++ _) HV.out) | exact ret_s (HV.out.trans rfl) | exact ret_s (by rw [← HV.out]; rfl), by repeat (first | (with_reducible first | exact HB.out | apply below_alloc | apply pw_below_drewN | apply below_drew1) | exact HB.out)⟩

theorem name_8 {kind fn rd rs1 rs2 imm size : Int} {sg : Bool} (W : World) : Calls Tryz.prog 27 #[.agg #[.int .i64 8, .int .i64 fn, .int .i64 rd, .int .i64 rs1, .int .i64 rs2, .int .i64 imm, .int .i64 size, .bool sg]] W fun e w' => e = .returned (.string (ofB fn L_ops)) ∧ Below W.heap.size W w' := by
  have HB := Aside0.mk (Below.refl W.heap.size W)
  have hu23 := Tryz.underlying23
  go_enter Tryz.func27, Tryz.ntmps27
  go_wp2_with (first | ((with_reducible refine gate_dst (N := 1) rfl ?_); refine box_event (by rfl) (N := 1) (by rfl) (cs := #[.int .i64 8, .int .i64 fn, .int .i64 rd, .int .i64 rs1, .int .i64 rs2, .int .i64 imm, .int .i64 size, .bool sg]) (t := 23) (by first | (go_simp; done) | (go_simp; rfl)) ?_; intro g3 hg w3 hbox hb; have H3 := Aside0.mk hbox; have HB' := Aside0.mk (below_step HB.out hb); clear HB; have HB := HB'; clear HB'; obtain ⟨y0, y1, y2, y3, y4, y5, y6, y7, yf0, yf1, yf2, yf3, yf4, yf5, yf6, yf7⟩ := cells8 H3.out; clear hbox hb hg) | fail)
  refine (operations_calls _).mono ?_
  rintro e w' ⟨rfl, hb⟩
  have H3a := Aside0.mk (blk_below H3.out hb)
  have HBa := Aside0.mk (below_step HB.out hb)
  clear H3 HB hb y0 y1 y2 y3 y4 y5 y6 y7 yf0 yf1 yf2 yf3 yf4 yf5 yf6 yf7
  have H3 := H3a; have HB := HBa
  clear H3a HBa
  go_upto_if 8 with (first | ((with_reducible refine gate_dst (N := 3) rfl ?_); refine box_event (by rfl) (N := 3) (by rfl) (cs := opZ) (t := 83) (by first | (go_simp; done) | (go_simp; rfl)) ?_; intro g5 hg w5 hbox hb; have H5 := Aside0.mk hbox; have H3' := Aside0.mk (blk_below H3.out hb); have HL5 := Aside0.mk (show W.heap.size ≤ g5 by have h1 := HB.out.size; omega); have HN := Aside0.mk (show g3 ≠ g5 by have h1 := blk_lt H3.out; omega); have HB' := Aside0.mk (below_step HB.out hb); clear HB H3; have HB := HB'; have H3 := H3'; clear HB' H3'; clear hbox hb hg) | ((with_reducible refine gate_store (t := 83) rfl ?_); refine store_event rfl 83 (.tmp 3) (.tmp 5) rfl (g := g5) opN H5.out rfl rfl info83 rfl rfl ?_; intro w6 hbox hfar hbel; have H5' := Aside0.mk hbox; have H3' := Aside0.mk (far_blk hfar HN.out H3.out); have HB' := Aside0.mk (hbel _ _ HB.out HL5.out); clear hbox hfar hbel H5 H3 HB; have H3 := H3'; have H5 := H5'; have HB := HB'; clear H3' H5' HB'; obtain ⟨y0, y1, y2, y3, y4, y5, y6, y7, yf0, yf1, yf2, yf3, yf4, yf5, yf6, yf7⟩ := cells8 H3.out) | fail)
  go_cut [4] (fun v4 wx => v4 = .string (wideB size) ∧ w6 = wx)
  case first =>
    by_cases a : size = 4
    · subst a; go_wp2; go_meet; exact ⟨rfl, rfl⟩
    by_cases b : size = 8
    · subst b; go_wp2; go_meet; exact ⟨rfl, rfl⟩
    have a' : (size == 4) = false := by simpa using a
    have b' : (size == 8) = false := by simpa using b
    have e := Aside0.mk (wideB_x a b)
    clear a b
    go_wp2; go_meet; exact ⟨congrArg Value.string e.out.symm, rfl⟩
  obtain ⟨rfl, hwx⟩ := hcut
  subst hwx
  go_upto_region 17 with fail
  refine start_ (n := 5) (S := fun w' => w'.cell? ⟨g3, 0, none⟩ = some (.int .i64 8) ∧ w'.cell? ⟨g3, 1, none⟩ = some (.int .i64 fn) ∧ w'.cell? ⟨g3, 2, none⟩ = some (.int .i64 rd) ∧ w'.cell? ⟨g3, 3, none⟩ = some (.int .i64 rs1) ∧ w'.cell? ⟨g3, 4, none⟩ = some (.int .i64 rs2) ∧ w'.cell? ⟨g3, 5, none⟩ = some (.int .i64 imm) ∧ w'.cell? ⟨g3, 6, none⟩ = some (.int .i64 size) ∧ w'.cell? ⟨g3, 7, none⟩ = some (.bool sg)) (ds := []) #[false, false, false, false, false] (by kernel_rfl) rfl rfl (cells8a H3.out) (fun hHeld => ?_)
  refine pure_ (i := 0) (N := some 41) (v := ?_) (a' := ?_) #[true, false, false, false, false] rfl rfl (by kernel_rfl) (fun _ _ _ h => h) (Or.inl ⟨by rfl, ?_⟩) ?_ ?_
  rotate_left
  · intro w'
    go_simp
    with_reducible rfl
  rotate_left
  · simp only [Act.put, putS]
    rfl
  refine pure_ (i := 2) (N := some 43) (v := ?_) (a' := ?_) #[true, false, true, false, false] rfl rfl (by kernel_rfl) (fun _ _ _ h => h) (Or.inl ⟨by rfl, ?_⟩) ?_ ?_
  rotate_left
  · intro w'
    go_simp
    with_reducible rfl
  rotate_left
  · simp only [Act.put, putS]
    rfl
  refine take_ (i := 1) (N := some 42) (v := ?_) (a' := ?_) #[true, true, true, false, false] rfl rfl (by kernel_rfl) (fun _ _ _ h => h) (Or.inl ⟨by rfl, ?_⟩) hHeld ?_ ?_
  rotate_left
  · rintro w' ⟨s0, s1, s2, s3, s4, s5, s6, s7⟩
    go_simp
    with_reducible rfl
  rotate_left
  · simp only [Act.put, putS]
    rfl
  refine one_ (i := 3) (N := some 44) #[true, true, true, true, false] rfl rfl (by kernel_rfl) (by decide) (fun K hK => ?_)
  refine goes_ Tryz.func57 (by kernel_rfl) rfl #[.int .i64 fn, .slice (some ⟨g5, 0, none⟩) 29 29] (by rfl) rfl rfl (by simp only [List.map_toArray, List.map_cons, List.map_nil]; rfl) ?_
  refine (of_at (W := w6.drew) (n := 29) (c := 29) L_ops fn (str_C (w := w6.drew) (t := 83) (fr := (0, 0)) L_ops (by decide) H5.out) rfl (by decide)).mono ?_
  rintro e w8 ⟨rfl, ⟨nd8, rfl⟩⟩
  refine ⟨_, rfl, ?_⟩
  refine hK.out _ _ (cells8a H3.out) (fun hHeld => ?_)
  clear hK K
  refine norm_ (a' := ?_) ?_ ?_
  rotate_left
  · show Act.put _ (some 44) _ = _
    simp only [Act.put, putS]
    rfl
  refine pure_ (i := 4) (N := some 2) (v := ?_) (a' := ?_) #[true, true, true, true, true] rfl rfl (by kernel_rfl) (fun _ _ _ h => h) (Or.inl ⟨by rfl, ?_⟩) ?_ ?_
  rotate_left
  · intro w'
    go_simp
    with_reducible rfl
  rotate_left
  · simp only [Act.put, putS]
    rfl
  refine done_ (by kernel_rfl) ?_
  go_wp2
  go_ret
  exact ⟨by first | rfl | exact ret_s (congrArg (· ++ _) HV.out) | exact ret_s (HV.out.trans rfl) | exact ret_s (by rw [← HV.out]; rfl), by repeat (first | (with_reducible first | exact HB.out | apply below_alloc | apply pw_below_drewN | apply below_drew1) | exact HB.out)⟩

theorem name_9 {kind fn rd rs1 rs2 imm size : Int} {sg : Bool} (W : World) {v : ByteArray} (HI : Aside0 (∀ W, Calls Tryz.prog 58 #[.string (ofB fn L_ops)] W fun e w' => e = .returned (.string v) ∧ Below W.heap.size W w')) : Calls Tryz.prog 27 #[.agg #[.int .i64 9, .int .i64 fn, .int .i64 rd, .int .i64 rs1, .int .i64 rs2, .int .i64 imm, .int .i64 size, .bool sg]] W fun e w' => e = .returned (.string (v)) ∧ Below W.heap.size W w' := by
  have HB := Aside0.mk (Below.refl W.heap.size W)
  have hu23 := Tryz.underlying23
  go_enter Tryz.func27, Tryz.ntmps27
  go_wp2_with (first | ((with_reducible refine gate_dst (N := 1) rfl ?_); refine box_event (by rfl) (N := 1) (by rfl) (cs := #[.int .i64 9, .int .i64 fn, .int .i64 rd, .int .i64 rs1, .int .i64 rs2, .int .i64 imm, .int .i64 size, .bool sg]) (t := 23) (by first | (go_simp; done) | (go_simp; rfl)) ?_; intro g3 hg w3 hbox hb; have H3 := Aside0.mk hbox; have HB' := Aside0.mk (below_step HB.out hb); clear HB; have HB := HB'; clear HB'; obtain ⟨y0, y1, y2, y3, y4, y5, y6, y7, yf0, yf1, yf2, yf3, yf4, yf5, yf6, yf7⟩ := cells8 H3.out; clear hbox hb hg) | fail)
  refine (operations_calls _).mono ?_
  rintro e w' ⟨rfl, hb⟩
  have H3a := Aside0.mk (blk_below H3.out hb)
  have HBa := Aside0.mk (below_step HB.out hb)
  clear H3 HB hb y0 y1 y2 y3 y4 y5 y6 y7 yf0 yf1 yf2 yf3 yf4 yf5 yf6 yf7
  have H3 := H3a; have HB := HBa
  clear H3a HBa
  go_upto_if 8 with (first | ((with_reducible refine gate_dst (N := 3) rfl ?_); refine box_event (by rfl) (N := 3) (by rfl) (cs := opZ) (t := 83) (by first | (go_simp; done) | (go_simp; rfl)) ?_; intro g5 hg w5 hbox hb; have H5 := Aside0.mk hbox; have H3' := Aside0.mk (blk_below H3.out hb); have HL5 := Aside0.mk (show W.heap.size ≤ g5 by have h1 := HB.out.size; omega); have HN := Aside0.mk (show g3 ≠ g5 by have h1 := blk_lt H3.out; omega); have HB' := Aside0.mk (below_step HB.out hb); clear HB H3; have HB := HB'; have H3 := H3'; clear HB' H3'; clear hbox hb hg) | ((with_reducible refine gate_store (t := 83) rfl ?_); refine store_event rfl 83 (.tmp 3) (.tmp 5) rfl (g := g5) opN H5.out rfl rfl info83 rfl rfl ?_; intro w6 hbox hfar hbel; have H5' := Aside0.mk hbox; have H3' := Aside0.mk (far_blk hfar HN.out H3.out); have HB' := Aside0.mk (hbel _ _ HB.out HL5.out); clear hbox hfar hbel H5 H3 HB; have H3 := H3'; have H5 := H5'; have HB := HB'; clear H3' H5' HB'; obtain ⟨y0, y1, y2, y3, y4, y5, y6, y7, yf0, yf1, yf2, yf3, yf4, yf5, yf6, yf7⟩ := cells8 H3.out) | fail)
  go_cut [4] (fun v4 wx => v4 = .string (wideB size) ∧ w6 = wx)
  case first =>
    by_cases a : size = 4
    · subst a; go_wp2; go_meet; exact ⟨rfl, rfl⟩
    by_cases b : size = 8
    · subst b; go_wp2; go_meet; exact ⟨rfl, rfl⟩
    have a' : (size == 4) = false := by simpa using a
    have b' : (size == 8) = false := by simpa using b
    have e := Aside0.mk (wideB_x a b)
    clear a b
    go_wp2; go_meet; exact ⟨congrArg Value.string e.out.symm, rfl⟩
  obtain ⟨rfl, hwx⟩ := hcut
  subst hwx
  go_upto_region 19 with fail
  refine start_ (n := 6) (S := fun w' => w'.cell? ⟨g3, 0, none⟩ = some (.int .i64 9) ∧ w'.cell? ⟨g3, 1, none⟩ = some (.int .i64 fn) ∧ w'.cell? ⟨g3, 2, none⟩ = some (.int .i64 rd) ∧ w'.cell? ⟨g3, 3, none⟩ = some (.int .i64 rs1) ∧ w'.cell? ⟨g3, 4, none⟩ = some (.int .i64 rs2) ∧ w'.cell? ⟨g3, 5, none⟩ = some (.int .i64 imm) ∧ w'.cell? ⟨g3, 6, none⟩ = some (.int .i64 size) ∧ w'.cell? ⟨g3, 7, none⟩ = some (.bool sg)) (ds := []) #[false, false, false, false, false, false] (by kernel_rfl) rfl rfl (cells8a H3.out) (fun hHeld => ?_)
  refine pure_ (i := 0) (N := some 47) (v := ?_) (a' := ?_) #[true, false, false, false, false, false] rfl rfl (by kernel_rfl) (fun _ _ _ h => h) (Or.inl ⟨by rfl, ?_⟩) ?_ ?_
  rotate_left
  · intro w'
    go_simp
    with_reducible rfl
  rotate_left
  · simp only [Act.put, putS]
    rfl
  refine pure_ (i := 2) (N := some 49) (v := ?_) (a' := ?_) #[true, false, true, false, false, false] rfl rfl (by kernel_rfl) (fun _ _ _ h => h) (Or.inl ⟨by rfl, ?_⟩) ?_ ?_
  rotate_left
  · intro w'
    go_simp
    with_reducible rfl
  rotate_left
  · simp only [Act.put, putS]
    rfl
  refine take_ (i := 1) (N := some 48) (v := ?_) (a' := ?_) #[true, true, true, false, false, false] rfl rfl (by kernel_rfl) (fun _ _ _ h => h) (Or.inl ⟨by rfl, ?_⟩) hHeld ?_ ?_
  rotate_left
  · rintro w' ⟨s0, s1, s2, s3, s4, s5, s6, s7⟩
    go_simp
    with_reducible rfl
  rotate_left
  · simp only [Act.put, putS]
    rfl
  refine one_ (i := 3) (N := some 50) #[true, true, true, true, false, false] rfl rfl (by kernel_rfl) (by decide) (fun K hK => ?_)
  refine goes_ Tryz.func57 (by kernel_rfl) rfl #[.int .i64 fn, .slice (some ⟨g5, 0, none⟩) 29 29] (by rfl) rfl rfl (by simp only [List.map_toArray, List.map_cons, List.map_nil]; rfl) ?_
  refine (of_at (W := w6.drew) (n := 29) (c := 29) L_ops fn (str_C (w := w6.drew) (t := 83) (fr := (0, 0)) L_ops (by decide) H5.out) rfl (by decide)).mono ?_
  rintro e w8 ⟨rfl, ⟨nd8, rfl⟩⟩
  refine ⟨_, rfl, ?_⟩
  refine hK.out _ _ (cells8a H3.out) (fun hHeld => ?_)
  clear hK K
  refine norm_ (a' := ?_) ?_ ?_
  rotate_left
  · show Act.put _ (some 50) _ = _
    simp only [Act.put, putS]
    rfl
  refine one_ (i := 4) (N := some 51) #[true, true, true, true, true, false] rfl rfl (by kernel_rfl) (by decide) (fun K hK => ?_)
  refine goes_ Tryz.func58 (by kernel_rfl) rfl #[.string (ofB fn L_ops)] (by rfl) rfl rfl (by simp only [List.map_toArray, List.map_cons, List.map_nil]; rfl) ?_
  refine (HI.out _).mono ?_
  rintro e w9 ⟨rfl, hb⟩
  refine ⟨_, rfl, ?_⟩
  have HB' := Aside0.mk (below_step (by repeat (first | (with_reducible first | exact HB.out | apply below_alloc | apply pw_below_drewN | apply below_drew1) | exact HB.out)) hb)
  have H3' := Aside0.mk (blk_below (w := w6.drew.drewN nd8) H3.out hb)
  clear hb
  refine hK.out _ _ (cells8a H3'.out) (fun hHeld => ?_)
  clear hK K
  refine norm_ (a' := ?_) ?_ ?_
  rotate_left
  · show Act.put _ (some 51) _ = _
    simp only [Act.put, putS]
    rfl
  refine pure_ (i := 5) (N := some 2) (v := ?_) (a' := ?_) #[true, true, true, true, true, true] rfl rfl (by kernel_rfl) (fun _ _ _ h => h) (Or.inl ⟨by rfl, ?_⟩) ?_ ?_
  rotate_left
  · intro w'
    go_simp
    with_reducible rfl
  rotate_left
  · simp only [Act.put, putS]
    rfl
  refine done_ (by kernel_rfl) ?_
  clear HB H3
  have HB := HB'
  go_wp2
  go_ret
  exact ⟨by first | rfl | exact ret_s (congrArg (· ++ _) HV.out) | exact ret_s (HV.out.trans rfl) | exact ret_s (by rw [← HV.out]; rfl), by repeat (first | (with_reducible first | exact HB.out | apply below_alloc | apply pw_below_drewN | apply below_drew1) | exact HB.out)⟩

theorem name_k {kind fn rd rs1 rs2 imm size : Int} {sg : Bool} (W : World) (n5 : (kind == 5) = false) (n6 : (kind == 6) = false) (n7 : (kind == 7) = false) (n8 : (kind == 8) = false) (n9 : (kind == 9) = false) (n13 : (kind == 13) = false) (n14 : (kind == 14) = false) (n17 : (kind == 17) = false) (n15 : (kind == 15) = false) (n16 : (kind == 16) = false) : Calls Tryz.prog 27 #[.agg #[.int .i64 kind, .int .i64 fn, .int .i64 rd, .int .i64 rs1, .int .i64 rs2, .int .i64 imm, .int .i64 size, .bool sg]] W fun e w' => e = .returned (.string (ofB kind ([⟨#[]⟩, ⟨#[108, 117, 105]⟩, ⟨#[97, 117, 105, 112, 99]⟩, ⟨#[106, 97, 108]⟩, ⟨#[106, 97, 108, 114]⟩, ⟨#[]⟩, ⟨#[]⟩, ⟨#[]⟩, ⟨#[]⟩, ⟨#[]⟩, ⟨#[102, 101, 110, 99, 101]⟩, ⟨#[101, 99, 97, 108, 108]⟩, ⟨#[101, 98, 114, 101, 97, 107]⟩, ⟨#[]⟩, ⟨#[]⟩, ⟨#[]⟩, ⟨#[]⟩, ⟨#[]⟩, ⟨#[115, 114, 101, 116]⟩, ⟨#[119, 102, 105]⟩, ⟨#[115, 102, 101, 110, 99, 101, 46, 118, 109, 97]⟩] : List ByteArray))) ∧ Below W.heap.size W w' := by
  have HB := Aside0.mk (Below.refl W.heap.size W)
  have hu23 := Tryz.underlying23
  go_enter Tryz.func27, Tryz.ntmps27
  go_wp2_with (first | ((with_reducible refine gate_dst (N := 1) rfl ?_); refine box_event (by rfl) (N := 1) (by rfl) (cs := #[.int .i64 kind, .int .i64 fn, .int .i64 rd, .int .i64 rs1, .int .i64 rs2, .int .i64 imm, .int .i64 size, .bool sg]) (t := 23) (by first | (go_simp; done) | (go_simp; rfl)) ?_; intro g3 hg w3 hbox hb; have H3 := Aside0.mk hbox; have HB' := Aside0.mk (below_step HB.out hb); clear HB; have HB := HB'; clear HB'; obtain ⟨y0, y1, y2, y3, y4, y5, y6, y7, yf0, yf1, yf2, yf3, yf4, yf5, yf6, yf7⟩ := cells8 H3.out; clear hbox hb hg) | fail)
  refine (operations_calls _).mono ?_
  rintro e w' ⟨rfl, hb⟩
  have H3a := Aside0.mk (blk_below H3.out hb)
  have HBa := Aside0.mk (below_step HB.out hb)
  clear H3 HB hb y0 y1 y2 y3 y4 y5 y6 y7 yf0 yf1 yf2 yf3 yf4 yf5 yf6 yf7
  have H3 := H3a; have HB := HBa
  clear H3a HBa
  go_upto_if 8 with (first | ((with_reducible refine gate_dst (N := 3) rfl ?_); refine box_event (by rfl) (N := 3) (by rfl) (cs := opZ) (t := 83) (by first | (go_simp; done) | (go_simp; rfl)) ?_; intro g5 hg w5 hbox hb; have H5 := Aside0.mk hbox; have H3' := Aside0.mk (blk_below H3.out hb); have HL5 := Aside0.mk (show W.heap.size ≤ g5 by have h1 := HB.out.size; omega); have HN := Aside0.mk (show g3 ≠ g5 by have h1 := blk_lt H3.out; omega); have HB' := Aside0.mk (below_step HB.out hb); clear HB H3; have HB := HB'; have H3 := H3'; clear HB' H3'; clear hbox hb hg) | ((with_reducible refine gate_store (t := 83) rfl ?_); refine store_event rfl 83 (.tmp 3) (.tmp 5) rfl (g := g5) opN H5.out rfl rfl info83 rfl rfl ?_; intro w6 hbox hfar hbel; have H5' := Aside0.mk hbox; have H3' := Aside0.mk (far_blk hfar HN.out H3.out); have HB' := Aside0.mk (hbel _ _ HB.out HL5.out); clear hbox hfar hbel H5 H3 HB; have H3 := H3'; have H5 := H5'; have HB := HB'; clear H3' H5' HB'; obtain ⟨y0, y1, y2, y3, y4, y5, y6, y7, yf0, yf1, yf2, yf3, yf4, yf5, yf6, yf7⟩ := cells8 H3.out) | fail)
  go_cut [4] (fun v4 wx => v4 = .string (wideB size) ∧ w6 = wx)
  case first =>
    by_cases a : size = 4
    · subst a; go_wp2; go_meet; exact ⟨rfl, rfl⟩
    by_cases b : size = 8
    · subst b; go_wp2; go_meet; exact ⟨rfl, rfl⟩
    have a' : (size == 4) = false := by simpa using a
    have b' : (size == 8) = false := by simpa using b
    have e := Aside0.mk (wideB_x a b)
    clear a b
    go_wp2; go_meet; exact ⟨congrArg Value.string e.out.symm, rfl⟩
  obtain ⟨rfl, hwx⟩ := hcut
  subst hwx
  go_wp2_with (first | ((with_reducible refine gate_dst (N := 82) rfl ?_); refine litS_event (by rfl) (N := 82) (by rfl) ([⟨#[]⟩, ⟨#[108, 117, 105]⟩, ⟨#[97, 117, 105, 112, 99]⟩, ⟨#[106, 97, 108]⟩, ⟨#[106, 97, 108, 114]⟩, ⟨#[]⟩, ⟨#[]⟩, ⟨#[]⟩, ⟨#[]⟩, ⟨#[]⟩, ⟨#[102, 101, 110, 99, 101]⟩, ⟨#[101, 99, 97, 108, 108]⟩, ⟨#[101, 98, 114, 101, 97, 107]⟩, ⟨#[]⟩, ⟨#[]⟩, ⟨#[]⟩, ⟨#[]⟩, ⟨#[]⟩, ⟨#[115, 114, 101, 116]⟩, ⟨#[119, 102, 105]⟩, ⟨#[115, 102, 101, 110, 99, 101, 46, 118, 109, 97]⟩] : List ByteArray) (by decide) (by first | (go_simp; done) | (go_simp; rfl)) ?_; intro A7 w7 hC hb; have HC := Aside0.mk hC; have HB' := Aside0.mk (below_step HB.out hb); clear HB H3 hC hb y0 y1 y2 y3 y4 y5 y6 y7 yf0 yf1 yf2 yf3 yf4 yf5 yf6 yf7; have HB := HB'; clear HB') | fail)
  refine (of_at ([⟨#[]⟩, ⟨#[108, 117, 105]⟩, ⟨#[97, 117, 105, 112, 99]⟩, ⟨#[106, 97, 108]⟩, ⟨#[106, 97, 108, 114]⟩, ⟨#[]⟩, ⟨#[]⟩, ⟨#[]⟩, ⟨#[]⟩, ⟨#[]⟩, ⟨#[102, 101, 110, 99, 101]⟩, ⟨#[101, 99, 97, 108, 108]⟩, ⟨#[101, 98, 114, 101, 97, 107]⟩, ⟨#[]⟩, ⟨#[]⟩, ⟨#[]⟩, ⟨#[]⟩, ⟨#[]⟩, ⟨#[115, 114, 101, 116]⟩, ⟨#[119, 102, 105]⟩, ⟨#[115, 102, 101, 110, 99, 101, 46, 118, 109, 97]⟩] : List ByteArray) kind (by repeat (first | exact HC.out | apply Kd.C_drewN | apply Kd.C_drew)) rfl (by decide)).mono ?_
  rintro e w' ⟨rfl, ⟨nd, rfl⟩⟩
  go_wp2
  go_ret
  exact ⟨by first | rfl | exact ret_s (congrArg (· ++ _) HV.out) | exact ret_s (HV.out.trans rfl) | exact ret_s (by rw [← HV.out]; rfl), by repeat (first | (with_reducible first | exact HB.out | apply below_alloc | apply pw_below_drewN | apply below_drew1) | exact HB.out)⟩

end Go.Proofs.YtjapahcbhjjeiaaGreatDoor.AS
