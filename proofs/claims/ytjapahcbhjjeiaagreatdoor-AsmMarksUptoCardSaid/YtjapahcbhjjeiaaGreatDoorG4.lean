/- The walk of inst.decode, for the ops that have a row. -/
import Derived.Test.YtjapahcbhjjeiaaGreatDoorF1
import Derived.Test.YtjapahcbhjjeiaaGreatDoorG3
namespace Go.Proofs.YtjapahcbhjjeiaaGreatDoor.AS
open Go.RowKit Go.MapKept Go.Proofs.YtjapahcbhjjeiaaGreatDoorW.PrintWords Go.Proofs.YtjapahcbhjjeiaaGreatDoorW.PrintLast Go.Proofs.YtjapahcbhjjeiaaGreatDoorW.PrintMore Go.Proofs.YtjapahcbhjjeiaaGreatDoor.PA
set_option linter.unusedVariables false
set_option linter.unusedSimpArgs false

set_option maxRecDepth 100000 in
set_option maxHeartbeats 4000000 in
theorem decode_row {w op kind imv : Int} {fn : Nat} {a b c : Bool} (W : World) (w0 : 0 ≤ w) (w1 : w < 4294967296) (hop : opW w = op) (hne : (op == 15) = false ∧ (op == 115) = false ∧ (op == 47) = false)
    (hin : (Value.int .i64 op, rowV kind fn a b c) ∈ rowsV) (hu : ∀ p ∈ rowsV, p.1 = Value.int .i64 op → p.2 = rowV kind fn a b c)
    (hE : ∀ args W, (callFunc fn args).run Tryz.prog W = .ok (.enter fn args) W) (hF : ∀ W, Calls Tryz.prog fn #[.int .u32 w] W fun e w' => e = .returned (.int .i64 imv) ∧ Drawn0 W w')
    {r0 r1 r2 r3 r4 r5 r6 : Int} {r7 ok : Bool} (hP : ∀ W, Calls Tryz.prog 103 #[.int .u32 w, .agg #[.int .i64 kind, .int .i64 0, .int .i64 (if a = true then rdW w else 0), .int .i64 (if b = true then rs1W w else 0), .int .i64 (if c = true then rs2W w else 0), .int .i64 imv, .int .i64 0, .bool false]] W fun e w' => e = .returned (.tuple #[.agg #[.int .i64 r0, .int .i64 r1, .int .i64 r2, .int .i64 r3, .int .i64 r4, .int .i64 r5, .int .i64 r6, .bool r7], .bool ok]) ∧ Below W.heap.size W w') :
    Calls Tryz.prog 68 #[.int .u32 w] W fun e w' => e = .returned (.tuple #[.agg #[.int .i64 r0, .int .i64 r1, .int .i64 r2, .int .i64 r3, .int .i64 r4, .int .i64 r5, .int .i64 r6, .bool r7], .bool ok]) ∧ Below W.heap.size W w' := by
  have O : ∀ W, Calls Tryz.prog 95 #[.int .u32 w] W fun e w' => e = .returned (.int .i64 op) ∧ Drawn0 W w' := fun W => by rw [← hop]; exact op_calls W w0 w1
  obtain ⟨n1, n2, n3⟩ := hne
  have HIN := Aside0.mk hin
  have HU := Aside0.mk hu
  have HKS := Aside0.mk (show ∀ p ∈ rowsV, IsKey (.int .i64) p.1 by simp [rowsV, IsKey])
  have HB := Aside0.mk (Below.refl W.heap.size W)
  have hu23 := Tryz.underlying23
  clear hin hu hop
  go_enter Tryz.func68, Tryz.ntmps68
  go_wp2_with (first | ((with_reducible refine gate_dst (N := 2) rfl ?_); refine box_event (by rfl) (N := 2) (by rfl) (cs := #[.int .i64 0, .int .i64 0, .int .i64 0, .int .i64 0, .int .i64 0, .int .i64 0, .int .i64 0, .bool false]) (t := 23) (by first | (go_simp; done) | (go_simp; rfl)) ?_; intro g2 hg w2 hbox hb; have H2 := Aside0.mk hbox; have HB2 := Aside0.mk (below_step HB.out hb); have HL2 := Aside0.mk (show W.heap.size ≤ g2 by omega); clear HB hg; have HB := HB2; clear HB2; clear hbox hb) | fail)
  refine (O _).mono ?_
  rintro e w' ⟨rfl, ⟨nd, rfl⟩⟩
  go_wp2_with fail
  refine (rows_calls _).mono ?_
  rintro e w4 ⟨rfl, hM, hb⟩
  have HB2 := Aside0.mk (below_step (pw_below_drewN HB.out _) hb)
  have H2' := Aside0.mk (blk_below (blk_drewN H2.out _) hb)
  clear HB H2
  have HB := HB2; have H2 := H2'
  clear HB2 H2' hb
  obtain ⟨bm, hbm⟩ : ∃ x, x = (w2.drewN nd).heap.size := ⟨_, rfl⟩
  have HM : Aside0 (MapAt w4 bm rowsV) := ⟨by rw [hbm]; exact hM⟩
  clear hM
  rw [← hbm]
  clear hbm
  go_wp2_with fail
  refine (O _).mono ?_
  rintro e w' ⟨rfl, ⟨nd2, rfl⟩⟩
  have HLK : Aside0 ((Instr.lookup 116 (.map (some bm)) (.int .i64 op) true).run Tryz.prog (w4.drewN nd2) = .ok (.tuple #[rowV kind fn a b c, .bool true]) (w4.drewN nd2)) := ⟨(HM.out.same (w1 := w4.drewN nd2) rfl).look Tryz.underlying116 Tryz.underlying3 (show IsKey (.int .i64) (.int .i64 op) from rfl) HKS.out HIN.out HU.out true⟩
  go_upto_region 11 with (first | ((with_reducible refine gate_dst (N := 31) rfl ?_); refine look_event rfl _ _ 116 true rfl (.map (some bm)) (.int .i64 op) (.tuple #[rowV kind fn a b c, .bool true]) rfl rfl HLK.out ?_; unfold rowV) | ((with_reducible refine gate_dst (N := 4) rfl ?_); refine box_event (by rfl) (N := 4) (by rfl) (cs := #[.int .i64 0, .nilFunc, .bool false, .bool false, .bool false]) (t := 114) (by first | (go_simp; done) | (go_simp; rfl)) ?_; intro g4 hg w5 hbox hb; have H4 := Aside0.mk hbox; have HB2 := Aside0.mk (below_step (by repeat (first | (with_reducible first | exact HB.out | apply below_alloc | apply pw_below_drewN | apply below_drew1) | exact HB.out)) hb); have H2' := Aside0.mk (blk_below (by (with_reducible repeat (first | refine blk_drewN ?_ _ | refine blk_drew ?_ | refine blk_alloc ?_ _)); exact H2.out) hb); have HL4 := Aside0.mk (show W.heap.size ≤ g4 by have h1 := HB.out.size; simp at hg; omega); have HN4 := Aside0.mk (show g4 ≠ g2 by have h1 := blk_lt H2.out; simp at hg; omega); clear HB H2 hg; have HB := HB2; have H2 := H2'; clear HB2 H2'; clear hbox hb) | ((with_reducible refine gate_store (t := 114) rfl ?_); refine store_event rfl 114 (.tmp 4) (.tmp 32) rfl (g := g4) #[.int .i64 kind, .func (.func fn) #[] #[], .bool a, .bool b, .bool c] H4.out rfl rfl (by kernel_rfl) rfl rfl ?_; intro w6 hbox hfar hbel; have H4' := Aside0.mk hbox; have H2' := Aside0.mk (far_blk hfar (fun e => HN4.out e.symm) H2.out); have HB' := Aside0.mk (hbel _ _ HB.out HL4.out); clear hbox hfar hbel H4 H2 HB; have H4 := H4'; have H2 := H2'; have HB := HB'; clear H4' H2' HB'; have z40 := (blk_cell H4.out 0).trans rfl; have z41 := (blk_cell H4.out 1).trans rfl; have z42 := (blk_cell H4.out 2).trans rfl; have z43 := (blk_cell H4.out 3).trans rfl; have z44 := (blk_cell H4.out 4).trans rfl) | fail)
  refine start_ (n := 9) (S := fun w' => w'.cell? ⟨g4, 0, none⟩ = some (.int .i64 kind) ∧ w'.cell? ⟨g4, 1, none⟩ = some (.func (.func fn) #[] #[])) (ds := [8]) #[false, false, false, false, false, false, false, false, false] (by kernel_rfl) rfl rfl ⟨z40, z41⟩ (fun hHeld => ?_)
  refine pure_ (i := 0) (N := some 37) (v := ?_) (a' := ?_) #[true, false, false, false, false, false, false, false, false] rfl rfl (by kernel_rfl) (fun _ _ _ h => h) (Or.inl ⟨by rfl, ?_⟩) ?_ ?_
  rotate_left
  · intro w'
    go_simp
    with_reducible rfl
  rotate_left
  · simp only [Act.put, putS]
    rfl
  refine pure_ (i := 2) (N := some 39) (v := ?_) (a' := ?_) #[true, false, true, false, false, false, false, false, false] rfl rfl (by kernel_rfl) (fun _ _ _ h => h) (Or.inl ⟨by rfl, ?_⟩) ?_ ?_
  rotate_left
  · intro w'
    go_simp
    with_reducible rfl
  rotate_left
  · simp only [Act.put, putS]
    rfl
  refine pure_ (i := 4) (N := some 41) (v := ?_) (a' := ?_) #[true, false, true, false, true, false, false, false, false] rfl rfl (by kernel_rfl) (fun _ _ _ h => h) (Or.inl ⟨by rfl, ?_⟩) ?_ ?_
  rotate_left
  · intro w'
    go_simp
    with_reducible rfl
  rotate_left
  · simp only [Act.put, putS]
    rfl
  refine take_ (i := 1) (N := some 38) (v := ?_) (a' := ?_) #[true, true, true, false, true, false, false, false, false] rfl rfl (by kernel_rfl) (fun _ _ _ h => h) (Or.inl ⟨by rfl, ?_⟩) hHeld ?_ ?_
  rotate_left
  · rintro w' ⟨s0, s1⟩
    go_simp
    with_reducible rfl
  rotate_left
  · simp only [Act.put, putS]
    rfl
  refine take_ (i := 3) (N := some 40) (v := ?_) (a' := ?_) #[true, true, true, true, true, false, false, false, false] rfl rfl (by kernel_rfl) (fun _ _ _ h => h) (Or.inl ⟨by rfl, ?_⟩) hHeld ?_ ?_
  rotate_left
  · rintro w' ⟨s0, s1⟩
    go_simp
    with_reducible rfl
  rotate_left
  · simp only [Act.put, putS]
    rfl
  refine join_ (σ := Nat) 1 #[true, true, true, true, true, true, true, true, false] (fun s => [(42, .int .i64 imv), (43, .agg #[.int .i64 kind, .int .i64 0, .int .i64 0, .int .i64 0, .int .i64 0, .int .i64 imv, .int .i64 0, .bool false]), (6, .pointer (some ⟨s, 0, none⟩))]) (fun s w' => Aside0 (w'.heap[s]? = some (.cells #[.int .i64 0, .int .i64 0, .int .i64 0, .int .i64 0, .int .i64 0, .int .i64 0, .int .i64 0, .bool false] 23 (0, 0))) ∧ Aside0 (w'.heap[g2]? = some (.cells #[.int .i64 0, .int .i64 0, .int .i64 0, .int .i64 0, .int .i64 0, .int .i64 0, .int .i64 0, .bool false] 23 (0, 0))) ∧ Aside0 (w'.heap[g4]? = some (.cells #[.int .i64 kind, .func (.func fn) #[] #[], .bool a, .bool b, .bool c] 114 (0, 0))) ∧ Aside0 (Below W.heap.size W w') ∧ Aside0 (W.heap.size ≤ s) ∧ Aside0 (s ≠ g2)) ?_ ?_
  rotate_left
  · intro hCont
    refine two_ (i := 5) (j := 7) (Ni := some 42) (Nj := some 6) #[true, true, true, true, true, true, false, false, false] #[true, true, true, true, true, false, false, true, false] rfl rfl rfl rfl (by kernel_rfl) (by decide) (by decide) (fun K hK => ?_) (fun K hK => ?_)
    · skip
      refine call_ fn #[.int .u32 w] (by rfl) rfl ?_ ?_
      · first | (go_simp; done) | (go_simp; exact hE _ _)
      refine (hF _).mono ?_
      rintro e w8 ⟨rfl, ⟨nd8, rfl⟩⟩
      refine ⟨_, rfl, ?_⟩
      refine hK.out _ _ ⟨z40, z41⟩ (fun hHeld => ?_)
      clear hK K
      refine norm_ (a' := ?_) ?_ ?_
      rotate_left
      · show Act.put _ (some 42) _ = _
        simp only [Act.put, putS]
        rfl
      refine pure_ (i := 6) (N := some 43) (v := ?_) (a' := ?_) #[true, true, true, true, true, true, true, false, false] rfl rfl (by kernel_rfl) (fun _ _ _ h => h) (Or.inl ⟨by rfl, ?_⟩) ?_ ?_
      rotate_left
      · intro w'
        go_simp
        with_reducible rfl
      rotate_left
      · simp only [Act.put, putS]
        rfl
      refine one_ (i := 7) (N := some 6) #[true, true, true, true, true, true, true, true, false] rfl rfl (by kernel_rfl) (by decide) (fun K hK => ?_)
      refine value_ (w1 := ?_) (v := ?_) (by rfl) rfl ?_ ?_
      rotate_left 2
      · go_simp
        constructor
        · rfl
        · rfl
      refine hK.out _ _ ⟨(blk_cell (blk_alloc H4.out _) 0).trans rfl, (blk_cell (blk_alloc H4.out _) 1).trans rfl⟩ (fun hHeld => ?_)
      clear hK K
      refine norm_ (a' := ?_) ?_ ?_
      rotate_left
      · show Act.put _ (some 6) _ = _
        simp only [Act.put, putS]
        rfl
      exact norm_ (by simp only [putAll, Act.put, List.setIfInBounds_toArray, List.set_cons_zero, List.set_cons_succ]) (hCont w6.heap.size _ ⟨⟨blk_new _ _⟩, ⟨blk_alloc H2.out _⟩, ⟨blk_alloc H4.out _⟩, ⟨(by repeat (first | (with_reducible first | exact HB.out | apply below_alloc | apply pw_below_drewN | apply below_drew1) | exact HB.out))⟩, ⟨HB.out.size⟩, ⟨Nat.ne_of_gt (blk_lt H2.out)⟩⟩)
    · skip
      refine value_ (w1 := ?_) (v := ?_) (by rfl) rfl ?_ ?_
      rotate_left 2
      · go_simp
        constructor
        · rfl
        · rfl
      refine hK.out _ _ ⟨(blk_cell (blk_alloc H4.out _) 0).trans rfl, (blk_cell (blk_alloc H4.out _) 1).trans rfl⟩ (fun hHeld => ?_)
      clear hK K
      refine norm_ (a' := ?_) ?_ ?_
      rotate_left
      · show Act.put _ (some 6) _ = _
        simp only [Act.put, putS]
        rfl
      refine one_ (i := 5) (N := some 42) #[true, true, true, true, true, true, false, true, false] rfl rfl (by kernel_rfl) (by decide) (fun K hK => ?_)
      refine call_ fn #[.int .u32 w] (by rfl) rfl ?_ ?_
      · first | (go_simp; done) | (go_simp; exact hE _ _)
      refine (hF _).mono ?_
      rintro e w8 ⟨rfl, ⟨nd8, rfl⟩⟩
      refine ⟨_, rfl, ?_⟩
      refine hK.out _ _ ⟨(blk_cell (blk_alloc H4.out _) 0).trans rfl, (blk_cell (blk_alloc H4.out _) 1).trans rfl⟩ (fun hHeld => ?_)
      clear hK K
      refine norm_ (a' := ?_) ?_ ?_
      rotate_left
      · show Act.put _ (some 42) _ = _
        simp only [Act.put, putS]
        rfl
      refine pure_ (i := 6) (N := some 43) (v := ?_) (a' := ?_) #[true, true, true, true, true, true, true, true, false] rfl rfl (by kernel_rfl) (fun _ _ _ h => h) (Or.inl ⟨by rfl, ?_⟩) ?_ ?_
      rotate_left
      · intro w'
        go_simp
        with_reducible rfl
      rotate_left
      · simp only [Act.put, putS]
        rfl
      exact norm_ (by simp only [putAll, Act.put, List.setIfInBounds_toArray, List.set_cons_zero, List.set_cons_succ]) (hCont w6.heap.size _ ⟨⟨blk_new _ _⟩, ⟨blk_alloc H2.out _⟩, ⟨blk_alloc H4.out _⟩, ⟨(by repeat (first | (with_reducible first | exact HB.out | apply below_alloc | apply pw_below_drewN | apply below_drew1) | exact HB.out))⟩, ⟨HB.out.size⟩, ⟨Nat.ne_of_gt (blk_lt H2.out)⟩⟩)
  rintro g6 w9 ⟨K6, K2, K4, KB, KL, KN⟩
  replace K6 : Aside0 (w9.heap[g6]? = some (.cells #[.int .i64 0, .int .i64 0, .int .i64 0, .int .i64 0, .int .i64 0, .int .i64 0, .int .i64 0, .bool false] 23 (0, 0))) := K6
  replace KL : Aside0 (W.heap.size ≤ g6) := KL
  replace KN : Aside0 (g6 ≠ g2) := KN
  have hHeld : w9.cell? ⟨g4, 0, none⟩ = some (.int .i64 kind) ∧ w9.cell? ⟨g4, 1, none⟩ = some (.func (.func fn) #[] #[]) := ⟨(blk_cell K4.out 0).trans rfl, (blk_cell K4.out 1).trans rfl⟩
  refine norm_ (a' := ?_) ?_ ?_
  rotate_left
  · simp only [putAll, Act.put, List.setIfInBounds_toArray, List.set_cons_zero, List.set_cons_succ]
    rfl
  refine last_ (i := 8) (N := none) #[true, true, true, true, true, true, true, true, true] rfl rfl (by kernel_rfl) (by decide) (fun K hK => ?_)
  refine skip_ (by rfl) rfl (run_store_row 23 (.tmp 6) (.tmp 43) rfl #[.int .i64 kind, .int .i64 0, .int .i64 0, .int .i64 0, .int .i64 0, .int .i64 imv, .int .i64 0, .bool false] K6.out rfl rfl (by kernel_rfl) rfl rfl) ?_
  refine hK.out _ _ ?_
  clear hK K
  refine done_ (by kernel_rfl) ?_

  have H6 := Aside0.mk (setRow_heap w9 g6 _ #[.int .i64 kind, .int .i64 0, .int .i64 0, .int .i64 0, .int .i64 0, .int .i64 imv, .int .i64 0, .bool false] 23 (0, 0) K6.out)
  have H2' := Aside0.mk ((row_far w9 g6 #[.int .i64 kind, .int .i64 0, .int .i64 0, .int .i64 0, .int .i64 0, .int .i64 imv, .int .i64 0, .bool false] g2 (fun e => KN.out e.symm)).trans K2.out)
  have HG := Aside0.mk (show g4 ≠ g6 by intro e; have h1 := K4.out; rw [e, K6.out] at h1; cases h1)
  have H4' := Aside0.mk ((row_far w9 g6 #[.int .i64 kind, .int .i64 0, .int .i64 0, .int .i64 0, .int .i64 0, .int .i64 imv, .int .i64 0, .bool false] g4 HG.out).trans K4.out)
  have HB' := Aside0.mk (row_below (cs := #[.int .i64 kind, .int .i64 0, .int .i64 0, .int .i64 0, .int .i64 0, .int .i64 imv, .int .i64 0, .bool false]) KB.out KL.out)
  clear H2 H4 HB K2 K4 K6 KB z40 z41 z42 z43 z44 hHeld
  have H2 := H2'; have H4 := H4'; have HB := HB'
  clear H2' H4' HB'
  obtain ⟨w10, hw10⟩ : ∃ x, x = w9.setRow g6 #[.int .i64 kind, .int .i64 0, .int .i64 0, .int .i64 0, .int .i64 0, .int .i64 imv, .int .i64 0, .bool false] := ⟨_, rfl⟩
  rw [← hw10] at H6 H2 H4 HB ⊢
  clear hw10
  have z42 : w10.cell? ⟨g4, 2, none⟩ = some (.bool a) := (blk_cell H4.out 2).trans rfl
  have z43 : w10.cell? ⟨g4, 3, none⟩ = some (.bool b) := (blk_cell H4.out 3).trans rfl
  have z44 : w10.cell? ⟨g4, 4, none⟩ = some (.bool c) := (blk_cell H4.out 4).trans rfl
  clear HIN HU HLK HM HKS hF hE O
  cases a <;> cases b <;> cases c
  · have y0 : w10.cell? ⟨g6, 0, none⟩ = some (.int .i64 kind) := (blk_cell H6.out 0).trans rfl; have fy0 := blk_frozen H6.out 0; have y1 : w10.cell? ⟨g6, 1, none⟩ = some (.int .i64 0) := (blk_cell H6.out 1).trans rfl; have fy1 := blk_frozen H6.out 1; have y2 : w10.cell? ⟨g6, 2, none⟩ = some (.int .i64 0) := (blk_cell H6.out 2).trans rfl; have fy2 := blk_frozen H6.out 2; have y3 : w10.cell? ⟨g6, 3, none⟩ = some (.int .i64 0) := (blk_cell H6.out 3).trans rfl; have fy3 := blk_frozen H6.out 3; have y4 : w10.cell? ⟨g6, 4, none⟩ = some (.int .i64 0) := (blk_cell H6.out 4).trans rfl; have fy4 := blk_frozen H6.out 4; have y5 : w10.cell? ⟨g6, 5, none⟩ = some (.int .i64 imv) := (blk_cell H6.out 5).trans rfl; have fy5 := blk_frozen H6.out 5; have y6 : w10.cell? ⟨g6, 6, none⟩ = some (.int .i64 0) := (blk_cell H6.out 6).trans rfl; have fy6 := blk_frozen H6.out 6; have y7 : w10.cell? ⟨g6, 7, none⟩ = some (.bool false) := (blk_cell H6.out 7).trans rfl; have fy7 := blk_frozen H6.out 7
    go_wp2_with fail
    refine (hP _).mono ?_
    rintro e w20 ⟨rfl, hb⟩
    have H2' := Aside0.mk (blk_below (blk_drewN H2.out 0) hb)
    have HB' := Aside0.mk (below_step (pw_below_drewN HB.out 0) hb)
    clear H2 H4 H6 HB hb y0 y1 y2 y3 y4 y5 y6 y7 fy0 fy1 fy2 fy3 fy4 fy5 fy6 fy7 z42 z43 z44
    have H2 := H2'; have HB := HB'
    clear H2' HB'
    go_wp2_with (first | ((with_reducible refine gate_store (t := 23) rfl ?_); refine store_event rfl 23 (.tmp 2) (.tmp 62) rfl (g := g2) #[.int .i64 r0, .int .i64 r1, .int .i64 r2, .int .i64 r3, .int .i64 r4, .int .i64 r5, .int .i64 r6, .bool r7] H2.out rfl rfl (by kernel_rfl) rfl rfl ?_; intro w21 hbox hfar hbel; have H2' := Aside0.mk hbox; have HB' := Aside0.mk (hbel _ _ HB.out HL2.out); clear hbox hfar hbel H2 HB) | fail)
    refine bodyPost_ret (results_ct rfl _ _ g2 23 #[.int .i64 r0, .int .i64 r1, .int .i64 r2, .int .i64 r3, .int .i64 r4, .int .i64 r5, .int .i64 r6, .bool r7] (0, 0) _ rfl H2'.out Tryz.underlying23 rfl (by kernel_rfl)) rfl ?_
    exact ⟨rfl, HB'.out⟩
  · have y0 : w10.cell? ⟨g6, 0, none⟩ = some (.int .i64 kind) := (blk_cell H6.out 0).trans rfl; have fy0 := blk_frozen H6.out 0; have y1 : w10.cell? ⟨g6, 1, none⟩ = some (.int .i64 0) := (blk_cell H6.out 1).trans rfl; have fy1 := blk_frozen H6.out 1; have y2 : w10.cell? ⟨g6, 2, none⟩ = some (.int .i64 0) := (blk_cell H6.out 2).trans rfl; have fy2 := blk_frozen H6.out 2; have y3 : w10.cell? ⟨g6, 3, none⟩ = some (.int .i64 0) := (blk_cell H6.out 3).trans rfl; have fy3 := blk_frozen H6.out 3; have y4 : w10.cell? ⟨g6, 4, none⟩ = some (.int .i64 0) := (blk_cell H6.out 4).trans rfl; have fy4 := blk_frozen H6.out 4; have y5 : w10.cell? ⟨g6, 5, none⟩ = some (.int .i64 imv) := (blk_cell H6.out 5).trans rfl; have fy5 := blk_frozen H6.out 5; have y6 : w10.cell? ⟨g6, 6, none⟩ = some (.int .i64 0) := (blk_cell H6.out 6).trans rfl; have fy6 := blk_frozen H6.out 6; have y7 : w10.cell? ⟨g6, 7, none⟩ = some (.bool false) := (blk_cell H6.out 7).trans rfl; have fy7 := blk_frozen H6.out 7
    go_wp2_with fail
    refine (rs2_calls _ w0 w1).mono ?_
    rintro e w' ⟨rfl, ⟨nd11, rfl⟩⟩
    go_wp2_with (first | ((with_reducible refine gate_store (t := 3) rfl ?_); refine set_event rfl 3 _ _ rfl (g := g6) 4 (.int .i64 (rs2W w)) #[.int .i64 kind, .int .i64 0, .int .i64 0, .int .i64 0, .int .i64 (rs2W w), .int .i64 imv, .int .i64 0, .bool false] H6.out (by simp) rfl rfl (by kernel_rfl) rfl rfl rfl ?_; intro w11 hbox hfar hbel; have H6' := Aside0.mk hbox; have H2' := Aside0.mk (far_blk hfar (fun e => KN.out e.symm) H2.out); have H4' := Aside0.mk (far_blk hfar HG.out H4.out); have HB' := Aside0.mk (hbel _ _ (pw_below_drewN HB.out _) KL.out); clear hbox hfar hbel H6 H4 H2 HB y0 y1 y2 y3 y4 y5 y6 y7 fy0 fy1 fy2 fy3 fy4 fy5 fy6 fy7 z42 z43 z44; have H6 := H6'; have H4 := H4'; have H2 := H2'; have HB := HB'; clear H6' H4' H2' HB'; have z42 : w11.cell? ⟨g4, 2, none⟩ = some (.bool false) := (blk_cell H4.out 2).trans rfl; have z43 : w11.cell? ⟨g4, 3, none⟩ = some (.bool false) := (blk_cell H4.out 3).trans rfl; have z44 : w11.cell? ⟨g4, 4, none⟩ = some (.bool true) := (blk_cell H4.out 4).trans rfl; have y0 : w11.cell? ⟨g6, 0, none⟩ = some (.int .i64 kind) := (blk_cell H6.out 0).trans rfl; have fy0 := blk_frozen H6.out 0; have y1 : w11.cell? ⟨g6, 1, none⟩ = some (.int .i64 0) := (blk_cell H6.out 1).trans rfl; have fy1 := blk_frozen H6.out 1; have y2 : w11.cell? ⟨g6, 2, none⟩ = some (.int .i64 0) := (blk_cell H6.out 2).trans rfl; have fy2 := blk_frozen H6.out 2; have y3 : w11.cell? ⟨g6, 3, none⟩ = some (.int .i64 0) := (blk_cell H6.out 3).trans rfl; have fy3 := blk_frozen H6.out 3; have y4 : w11.cell? ⟨g6, 4, none⟩ = some (.int .i64 (rs2W w)) := (blk_cell H6.out 4).trans rfl; have fy4 := blk_frozen H6.out 4; have y5 : w11.cell? ⟨g6, 5, none⟩ = some (.int .i64 imv) := (blk_cell H6.out 5).trans rfl; have fy5 := blk_frozen H6.out 5; have y6 : w11.cell? ⟨g6, 6, none⟩ = some (.int .i64 0) := (blk_cell H6.out 6).trans rfl; have fy6 := blk_frozen H6.out 6; have y7 : w11.cell? ⟨g6, 7, none⟩ = some (.bool false) := (blk_cell H6.out 7).trans rfl; have fy7 := blk_frozen H6.out 7) | fail)
    refine (hP _).mono ?_
    rintro e w20 ⟨rfl, hb⟩
    have H2' := Aside0.mk (blk_below (blk_drewN H2.out 0) hb)
    have HB' := Aside0.mk (below_step (pw_below_drewN HB.out 0) hb)
    clear H2 H4 H6 HB hb y0 y1 y2 y3 y4 y5 y6 y7 fy0 fy1 fy2 fy3 fy4 fy5 fy6 fy7 z42 z43 z44
    have H2 := H2'; have HB := HB'
    clear H2' HB'
    go_wp2_with (first | ((with_reducible refine gate_store (t := 23) rfl ?_); refine store_event rfl 23 (.tmp 2) (.tmp 62) rfl (g := g2) #[.int .i64 r0, .int .i64 r1, .int .i64 r2, .int .i64 r3, .int .i64 r4, .int .i64 r5, .int .i64 r6, .bool r7] H2.out rfl rfl (by kernel_rfl) rfl rfl ?_; intro w21 hbox hfar hbel; have H2' := Aside0.mk hbox; have HB' := Aside0.mk (hbel _ _ HB.out HL2.out); clear hbox hfar hbel H2 HB) | fail)
    refine bodyPost_ret (results_ct rfl _ _ g2 23 #[.int .i64 r0, .int .i64 r1, .int .i64 r2, .int .i64 r3, .int .i64 r4, .int .i64 r5, .int .i64 r6, .bool r7] (0, 0) _ rfl H2'.out Tryz.underlying23 rfl (by kernel_rfl)) rfl ?_
    exact ⟨rfl, HB'.out⟩
  · have y0 : w10.cell? ⟨g6, 0, none⟩ = some (.int .i64 kind) := (blk_cell H6.out 0).trans rfl; have fy0 := blk_frozen H6.out 0; have y1 : w10.cell? ⟨g6, 1, none⟩ = some (.int .i64 0) := (blk_cell H6.out 1).trans rfl; have fy1 := blk_frozen H6.out 1; have y2 : w10.cell? ⟨g6, 2, none⟩ = some (.int .i64 0) := (blk_cell H6.out 2).trans rfl; have fy2 := blk_frozen H6.out 2; have y3 : w10.cell? ⟨g6, 3, none⟩ = some (.int .i64 0) := (blk_cell H6.out 3).trans rfl; have fy3 := blk_frozen H6.out 3; have y4 : w10.cell? ⟨g6, 4, none⟩ = some (.int .i64 0) := (blk_cell H6.out 4).trans rfl; have fy4 := blk_frozen H6.out 4; have y5 : w10.cell? ⟨g6, 5, none⟩ = some (.int .i64 imv) := (blk_cell H6.out 5).trans rfl; have fy5 := blk_frozen H6.out 5; have y6 : w10.cell? ⟨g6, 6, none⟩ = some (.int .i64 0) := (blk_cell H6.out 6).trans rfl; have fy6 := blk_frozen H6.out 6; have y7 : w10.cell? ⟨g6, 7, none⟩ = some (.bool false) := (blk_cell H6.out 7).trans rfl; have fy7 := blk_frozen H6.out 7
    go_wp2_with fail
    refine (rs1_calls _ w0 w1).mono ?_
    rintro e w' ⟨rfl, ⟨nd11, rfl⟩⟩
    go_wp2_with (first | ((with_reducible refine gate_store (t := 3) rfl ?_); refine set_event rfl 3 _ _ rfl (g := g6) 3 (.int .i64 (rs1W w)) #[.int .i64 kind, .int .i64 0, .int .i64 0, .int .i64 (rs1W w), .int .i64 0, .int .i64 imv, .int .i64 0, .bool false] H6.out (by simp) rfl rfl (by kernel_rfl) rfl rfl rfl ?_; intro w11 hbox hfar hbel; have H6' := Aside0.mk hbox; have H2' := Aside0.mk (far_blk hfar (fun e => KN.out e.symm) H2.out); have H4' := Aside0.mk (far_blk hfar HG.out H4.out); have HB' := Aside0.mk (hbel _ _ (pw_below_drewN HB.out _) KL.out); clear hbox hfar hbel H6 H4 H2 HB y0 y1 y2 y3 y4 y5 y6 y7 fy0 fy1 fy2 fy3 fy4 fy5 fy6 fy7 z42 z43 z44; have H6 := H6'; have H4 := H4'; have H2 := H2'; have HB := HB'; clear H6' H4' H2' HB'; have z42 : w11.cell? ⟨g4, 2, none⟩ = some (.bool false) := (blk_cell H4.out 2).trans rfl; have z43 : w11.cell? ⟨g4, 3, none⟩ = some (.bool true) := (blk_cell H4.out 3).trans rfl; have z44 : w11.cell? ⟨g4, 4, none⟩ = some (.bool false) := (blk_cell H4.out 4).trans rfl; have y0 : w11.cell? ⟨g6, 0, none⟩ = some (.int .i64 kind) := (blk_cell H6.out 0).trans rfl; have fy0 := blk_frozen H6.out 0; have y1 : w11.cell? ⟨g6, 1, none⟩ = some (.int .i64 0) := (blk_cell H6.out 1).trans rfl; have fy1 := blk_frozen H6.out 1; have y2 : w11.cell? ⟨g6, 2, none⟩ = some (.int .i64 0) := (blk_cell H6.out 2).trans rfl; have fy2 := blk_frozen H6.out 2; have y3 : w11.cell? ⟨g6, 3, none⟩ = some (.int .i64 (rs1W w)) := (blk_cell H6.out 3).trans rfl; have fy3 := blk_frozen H6.out 3; have y4 : w11.cell? ⟨g6, 4, none⟩ = some (.int .i64 0) := (blk_cell H6.out 4).trans rfl; have fy4 := blk_frozen H6.out 4; have y5 : w11.cell? ⟨g6, 5, none⟩ = some (.int .i64 imv) := (blk_cell H6.out 5).trans rfl; have fy5 := blk_frozen H6.out 5; have y6 : w11.cell? ⟨g6, 6, none⟩ = some (.int .i64 0) := (blk_cell H6.out 6).trans rfl; have fy6 := blk_frozen H6.out 6; have y7 : w11.cell? ⟨g6, 7, none⟩ = some (.bool false) := (blk_cell H6.out 7).trans rfl; have fy7 := blk_frozen H6.out 7) | fail)
    refine (hP _).mono ?_
    rintro e w20 ⟨rfl, hb⟩
    have H2' := Aside0.mk (blk_below (blk_drewN H2.out 0) hb)
    have HB' := Aside0.mk (below_step (pw_below_drewN HB.out 0) hb)
    clear H2 H4 H6 HB hb y0 y1 y2 y3 y4 y5 y6 y7 fy0 fy1 fy2 fy3 fy4 fy5 fy6 fy7 z42 z43 z44
    have H2 := H2'; have HB := HB'
    clear H2' HB'
    go_wp2_with (first | ((with_reducible refine gate_store (t := 23) rfl ?_); refine store_event rfl 23 (.tmp 2) (.tmp 62) rfl (g := g2) #[.int .i64 r0, .int .i64 r1, .int .i64 r2, .int .i64 r3, .int .i64 r4, .int .i64 r5, .int .i64 r6, .bool r7] H2.out rfl rfl (by kernel_rfl) rfl rfl ?_; intro w21 hbox hfar hbel; have H2' := Aside0.mk hbox; have HB' := Aside0.mk (hbel _ _ HB.out HL2.out); clear hbox hfar hbel H2 HB) | fail)
    refine bodyPost_ret (results_ct rfl _ _ g2 23 #[.int .i64 r0, .int .i64 r1, .int .i64 r2, .int .i64 r3, .int .i64 r4, .int .i64 r5, .int .i64 r6, .bool r7] (0, 0) _ rfl H2'.out Tryz.underlying23 rfl (by kernel_rfl)) rfl ?_
    exact ⟨rfl, HB'.out⟩
  · have y0 : w10.cell? ⟨g6, 0, none⟩ = some (.int .i64 kind) := (blk_cell H6.out 0).trans rfl; have fy0 := blk_frozen H6.out 0; have y1 : w10.cell? ⟨g6, 1, none⟩ = some (.int .i64 0) := (blk_cell H6.out 1).trans rfl; have fy1 := blk_frozen H6.out 1; have y2 : w10.cell? ⟨g6, 2, none⟩ = some (.int .i64 0) := (blk_cell H6.out 2).trans rfl; have fy2 := blk_frozen H6.out 2; have y3 : w10.cell? ⟨g6, 3, none⟩ = some (.int .i64 0) := (blk_cell H6.out 3).trans rfl; have fy3 := blk_frozen H6.out 3; have y4 : w10.cell? ⟨g6, 4, none⟩ = some (.int .i64 0) := (blk_cell H6.out 4).trans rfl; have fy4 := blk_frozen H6.out 4; have y5 : w10.cell? ⟨g6, 5, none⟩ = some (.int .i64 imv) := (blk_cell H6.out 5).trans rfl; have fy5 := blk_frozen H6.out 5; have y6 : w10.cell? ⟨g6, 6, none⟩ = some (.int .i64 0) := (blk_cell H6.out 6).trans rfl; have fy6 := blk_frozen H6.out 6; have y7 : w10.cell? ⟨g6, 7, none⟩ = some (.bool false) := (blk_cell H6.out 7).trans rfl; have fy7 := blk_frozen H6.out 7
    go_wp2_with fail
    refine (rs1_calls _ w0 w1).mono ?_
    rintro e w' ⟨rfl, ⟨nd11, rfl⟩⟩
    go_wp2_with (first | ((with_reducible refine gate_store (t := 3) rfl ?_); refine set_event rfl 3 _ _ rfl (g := g6) 3 (.int .i64 (rs1W w)) #[.int .i64 kind, .int .i64 0, .int .i64 0, .int .i64 (rs1W w), .int .i64 0, .int .i64 imv, .int .i64 0, .bool false] H6.out (by simp) rfl rfl (by kernel_rfl) rfl rfl rfl ?_; intro w11 hbox hfar hbel; have H6' := Aside0.mk hbox; have H2' := Aside0.mk (far_blk hfar (fun e => KN.out e.symm) H2.out); have H4' := Aside0.mk (far_blk hfar HG.out H4.out); have HB' := Aside0.mk (hbel _ _ (pw_below_drewN HB.out _) KL.out); clear hbox hfar hbel H6 H4 H2 HB y0 y1 y2 y3 y4 y5 y6 y7 fy0 fy1 fy2 fy3 fy4 fy5 fy6 fy7 z42 z43 z44; have H6 := H6'; have H4 := H4'; have H2 := H2'; have HB := HB'; clear H6' H4' H2' HB'; have z42 : w11.cell? ⟨g4, 2, none⟩ = some (.bool false) := (blk_cell H4.out 2).trans rfl; have z43 : w11.cell? ⟨g4, 3, none⟩ = some (.bool true) := (blk_cell H4.out 3).trans rfl; have z44 : w11.cell? ⟨g4, 4, none⟩ = some (.bool true) := (blk_cell H4.out 4).trans rfl; have y0 : w11.cell? ⟨g6, 0, none⟩ = some (.int .i64 kind) := (blk_cell H6.out 0).trans rfl; have fy0 := blk_frozen H6.out 0; have y1 : w11.cell? ⟨g6, 1, none⟩ = some (.int .i64 0) := (blk_cell H6.out 1).trans rfl; have fy1 := blk_frozen H6.out 1; have y2 : w11.cell? ⟨g6, 2, none⟩ = some (.int .i64 0) := (blk_cell H6.out 2).trans rfl; have fy2 := blk_frozen H6.out 2; have y3 : w11.cell? ⟨g6, 3, none⟩ = some (.int .i64 (rs1W w)) := (blk_cell H6.out 3).trans rfl; have fy3 := blk_frozen H6.out 3; have y4 : w11.cell? ⟨g6, 4, none⟩ = some (.int .i64 0) := (blk_cell H6.out 4).trans rfl; have fy4 := blk_frozen H6.out 4; have y5 : w11.cell? ⟨g6, 5, none⟩ = some (.int .i64 imv) := (blk_cell H6.out 5).trans rfl; have fy5 := blk_frozen H6.out 5; have y6 : w11.cell? ⟨g6, 6, none⟩ = some (.int .i64 0) := (blk_cell H6.out 6).trans rfl; have fy6 := blk_frozen H6.out 6; have y7 : w11.cell? ⟨g6, 7, none⟩ = some (.bool false) := (blk_cell H6.out 7).trans rfl; have fy7 := blk_frozen H6.out 7) | fail)
    refine (rs2_calls _ w0 w1).mono ?_
    rintro e w' ⟨rfl, ⟨nd12, rfl⟩⟩
    go_wp2_with (first | ((with_reducible refine gate_store (t := 3) rfl ?_); refine set_event rfl 3 _ _ rfl (g := g6) 4 (.int .i64 (rs2W w)) #[.int .i64 kind, .int .i64 0, .int .i64 0, .int .i64 (rs1W w), .int .i64 (rs2W w), .int .i64 imv, .int .i64 0, .bool false] H6.out (by simp) rfl rfl (by kernel_rfl) rfl rfl rfl ?_; intro w12 hbox hfar hbel; have H6' := Aside0.mk hbox; have H2' := Aside0.mk (far_blk hfar (fun e => KN.out e.symm) H2.out); have H4' := Aside0.mk (far_blk hfar HG.out H4.out); have HB' := Aside0.mk (hbel _ _ (pw_below_drewN HB.out _) KL.out); clear hbox hfar hbel H6 H4 H2 HB y0 y1 y2 y3 y4 y5 y6 y7 fy0 fy1 fy2 fy3 fy4 fy5 fy6 fy7 z42 z43 z44; have H6 := H6'; have H4 := H4'; have H2 := H2'; have HB := HB'; clear H6' H4' H2' HB'; have z42 : w12.cell? ⟨g4, 2, none⟩ = some (.bool false) := (blk_cell H4.out 2).trans rfl; have z43 : w12.cell? ⟨g4, 3, none⟩ = some (.bool true) := (blk_cell H4.out 3).trans rfl; have z44 : w12.cell? ⟨g4, 4, none⟩ = some (.bool true) := (blk_cell H4.out 4).trans rfl; have y0 : w12.cell? ⟨g6, 0, none⟩ = some (.int .i64 kind) := (blk_cell H6.out 0).trans rfl; have fy0 := blk_frozen H6.out 0; have y1 : w12.cell? ⟨g6, 1, none⟩ = some (.int .i64 0) := (blk_cell H6.out 1).trans rfl; have fy1 := blk_frozen H6.out 1; have y2 : w12.cell? ⟨g6, 2, none⟩ = some (.int .i64 0) := (blk_cell H6.out 2).trans rfl; have fy2 := blk_frozen H6.out 2; have y3 : w12.cell? ⟨g6, 3, none⟩ = some (.int .i64 (rs1W w)) := (blk_cell H6.out 3).trans rfl; have fy3 := blk_frozen H6.out 3; have y4 : w12.cell? ⟨g6, 4, none⟩ = some (.int .i64 (rs2W w)) := (blk_cell H6.out 4).trans rfl; have fy4 := blk_frozen H6.out 4; have y5 : w12.cell? ⟨g6, 5, none⟩ = some (.int .i64 imv) := (blk_cell H6.out 5).trans rfl; have fy5 := blk_frozen H6.out 5; have y6 : w12.cell? ⟨g6, 6, none⟩ = some (.int .i64 0) := (blk_cell H6.out 6).trans rfl; have fy6 := blk_frozen H6.out 6; have y7 : w12.cell? ⟨g6, 7, none⟩ = some (.bool false) := (blk_cell H6.out 7).trans rfl; have fy7 := blk_frozen H6.out 7) | fail)
    refine (hP _).mono ?_
    rintro e w20 ⟨rfl, hb⟩
    have H2' := Aside0.mk (blk_below (blk_drewN H2.out 0) hb)
    have HB' := Aside0.mk (below_step (pw_below_drewN HB.out 0) hb)
    clear H2 H4 H6 HB hb y0 y1 y2 y3 y4 y5 y6 y7 fy0 fy1 fy2 fy3 fy4 fy5 fy6 fy7 z42 z43 z44
    have H2 := H2'; have HB := HB'
    clear H2' HB'
    go_wp2_with (first | ((with_reducible refine gate_store (t := 23) rfl ?_); refine store_event rfl 23 (.tmp 2) (.tmp 62) rfl (g := g2) #[.int .i64 r0, .int .i64 r1, .int .i64 r2, .int .i64 r3, .int .i64 r4, .int .i64 r5, .int .i64 r6, .bool r7] H2.out rfl rfl (by kernel_rfl) rfl rfl ?_; intro w21 hbox hfar hbel; have H2' := Aside0.mk hbox; have HB' := Aside0.mk (hbel _ _ HB.out HL2.out); clear hbox hfar hbel H2 HB) | fail)
    refine bodyPost_ret (results_ct rfl _ _ g2 23 #[.int .i64 r0, .int .i64 r1, .int .i64 r2, .int .i64 r3, .int .i64 r4, .int .i64 r5, .int .i64 r6, .bool r7] (0, 0) _ rfl H2'.out Tryz.underlying23 rfl (by kernel_rfl)) rfl ?_
    exact ⟨rfl, HB'.out⟩
  · have y0 : w10.cell? ⟨g6, 0, none⟩ = some (.int .i64 kind) := (blk_cell H6.out 0).trans rfl; have fy0 := blk_frozen H6.out 0; have y1 : w10.cell? ⟨g6, 1, none⟩ = some (.int .i64 0) := (blk_cell H6.out 1).trans rfl; have fy1 := blk_frozen H6.out 1; have y2 : w10.cell? ⟨g6, 2, none⟩ = some (.int .i64 0) := (blk_cell H6.out 2).trans rfl; have fy2 := blk_frozen H6.out 2; have y3 : w10.cell? ⟨g6, 3, none⟩ = some (.int .i64 0) := (blk_cell H6.out 3).trans rfl; have fy3 := blk_frozen H6.out 3; have y4 : w10.cell? ⟨g6, 4, none⟩ = some (.int .i64 0) := (blk_cell H6.out 4).trans rfl; have fy4 := blk_frozen H6.out 4; have y5 : w10.cell? ⟨g6, 5, none⟩ = some (.int .i64 imv) := (blk_cell H6.out 5).trans rfl; have fy5 := blk_frozen H6.out 5; have y6 : w10.cell? ⟨g6, 6, none⟩ = some (.int .i64 0) := (blk_cell H6.out 6).trans rfl; have fy6 := blk_frozen H6.out 6; have y7 : w10.cell? ⟨g6, 7, none⟩ = some (.bool false) := (blk_cell H6.out 7).trans rfl; have fy7 := blk_frozen H6.out 7
    go_wp2_with fail
    refine (rd_calls _ w0 w1).mono ?_
    rintro e w' ⟨rfl, ⟨nd11, rfl⟩⟩
    go_wp2_with (first | ((with_reducible refine gate_store (t := 3) rfl ?_); refine set_event rfl 3 _ _ rfl (g := g6) 2 (.int .i64 (rdW w)) #[.int .i64 kind, .int .i64 0, .int .i64 (rdW w), .int .i64 0, .int .i64 0, .int .i64 imv, .int .i64 0, .bool false] H6.out (by simp) rfl rfl (by kernel_rfl) rfl rfl rfl ?_; intro w11 hbox hfar hbel; have H6' := Aside0.mk hbox; have H2' := Aside0.mk (far_blk hfar (fun e => KN.out e.symm) H2.out); have H4' := Aside0.mk (far_blk hfar HG.out H4.out); have HB' := Aside0.mk (hbel _ _ (pw_below_drewN HB.out _) KL.out); clear hbox hfar hbel H6 H4 H2 HB y0 y1 y2 y3 y4 y5 y6 y7 fy0 fy1 fy2 fy3 fy4 fy5 fy6 fy7 z42 z43 z44; have H6 := H6'; have H4 := H4'; have H2 := H2'; have HB := HB'; clear H6' H4' H2' HB'; have z42 : w11.cell? ⟨g4, 2, none⟩ = some (.bool true) := (blk_cell H4.out 2).trans rfl; have z43 : w11.cell? ⟨g4, 3, none⟩ = some (.bool false) := (blk_cell H4.out 3).trans rfl; have z44 : w11.cell? ⟨g4, 4, none⟩ = some (.bool false) := (blk_cell H4.out 4).trans rfl; have y0 : w11.cell? ⟨g6, 0, none⟩ = some (.int .i64 kind) := (blk_cell H6.out 0).trans rfl; have fy0 := blk_frozen H6.out 0; have y1 : w11.cell? ⟨g6, 1, none⟩ = some (.int .i64 0) := (blk_cell H6.out 1).trans rfl; have fy1 := blk_frozen H6.out 1; have y2 : w11.cell? ⟨g6, 2, none⟩ = some (.int .i64 (rdW w)) := (blk_cell H6.out 2).trans rfl; have fy2 := blk_frozen H6.out 2; have y3 : w11.cell? ⟨g6, 3, none⟩ = some (.int .i64 0) := (blk_cell H6.out 3).trans rfl; have fy3 := blk_frozen H6.out 3; have y4 : w11.cell? ⟨g6, 4, none⟩ = some (.int .i64 0) := (blk_cell H6.out 4).trans rfl; have fy4 := blk_frozen H6.out 4; have y5 : w11.cell? ⟨g6, 5, none⟩ = some (.int .i64 imv) := (blk_cell H6.out 5).trans rfl; have fy5 := blk_frozen H6.out 5; have y6 : w11.cell? ⟨g6, 6, none⟩ = some (.int .i64 0) := (blk_cell H6.out 6).trans rfl; have fy6 := blk_frozen H6.out 6; have y7 : w11.cell? ⟨g6, 7, none⟩ = some (.bool false) := (blk_cell H6.out 7).trans rfl; have fy7 := blk_frozen H6.out 7) | fail)
    refine (hP _).mono ?_
    rintro e w20 ⟨rfl, hb⟩
    have H2' := Aside0.mk (blk_below (blk_drewN H2.out 0) hb)
    have HB' := Aside0.mk (below_step (pw_below_drewN HB.out 0) hb)
    clear H2 H4 H6 HB hb y0 y1 y2 y3 y4 y5 y6 y7 fy0 fy1 fy2 fy3 fy4 fy5 fy6 fy7 z42 z43 z44
    have H2 := H2'; have HB := HB'
    clear H2' HB'
    go_wp2_with (first | ((with_reducible refine gate_store (t := 23) rfl ?_); refine store_event rfl 23 (.tmp 2) (.tmp 62) rfl (g := g2) #[.int .i64 r0, .int .i64 r1, .int .i64 r2, .int .i64 r3, .int .i64 r4, .int .i64 r5, .int .i64 r6, .bool r7] H2.out rfl rfl (by kernel_rfl) rfl rfl ?_; intro w21 hbox hfar hbel; have H2' := Aside0.mk hbox; have HB' := Aside0.mk (hbel _ _ HB.out HL2.out); clear hbox hfar hbel H2 HB) | fail)
    refine bodyPost_ret (results_ct rfl _ _ g2 23 #[.int .i64 r0, .int .i64 r1, .int .i64 r2, .int .i64 r3, .int .i64 r4, .int .i64 r5, .int .i64 r6, .bool r7] (0, 0) _ rfl H2'.out Tryz.underlying23 rfl (by kernel_rfl)) rfl ?_
    exact ⟨rfl, HB'.out⟩
  · have y0 : w10.cell? ⟨g6, 0, none⟩ = some (.int .i64 kind) := (blk_cell H6.out 0).trans rfl; have fy0 := blk_frozen H6.out 0; have y1 : w10.cell? ⟨g6, 1, none⟩ = some (.int .i64 0) := (blk_cell H6.out 1).trans rfl; have fy1 := blk_frozen H6.out 1; have y2 : w10.cell? ⟨g6, 2, none⟩ = some (.int .i64 0) := (blk_cell H6.out 2).trans rfl; have fy2 := blk_frozen H6.out 2; have y3 : w10.cell? ⟨g6, 3, none⟩ = some (.int .i64 0) := (blk_cell H6.out 3).trans rfl; have fy3 := blk_frozen H6.out 3; have y4 : w10.cell? ⟨g6, 4, none⟩ = some (.int .i64 0) := (blk_cell H6.out 4).trans rfl; have fy4 := blk_frozen H6.out 4; have y5 : w10.cell? ⟨g6, 5, none⟩ = some (.int .i64 imv) := (blk_cell H6.out 5).trans rfl; have fy5 := blk_frozen H6.out 5; have y6 : w10.cell? ⟨g6, 6, none⟩ = some (.int .i64 0) := (blk_cell H6.out 6).trans rfl; have fy6 := blk_frozen H6.out 6; have y7 : w10.cell? ⟨g6, 7, none⟩ = some (.bool false) := (blk_cell H6.out 7).trans rfl; have fy7 := blk_frozen H6.out 7
    go_wp2_with fail
    refine (rd_calls _ w0 w1).mono ?_
    rintro e w' ⟨rfl, ⟨nd11, rfl⟩⟩
    go_wp2_with (first | ((with_reducible refine gate_store (t := 3) rfl ?_); refine set_event rfl 3 _ _ rfl (g := g6) 2 (.int .i64 (rdW w)) #[.int .i64 kind, .int .i64 0, .int .i64 (rdW w), .int .i64 0, .int .i64 0, .int .i64 imv, .int .i64 0, .bool false] H6.out (by simp) rfl rfl (by kernel_rfl) rfl rfl rfl ?_; intro w11 hbox hfar hbel; have H6' := Aside0.mk hbox; have H2' := Aside0.mk (far_blk hfar (fun e => KN.out e.symm) H2.out); have H4' := Aside0.mk (far_blk hfar HG.out H4.out); have HB' := Aside0.mk (hbel _ _ (pw_below_drewN HB.out _) KL.out); clear hbox hfar hbel H6 H4 H2 HB y0 y1 y2 y3 y4 y5 y6 y7 fy0 fy1 fy2 fy3 fy4 fy5 fy6 fy7 z42 z43 z44; have H6 := H6'; have H4 := H4'; have H2 := H2'; have HB := HB'; clear H6' H4' H2' HB'; have z42 : w11.cell? ⟨g4, 2, none⟩ = some (.bool true) := (blk_cell H4.out 2).trans rfl; have z43 : w11.cell? ⟨g4, 3, none⟩ = some (.bool false) := (blk_cell H4.out 3).trans rfl; have z44 : w11.cell? ⟨g4, 4, none⟩ = some (.bool true) := (blk_cell H4.out 4).trans rfl; have y0 : w11.cell? ⟨g6, 0, none⟩ = some (.int .i64 kind) := (blk_cell H6.out 0).trans rfl; have fy0 := blk_frozen H6.out 0; have y1 : w11.cell? ⟨g6, 1, none⟩ = some (.int .i64 0) := (blk_cell H6.out 1).trans rfl; have fy1 := blk_frozen H6.out 1; have y2 : w11.cell? ⟨g6, 2, none⟩ = some (.int .i64 (rdW w)) := (blk_cell H6.out 2).trans rfl; have fy2 := blk_frozen H6.out 2; have y3 : w11.cell? ⟨g6, 3, none⟩ = some (.int .i64 0) := (blk_cell H6.out 3).trans rfl; have fy3 := blk_frozen H6.out 3; have y4 : w11.cell? ⟨g6, 4, none⟩ = some (.int .i64 0) := (blk_cell H6.out 4).trans rfl; have fy4 := blk_frozen H6.out 4; have y5 : w11.cell? ⟨g6, 5, none⟩ = some (.int .i64 imv) := (blk_cell H6.out 5).trans rfl; have fy5 := blk_frozen H6.out 5; have y6 : w11.cell? ⟨g6, 6, none⟩ = some (.int .i64 0) := (blk_cell H6.out 6).trans rfl; have fy6 := blk_frozen H6.out 6; have y7 : w11.cell? ⟨g6, 7, none⟩ = some (.bool false) := (blk_cell H6.out 7).trans rfl; have fy7 := blk_frozen H6.out 7) | fail)
    refine (rs2_calls _ w0 w1).mono ?_
    rintro e w' ⟨rfl, ⟨nd12, rfl⟩⟩
    go_wp2_with (first | ((with_reducible refine gate_store (t := 3) rfl ?_); refine set_event rfl 3 _ _ rfl (g := g6) 4 (.int .i64 (rs2W w)) #[.int .i64 kind, .int .i64 0, .int .i64 (rdW w), .int .i64 0, .int .i64 (rs2W w), .int .i64 imv, .int .i64 0, .bool false] H6.out (by simp) rfl rfl (by kernel_rfl) rfl rfl rfl ?_; intro w12 hbox hfar hbel; have H6' := Aside0.mk hbox; have H2' := Aside0.mk (far_blk hfar (fun e => KN.out e.symm) H2.out); have H4' := Aside0.mk (far_blk hfar HG.out H4.out); have HB' := Aside0.mk (hbel _ _ (pw_below_drewN HB.out _) KL.out); clear hbox hfar hbel H6 H4 H2 HB y0 y1 y2 y3 y4 y5 y6 y7 fy0 fy1 fy2 fy3 fy4 fy5 fy6 fy7 z42 z43 z44; have H6 := H6'; have H4 := H4'; have H2 := H2'; have HB := HB'; clear H6' H4' H2' HB'; have z42 : w12.cell? ⟨g4, 2, none⟩ = some (.bool true) := (blk_cell H4.out 2).trans rfl; have z43 : w12.cell? ⟨g4, 3, none⟩ = some (.bool false) := (blk_cell H4.out 3).trans rfl; have z44 : w12.cell? ⟨g4, 4, none⟩ = some (.bool true) := (blk_cell H4.out 4).trans rfl; have y0 : w12.cell? ⟨g6, 0, none⟩ = some (.int .i64 kind) := (blk_cell H6.out 0).trans rfl; have fy0 := blk_frozen H6.out 0; have y1 : w12.cell? ⟨g6, 1, none⟩ = some (.int .i64 0) := (blk_cell H6.out 1).trans rfl; have fy1 := blk_frozen H6.out 1; have y2 : w12.cell? ⟨g6, 2, none⟩ = some (.int .i64 (rdW w)) := (blk_cell H6.out 2).trans rfl; have fy2 := blk_frozen H6.out 2; have y3 : w12.cell? ⟨g6, 3, none⟩ = some (.int .i64 0) := (blk_cell H6.out 3).trans rfl; have fy3 := blk_frozen H6.out 3; have y4 : w12.cell? ⟨g6, 4, none⟩ = some (.int .i64 (rs2W w)) := (blk_cell H6.out 4).trans rfl; have fy4 := blk_frozen H6.out 4; have y5 : w12.cell? ⟨g6, 5, none⟩ = some (.int .i64 imv) := (blk_cell H6.out 5).trans rfl; have fy5 := blk_frozen H6.out 5; have y6 : w12.cell? ⟨g6, 6, none⟩ = some (.int .i64 0) := (blk_cell H6.out 6).trans rfl; have fy6 := blk_frozen H6.out 6; have y7 : w12.cell? ⟨g6, 7, none⟩ = some (.bool false) := (blk_cell H6.out 7).trans rfl; have fy7 := blk_frozen H6.out 7) | fail)
    refine (hP _).mono ?_
    rintro e w20 ⟨rfl, hb⟩
    have H2' := Aside0.mk (blk_below (blk_drewN H2.out 0) hb)
    have HB' := Aside0.mk (below_step (pw_below_drewN HB.out 0) hb)
    clear H2 H4 H6 HB hb y0 y1 y2 y3 y4 y5 y6 y7 fy0 fy1 fy2 fy3 fy4 fy5 fy6 fy7 z42 z43 z44
    have H2 := H2'; have HB := HB'
    clear H2' HB'
    go_wp2_with (first | ((with_reducible refine gate_store (t := 23) rfl ?_); refine store_event rfl 23 (.tmp 2) (.tmp 62) rfl (g := g2) #[.int .i64 r0, .int .i64 r1, .int .i64 r2, .int .i64 r3, .int .i64 r4, .int .i64 r5, .int .i64 r6, .bool r7] H2.out rfl rfl (by kernel_rfl) rfl rfl ?_; intro w21 hbox hfar hbel; have H2' := Aside0.mk hbox; have HB' := Aside0.mk (hbel _ _ HB.out HL2.out); clear hbox hfar hbel H2 HB) | fail)
    refine bodyPost_ret (results_ct rfl _ _ g2 23 #[.int .i64 r0, .int .i64 r1, .int .i64 r2, .int .i64 r3, .int .i64 r4, .int .i64 r5, .int .i64 r6, .bool r7] (0, 0) _ rfl H2'.out Tryz.underlying23 rfl (by kernel_rfl)) rfl ?_
    exact ⟨rfl, HB'.out⟩
  · have y0 : w10.cell? ⟨g6, 0, none⟩ = some (.int .i64 kind) := (blk_cell H6.out 0).trans rfl; have fy0 := blk_frozen H6.out 0; have y1 : w10.cell? ⟨g6, 1, none⟩ = some (.int .i64 0) := (blk_cell H6.out 1).trans rfl; have fy1 := blk_frozen H6.out 1; have y2 : w10.cell? ⟨g6, 2, none⟩ = some (.int .i64 0) := (blk_cell H6.out 2).trans rfl; have fy2 := blk_frozen H6.out 2; have y3 : w10.cell? ⟨g6, 3, none⟩ = some (.int .i64 0) := (blk_cell H6.out 3).trans rfl; have fy3 := blk_frozen H6.out 3; have y4 : w10.cell? ⟨g6, 4, none⟩ = some (.int .i64 0) := (blk_cell H6.out 4).trans rfl; have fy4 := blk_frozen H6.out 4; have y5 : w10.cell? ⟨g6, 5, none⟩ = some (.int .i64 imv) := (blk_cell H6.out 5).trans rfl; have fy5 := blk_frozen H6.out 5; have y6 : w10.cell? ⟨g6, 6, none⟩ = some (.int .i64 0) := (blk_cell H6.out 6).trans rfl; have fy6 := blk_frozen H6.out 6; have y7 : w10.cell? ⟨g6, 7, none⟩ = some (.bool false) := (blk_cell H6.out 7).trans rfl; have fy7 := blk_frozen H6.out 7
    go_wp2_with fail
    refine (rd_calls _ w0 w1).mono ?_
    rintro e w' ⟨rfl, ⟨nd11, rfl⟩⟩
    go_wp2_with (first | ((with_reducible refine gate_store (t := 3) rfl ?_); refine set_event rfl 3 _ _ rfl (g := g6) 2 (.int .i64 (rdW w)) #[.int .i64 kind, .int .i64 0, .int .i64 (rdW w), .int .i64 0, .int .i64 0, .int .i64 imv, .int .i64 0, .bool false] H6.out (by simp) rfl rfl (by kernel_rfl) rfl rfl rfl ?_; intro w11 hbox hfar hbel; have H6' := Aside0.mk hbox; have H2' := Aside0.mk (far_blk hfar (fun e => KN.out e.symm) H2.out); have H4' := Aside0.mk (far_blk hfar HG.out H4.out); have HB' := Aside0.mk (hbel _ _ (pw_below_drewN HB.out _) KL.out); clear hbox hfar hbel H6 H4 H2 HB y0 y1 y2 y3 y4 y5 y6 y7 fy0 fy1 fy2 fy3 fy4 fy5 fy6 fy7 z42 z43 z44; have H6 := H6'; have H4 := H4'; have H2 := H2'; have HB := HB'; clear H6' H4' H2' HB'; have z42 : w11.cell? ⟨g4, 2, none⟩ = some (.bool true) := (blk_cell H4.out 2).trans rfl; have z43 : w11.cell? ⟨g4, 3, none⟩ = some (.bool true) := (blk_cell H4.out 3).trans rfl; have z44 : w11.cell? ⟨g4, 4, none⟩ = some (.bool false) := (blk_cell H4.out 4).trans rfl; have y0 : w11.cell? ⟨g6, 0, none⟩ = some (.int .i64 kind) := (blk_cell H6.out 0).trans rfl; have fy0 := blk_frozen H6.out 0; have y1 : w11.cell? ⟨g6, 1, none⟩ = some (.int .i64 0) := (blk_cell H6.out 1).trans rfl; have fy1 := blk_frozen H6.out 1; have y2 : w11.cell? ⟨g6, 2, none⟩ = some (.int .i64 (rdW w)) := (blk_cell H6.out 2).trans rfl; have fy2 := blk_frozen H6.out 2; have y3 : w11.cell? ⟨g6, 3, none⟩ = some (.int .i64 0) := (blk_cell H6.out 3).trans rfl; have fy3 := blk_frozen H6.out 3; have y4 : w11.cell? ⟨g6, 4, none⟩ = some (.int .i64 0) := (blk_cell H6.out 4).trans rfl; have fy4 := blk_frozen H6.out 4; have y5 : w11.cell? ⟨g6, 5, none⟩ = some (.int .i64 imv) := (blk_cell H6.out 5).trans rfl; have fy5 := blk_frozen H6.out 5; have y6 : w11.cell? ⟨g6, 6, none⟩ = some (.int .i64 0) := (blk_cell H6.out 6).trans rfl; have fy6 := blk_frozen H6.out 6; have y7 : w11.cell? ⟨g6, 7, none⟩ = some (.bool false) := (blk_cell H6.out 7).trans rfl; have fy7 := blk_frozen H6.out 7) | fail)
    refine (rs1_calls _ w0 w1).mono ?_
    rintro e w' ⟨rfl, ⟨nd12, rfl⟩⟩
    go_wp2_with (first | ((with_reducible refine gate_store (t := 3) rfl ?_); refine set_event rfl 3 _ _ rfl (g := g6) 3 (.int .i64 (rs1W w)) #[.int .i64 kind, .int .i64 0, .int .i64 (rdW w), .int .i64 (rs1W w), .int .i64 0, .int .i64 imv, .int .i64 0, .bool false] H6.out (by simp) rfl rfl (by kernel_rfl) rfl rfl rfl ?_; intro w12 hbox hfar hbel; have H6' := Aside0.mk hbox; have H2' := Aside0.mk (far_blk hfar (fun e => KN.out e.symm) H2.out); have H4' := Aside0.mk (far_blk hfar HG.out H4.out); have HB' := Aside0.mk (hbel _ _ (pw_below_drewN HB.out _) KL.out); clear hbox hfar hbel H6 H4 H2 HB y0 y1 y2 y3 y4 y5 y6 y7 fy0 fy1 fy2 fy3 fy4 fy5 fy6 fy7 z42 z43 z44; have H6 := H6'; have H4 := H4'; have H2 := H2'; have HB := HB'; clear H6' H4' H2' HB'; have z42 : w12.cell? ⟨g4, 2, none⟩ = some (.bool true) := (blk_cell H4.out 2).trans rfl; have z43 : w12.cell? ⟨g4, 3, none⟩ = some (.bool true) := (blk_cell H4.out 3).trans rfl; have z44 : w12.cell? ⟨g4, 4, none⟩ = some (.bool false) := (blk_cell H4.out 4).trans rfl; have y0 : w12.cell? ⟨g6, 0, none⟩ = some (.int .i64 kind) := (blk_cell H6.out 0).trans rfl; have fy0 := blk_frozen H6.out 0; have y1 : w12.cell? ⟨g6, 1, none⟩ = some (.int .i64 0) := (blk_cell H6.out 1).trans rfl; have fy1 := blk_frozen H6.out 1; have y2 : w12.cell? ⟨g6, 2, none⟩ = some (.int .i64 (rdW w)) := (blk_cell H6.out 2).trans rfl; have fy2 := blk_frozen H6.out 2; have y3 : w12.cell? ⟨g6, 3, none⟩ = some (.int .i64 (rs1W w)) := (blk_cell H6.out 3).trans rfl; have fy3 := blk_frozen H6.out 3; have y4 : w12.cell? ⟨g6, 4, none⟩ = some (.int .i64 0) := (blk_cell H6.out 4).trans rfl; have fy4 := blk_frozen H6.out 4; have y5 : w12.cell? ⟨g6, 5, none⟩ = some (.int .i64 imv) := (blk_cell H6.out 5).trans rfl; have fy5 := blk_frozen H6.out 5; have y6 : w12.cell? ⟨g6, 6, none⟩ = some (.int .i64 0) := (blk_cell H6.out 6).trans rfl; have fy6 := blk_frozen H6.out 6; have y7 : w12.cell? ⟨g6, 7, none⟩ = some (.bool false) := (blk_cell H6.out 7).trans rfl; have fy7 := blk_frozen H6.out 7) | fail)
    refine (hP _).mono ?_
    rintro e w20 ⟨rfl, hb⟩
    have H2' := Aside0.mk (blk_below (blk_drewN H2.out 0) hb)
    have HB' := Aside0.mk (below_step (pw_below_drewN HB.out 0) hb)
    clear H2 H4 H6 HB hb y0 y1 y2 y3 y4 y5 y6 y7 fy0 fy1 fy2 fy3 fy4 fy5 fy6 fy7 z42 z43 z44
    have H2 := H2'; have HB := HB'
    clear H2' HB'
    go_wp2_with (first | ((with_reducible refine gate_store (t := 23) rfl ?_); refine store_event rfl 23 (.tmp 2) (.tmp 62) rfl (g := g2) #[.int .i64 r0, .int .i64 r1, .int .i64 r2, .int .i64 r3, .int .i64 r4, .int .i64 r5, .int .i64 r6, .bool r7] H2.out rfl rfl (by kernel_rfl) rfl rfl ?_; intro w21 hbox hfar hbel; have H2' := Aside0.mk hbox; have HB' := Aside0.mk (hbel _ _ HB.out HL2.out); clear hbox hfar hbel H2 HB) | fail)
    refine bodyPost_ret (results_ct rfl _ _ g2 23 #[.int .i64 r0, .int .i64 r1, .int .i64 r2, .int .i64 r3, .int .i64 r4, .int .i64 r5, .int .i64 r6, .bool r7] (0, 0) _ rfl H2'.out Tryz.underlying23 rfl (by kernel_rfl)) rfl ?_
    exact ⟨rfl, HB'.out⟩
  · have y0 : w10.cell? ⟨g6, 0, none⟩ = some (.int .i64 kind) := (blk_cell H6.out 0).trans rfl; have fy0 := blk_frozen H6.out 0; have y1 : w10.cell? ⟨g6, 1, none⟩ = some (.int .i64 0) := (blk_cell H6.out 1).trans rfl; have fy1 := blk_frozen H6.out 1; have y2 : w10.cell? ⟨g6, 2, none⟩ = some (.int .i64 0) := (blk_cell H6.out 2).trans rfl; have fy2 := blk_frozen H6.out 2; have y3 : w10.cell? ⟨g6, 3, none⟩ = some (.int .i64 0) := (blk_cell H6.out 3).trans rfl; have fy3 := blk_frozen H6.out 3; have y4 : w10.cell? ⟨g6, 4, none⟩ = some (.int .i64 0) := (blk_cell H6.out 4).trans rfl; have fy4 := blk_frozen H6.out 4; have y5 : w10.cell? ⟨g6, 5, none⟩ = some (.int .i64 imv) := (blk_cell H6.out 5).trans rfl; have fy5 := blk_frozen H6.out 5; have y6 : w10.cell? ⟨g6, 6, none⟩ = some (.int .i64 0) := (blk_cell H6.out 6).trans rfl; have fy6 := blk_frozen H6.out 6; have y7 : w10.cell? ⟨g6, 7, none⟩ = some (.bool false) := (blk_cell H6.out 7).trans rfl; have fy7 := blk_frozen H6.out 7
    go_wp2_with fail
    refine (rd_calls _ w0 w1).mono ?_
    rintro e w' ⟨rfl, ⟨nd11, rfl⟩⟩
    go_wp2_with (first | ((with_reducible refine gate_store (t := 3) rfl ?_); refine set_event rfl 3 _ _ rfl (g := g6) 2 (.int .i64 (rdW w)) #[.int .i64 kind, .int .i64 0, .int .i64 (rdW w), .int .i64 0, .int .i64 0, .int .i64 imv, .int .i64 0, .bool false] H6.out (by simp) rfl rfl (by kernel_rfl) rfl rfl rfl ?_; intro w11 hbox hfar hbel; have H6' := Aside0.mk hbox; have H2' := Aside0.mk (far_blk hfar (fun e => KN.out e.symm) H2.out); have H4' := Aside0.mk (far_blk hfar HG.out H4.out); have HB' := Aside0.mk (hbel _ _ (pw_below_drewN HB.out _) KL.out); clear hbox hfar hbel H6 H4 H2 HB y0 y1 y2 y3 y4 y5 y6 y7 fy0 fy1 fy2 fy3 fy4 fy5 fy6 fy7 z42 z43 z44; have H6 := H6'; have H4 := H4'; have H2 := H2'; have HB := HB'; clear H6' H4' H2' HB'; have z42 : w11.cell? ⟨g4, 2, none⟩ = some (.bool true) := (blk_cell H4.out 2).trans rfl; have z43 : w11.cell? ⟨g4, 3, none⟩ = some (.bool true) := (blk_cell H4.out 3).trans rfl; have z44 : w11.cell? ⟨g4, 4, none⟩ = some (.bool true) := (blk_cell H4.out 4).trans rfl; have y0 : w11.cell? ⟨g6, 0, none⟩ = some (.int .i64 kind) := (blk_cell H6.out 0).trans rfl; have fy0 := blk_frozen H6.out 0; have y1 : w11.cell? ⟨g6, 1, none⟩ = some (.int .i64 0) := (blk_cell H6.out 1).trans rfl; have fy1 := blk_frozen H6.out 1; have y2 : w11.cell? ⟨g6, 2, none⟩ = some (.int .i64 (rdW w)) := (blk_cell H6.out 2).trans rfl; have fy2 := blk_frozen H6.out 2; have y3 : w11.cell? ⟨g6, 3, none⟩ = some (.int .i64 0) := (blk_cell H6.out 3).trans rfl; have fy3 := blk_frozen H6.out 3; have y4 : w11.cell? ⟨g6, 4, none⟩ = some (.int .i64 0) := (blk_cell H6.out 4).trans rfl; have fy4 := blk_frozen H6.out 4; have y5 : w11.cell? ⟨g6, 5, none⟩ = some (.int .i64 imv) := (blk_cell H6.out 5).trans rfl; have fy5 := blk_frozen H6.out 5; have y6 : w11.cell? ⟨g6, 6, none⟩ = some (.int .i64 0) := (blk_cell H6.out 6).trans rfl; have fy6 := blk_frozen H6.out 6; have y7 : w11.cell? ⟨g6, 7, none⟩ = some (.bool false) := (blk_cell H6.out 7).trans rfl; have fy7 := blk_frozen H6.out 7) | fail)
    refine (rs1_calls _ w0 w1).mono ?_
    rintro e w' ⟨rfl, ⟨nd12, rfl⟩⟩
    go_wp2_with (first | ((with_reducible refine gate_store (t := 3) rfl ?_); refine set_event rfl 3 _ _ rfl (g := g6) 3 (.int .i64 (rs1W w)) #[.int .i64 kind, .int .i64 0, .int .i64 (rdW w), .int .i64 (rs1W w), .int .i64 0, .int .i64 imv, .int .i64 0, .bool false] H6.out (by simp) rfl rfl (by kernel_rfl) rfl rfl rfl ?_; intro w12 hbox hfar hbel; have H6' := Aside0.mk hbox; have H2' := Aside0.mk (far_blk hfar (fun e => KN.out e.symm) H2.out); have H4' := Aside0.mk (far_blk hfar HG.out H4.out); have HB' := Aside0.mk (hbel _ _ (pw_below_drewN HB.out _) KL.out); clear hbox hfar hbel H6 H4 H2 HB y0 y1 y2 y3 y4 y5 y6 y7 fy0 fy1 fy2 fy3 fy4 fy5 fy6 fy7 z42 z43 z44; have H6 := H6'; have H4 := H4'; have H2 := H2'; have HB := HB'; clear H6' H4' H2' HB'; have z42 : w12.cell? ⟨g4, 2, none⟩ = some (.bool true) := (blk_cell H4.out 2).trans rfl; have z43 : w12.cell? ⟨g4, 3, none⟩ = some (.bool true) := (blk_cell H4.out 3).trans rfl; have z44 : w12.cell? ⟨g4, 4, none⟩ = some (.bool true) := (blk_cell H4.out 4).trans rfl; have y0 : w12.cell? ⟨g6, 0, none⟩ = some (.int .i64 kind) := (blk_cell H6.out 0).trans rfl; have fy0 := blk_frozen H6.out 0; have y1 : w12.cell? ⟨g6, 1, none⟩ = some (.int .i64 0) := (blk_cell H6.out 1).trans rfl; have fy1 := blk_frozen H6.out 1; have y2 : w12.cell? ⟨g6, 2, none⟩ = some (.int .i64 (rdW w)) := (blk_cell H6.out 2).trans rfl; have fy2 := blk_frozen H6.out 2; have y3 : w12.cell? ⟨g6, 3, none⟩ = some (.int .i64 (rs1W w)) := (blk_cell H6.out 3).trans rfl; have fy3 := blk_frozen H6.out 3; have y4 : w12.cell? ⟨g6, 4, none⟩ = some (.int .i64 0) := (blk_cell H6.out 4).trans rfl; have fy4 := blk_frozen H6.out 4; have y5 : w12.cell? ⟨g6, 5, none⟩ = some (.int .i64 imv) := (blk_cell H6.out 5).trans rfl; have fy5 := blk_frozen H6.out 5; have y6 : w12.cell? ⟨g6, 6, none⟩ = some (.int .i64 0) := (blk_cell H6.out 6).trans rfl; have fy6 := blk_frozen H6.out 6; have y7 : w12.cell? ⟨g6, 7, none⟩ = some (.bool false) := (blk_cell H6.out 7).trans rfl; have fy7 := blk_frozen H6.out 7) | fail)
    refine (rs2_calls _ w0 w1).mono ?_
    rintro e w' ⟨rfl, ⟨nd13, rfl⟩⟩
    go_wp2_with (first | ((with_reducible refine gate_store (t := 3) rfl ?_); refine set_event rfl 3 _ _ rfl (g := g6) 4 (.int .i64 (rs2W w)) #[.int .i64 kind, .int .i64 0, .int .i64 (rdW w), .int .i64 (rs1W w), .int .i64 (rs2W w), .int .i64 imv, .int .i64 0, .bool false] H6.out (by simp) rfl rfl (by kernel_rfl) rfl rfl rfl ?_; intro w13 hbox hfar hbel; have H6' := Aside0.mk hbox; have H2' := Aside0.mk (far_blk hfar (fun e => KN.out e.symm) H2.out); have H4' := Aside0.mk (far_blk hfar HG.out H4.out); have HB' := Aside0.mk (hbel _ _ (pw_below_drewN HB.out _) KL.out); clear hbox hfar hbel H6 H4 H2 HB y0 y1 y2 y3 y4 y5 y6 y7 fy0 fy1 fy2 fy3 fy4 fy5 fy6 fy7 z42 z43 z44; have H6 := H6'; have H4 := H4'; have H2 := H2'; have HB := HB'; clear H6' H4' H2' HB'; have z42 : w13.cell? ⟨g4, 2, none⟩ = some (.bool true) := (blk_cell H4.out 2).trans rfl; have z43 : w13.cell? ⟨g4, 3, none⟩ = some (.bool true) := (blk_cell H4.out 3).trans rfl; have z44 : w13.cell? ⟨g4, 4, none⟩ = some (.bool true) := (blk_cell H4.out 4).trans rfl; have y0 : w13.cell? ⟨g6, 0, none⟩ = some (.int .i64 kind) := (blk_cell H6.out 0).trans rfl; have fy0 := blk_frozen H6.out 0; have y1 : w13.cell? ⟨g6, 1, none⟩ = some (.int .i64 0) := (blk_cell H6.out 1).trans rfl; have fy1 := blk_frozen H6.out 1; have y2 : w13.cell? ⟨g6, 2, none⟩ = some (.int .i64 (rdW w)) := (blk_cell H6.out 2).trans rfl; have fy2 := blk_frozen H6.out 2; have y3 : w13.cell? ⟨g6, 3, none⟩ = some (.int .i64 (rs1W w)) := (blk_cell H6.out 3).trans rfl; have fy3 := blk_frozen H6.out 3; have y4 : w13.cell? ⟨g6, 4, none⟩ = some (.int .i64 (rs2W w)) := (blk_cell H6.out 4).trans rfl; have fy4 := blk_frozen H6.out 4; have y5 : w13.cell? ⟨g6, 5, none⟩ = some (.int .i64 imv) := (blk_cell H6.out 5).trans rfl; have fy5 := blk_frozen H6.out 5; have y6 : w13.cell? ⟨g6, 6, none⟩ = some (.int .i64 0) := (blk_cell H6.out 6).trans rfl; have fy6 := blk_frozen H6.out 6; have y7 : w13.cell? ⟨g6, 7, none⟩ = some (.bool false) := (blk_cell H6.out 7).trans rfl; have fy7 := blk_frozen H6.out 7) | fail)
    refine (hP _).mono ?_
    rintro e w20 ⟨rfl, hb⟩
    have H2' := Aside0.mk (blk_below (blk_drewN H2.out 0) hb)
    have HB' := Aside0.mk (below_step (pw_below_drewN HB.out 0) hb)
    clear H2 H4 H6 HB hb y0 y1 y2 y3 y4 y5 y6 y7 fy0 fy1 fy2 fy3 fy4 fy5 fy6 fy7 z42 z43 z44
    have H2 := H2'; have HB := HB'
    clear H2' HB'
    go_wp2_with (first | ((with_reducible refine gate_store (t := 23) rfl ?_); refine store_event rfl 23 (.tmp 2) (.tmp 62) rfl (g := g2) #[.int .i64 r0, .int .i64 r1, .int .i64 r2, .int .i64 r3, .int .i64 r4, .int .i64 r5, .int .i64 r6, .bool r7] H2.out rfl rfl (by kernel_rfl) rfl rfl ?_; intro w21 hbox hfar hbel; have H2' := Aside0.mk hbox; have HB' := Aside0.mk (hbel _ _ HB.out HL2.out); clear hbox hfar hbel H2 HB) | fail)
    refine bodyPost_ret (results_ct rfl _ _ g2 23 #[.int .i64 r0, .int .i64 r1, .int .i64 r2, .int .i64 r3, .int .i64 r4, .int .i64 r5, .int .i64 r6, .bool r7] (0, 0) _ rfl H2'.out Tryz.underlying23 rfl (by kernel_rfl)) rfl ?_
    exact ⟨rfl, HB'.out⟩

end Go.Proofs.YtjapahcbhjjeiaaGreatDoor.AS
