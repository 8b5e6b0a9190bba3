/- AsmParses. -/
import Derived.Test.YtjapahcbhjjeiaaGreatDoorN8
import Derived.Test.YtjapahcbhjjeiaaGreatDoorK18
namespace Go.Proofs.YtjapahcbhjjeiaaGreatDoor.AS
open Go.RowKit Go.WideShapes Go.ChangeShapes Go.Proofs.YtjapahcbhjjeiaaGreatDoorW.PrintWords Go.Proofs.YtjapahcbhjjeiaaGreatDoorW.PrintLast Go.Proofs.YtjapahcbhjjeiaaGreatDoorW.PrintMore Go.Proofs.YtjapahcbhjjeiaaGreatDoor.PA
set_option linter.unusedVariables false
set_option linter.unusedSimpArgs false
set_option maxRecDepth 100000
set_option maxHeartbeats 8000000

theorem parses_walk {l : ByteArray} {kd fn rv r1 r2 imm sz : Int} {sg ok : Bool} (hP : ∀ W, GW W → Calls Tryz.prog 13 #[.string l] W fun e w' => e = .returned (.tuple #[.agg #[.int .i64 kd, .int .i64 fn, .int .i64 rv, .int .i64 r1, .int .i64 r2, .int .i64 imm, .int .i64 sz, .bool sg], .bool ok]) ∧ Below W.heap.size W w')
    (hR : ∀ W, Calls Tryz.prog 14 #[.string l] W fun e w' => e = .returned (.tuple #[.agg #[.int .i64 kd, .int .i64 fn, .int .i64 rv, .int .i64 r1, .int .i64 r2, .int .i64 imm, .int .i64 sz, .bool sg], .bool ok]) ∧ Below W.heap.size W w') (W : World) (hgw : GW W) : Calls Tryz.prog 4 #[.string l] W fun e w' => e = .returned (.bool true) ∧ Below W.heap.size W w' := by
  have HB := Aside0.mk (Below.refl W.heap.size W)
  have HG := Aside0.mk hgw
  have hu23 := Tryz.underlying23
  have AW := awake_calls
  clear hgw
  go_enter Tryz.func4, Tryz.ntmps4
  go_wp2_with fail
  refine (hP _ HG.out).mono ?_
  rintro e w1 ⟨rfl, hb⟩
  have HB1 := Aside0.mk (below_step HB.out hb)
  clear HB hb hP
  have HB := HB1
  clear HB1
  go_wp2_with (first | ((with_reducible refine gate_dst (N := 3) rfl ?_); refine box_event (by rfl) (N := 3) (by rfl) (cs := #[.int .i64 0, .int .i64 0, .int .i64 0, .int .i64 0, .int .i64 0, .int .i64 0, .int .i64 0, .bool false]) (t := 23) (by first | (go_simp; done) | (go_simp; rfl)) ?_; intro g3 hg w3 hbox hb; have H3 := Aside0.mk hbox; have HL3 := Aside0.mk (show W.heap.size ≤ g3 by rw [hg]; exact below_size (by repeat (first | (with_reducible first | exact HB.out | apply below_alloc | apply pw_below_drewN | apply below_drew1) | exact HB.out))); have HB2 := Aside0.mk (below_step (by repeat (first | (with_reducible first | exact HB.out | apply below_alloc | apply pw_below_drewN | apply below_drew1) | exact HB.out)) hb); clear HB hbox hb hg; have HB := HB2; clear HB2) | ((with_reducible refine gate_store (t := 23) rfl ?_); refine store_event rfl 23 (.tmp 3) (.tmp 10) rfl (g := g3) #[.int .i64 kd, .int .i64 fn, .int .i64 rv, .int .i64 r1, .int .i64 r2, .int .i64 imm, .int .i64 sz, .bool sg] H3.out rfl rfl (by kernel_rfl) rfl rfl ?_; intro w7 hbox hfar hbel; have HX3 := Aside0.mk hbox; have HB2 := Aside0.mk (hbel _ _ (by repeat (first | (with_reducible first | exact HB.out | apply below_alloc | apply pw_below_drewN | apply below_drew1) | exact HB.out)) HL3.out);  clear hbox hfar hbel H3 HB; have HB := HB2; clear HB2) | fail)
  refine (hR _).mono ?_
  rintro e w4 ⟨rfl, hb⟩
  have HB1 := Aside0.mk (below_step HB.out hb)
  have H33 := Aside0.mk (blk_below HX3.out hb)
  clear HB hb hR HX3
  have HB := HB1
  have HX3 := H33
  clear HB1 H33
  go_upto_region 3 with (first | ((with_reducible refine gate_dst (N := 5) rfl ?_); refine box_event (by rfl) (N := 5) (by rfl) (cs := #[.int .i64 0, .int .i64 0, .int .i64 0, .int .i64 0, .int .i64 0, .int .i64 0, .int .i64 0, .bool false]) (t := 23) (by first | (go_simp; done) | (go_simp; rfl)) ?_; intro g5 hg w5 hbox hb; have H5 := Aside0.mk hbox; have HL5 := Aside0.mk (show W.heap.size ≤ g5 by rw [hg]; exact below_size (by repeat (first | (with_reducible first | exact HB.out | apply below_alloc | apply pw_below_drewN | apply below_drew1) | exact HB.out))); have HB2 := Aside0.mk (below_step (by repeat (first | (with_reducible first | exact HB.out | apply below_alloc | apply pw_below_drewN | apply below_drew1) | exact HB.out)) hb); have H33 := Aside0.mk (blk_below HX3.out hb); have HL35 := Aside0.mk (show g3 < g5 by have h1 := blk_lt HX3.out; omega); clear HX3; have HX3 := H33; clear H33; clear HB hbox hb hg; have HB := HB2; clear HB2) | ((with_reducible refine gate_store (t := 23) rfl ?_); refine store_event rfl 23 (.tmp 5) (.tmp 15) rfl (g := g5) #[.int .i64 kd, .int .i64 fn, .int .i64 rv, .int .i64 r1, .int .i64 r2, .int .i64 imm, .int .i64 sz, .bool sg] H5.out rfl rfl (by kernel_rfl) rfl rfl ?_; intro w7 hbox hfar hbel; have HX5 := Aside0.mk hbox; have HB2 := Aside0.mk (hbel _ _ (by repeat (first | (with_reducible first | exact HB.out | apply below_alloc | apply pw_below_drewN | apply below_drew1) | exact HB.out)) HL5.out); have H33 := Aside0.mk (far_blk hfar (by have := HL35.out; omega) HX3.out); clear HX3; have HX3 := H33; clear H33; clear hbox hfar hbel H5 HB; have HB := HB2; clear HB2) | fail)
  obtain ⟨y0, y1, y2, y3, y4, y5, y6, y7, yf0, yf1, yf2, yf3, yf4, yf5, yf6, yf7⟩ := cells8 HX3.out
  obtain ⟨z0, z1, z2, z3, z4, z5, z6, z7, zf0, zf1, zf2, zf3, zf4, zf5, zf6, zf7⟩ := cells8 HX5.out
  go_wp2_with (first | (go_at_call 12; (with_reducible refine (AW _ (HG.out.below HB.out)).mono ?_); rintro e w' ⟨rfl, hb⟩; have HB2 := Aside0.mk (below_step (by repeat (first | (with_reducible first | exact HB.out | apply below_alloc | apply pw_below_drewN | apply below_drew1) | exact HB.out)) hb); clear hb HB; have HB := HB2; clear HB2) | fail)
  go_ret
  exact ⟨rfl, HB.out⟩
theorem asmParses_core (H : Type) (enc : TypeId × Value → H) (W : World) (base : Nat) (v0 : Value) (d0 : DataW H) (p0 : List MemPlace)
    (o0 : Value.okWide Tryz.prog W .any base 9 v0) (h0 : DataW.Trod enc Tryz.prog W 0 (fun _ => true) true 9 v0 d0 p0) (hb : Rows.uptoBulkAll [d0] ≤ 1048576) (hg : GW W) :
    Calls Tryz.prog 4 #[v0] W fun e W' => e = .returned (.bool true) ∧ Below W.heap.size W W' := by
  obtain ⟨s, rfl, rfl, _, _⟩ := Go.ChangeMaps.open_string Tryz.underlying9 o0 h0
  simp only [Rows.uptoBulkAll, Rows.uptoBulk] at hb
  have hl : s.data.toList.length ≤ 1073741824 := by omega
  have P := parse_calls s.data.toList hl
  have R := rparse_calls s.data.toList hl
  exact parses_walk P R W hg

end Go.Proofs.YtjapahcbhjjeiaaGreatDoor.AS
