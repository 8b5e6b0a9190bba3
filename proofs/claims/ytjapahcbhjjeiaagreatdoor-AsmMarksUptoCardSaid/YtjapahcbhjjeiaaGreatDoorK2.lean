/- The variables that the library reads; asm.told. -/
import Derived.Test.YtjapahcbhjjeiaaGreatDoorG17
import Derived.Test.YtjapahcbhjjeiaaGreatDoorSh
import Derived.Test.YtjapahcbhjjeiaaGreatDoorE7
namespace Go.Proofs.YtjapahcbhjjeiaaGreatDoor.AS
open Go.RowKit Go.Proofs.YtjapahcbhjjeiaaGreatDoorW.PrintWords Go.Proofs.YtjapahcbhjjeiaaGreatDoorW.PrintLast Go.Proofs.YtjapahcbhjjeiaaGreatDoorW.PrintMore Go.Proofs.YtjapahcbhjjeiaaGreatDoor.PA
set_option linter.unusedVariables false
set_option maxHeartbeats 4000000
set_option maxRecDepth 100000
set_option linter.unusedSimpArgs false

theorem var_on {P : Program} {W W' : World} {g : Nat} {n : String} {cs : Array Value} (hg : P.globalNamed n = some g) (h : W.var? P n = some cs) (hb : Below W.heap.size W W') : W'.var? P n = some cs := by
  unfold World.var? at h ⊢
  rw [hg] at h ⊢
  simp only [Option.bind_some] at h ⊢
  have hlt : g < W.heap.size := by
    rcases Nat.lt_or_ge g W.heap.size with h' | h'
    · exact h'
    · rw [Array.getElem?_eq_none h'] at h; cases h
  rw [hb.block g hlt]
  exact h

theorem gn1 : Tryz.prog.globalNamed "internal/strconv.uint64pow10" = some 1 := by kernel_rfl
theorem gn2 : Tryz.prog.globalNamed "strconv.ErrSyntax" = some 2 := by kernel_rfl
theorem gn3 : Tryz.prog.globalNamed "strconv.ErrRange" = some 3 := by kernel_rfl

structure GW (w : World) : Prop where
  tab : Lib.TabIs Tryz.prog w "internal/strconv.uint64pow10" .u64 Lib.pow10Tab
  es : ∃ tp p, w.var? Tryz.prog "strconv.ErrSyntax" = some #[.iface tp p]
  er : ∃ tp p, w.var? Tryz.prog "strconv.ErrRange" = some #[.iface tp p]
theorem GW.below {w w' : World} (h : GW w) (hb : Below w.heap.size w w') : GW w' := by
  obtain ⟨h1, ⟨t2, p2, h2⟩, ⟨t3, p3, h3⟩⟩ := h
  exact ⟨var_on gn1 h1 hb, ⟨t2, p2, var_on gn2 h2 hb⟩, ⟨t3, p3, var_on gn3 h3 hb⟩⟩

theorem decDigits_le (u : Nat) : (Lib.decDigits u).length ≤ u + 1 := by
  induction u using Nat.strongRecOn with
  | _ u ih =>
    by_cases h : u < 10
    · rw [decDigits_small h]; simp
    · rw [decDigits_big h, List.length_append]
      have := ih (u / 10) (by omega)
      simp only [List.length_singleton]
      omega
theorem itoa_le (n : Int) : (Lib.itoa n).length ≤ n.natAbs + 2 := by
  unfold Lib.itoa
  have h1 := decDigits_le n.natAbs
  have h2 := decDigits_le n.toNat
  split
  · simp only [List.length_cons]; omega
  · omega
theorem bB_size (l : List UInt8) : (bB l).size = l.length := by simp [bB, ByteArray.size]

theorem Itoa_calls (n : Int) (h0 : -9223372036854775808 ≤ n) (h1 : n ≤ 9223372036854775807) (W : World) (hg : GW W) : Calls Tryz.prog 60 #[.int .i64 n] W fun e w' => e = .returned (.string (bB (Lib.itoa n))) ∧ Below W.heap.size W w' := by
  refine (Tryz.strconv_Itoa n h0 h1 W hg.tab).mono ?_
  rintro e w' ⟨rfl, k, os, rfl⟩
  exact ⟨rfl, ⟨rfl, rfl, rfl, (by show W.heap.size ≤ (W.heap ++ os).size; rw [Array.size_append]; omega), fun i hi => (by show (W.heap ++ os)[i]? = W.heap[i]?; exact Array.getElem?_append_left hi)⟩⟩

theorem told_0 {i : Ins} {what : Int} (W : World) (hg : GW W) (h0 : -4611686018427387904 ≤ i.rd) (h1 : i.rd ≤ 4611686018427387904) : Calls Tryz.prog 29 #[.agg #[.int .i64 i.kind, .int .i64 i.fn, .int .i64 i.rd, .int .i64 i.rs1, .int .i64 i.rs2, .int .i64 i.imm, .int .i64 i.size, .bool i.sg], .int .i64 0] W fun e w' => e = .returned (.string (bB (120 :: Lib.itoa i.rd))) ∧ Below W.heap.size W w' := by
  have HB := Aside0.mk (Below.refl W.heap.size W)
  have HG := Aside0.mk hg
  have H0 := Aside0.mk h0
  have H1 := Aside0.mk h1
  have hu23 := Tryz.underlying23
  clear hg h0 h1
  go_enter Tryz.func29, Tryz.ntmps29
  go_wp2_with (first | ((with_reducible refine gate_dst (N := 2) rfl ?_); refine box_event (by rfl) (N := 2) (by rfl) (cs := #[.int .i64 i.kind, .int .i64 i.fn, .int .i64 i.rd, .int .i64 i.rs1, .int .i64 i.rs2, .int .i64 i.imm, .int .i64 i.size, .bool i.sg]) (t := 23) (by first | (go_simp; done) | (go_simp; rfl)) ?_; intro g3 hg w3 hbox hb; have H3 := Aside0.mk hbox; have HB' := Aside0.mk (below_step HB.out hb); have HG' := Aside0.mk (HG.out.below hb); clear HB HG; have HB := HB'; have HG := HG'; clear HB' HG'; obtain ⟨y0, y1, y2, y3, y4, y5, y6, y7, yf0, yf1, yf2, yf3, yf4, yf5, yf6, yf7⟩ := cells8 H3.out; clear hbox hb hg) | fail)
  refine (Itoa_calls (i.rd) (by have := H0.out; omega) (by have := H1.out; omega) _ HG.out).mono ?_
  rintro e w' ⟨rfl, hb⟩
  have HBa := Aside0.mk (below_step HB.out hb)
  clear HB hb y0 y1 y2 y3 y4 y5 y6 y7 yf0 yf1 yf2 yf3 yf4 yf5 yf6 yf7
  have HB := HBa
  obtain ⟨v, hv⟩ : ∃ v, v = bB (Lib.itoa (i.rd)) := ⟨_, rfl⟩
  have HV := Aside0.mk hv
  have hsz : ¬ 9223372036854775807 < 1 + v.size := by have h1 := itoa_le (i.rd); have h2 := H0.out; have h3 := H1.out; have h4 : v.size = (Lib.itoa (i.rd)).length := by rw [hv, bB_size]
                                                      omega
  rw [← hv]
  clear hv
  go_wp2
  go_ret
  exact ⟨ret_s (by rw [HV.out]; exact bB_append [120] _), by repeat (first | (with_reducible first | exact HB.out | apply below_alloc | apply pw_below_drewN | apply below_drew1) | exact HB.out)⟩

theorem told_1 {i : Ins} {what : Int} (W : World) (hg : GW W) (h0 : -4611686018427387904 ≤ i.rs1) (h1 : i.rs1 ≤ 4611686018427387904) : Calls Tryz.prog 29 #[.agg #[.int .i64 i.kind, .int .i64 i.fn, .int .i64 i.rd, .int .i64 i.rs1, .int .i64 i.rs2, .int .i64 i.imm, .int .i64 i.size, .bool i.sg], .int .i64 1] W fun e w' => e = .returned (.string (bB (120 :: Lib.itoa i.rs1))) ∧ Below W.heap.size W w' := by
  have HB := Aside0.mk (Below.refl W.heap.size W)
  have HG := Aside0.mk hg
  have H0 := Aside0.mk h0
  have H1 := Aside0.mk h1
  have hu23 := Tryz.underlying23
  clear hg h0 h1
  go_enter Tryz.func29, Tryz.ntmps29
  go_wp2_with (first | ((with_reducible refine gate_dst (N := 2) rfl ?_); refine box_event (by rfl) (N := 2) (by rfl) (cs := #[.int .i64 i.kind, .int .i64 i.fn, .int .i64 i.rd, .int .i64 i.rs1, .int .i64 i.rs2, .int .i64 i.imm, .int .i64 i.size, .bool i.sg]) (t := 23) (by first | (go_simp; done) | (go_simp; rfl)) ?_; intro g3 hg w3 hbox hb; have H3 := Aside0.mk hbox; have HB' := Aside0.mk (below_step HB.out hb); have HG' := Aside0.mk (HG.out.below hb); clear HB HG; have HB := HB'; have HG := HG'; clear HB' HG'; obtain ⟨y0, y1, y2, y3, y4, y5, y6, y7, yf0, yf1, yf2, yf3, yf4, yf5, yf6, yf7⟩ := cells8 H3.out; clear hbox hb hg) | fail)
  refine (Itoa_calls (i.rs1) (by have := H0.out; omega) (by have := H1.out; omega) _ HG.out).mono ?_
  rintro e w' ⟨rfl, hb⟩
  have HBa := Aside0.mk (below_step HB.out hb)
  clear HB hb y0 y1 y2 y3 y4 y5 y6 y7 yf0 yf1 yf2 yf3 yf4 yf5 yf6 yf7
  have HB := HBa
  obtain ⟨v, hv⟩ : ∃ v, v = bB (Lib.itoa (i.rs1)) := ⟨_, rfl⟩
  have HV := Aside0.mk hv
  have hsz : ¬ 9223372036854775807 < 1 + v.size := by have h1 := itoa_le (i.rs1); have h2 := H0.out; have h3 := H1.out; have h4 : v.size = (Lib.itoa (i.rs1)).length := by rw [hv, bB_size]
                                                      omega
  rw [← hv]
  clear hv
  go_wp2
  go_ret
  exact ⟨ret_s (by rw [HV.out]; exact bB_append [120] _), by repeat (first | (with_reducible first | exact HB.out | apply below_alloc | apply pw_below_drewN | apply below_drew1) | exact HB.out)⟩

theorem told_2 {i : Ins} {what : Int} (W : World) (hg : GW W) (h0 : -4611686018427387904 ≤ i.rs2) (h1 : i.rs2 ≤ 4611686018427387904) : Calls Tryz.prog 29 #[.agg #[.int .i64 i.kind, .int .i64 i.fn, .int .i64 i.rd, .int .i64 i.rs1, .int .i64 i.rs2, .int .i64 i.imm, .int .i64 i.size, .bool i.sg], .int .i64 2] W fun e w' => e = .returned (.string (bB (120 :: Lib.itoa i.rs2))) ∧ Below W.heap.size W w' := by
  have HB := Aside0.mk (Below.refl W.heap.size W)
  have HG := Aside0.mk hg
  have H0 := Aside0.mk h0
  have H1 := Aside0.mk h1
  have hu23 := Tryz.underlying23
  clear hg h0 h1
  go_enter Tryz.func29, Tryz.ntmps29
  go_wp2_with (first | ((with_reducible refine gate_dst (N := 2) rfl ?_); refine box_event (by rfl) (N := 2) (by rfl) (cs := #[.int .i64 i.kind, .int .i64 i.fn, .int .i64 i.rd, .int .i64 i.rs1, .int .i64 i.rs2, .int .i64 i.imm, .int .i64 i.size, .bool i.sg]) (t := 23) (by first | (go_simp; done) | (go_simp; rfl)) ?_; intro g3 hg w3 hbox hb; have H3 := Aside0.mk hbox; have HB' := Aside0.mk (below_step HB.out hb); have HG' := Aside0.mk (HG.out.below hb); clear HB HG; have HB := HB'; have HG := HG'; clear HB' HG'; obtain ⟨y0, y1, y2, y3, y4, y5, y6, y7, yf0, yf1, yf2, yf3, yf4, yf5, yf6, yf7⟩ := cells8 H3.out; clear hbox hb hg) | fail)
  refine (Itoa_calls (i.rs2) (by have := H0.out; omega) (by have := H1.out; omega) _ HG.out).mono ?_
  rintro e w' ⟨rfl, hb⟩
  have HBa := Aside0.mk (below_step HB.out hb)
  clear HB hb y0 y1 y2 y3 y4 y5 y6 y7 yf0 yf1 yf2 yf3 yf4 yf5 yf6 yf7
  have HB := HBa
  obtain ⟨v, hv⟩ : ∃ v, v = bB (Lib.itoa (i.rs2)) := ⟨_, rfl⟩
  have HV := Aside0.mk hv
  have hsz : ¬ 9223372036854775807 < 1 + v.size := by have h1 := itoa_le (i.rs2); have h2 := H0.out; have h3 := H1.out; have h4 : v.size = (Lib.itoa (i.rs2)).length := by rw [hv, bB_size]
                                                      omega
  rw [← hv]
  clear hv
  go_wp2
  go_ret
  exact ⟨ret_s (by rw [HV.out]; exact bB_append [120] _), by repeat (first | (with_reducible first | exact HB.out | apply below_alloc | apply pw_below_drewN | apply below_drew1) | exact HB.out)⟩

theorem told_4 {i : Ins} {what : Int} (W : World) (hg : GW W) (h0 : -4611686018427387904 ≤ i.imm.tdiv 4096) (h1 : i.imm.tdiv 4096 ≤ 4611686018427387904) : Calls Tryz.prog 29 #[.agg #[.int .i64 i.kind, .int .i64 i.fn, .int .i64 i.rd, .int .i64 i.rs1, .int .i64 i.rs2, .int .i64 i.imm, .int .i64 i.size, .bool i.sg], .int .i64 4] W fun e w' => e = .returned (.string (bB (Lib.itoa (i.imm.tdiv 4096)))) ∧ Below W.heap.size W w' := by
  have HB := Aside0.mk (Below.refl W.heap.size W)
  have HG := Aside0.mk hg
  have H0 := Aside0.mk h0
  have H1 := Aside0.mk h1
  have hu23 := Tryz.underlying23
  have hw : wrap64 (i.imm.tdiv 4096) = i.imm.tdiv 4096 := w64 (by omega) (by omega)
  clear hg h0 h1
  go_enter Tryz.func29, Tryz.ntmps29
  go_wp2_with (first | ((with_reducible refine gate_dst (N := 2) rfl ?_); refine box_event (by rfl) (N := 2) (by rfl) (cs := #[.int .i64 i.kind, .int .i64 i.fn, .int .i64 i.rd, .int .i64 i.rs1, .int .i64 i.rs2, .int .i64 i.imm, .int .i64 i.size, .bool i.sg]) (t := 23) (by first | (go_simp; done) | (go_simp; rfl)) ?_; intro g3 hg w3 hbox hb; have H3 := Aside0.mk hbox; have HB' := Aside0.mk (below_step HB.out hb); have HG' := Aside0.mk (HG.out.below hb); clear HB HG; have HB := HB'; have HG := HG'; clear HB' HG'; obtain ⟨y0, y1, y2, y3, y4, y5, y6, y7, yf0, yf1, yf2, yf3, yf4, yf5, yf6, yf7⟩ := cells8 H3.out; clear hbox hb hg) | fail)
  refine (Itoa_calls (i.imm.tdiv 4096) (by have := H0.out; omega) (by have := H1.out; omega) _ HG.out).mono ?_
  rintro e w' ⟨rfl, hb⟩
  have HBa := Aside0.mk (below_step HB.out hb)
  clear HB hb y0 y1 y2 y3 y4 y5 y6 y7 yf0 yf1 yf2 yf3 yf4 yf5 yf6 yf7
  have HB := HBa
  go_wp2
  go_ret
  exact ⟨rfl, by repeat (first | (with_reducible first | exact HB.out | apply below_alloc | apply pw_below_drewN | apply below_drew1) | exact HB.out)⟩

theorem told_5 {i : Ins} {what : Int} (W : World) (hg : GW W) (h0 : -4611686018427387904 ≤ i.rs1) (h1 : i.rs1 ≤ 4611686018427387904) : Calls Tryz.prog 29 #[.agg #[.int .i64 i.kind, .int .i64 i.fn, .int .i64 i.rd, .int .i64 i.rs1, .int .i64 i.rs2, .int .i64 i.imm, .int .i64 i.size, .bool i.sg], .int .i64 5] W fun e w' => e = .returned (.string (bB (Lib.itoa i.rs1))) ∧ Below W.heap.size W w' := by
  have HB := Aside0.mk (Below.refl W.heap.size W)
  have HG := Aside0.mk hg
  have H0 := Aside0.mk h0
  have H1 := Aside0.mk h1
  have hu23 := Tryz.underlying23
  clear hg h0 h1
  go_enter Tryz.func29, Tryz.ntmps29
  go_wp2_with (first | ((with_reducible refine gate_dst (N := 2) rfl ?_); refine box_event (by rfl) (N := 2) (by rfl) (cs := #[.int .i64 i.kind, .int .i64 i.fn, .int .i64 i.rd, .int .i64 i.rs1, .int .i64 i.rs2, .int .i64 i.imm, .int .i64 i.size, .bool i.sg]) (t := 23) (by first | (go_simp; done) | (go_simp; rfl)) ?_; intro g3 hg w3 hbox hb; have H3 := Aside0.mk hbox; have HB' := Aside0.mk (below_step HB.out hb); have HG' := Aside0.mk (HG.out.below hb); clear HB HG; have HB := HB'; have HG := HG'; clear HB' HG'; obtain ⟨y0, y1, y2, y3, y4, y5, y6, y7, yf0, yf1, yf2, yf3, yf4, yf5, yf6, yf7⟩ := cells8 H3.out; clear hbox hb hg) | fail)
  refine (Itoa_calls (i.rs1) (by have := H0.out; omega) (by have := H1.out; omega) _ HG.out).mono ?_
  rintro e w' ⟨rfl, hb⟩
  have HBa := Aside0.mk (below_step HB.out hb)
  clear HB hb y0 y1 y2 y3 y4 y5 y6 y7 yf0 yf1 yf2 yf3 yf4 yf5 yf6 yf7
  have HB := HBa
  go_wp2
  go_ret
  exact ⟨rfl, by repeat (first | (with_reducible first | exact HB.out | apply below_alloc | apply pw_below_drewN | apply below_drew1) | exact HB.out)⟩

theorem told_x {i : Ins} {what : Int} (W : World) (hg : GW W) (h0 : -4611686018427387904 ≤ i.imm) (h1 : i.imm ≤ 4611686018427387904) (n0 : (what == 0) = false) (n1 : (what == 1) = false) (n2 : (what == 2) = false) (n4 : (what == 4) = false) (n5 : (what == 5) = false) : Calls Tryz.prog 29 #[.agg #[.int .i64 i.kind, .int .i64 i.fn, .int .i64 i.rd, .int .i64 i.rs1, .int .i64 i.rs2, .int .i64 i.imm, .int .i64 i.size, .bool i.sg], .int .i64 what] W fun e w' => e = .returned (.string (bB (Lib.itoa i.imm))) ∧ Below W.heap.size W w' := by
  have HB := Aside0.mk (Below.refl W.heap.size W)
  have HG := Aside0.mk hg
  have H0 := Aside0.mk h0
  have H1 := Aside0.mk h1
  have hu23 := Tryz.underlying23
  clear hg h0 h1
  go_enter Tryz.func29, Tryz.ntmps29
  go_wp2_with (first | ((with_reducible refine gate_dst (N := 2) rfl ?_); refine box_event (by rfl) (N := 2) (by rfl) (cs := #[.int .i64 i.kind, .int .i64 i.fn, .int .i64 i.rd, .int .i64 i.rs1, .int .i64 i.rs2, .int .i64 i.imm, .int .i64 i.size, .bool i.sg]) (t := 23) (by first | (go_simp; done) | (go_simp; rfl)) ?_; intro g3 hg w3 hbox hb; have H3 := Aside0.mk hbox; have HB' := Aside0.mk (below_step HB.out hb); have HG' := Aside0.mk (HG.out.below hb); clear HB HG; have HB := HB'; have HG := HG'; clear HB' HG'; obtain ⟨y0, y1, y2, y3, y4, y5, y6, y7, yf0, yf1, yf2, yf3, yf4, yf5, yf6, yf7⟩ := cells8 H3.out; clear hbox hb hg) | fail)
  refine (Itoa_calls (i.imm) (by have := H0.out; omega) (by have := H1.out; omega) _ HG.out).mono ?_
  rintro e w' ⟨rfl, hb⟩
  have HBa := Aside0.mk (below_step HB.out hb)
  clear HB hb y0 y1 y2 y3 y4 y5 y6 y7 yf0 yf1 yf2 yf3 yf4 yf5 yf6 yf7
  have HB := HBa
  go_wp2
  go_ret
  exact ⟨rfl, by repeat (first | (with_reducible first | exact HB.out | apply below_alloc | apply pw_below_drewN | apply below_drew1) | exact HB.out)⟩

end Go.Proofs.YtjapahcbhjjeiaaGreatDoor.AS
