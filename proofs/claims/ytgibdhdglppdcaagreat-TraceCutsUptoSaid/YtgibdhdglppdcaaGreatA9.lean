import Derived.Test.YtgibdhdglppdcaaGreatA8
import Derived.Test.YtgibdhdglppdcaaGreatQ3
import Derived.Recover
namespace Go.Proofs.YtgibdhdglppdcaaGreat.PU
set_option maxRecDepth 100000
open Go.RowKit Go.Proofs.YtgibdhdglppdcaaGreatW.PrintWords Go.Proofs.YtgibdhdglppdcaaGreatW.PrintLast Go.Proofs.YtgibdhdglppdcaaGreatW.PrintMore
set_option linter.unusedVariables false
set_option linter.unusedSimpArgs false

/-! ### trace_Read: function 14 -/
theorem hmf (fn : Fn) (first cap : Array Value) (w : World) : (Instr.makeFunc fn first cap).run Tryz.prog w = .ok (.func fn first cap) w := rfl
def zconf : Array Value := #[.int .i64 0, .int .i64 0, .int .i64 0, .slice none 0 0, .slice none 0 0, .slice none 0 0, .bool false]

set_option maxRecDepth 100000 in
set_option maxHeartbeats 1600000 in
theorem catch_panicking (gc gl ge : Nat) (x0 x1 x2 x3 x4 x5 x6 vl ve : Value) (u : TypeId) (pv : Value) (older : List PanicEntry) (w : World) (hc : w.heap[gc]? = some (.cells #[x0, x1, x2, x3, x4, x5, x6] 25 (0, 0))) (hl : w.heap[gl]? = some (.cells #[vl] 26 (0, 0))) (he : w.heap[ge]? = some (.cells #[ve] 27 (0, 0))) (B : Nat) (hbc : B ≤ gc) (hbl : B ≤ gl) (hbe : B ≤ ge) (wb : World) (hB : Below B wb w) :
    CallsD Tryz.prog 16 #[.pointer (some ⟨gc, 0, none⟩), .pointer (some ⟨gl, 0, none⟩), .pointer (some ⟨ge, 0, none⟩)] (.panicking ({ v := .iface u pv, recovered := false } :: older)) w fun e u' w' =>
      e = .returned (.tuple #[]) ∧ u' = .panicking ({ v := .iface u pv, recovered := true } :: older) ∧ w'.heap[gc]? = some (.cells zconf 25 (0, 0)) ∧ w'.heap[gl]? = some (.cells #[.slice none 0 0] 26 (0, 0)) ∧ w'.heap[ge]? = some (.cells #[.int .i64 1] 27 (0, 0)) ∧ Below B wb w' := by
  refine callsD_of_wpS Tryz.func16 rfl fun c₀ fs hu => ?_
  apply wpS_seq
  apply wpS_region
  simp [wpOpsS, go_sem, recoverD, hu, Tryz.ntmps16, Exit.thenS]
  change Code.wpS Tryz.prog _ _ { tmps := #[.pointer (some ⟨gc, 0, none⟩), .pointer (some ⟨gl, 0, none⟩), .pointer (some ⟨ge, 0, none⟩), .iface u pv, .iface u pv, undef, undef, undef], defers := [] } _ _
  refine wpS_of_wp ?_
  have d1 := blk_ne hc hl (by decide)
  have d2 := blk_ne hc he (by decide)
  have d3 := blk_ne hl he (by decide)
  have c0 : w.cell? ⟨gc, 0, none⟩ = some x0 := (blk_cell hc 0).trans rfl
  have f0 := blk_frozen hc 0
  have c1 : w.cell? ⟨gc, 1, none⟩ = some x1 := (blk_cell hc 1).trans rfl
  have f1 := blk_frozen hc 1
  have c2 : w.cell? ⟨gc, 2, none⟩ = some x2 := (blk_cell hc 2).trans rfl
  have f2 := blk_frozen hc 2
  have c3 : w.cell? ⟨gc, 3, none⟩ = some x3 := (blk_cell hc 3).trans rfl
  have f3 := blk_frozen hc 3
  have c4 : w.cell? ⟨gc, 4, none⟩ = some x4 := (blk_cell hc 4).trans rfl
  have f4 := blk_frozen hc 4
  have c5 : w.cell? ⟨gc, 5, none⟩ = some x5 := (blk_cell hc 5).trans rfl
  have f5 := blk_frozen hc 5
  have c6 : w.cell? ⟨gc, 6, none⟩ = some x6 := (blk_cell hc 6).trans rfl
  have f6 := blk_frozen hc 6
  have cl : w.cell? ⟨gl, 0, none⟩ = some vl := (blk_cell hl 0).trans rfl
  have fl := blk_frozen hl 0
  have ce : w.cell? ⟨ge, 0, none⟩ = some ve := (blk_cell he 0).trans rfl
  have fe := blk_frozen he 0
  go_wp2
  refine ⟨rfl, _, rfl, _, results_none rfl _ _ _, rfl, rfl, ?_, ?_, ?_, ?_⟩
  · exact blk_far (blk_far (blk_set (blk_set (blk_set (blk_set (blk_set (blk_set (blk_set hc 0 (.int .i64 0)) 1 (.int .i64 0)) 2 (.int .i64 0)) 3 (.slice none 0 0)) 4 (.slice none 0 0)) 5 (.slice none 0 0)) 6 (.bool false)) (p := ⟨gl, 0, none⟩) d1 _) (p := ⟨ge, 0, none⟩) d2 _
  · exact blk_far (blk_set (blk_far (blk_far (blk_far (blk_far (blk_far (blk_far (blk_far hl (p := ⟨gc, 0, none⟩) (Ne.symm d1) (.int .i64 0)) (p := ⟨gc, 1, none⟩) (Ne.symm d1) (.int .i64 0)) (p := ⟨gc, 2, none⟩) (Ne.symm d1) (.int .i64 0)) (p := ⟨gc, 3, none⟩) (Ne.symm d1) (.slice none 0 0)) (p := ⟨gc, 4, none⟩) (Ne.symm d1) (.slice none 0 0)) (p := ⟨gc, 5, none⟩) (Ne.symm d1) (.slice none 0 0)) (p := ⟨gc, 6, none⟩) (Ne.symm d1) (.bool false)) 0 (.slice none 0 0)) (p := ⟨ge, 0, none⟩) d3 _
  · exact blk_set (blk_far (blk_far (blk_far (blk_far (blk_far (blk_far (blk_far (blk_far he (p := ⟨gc, 0, none⟩) (Ne.symm d2) (.int .i64 0)) (p := ⟨gc, 1, none⟩) (Ne.symm d2) (.int .i64 0)) (p := ⟨gc, 2, none⟩) (Ne.symm d2) (.int .i64 0)) (p := ⟨gc, 3, none⟩) (Ne.symm d2) (.slice none 0 0)) (p := ⟨gc, 4, none⟩) (Ne.symm d2) (.slice none 0 0)) (p := ⟨gc, 5, none⟩) (Ne.symm d2) (.slice none 0 0)) (p := ⟨gc, 6, none⟩) (Ne.symm d2) (.bool false)) (p := ⟨gl, 0, none⟩) (Ne.symm d3) (.slice none 0 0)) 0 (.int .i64 1)
  · exact ((((((((hB.setCell hbc _).setCell hbc _).setCell hbc _).setCell hbc _).setCell hbc _).setCell hbc _).setCell hbc _).setCell hbl _).setCell hbe _

theorem catch_idle (a b c : Value) (w : World) :
    CallsD Tryz.prog 16 #[a, b, c] .returning w fun e u' w' => e = .returned (.tuple #[]) ∧ u' = .returning ∧ w' = w := by
  refine callsD_of_wpS Tryz.func16 rfl fun c₀ cs hu => ?_
  apply wpS_seq
  apply wpS_region
  simp [wpOpsS, go_sem, recoverD, hu, Tryz.ntmps16, Exit.thenS]
  change Code.wpS Tryz.prog _ _ { tmps := #[a, b, c, .nilIface, .nilIface, undef, undef, undef], defers := [] } _ _
  refine wpS_of_wp ?_
  go_wp2
  exact ⟨rfl, _, by cases c₀; simp_all, _, results_none rfl _ _ _, rfl, rfl, rfl⟩
end Go.Proofs.YtgibdhdglppdcaaGreat.PU
