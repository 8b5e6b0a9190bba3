import Derived.Test.YtgibdhdglppdcaaGreatC0
import Derived.Test.YtgibdhdglppdcaaGreatC8
/- TraceCuts: whatever the arguments are that read as data, it gives true. -/
namespace Go.Proofs.YtgibdhdglppdcaaGreat.PU
open Go.RowKit Go.Proofs.YtgibdhdglppdcaaGreatW.PrintWords Go.Proofs.YtgibdhdglppdcaaGreat.Opn Go.WideShapes
set_option linter.unusedVariables false
set_option maxRecDepth 100000

theorem bulk4 {H : Type} {d0 d1 d2 d3 : DataW H} (h : Rows.uptoBulkAll [d0, d1, d2, d3] ≤ 1048576) : Rows.uptoBulk d0 ≤ 1048576 ∧ Rows.uptoBulk d1 ≤ 1048576 ∧ Rows.uptoBulk d3 ≤ 1048576 := by
  simp only [Rows.uptoBulkAll] at h; omega
theorem traceCuts_core (H : Type) (enc : TypeId × Value → H) (W : World) (base : Nat) (v0 v1 v2 v3 : Value) (d0 d1 d2 d3 : DataW H) (p0 p1 p2 p3 : List MemPlace)
    (o0 : Value.okWide Tryz.prog W .any base 25 v0) (h0 : DataW.Trod enc Tryz.prog W 0 (fun _ => true) true 25 v0 d0 p0)
    (o1 : Value.okWide Tryz.prog W .any base 26 v1) (h1 : DataW.Trod enc Tryz.prog W 0 (fun _ => true) true 26 v1 d1 p1)
    (o2 : Value.okWide Tryz.prog W .any base 3 v2) (_ : DataW.Trod enc Tryz.prog W 0 (fun _ => true) true 3 v2 d2 p2)
    (o3 : Value.okWide Tryz.prog W .any base 23 v3) (h3 : DataW.Trod enc Tryz.prog W 0 (fun _ => true) true 23 v3 d3 p3) (hb : Rows.uptoBulkAll [d0, d1, d2, d3] ≤ 1048576) :
    Calls Tryz.prog 3 #[v0, v1, v2, v3] W fun e W' => e = .returned (.bool true) ∧ Below W.heap.size W W' := by
  obtain ⟨hb0, hb1, hb3⟩ := bulk4 hb
  obtain ⟨a0, a1, a2, A3, A4, A5, c3, c4, c5, l3, l4, l5, a6, rfl, C3, q3, C4, q4, C5, q5, z3, z4, z5, _, _, _, _, w4, w5⟩ := open_conf o0 h0
  obtain ⟨A, c, ls, rfl, C, q, z, g⟩ := open_labels o1 h1
  obtain ⟨n2, rfl⟩ := okWide_int Tryz.underlying3 o2
  obtain ⟨Ab, cb, lb, rfl, Cb, qb, zb, gb⟩ := open_bytes o3 h3
  exact traceCuts_calls W a0 a1 a2 l3 l4 l5 a6 A3 A4 A5 A Ab c3 c4 c5 c cb ls lb n2 ⟨C3, q3, C4, q4, C5, q5⟩ ⟨C, q⟩ ⟨Cb, qb⟩ (by omega) (by omega) (by omega) (by omega) (fun x hx => by have := (g x hx).2.2.1; omega) (byt_of w4) (byt_of w5) (fun x hx => byt_of (g x hx).2.2.2) gb (by omega)
end Go.Proofs.YtgibdhdglppdcaaGreat.PU
