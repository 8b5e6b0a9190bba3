/- AsmJoins over the readings of its arguments. -/
import Derived.Test.YtjapahcbhjjeiaaGreatDoorJ4
import Derived.Test.YtjapahcbhjjeiaaGreatDoorK18
namespace Go.Proofs.YtjapahcbhjjeiaaGreatDoor.AS
open Go.RowKit Go.WideShapes Go.ChangeShapes Go.Proofs.YtjapahcbhjjeiaaGreatDoorW.PrintWords Go.Proofs.YtjapahcbhjjeiaaGreatDoor.Opn Go.Proofs.YtjapahcbhjjeiaaGreatDoor.PA
set_option linter.unusedVariables false
set_option maxRecDepth 100000

theorem cells23 : Tryz.prog.cellsOf 23 = 8 := by kernel_rfl
theorem k23_mk (w : World) (i : Ins) : k23.K w (toS i) [.int .i64 i.kind, .int .i64 i.fn, .int .i64 i.rd, .int .i64 i.rs1, .int .i64 i.rs2, .int .i64 i.imm, .int .i64 i.size, .bool i.sg] :=
  ⟨[_], _, rfl, rfl, ⟨[_], _, rfl, rfl, ⟨[_], _, rfl, rfl, ⟨[_], _, rfl, rfl, ⟨[_], _, rfl, rfl, ⟨[_], _, rfl, rfl, ⟨[_], _, rfl, rfl, rfl⟩⟩⟩⟩⟩⟩⟩
theorem opens23 : Opens Tryz.prog 23 k23 (fun _ _ => True) := by
  intro H enc w fuel cs x h
  obtain ⟨n, hl, hf⟩ := opens_fields Tryz.underlying23 h
  rw [cells23] at hl
  match cs, hl with
  | [x0, x1, x2, x3, x4, x5, x6, x7], _ =>
    have c3 : Tryz.prog.cellsOf 3 = 1 := by kernel_rfl
    have c4 : Tryz.prog.cellsOf 4 = 1 := by kernel_rfl
    obtain ⟨y0, e0, _⟩ := hf 0 _ rfl
    obtain ⟨y1, e1, _⟩ := hf 1 _ rfl
    obtain ⟨y2, e2, _⟩ := hf 2 _ rfl
    obtain ⟨y3, e3, _⟩ := hf 3 _ rfl
    obtain ⟨y4, e4, _⟩ := hf 4 _ rfl
    obtain ⟨y5, e5, _⟩ := hf 5 _ rfl
    obtain ⟨y6, e6, _⟩ := hf 6 _ rfl
    obtain ⟨y7, e7, _⟩ := hf 7 _ rfl
    replace e0 : DataW.trod enc Tryz.prog w 0 (fun _ => true) true n 3 [x0] = some y0 := e0
    replace e1 : DataW.trod enc Tryz.prog w 0 (fun _ => true) true n 3 [x1] = some y1 := e1
    replace e2 : DataW.trod enc Tryz.prog w 0 (fun _ => true) true n 3 [x2] = some y2 := e2
    replace e3 : DataW.trod enc Tryz.prog w 0 (fun _ => true) true n 3 [x3] = some y3 := e3
    replace e4 : DataW.trod enc Tryz.prog w 0 (fun _ => true) true n 3 [x4] = some y4 := e4
    replace e5 : DataW.trod enc Tryz.prog w 0 (fun _ => true) true n 3 [x5] = some y5 := e5
    replace e6 : DataW.trod enc Tryz.prog w 0 (fun _ => true) true n 3 [x6] = some y6 := e6
    replace e7 : DataW.trod enc Tryz.prog w 0 (fun _ => true) true n 4 [x7] = some y7 := e7
    obtain ⟨n0, q0, _⟩ := DataW.trod_int Tryz.underlying3 e0
    obtain ⟨n1, q1, _⟩ := DataW.trod_int Tryz.underlying3 e1
    obtain ⟨n2, q2, _⟩ := DataW.trod_int Tryz.underlying3 e2
    obtain ⟨n3, q3, _⟩ := DataW.trod_int Tryz.underlying3 e3
    obtain ⟨n4, q4, _⟩ := DataW.trod_int Tryz.underlying3 e4
    obtain ⟨n5, q5, _⟩ := DataW.trod_int Tryz.underlying3 e5
    obtain ⟨n6, q6, _⟩ := DataW.trod_int Tryz.underlying3 e6
    obtain ⟨b7, q7, _⟩ := DataW.trod_bool Tryz.underlying4 e7
    simp only [List.cons.injEq, and_true] at q0 q1 q2 q3 q4 q5 q6 q7
    subst q0 q1 q2 q3 q4 q5 q6 q7
    exact ⟨toS ⟨n0, n1, n2, n3, n4, n5, n6, b7⟩, k23_mk w ⟨n0, n1, n2, n3, n4, n5, n6, b7⟩, trivial⟩
theorem ofS (l : List S23) : ∃ la : List Ins, la.map toS = l := ⟨l.map fun s => ⟨s.f0, s.f1, s.f2, s.f3, s.f4, s.f5, s.f6, s.f7⟩, by rw [List.map_map]; exact List.map_id l⟩
theorem open_list {H : Type} {enc : TypeId × Value → H} {W : World} {base : Nat} {v : Value} {d : DataW H} {p : List MemPlace} (o : Value.okWide Tryz.prog W .any base 41 v) (h : DataW.Trod enc Tryz.prog W 0 (fun _ => true) true 41 v d p) :
    ∃ (A : Option Addr) (c : Nat) (la : List Ins), v = .slice A la.length c ∧ Kd.C k23 W A la.length (la.map toS) ∧ la.length ≤ c := by
  obtain ⟨a, len, cap, rfl⟩ := okWide_slice Tryz.underlying41 o
  obtain ⟨fuel, h⟩ := h
  obtain ⟨A, c, ls, e, l, C, g⟩ := opens_row (d := k23) (G := fun _ _ => True) Tryz.underlying41 opens23 cells23 h
  obtain ⟨la, rfl⟩ := ofS ls
  rw [List.length_map] at e l C
  have e' : Value.slice a len cap = .slice A la.length c := by simpa [Value.cells] using e
  exact ⟨A, c, la, e', C, l⟩

theorem asmJoins_core (H : Type) (enc : TypeId × Value → H) (W : World) (base : Nat) (v0 v1 v2 : Value) (d0 d1 d2 : DataW H) (p0 p1 p2 : List MemPlace)
    (o0 : Value.okWide Tryz.prog W .any base 41 v0) (h0 : DataW.Trod enc Tryz.prog W 0 (fun _ => true) true 41 v0 d0 p0)
    (o1 : Value.okWide Tryz.prog W .any base 41 v1) (h1 : DataW.Trod enc Tryz.prog W 0 (fun _ => true) true 41 v1 d1 p1)
    (o2 : Value.okWide Tryz.prog W .any base 4 v2) (h2 : DataW.Trod enc Tryz.prog W 0 (fun _ => true) true 4 v2 d2 p2) (hb : Rows.uptoBulkAll [d0, d1, d2] ≤ 1048576) (hg : GW W) :
    Calls Tryz.prog 7 #[v0, v1, v2] W fun e W' => e = .returned (.bool true) ∧ Below W.heap.size W W' := by
  obtain ⟨A0, c0, la, rfl, C0, l0⟩ := open_list o0 h0
  obtain ⟨A1, c1, lb, rfl, C1, l1⟩ := open_list o1 h1
  obtain ⟨b, rfl⟩ := okWide_bool Tryz.underlying4 o2
  exact joins_calls la lb A0 A1 c0 c1 b W hg C0 l0 C1 l1

end Go.Proofs.YtjapahcbhjjeiaaGreatDoor.AS
