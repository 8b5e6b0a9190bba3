/- TraceWrites over whatever its arguments read as: what the readings say of cells, and the call. -/
import Derived.Test.YtgibdhdglppdcaaGreatOpen
import Derived.Test.YtgibdhdglppdcaaGreatQ5
import Derived.WideShapes
namespace Go.Proofs.YtgibdhdglppdcaaGreat.PU
set_option maxRecDepth 100000
open Go.RowKit Go.Proofs.YtgibdhdglppdcaaGreatW.PrintWords Go.Proofs.YtgibdhdglppdcaaGreat.Opn Go.WideShapes
set_option linter.unusedVariables false

theorem list3 {α : Type} {l : List α} (h : l.length = 3) : ∃ a b c, l = [a, b, c] := by
  match l, h with
  | [a, b, c], _ => exact ⟨a, b, c, rfl⟩
theorem list7 {α : Type} {l : List α} (h : l.length = 7) : ∃ a b c d e f g, l = [a, b, c, d, e, f, g] := by
  match l, h with
  | [a, b, c, d, e, f, g], _ => exact ⟨a, b, c, d, e, f, g, rfl⟩
theorem cells3 : Tryz.prog.cellsOf 3 = 1 := by kernel_rfl
theorem cells4 : Tryz.prog.cellsOf 4 = 1 := by kernel_rfl
theorem cells5 : Tryz.prog.cellsOf 5 = 1 := by kernel_rfl
theorem cells22 : Tryz.prog.cellsOf 22 = 1 := by kernel_rfl
theorem cells23 : Tryz.prog.cellsOf 23 = 1 := by kernel_rfl
theorem cells25 : Tryz.prog.cellsOf 25 = 7 := by kernel_rfl
theorem cells56 : Tryz.prog.cellsOf 45 = 3 := by kernel_rfl

theorem fld {H : Type} {enc : TypeId × Value → H} {w : World} {n t off k : Nat} {cs : List Value} {y : DataW H × List MemPlace} (hc : Tryz.prog.cellsOf t = k) (h : DataW.trod enc Tryz.prog w 0 (fun _ => true) true n t ((cs.drop off).take (Tryz.prog.cellsOf t)) = some y) : DataW.trod enc Tryz.prog w 0 (fun _ => true) true n t ((cs.drop off).take k) = some y := by
  rw [hc] at h; exact h
/-- What is known of a label that was read. -/
def GLabel (b : Nat) (x : S56) : Prop := (Lit.int .i64 x.f0).wf = true ∧ (Lit.int .i64 x.f1).wf = true ∧ x.f2.length ≤ b ∧ ∀ n ∈ x.f2, (Lit.int .u8 n).wf = true
theorem opens56 : Opens Tryz.prog 45 k56 GLabel := by
  intro H enc w fuel cs x h
  obtain ⟨n, hl, hf⟩ := opens_fields Tryz.underlying45 h
  rw [cells56] at hl
  obtain ⟨c0, c1, c2, rfl⟩ := list3 hl
  obtain ⟨y0, h0, b0⟩ := hf 0 _ rfl
  obtain ⟨y1, h1, b1⟩ := hf 1 _ rfl
  obtain ⟨y2, h2, b2⟩ := hf 2 _ rfl
  have h0 : DataW.trod enc Tryz.prog w 0 (fun _ => true) true n 3 [c0] = some y0 := fld (t := 3) (off := 0) (cs := [c0, c1, c2]) cells3 h0
  have h1 : DataW.trod enc Tryz.prog w 0 (fun _ => true) true n 3 [c1] = some y1 := fld (t := 3) (off := 1) (cs := [c0, c1, c2]) cells3 h1
  have h2 : DataW.trod enc Tryz.prog w 0 (fun _ => true) true n 23 [c2] = some y2 := fld (t := 23) (off := 2) (cs := [c0, c1, c2]) cells23 h2
  obtain ⟨a0, k0, _, g0⟩ := opens_int Tryz.underlying3 enc w n _ _ h0
  obtain ⟨a1, k1, _, g1⟩ := opens_int Tryz.underlying3 enc w n _ _ h1
  obtain ⟨A, c, xs, e2, l2, C2, g2⟩ := opens_row Tryz.underlying23 (opens_int Tryz.underlying5) cells5 h2
  obtain rfl : c0 = .int .i64 a0 := by simpa using (show [c0] = [Value.int .i64 a0] from k0)
  obtain rfl : c1 = .int .i64 a1 := by simpa using (show [c1] = [Value.int .i64 a1] from k1)
  obtain rfl : c2 = .slice A xs.length c := by simpa using e2
  refine ⟨⟨a0, a1, xs⟩, k56_mk w ⟨a0, a1, xs⟩ l2 C2, g0, g1, ?_, ?_⟩
  · have := g2.1; show xs.length ≤ _; omega
  · intro m hm
    obtain ⟨_, _, _, hw⟩ := g2.2 m hm
    exact hw

/-- A conf that was read. -/
theorem open_conf {H : Type} {enc : TypeId × Value → H} {w : World} {v : Value} {d : DataW H} {p : List MemPlace} {r : Reach} {base : Nat} (hv : Value.okWide Tryz.prog w r base 25 v) (h : DataW.Trod enc Tryz.prog w 0 (fun _ => true) true 25 v d p) :
    ∃ (a0 a1 a2 : Int) (A3 A4 A5 : Option Addr) (c3 c4 c5 : Nat) (l3 l4 l5 : List Int) (a6 : Bool), v = .agg #[.int .i64 a0, .int .i64 a1, .int .i64 a2, .slice A3 l3.length c3, .slice A4 l4.length c4, .slice A5 l5.length c5, .bool a6] ∧
      Kd.C (Kd.int .i64) w A3 l3.length l3 ∧ l3.length ≤ c3 ∧ Kd.C (Kd.int .u8) w A4 l4.length l4 ∧ l4.length ≤ c4 ∧ Kd.C (Kd.int .u8) w A5 l5.length l5 ∧ l5.length ≤ c5 ∧
      l3.length ≤ Rows.uptoBulk d ∧ l4.length ≤ Rows.uptoBulk d ∧ l5.length ≤ Rows.uptoBulk d ∧ (Lit.int .i64 a0).wf = true ∧ (Lit.int .i64 a1).wf = true ∧ (Lit.int .i64 a2).wf = true ∧ (∀ n ∈ l3, (Lit.int .i64 n).wf = true) ∧ (∀ n ∈ l4, (Lit.int .u8 n).wf = true) ∧ (∀ n ∈ l5, (Lit.int .u8 n).wf = true) := by
  obtain ⟨cs, rfl, hsz⟩ := okWide_struct Tryz.underlying25 hv
  obtain ⟨fuel, h⟩ := h
  have h' : DataW.trod enc Tryz.prog w 0 (fun _ => true) true fuel 25 cs.toList = some (d, p) := h
  obtain ⟨n, hl, hf⟩ := opens_fields Tryz.underlying25 h'
  rw [cells25] at hl
  obtain ⟨c0, c1, c2, c3, c4, c5, c6, hcs⟩ := list7 hl
  obtain rfl : cs = #[c0, c1, c2, c3, c4, c5, c6] := by cases cs; simpa using hcs
  obtain ⟨y0, h0, b0⟩ := hf 0 _ rfl
  obtain ⟨y1, h1, b1⟩ := hf 1 _ rfl
  obtain ⟨y2, h2, b2⟩ := hf 2 _ rfl
  obtain ⟨y3, h3, b3⟩ := hf 3 _ rfl
  obtain ⟨y4, h4, b4⟩ := hf 4 _ rfl
  obtain ⟨y5, h5, b5⟩ := hf 5 _ rfl
  obtain ⟨y6, h6, b6⟩ := hf 6 _ rfl
  have h0 : DataW.trod enc Tryz.prog w 0 (fun _ => true) true n 3 [c0] = some y0 := fld (t := 3) (off := 0) (cs := [c0, c1, c2, c3, c4, c5, c6]) cells3 h0
  have h1 : DataW.trod enc Tryz.prog w 0 (fun _ => true) true n 3 [c1] = some y1 := fld (t := 3) (off := 1) (cs := [c0, c1, c2, c3, c4, c5, c6]) cells3 h1
  have h2 : DataW.trod enc Tryz.prog w 0 (fun _ => true) true n 3 [c2] = some y2 := fld (t := 3) (off := 2) (cs := [c0, c1, c2, c3, c4, c5, c6]) cells3 h2
  have h3 : DataW.trod enc Tryz.prog w 0 (fun _ => true) true n 22 [c3] = some y3 := fld (t := 22) (off := 3) (cs := [c0, c1, c2, c3, c4, c5, c6]) cells22 h3
  have h4 : DataW.trod enc Tryz.prog w 0 (fun _ => true) true n 23 [c4] = some y4 := fld (t := 23) (off := 4) (cs := [c0, c1, c2, c3, c4, c5, c6]) cells23 h4
  have h5 : DataW.trod enc Tryz.prog w 0 (fun _ => true) true n 23 [c5] = some y5 := fld (t := 23) (off := 5) (cs := [c0, c1, c2, c3, c4, c5, c6]) cells23 h5
  have h6 : DataW.trod enc Tryz.prog w 0 (fun _ => true) true n 4 [c6] = some y6 := fld (t := 4) (off := 6) (cs := [c0, c1, c2, c3, c4, c5, c6]) cells4 h6
  obtain ⟨a0, k0, _, g0⟩ := opens_int Tryz.underlying3 enc w n _ _ h0
  obtain ⟨a1, k1, _, g1⟩ := opens_int Tryz.underlying3 enc w n _ _ h1
  obtain ⟨a2, k2, _, g2⟩ := opens_int Tryz.underlying3 enc w n _ _ h2
  obtain ⟨A3, x3, l3, e3, q3, C3, g3⟩ := opens_row Tryz.underlying22 (opens_int Tryz.underlying3) cells3 h3
  obtain ⟨A4, x4, l4, e4, q4, C4, g4⟩ := opens_row Tryz.underlying23 (opens_int Tryz.underlying5) cells5 h4
  obtain ⟨A5, x5, l5, e5, q5, C5, g5⟩ := opens_row Tryz.underlying23 (opens_int Tryz.underlying5) cells5 h5
  obtain ⟨a6, k6, _⟩ := opens_bool Tryz.underlying4 enc w n _ _ h6
  obtain rfl : c0 = .int .i64 a0 := by simpa using (show [c0] = [Value.int .i64 a0] from k0)
  obtain rfl : c1 = .int .i64 a1 := by simpa using (show [c1] = [Value.int .i64 a1] from k1)
  obtain rfl : c2 = .int .i64 a2 := by simpa using (show [c2] = [Value.int .i64 a2] from k2)
  obtain rfl : c3 = .slice A3 l3.length x3 := by simpa using e3
  obtain rfl : c4 = .slice A4 l4.length x4 := by simpa using e4
  obtain rfl : c5 = .slice A5 l5.length x5 := by simpa using e5
  obtain rfl : c6 = .bool a6 := by simpa using (show [c6] = [Value.bool a6] from k6)
  have z3 := g3.1
  have z4 := g4.1
  have z5 := g5.1
  simp only at b3 b4 b5
  exact ⟨a0, a1, a2, A3, A4, A5, x3, x4, x5, l3, l4, l5, a6, rfl, C3, q3, C4, q4, C5, q5, by omega, by omega, by omega, g0, g1, g2, fun m hm => (g3.2 m hm).choose_spec.2.2, fun m hm => (g4.2 m hm).choose_spec.2.2, fun m hm => (g5.2 m hm).choose_spec.2.2⟩

/-- Labels that were read. -/
theorem open_labels {H : Type} {enc : TypeId × Value → H} {w : World} {v : Value} {d : DataW H} {p : List MemPlace} {r : Reach} {base : Nat} (hv : Value.okWide Tryz.prog w r base 26 v) (h : DataW.Trod enc Tryz.prog w 0 (fun _ => true) true 26 v d p) :
    ∃ (A : Option Addr) (c : Nat) (ls : List S56), v = .slice A ls.length c ∧ Kd.C k56 w A ls.length ls ∧ ls.length ≤ c ∧ ls.length ≤ Rows.uptoBulk d ∧ ∀ x ∈ ls, GLabel (Rows.uptoBulk d) x := by
  obtain ⟨a, len, cap, rfl⟩ := okWide_slice Tryz.underlying26 hv
  obtain ⟨fuel, h⟩ := h
  obtain ⟨A, c, ls, e, l, C, g⟩ := opens_row Tryz.underlying26 opens56 cells56 h
  have e' : Value.slice a len cap = .slice A ls.length c := by simpa [Value.cells] using e
  refine ⟨A, c, ls, e', C, l, by have := g.1; simp only at this; omega, fun x hx => ?_⟩
  obtain ⟨b', hb, hg⟩ := g.2 x hx
  exact ⟨hg.1, hg.2.1, by have := hg.2.2.1; simp only at hb; omega, hg.2.2.2⟩

end Go.Proofs.YtgibdhdglppdcaaGreat.PU
