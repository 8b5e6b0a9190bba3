import Derived.Test.YtgibdhdglppdcaaGreatC1
import Derived.Test.YtgibdhdglppdcaaGreatQ8
namespace Go.Proofs.YtgibdhdglppdcaaGreat.PU
set_option maxRecDepth 100000
open Go.RowKit Go.Proofs.YtgibdhdglppdcaaGreatW.PrintWords Go.Proofs.YtgibdhdglppdcaaGreat.Opn Go.WideShapes
set_option linter.unusedVariables false

/-- Bytes that were read. -/
theorem open_bytes {H : Type} {enc : TypeId × Value → H} {w : World} {v : Value} {d : DataW H} {p : List MemPlace} {r : Reach} {base : Nat} (hv : Value.okWide Tryz.prog w r base 23 v) (h : DataW.Trod enc Tryz.prog w 0 (fun _ => true) true 23 v d p) :
    ∃ (A : Option Addr) (c : Nat) (l : List Int), v = .slice A l.length c ∧ Kd.C (Kd.int .u8) w A l.length l ∧ l.length ≤ c ∧ l.length ≤ Rows.uptoBulk d ∧ ∀ x ∈ l, 0 ≤ x ∧ x < 256 := by
  obtain ⟨a, len, cap, rfl⟩ := okWide_slice Tryz.underlying23 hv
  obtain ⟨fuel, h⟩ := h
  obtain ⟨A, c, l, e, q, C, g⟩ := opens_row Tryz.underlying23 (opens_int Tryz.underlying5) cells5 h
  have e' : Value.slice a len cap = .slice A l.length c := by simpa [Value.cells] using e
  refine ⟨A, c, l, e', C, q, by have := g.1; simp only at this; omega, fun x hx => ?_⟩
  obtain ⟨b', hb, hg⟩ := g.2 x hx
  have hw := hg.2
  have hlo : IntKind.u8.min = 0 := by decide
  have hhi : IntKind.u8.max = 255 := by decide
  simp [Lit.wf, hlo, hhi] at hw
  omega
theorem byt_of {l : List Int} (h : ∀ n ∈ l, (Lit.int .u8 n).wf = true) : Byt l := fun x hx => by
  have hw := h x hx
  have hlo : IntKind.u8.min = 0 := by decide
  have hhi : IntKind.u8.max = 255 := by decide
  simp [Lit.wf, hlo, hhi] at hw
  omega
end Go.Proofs.YtgibdhdglppdcaaGreat.PU
