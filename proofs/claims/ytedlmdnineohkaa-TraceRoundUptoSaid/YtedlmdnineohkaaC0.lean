import Derived.Test.YtedlmdnineohkaaC1
import Derived.Test.YtedlmdnineohkaaQ8
namespace Go.Proofs.Ytedlmdnineohkaa.PU
open Go.RowKit Go.Proofs.YtedlmdnineohkaaW.PrintWords Go.Proofs.Ytedlmdnineohkaa.Opn Go.WideShapes
set_option linter.unusedVariables false

/-- Bytes that were read. -/
theorem open_bytes {H : Type} {enc : TypeId × Value → H} {w : World} {v : Value} {d : DataW H} {p : List MemPlace} {r : Reach} {base : Nat} (hv : Value.okWide Try.prog w r base 23 v) (h : DataW.Trod enc Try.prog w 0 (fun _ => true) true 23 v d p) :
    ∃ (A : Option Addr) (c : Nat) (l : List Int), v = .slice A l.length c ∧ Kd.C (Kd.int .u8) w A l.length l ∧ l.length ≤ c ∧ l.length ≤ Rows.uptoBulk d ∧ ∀ x ∈ l, 0 ≤ x ∧ x < 256 := by
  obtain ⟨a, len, cap, rfl⟩ := okWide_slice Try.underlying23 hv
  obtain ⟨fuel, h⟩ := h
  obtain ⟨A, c, l, e, q, C, g⟩ := opens_row Try.underlying23 (opens_int Try.underlying5) cells5 h
  have e' : Value.slice a len cap = .slice A l.length c := by simpa [Value.cells] using e
  refine ⟨A, c, l, e', C, q, by have := g.1; simp only at this; omega, fun x hx => ?_⟩
  obtain ⟨b', hb, hg⟩ := g.2 x hx
  have hw := hg.2
  have hlo : IntKind.u8.min = 0 := by decide
  have hhi : IntKind.u8.max = 255 := by decide
  simp [Lit.wf, hlo, hhi] at hw
  omega
theorem bulk1 {H : Type} {d0 : DataW H} (h : Rows.uptoBulkAll [d0] ≤ 1048576) : Rows.uptoBulk d0 ≤ 1048576 := by
  simp only [Rows.uptoBulkAll] at h; omega
theorem byt_of {l : List Int} (h : ∀ n ∈ l, (Lit.int .u8 n).wf = true) : Byt l := fun x hx => by
  have hw := h x hx
  have hlo : IntKind.u8.min = 0 := by decide
  have hhi : IntKind.u8.max = 255 := by decide
  simp [Lit.wf, hlo, hhi] at hw
  omega
theorem bulk3 {H : Type} {d0 d1 d2 : DataW H} (h : Rows.uptoBulkAll [d0, d1, d2] ≤ 1048576) : Rows.uptoBulk d0 ≤ 1048576 ∧ Rows.uptoBulk d1 ≤ 1048576 ∧ Rows.uptoBulk d2 ≤ 1048576 := by
  simp only [Rows.uptoBulkAll] at h; omega
end Go.Proofs.Ytedlmdnineohkaa.PU
