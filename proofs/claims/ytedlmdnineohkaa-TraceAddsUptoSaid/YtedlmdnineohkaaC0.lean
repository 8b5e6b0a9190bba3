import Derived.Test.YtedlmdnineohkaaC1
import Derived.Test.YtedlmdnineohkaaQ8
namespace Go.Proofs.Ytedlmdnineohkaa.PU
open Go.RowKit Go.Proofs.YtedlmdnineohkaaW.PrintWords Go.Proofs.Ytedlmdnineohkaa.Opn Go.WideShapes
set_option linter.unusedVariables false

theorem byt_of {l : List Int} (h : ∀ n ∈ l, (Lit.int .u8 n).wf = true) : Byt l := fun x hx => by
  have hw := h x hx
  have hlo : IntKind.u8.min = 0 := by decide
  have hhi : IntKind.u8.max = 255 := by decide
  simp [Lit.wf, hlo, hhi] at hw
  omega
end Go.Proofs.Ytedlmdnineohkaa.PU
