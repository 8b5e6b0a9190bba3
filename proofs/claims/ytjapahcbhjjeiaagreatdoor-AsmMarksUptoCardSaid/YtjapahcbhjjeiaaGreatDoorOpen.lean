/- From a reading as data to the words of the print: what a type's reading says of cells, and a bound on what was read. -/
import Derived.Test.YtjapahcbhjjeiaaGreatDoorRows
import Derived.Test.YtjapahcbhjjeiaaGreatDoorWMore
import Derived.Deep.Slices
import Derived.ChangeArms
import Derived.DataElems
import Derived.DataReads
namespace Go.Proofs.YtjapahcbhjjeiaaGreatDoor.Opn
open Go.RowKit Go.Proofs.YtjapahcbhjjeiaaGreatDoorW.PrintWords
set_option linter.unusedVariables false

theorem one_le {H : Type} (d : DataW H) : 1 ≤ Rows.uptoBulk d := by
  cases d with
  | lit l => cases l <;> simp [Rows.uptoBulk]
  | nil => simp [Rows.uptoBulk]
  | ptr d => simp [Rows.uptoBulk]
  | slice elems spare => simp [Rows.uptoBulk]
  | agg parts => simp [Rows.uptoBulk]
  | iface t d => simp [Rows.uptoBulk]
  | map entries => simp [Rows.uptoBulk]
  | held h => simp [Rows.uptoBulk]
theorem length_le {H : Type} (l : List (DataW H)) : l.length ≤ Rows.uptoBulkAll l := by
  induction l with
  | nil => simp [Rows.uptoBulkAll]
  | cons x r ih => have := one_le x; simp only [Rows.uptoBulkAll, List.length_cons]; omega

variable {P : Program}
end Go.Proofs.YtjapahcbhjjeiaaGreatDoor.Opn
