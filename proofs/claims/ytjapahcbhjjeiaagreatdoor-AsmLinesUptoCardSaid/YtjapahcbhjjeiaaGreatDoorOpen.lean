/- From a reading as data to the words of the print: what a type's reading says of cells, and a bound on what was read. -/
import Derived.Test.YtjapahcbhjjeiaaGreatDoorRows
import Derived.Test.YtjapahcbhjjeiaaGreatDoorWMore
import Derived.Deep.Slices
import Derived.ChangeArms
import Derived.DataElems
import Derived.DataReads
namespace Go.Proofs.YtjapahcbhjjeiaaGreatDoor.Opn
open Go.RowKit Go.Proofs.YtjapahcbhjjeiaaGreatDoorW.PrintWords
set_option linter.unusedVariables false

theorem one_le {H : Type} (d : DataW H) : 1 ≤ Rows.uptoBulk d := by
  cases d with
  | lit l => cases l <;> simp [Rows.uptoBulk]
  | nil => simp [Rows.uptoBulk]
  | ptr d => simp [Rows.uptoBulk]
  | slice elems spare => simp [Rows.uptoBulk]
  | agg parts => simp [Rows.uptoBulk]
  | iface t d => simp [Rows.uptoBulk]
  | map entries => simp [Rows.uptoBulk]
  | held h => simp [Rows.uptoBulk]
theorem part_le {H : Type} {d : DataW H} {l : List (DataW H)} (h : d ∈ l) : Rows.uptoBulk d ≤ Rows.uptoBulkAll l := by
  induction l with
  | nil => cases h
  | cons x r ih =>
    simp only [Rows.uptoBulkAll]
    cases List.mem_cons.1 h with
    | inl e => subst e; omega
    | inr e => have := ih e; omega
theorem length_le {H : Type} (l : List (DataW H)) : l.length ≤ Rows.uptoBulkAll l := by
  induction l with
  | nil => simp [Rows.uptoBulkAll]
  | cons x r ih => have := one_le x; simp only [Rows.uptoBulkAll, List.length_cons]; omega

variable {P : Program}
theorem opens_fields {t : TypeId} {fs : Array Field} (ht : P.underlying t = some (.struct fs)) {H : Type} {enc : TypeId × Value → H} {w : World} {fuel : Nat} {cs : List Value} {x : DataW H × List MemPlace} (h : DataW.trod enc P w 0 (fun _ => true) true fuel t cs = some x) :
    ∃ n, cs.length = P.cellsOf t ∧ ∀ (i : Nat) (f : Field), fs[i]? = some f → ∃ y, DataW.trod enc P w 0 (fun _ => true) true n f.type ((cs.drop f.offset).take (P.cellsOf f.type)) = some y ∧ Rows.uptoBulk y.1 + 1 ≤ Rows.uptoBulk x.1 := by
  obtain ⟨xs, n, _, rfl, hl, hn, hf⟩ := DataW.trod_struct ht h
  refine ⟨n, hl, fun i f hi => ?_⟩
  have hi' : i < fs.size := by
    rcases Nat.lt_or_ge i fs.size with h' | h'
    · exact h'
    · rw [Array.getElem?_eq_none h'] at hi; cases hi
  have hx : i < xs.length := by omega
  refine ⟨xs[i], by rw [hf i f hi, List.getElem?_eq_getElem hx], ?_⟩
  have := part_le (H := H) (d := (xs[i]).1) (l := xs.map (·.1)) (List.mem_map.2 ⟨_, List.getElem_mem hx, rfl⟩)
  simp only [Rows.uptoBulk]
  omega
end Go.Proofs.YtjapahcbhjjeiaaGreatDoor.Opn
