/- From a reading as data to the words of the print: what a type's reading says of cells, and a bound on what was read. -/
import Derived.Test.YtjapahcbhjjeiaaGreatDoorRows
import Derived.Test.YtjapahcbhjjeiaaGreatDoorWMore
import Derived.Deep.Slices
import Derived.ChangeArms
import Derived.DataElems
import Derived.DataReads
namespace Go.Proofs.YtjapahcbhjjeiaaGreatDoor.Opn
open Go.RowKit Go.Proofs.YtjapahcbhjjeiaaGreatDoorW.PrintWords
set_option linter.unusedVariables false

theorem one_le {H : Type} (d : DataW H) : 1 ≤ Rows.uptoBulk d := by
  cases d with
  | lit l => cases l <;> simp [Rows.uptoBulk]
  | nil => simp [Rows.uptoBulk]
  | ptr d => simp [Rows.uptoBulk]
  | slice elems spare => simp [Rows.uptoBulk]
  | agg parts => simp [Rows.uptoBulk]
  | iface t d => simp [Rows.uptoBulk]
  | map entries => simp [Rows.uptoBulk]
  | held h => simp [Rows.uptoBulk]
theorem part_le {H : Type} {d : DataW H} {l : List (DataW H)} (h : d ∈ l) : Rows.uptoBulk d ≤ Rows.uptoBulkAll l := by
  induction l with
  | nil => cases h
  | cons x r ih =>
    simp only [Rows.uptoBulkAll]
    cases List.mem_cons.1 h with
    | inl e => subst e; omega
    | inr e => have := ih e; omega
theorem length_le {H : Type} (l : List (DataW H)) : l.length ≤ Rows.uptoBulkAll l := by
  induction l with
  | nil => simp [Rows.uptoBulkAll]
  | cons x r ih => have := one_le x; simp only [Rows.uptoBulkAll, List.length_cons]; omega

def Opens {α : Type} (P : Program) (t : TypeId) (d : Kd α) (G : Nat → α → Prop) : Prop :=
  ∀ {H : Type} (enc : TypeId × Value → H) (w : World) (fuel : Nat) (cs : List Value) (x : DataW H × List MemPlace), DataW.trod enc P w 0 (fun _ => true) true fuel t cs = some x → ∃ a : α, d.K w a cs ∧ G (Rows.uptoBulk x.1) a

def GInt (k : IntKind) (b : Nat) (n : Int) : Prop := 1 ≤ b ∧ (Lit.int k n).wf = true
def GSlice {α : Type} (G : Nat → α → Prop) (b : Nat) (xs : List α) : Prop := xs.length + 1 ≤ b ∧ ∀ x ∈ xs, ∃ b', b' + 1 ≤ b ∧ G b' x

variable {P : Program}
theorem opens_int {t : TypeId} {k : IntKind} (ht : P.underlying t = some (.int k)) : Opens P t (Kd.int k) (GInt k) := by
  intro H enc w fuel cs x h
  obtain ⟨n, rfl, rfl, hw⟩ := DataW.trod_int ht h
  exact ⟨n, rfl, by simp [Rows.uptoBulk], hw⟩
theorem opens_row {α : Type} {t e : TypeId} {d : Kd α} {G : Nat → α → Prop} (ht : P.underlying t = some (.slice e)) (ho : Opens P e d G) (hsz : P.cellsOf e = d.sz)
    {H : Type} {enc : TypeId × Value → H} {w : World} {fuel : Nat} {cs : List Value} {x : DataW H × List MemPlace} (h : DataW.trod enc P w 0 (fun _ => true) true fuel t cs = some x) :
    ∃ (A : Option Addr) (c : Nat) (xs : List α), cs = [.slice A xs.length c] ∧ xs.length ≤ c ∧ d.C w A xs.length xs ∧ GSlice G (Rows.uptoBulk x.1) xs := by
  rcases Go.Deep.open_slice ht h with ⟨rfl, rfl⟩ | ⟨a, len, cap, m, n, D, Pl, rfl, _, hl, hm, hmm, rfl, hel⟩
  · exact ⟨none, 0, [], rfl, Nat.le_refl _, ⟨rfl, by simp, fun h => absurd h (Nat.lt_irrefl 0)⟩, by simp [GSlice, Rows.uptoBulk]⟩
  · simp only [if_true] at hmm
    subst hmm
    have hx : ∀ i : Fin len, ∃ y : α, ∃ cs', w.cells? 0 (a.add (i.val * P.cellsOf e)) (P.cellsOf e) = some cs' ∧ d.K w y cs' ∧ G (Rows.uptoBulk (D i.val)) y := by
      intro i
      obtain ⟨cs', h1, h2⟩ := hel i.val (by have := i.isLt; omega)
      obtain ⟨y, hy, hg⟩ := ho enc w n cs' _ h2
      exact ⟨y, cs', h1, hy, hg⟩
    have hx' : ∃ f : Fin len → α, ∀ i : Fin len, ∃ cs', w.cells? 0 (a.add (i.val * P.cellsOf e)) (P.cellsOf e) = some cs' ∧ d.K w (f i) cs' ∧ G (Rows.uptoBulk (D i.val)) (f i) := ⟨fun i => (hx i).choose, fun i => (hx i).choose_spec⟩
    obtain ⟨f, hf⟩ := hx'
    have hlen : (List.ofFn f).length = len := by simp
    refine ⟨some a, m, List.ofFn f, by rw [hlen], by omega, ⟨rfl, by rw [hlen]; unfold maxLen at hm; omega, fun _ => ⟨a, rfl, fun j p hj => ?_⟩⟩, ?_, ?_⟩
    · obtain ⟨hj1, hj2⟩ := List.getElem?_eq_some_iff.1 hj
      rw [List.getElem_ofFn] at hj2
      obtain ⟨cs', h1, h2, _⟩ := hf ⟨j, by simpa using hj1⟩
      rw [hj2] at h2
      refine ⟨cs', d.K_len h2, h2, fun i u hi => ?_⟩
      obtain ⟨_, hcl, hcell⟩ := World.cells?_some h1
      have hi' : i < P.cellsOf e := by rw [← hcl]; exact (List.getElem?_eq_some_iff.1 hi).1
      rw [← hsz, ← Addr.add_add]
      rw [← hi]
      exact hcell i hi'
    · have := length_le ((List.range len).map D)
      simp only [Rows.uptoBulk, hlen]
      simp only [List.length_map, List.length_range] at this
      omega
    · intro x hx
      obtain ⟨i, rfl⟩ := (List.mem_ofFn.1 hx)
      obtain ⟨_, _, _, hg⟩ := hf i
      refine ⟨_, ?_, hg⟩
      have := part_le (H := H) (d := D i.val) (l := (List.range len).map D) (List.mem_map.2 ⟨i.val, List.mem_range.2 i.isLt, rfl⟩)
      simp only [Rows.uptoBulk]
      omega
end Go.Proofs.YtjapahcbhjjeiaaGreatDoor.Opn
