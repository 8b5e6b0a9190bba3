import Derived.Test.YtgibdhdglppdcaaGreatPUx0
import Derived.Recover
import Derived.WalkLawsBesides
namespace Go.Proofs.YtgibdhdglppdcaaGreat.PU
set_option maxRecDepth 100000
open Go.RowKit Go.Proofs.YtgibdhdglppdcaaGreatW.PrintWords Go.Proofs.YtgibdhdglppdcaaGreatW.PrintLast Go.Proofs.YtgibdhdglppdcaaGreatW.PrintMore
set_option linter.unusedVariables false
set_option linter.unusedSimpArgs false

/-! ### trace_Read: function 14 -/
/-- The reader at block g has l left to read; what it reads lies below. -/
def RS (w0 W : World) (g : Nat) (l : List Int) : Prop :=
  w0.heap.size ≤ g ∧ Below w0.heap.size w0 W ∧ ∃ A c, W.heap[g]? = some (.cells #[.slice A l.length c] 49 (0, 0)) ∧ l.length ≤ c ∧ Kd.C (Kd.int .u8) w0 A l.length l
def cutChain : List PanicEntry := [{ v := .iface 53 (.agg #[]), recovered := false }]
theorem RS.below {w0 W W' : World} {g : Nat} {l : List Int} (h : RS w0 W g l) (hb : Below W.heap.size W W') : RS w0 W' g l := by
  obtain ⟨h1, h2, A, c, h3, h4, h5⟩ := h
  exact ⟨h1, h2.trans (hb.mono h2.size), A, c, blk_below h3 hb, h4, h5⟩
theorem RS.kept {w0 W W' : World} {g : Nat} {l : List Int} {S : Nat → Prop} (h : RS w0 W g l) (hk : Kept W W' S) (hb : Below w0.heap.size w0 W') (hS : ¬ S g) : RS w0 W' g l := by
  obtain ⟨h1, h2, A, c, h3, h4, h5⟩ := h
  exact ⟨h1, hb, A, c, blk_kept h3 hk hS, h4, h5⟩

def Took (w0 W : World) (g : Nat) (l : List Int) (n : Nat) (e : Ending) (w' : World) : Prop :=
  ∃ A c, e = .returned (.slice A (l.take n).length c) ∧ (l.take n).length ≤ c ∧ Kd.C (Kd.int .u8) w0 A (l.take n).length (l.take n) ∧ RS w0 w' g (l.drop n) ∧ Kept W w' (fun k => k = g)

set_option maxRecDepth 100000 in
set_option maxHeartbeats 400000 in
theorem take_ok (w0 W : World) (g : Nat) (l : List Int) (n : Int) (h : RS w0 W g l) (h0 : 0 ≤ n) (hn : n ≤ (l.length : Int)) :
    Calls Tryz.prog 24 #[.pointer (some ⟨g, 0, none⟩), .int .i64 n] W (Took w0 W g l n.toNat) := by
  obtain ⟨h1, h2, A, c, h3, h4, h5⟩ := h
  have H1 := Aside0.mk h1
  have H2 := Aside0.mk h2
  have H3 := Aside0.mk h3
  have hlt : decide ((l.length : Int) < n) = false := by simp; omega
  have d0 : decide (0 ≤ n) = true := by simpa using h0
  have d1 : decide (n ≤ (l.length : Int)) = true := by simpa using hn
  obtain ⟨i0, hi0, _, hsz, _⟩ := info_parts info5
  obtain ⟨hcut, hA, hC⟩ := print_take_of (P := Tryz.prog) (Value.int .u8) 0 23 5 .i64 Tryz.underlying23 hi0 hsz A c l n h0 hn h4
  obtain ⟨A', hcut2, hA', hC'⟩ := print_drop_of (P := Tryz.prog) (Value.int .u8) 0 23 5 .i64 Tryz.underlying23 hi0 hsz A c l n h0 hn h4
  have HT := Aside0.mk (Kd.C_of_reads (h1 := fun _ => rfl) (hA _ (Kd.reads_of_C h5)))
  have HD := Aside0.mk (Kd.C_of_reads (h1 := fun _ => rfl) (hA' _ (Kd.reads_of_C h5)))
  have HC := Aside0.mk hC
  have HC' := Aside0.mk hC'
  have c0 : W.cell? ⟨g, 0, none⟩ = some (.slice A l.length c) := (blk_cell h3 0).trans rfl
  have f0 := blk_frozen h3 0
  clear hA hA' hC hC' hi0 hsz h1 h2 h3 h4 h5
  have hl1 := Aside0.mk (show (l.take n.toNat).length = n.toNat by simp; omega)
  go_enter Tryz.func24, Tryz.ntmps24
  go_wp2
  go_ret
  refine ⟨A, c, by rw [hl1.out]; rfl, HC.out, HT.out, ⟨H1.out, H2.out.setCell H1.out _, A', c - n.toNat, blk_put H3.out 0 _ (by simp), HC'.out, HD.out⟩, Kept.setCell (S := fun k => k = g) (Kept.refl W _) (.inl rfl) _⟩

set_option maxRecDepth 100000 in
set_option maxHeartbeats 400000 in
theorem take_no (w0 W : World) (g : Nat) (l : List Int) (n : Int) (h : RS w0 W g l) (hn : (l.length : Int) < n) :
    Calls Tryz.prog 24 #[.pointer (some ⟨g, 0, none⟩), .int .i64 n] W fun e w' => e = .panicked cutChain ∧ Below W.heap.size W w' := by
  obtain ⟨h1, h2, A, c, h3, h4, h5⟩ := h
  have hlt : decide ((l.length : Int) < n) = true := by simpa using hn
  have c0 : W.cell? ⟨g, 0, none⟩ = some (.slice A l.length c) := (blk_cell h3 0).trans rfl
  clear h1 h2 h3 h4 h5 hn
  go_enter Tryz.func24, Tryz.ntmps24
  go_wp2
  exact ⟨rfl, rfl, Below.refl _ _⟩
end Go.Proofs.YtgibdhdglppdcaaGreat.PU
