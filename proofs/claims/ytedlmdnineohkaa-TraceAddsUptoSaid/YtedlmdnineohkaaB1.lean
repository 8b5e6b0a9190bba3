import Derived.Test.YtedlmdnineohkaaA8
namespace Go.Proofs.Ytedlmdnineohkaa.PU
open Go.RowKit Go.Proofs.YtedlmdnineohkaaW.PrintWords Go.Proofs.YtedlmdnineohkaaW.PrintLast Go.Proofs.YtedlmdnineohkaaW.PrintMore
set_option linter.unusedVariables false
set_option linter.unusedSimpArgs false

/-! ### the document's reader: functions 33, 34, 35 -/
/-- The document's reader at block g has l left; bad: it found something wrong. -/
def RQ (w0 W : World) (g : Nat) (l : List Int) (bad : Bool) : Prop :=
  w0.heap.size ≤ g ∧ Below w0.heap.size w0 W ∧ (∀ x ∈ l, 0 ≤ x ∧ x < 256) ∧ l.length ≤ 8589934592 ∧ ∃ A c, W.heap[g]? = some (.cells #[.slice A l.length c, .bool bad] 68 (0, 0)) ∧ l.length ≤ c ∧ Kd.C (Kd.int .u8) w0 A l.length l
theorem RQ.below {w0 W W' : World} {g : Nat} {l : List Int} {bad : Bool} (h : RQ w0 W g l bad) (hb : Below W.heap.size W W') : RQ w0 W' g l bad := by
  obtain ⟨h1, h2, hx, hy, A, c, h3, h4, h5⟩ := h
  exact ⟨h1, h2.trans (hb.mono h2.size), hx, hy, A, c, blk_below h3 hb, h4, h5⟩
theorem RQ.set {w0 W : World} {g gc i : Nat} {l : List Int} {bad : Bool} {u : Value} (h : RQ w0 W g l bad) (hc : w0.heap.size ≤ gc) (hne : g ≠ gc) : RQ w0 (W.setCell ⟨gc, i, none⟩ u) g l bad := by
  obtain ⟨h1, h2, hx, hy, A, c, h3, h4, h5⟩ := h
  exact ⟨h1, h2.setCell hc _, hx, hy, A, c, blk_far h3 hne _, h4, h5⟩
theorem RQ.block {w0 W : World} {g : Nat} {l : List Int} {bad : Bool} (h : RQ w0 W g l bad) : ∃ A c, W.heap[g]? = some (.cells #[.slice A l.length c, .bool bad] 68 (0, 0)) := by
  obtain ⟨_, _, _, _, A, c, h3, _⟩ := h
  exact ⟨A, c, h3⟩
theorem RQ.grown {w0 W W' : World} {g : Nat} {l : List Int} {bad : Bool} {row : Option Nat} (h : RQ w0 W g l bad) (hg : W.grownBy W' row) (hb : Below w0.heap.size w0 W') (hne : some g ≠ row) : RQ w0 W' g l bad := by
  obtain ⟨h1, h2, hx, hy, A, c, h3, h4, h5⟩ := h
  exact ⟨h1, hb, hx, hy, A, c, blk_grown h3 hg hne, h4, h5⟩
theorem RQ.flag {w0 W : World} {g : Nat} {l : List Int} {bad : Bool} (h : RQ w0 W g l bad) (b : Bool) : RQ w0 (W.setCell ⟨g, 1, none⟩ (.bool b)) g l b := by
  obtain ⟨h1, h2, hx, hy, A, c, h3, h4, h5⟩ := h
  exact ⟨h1, h2.setCell h1 _, hx, hy, A, c, blk_put h3 1 _ (by simp), h4, h5⟩

def TakeRel (n : Int) (l : List Int) (bad : Bool) (xs l' : List Int) (bad' : Bool) : Prop :=
  if bad = true ∨ (l.length : Int) < n then xs = [] ∧ l' = l ∧ bad' = true else xs = l.take n.toNat ∧ l' = l.drop n.toNat ∧ bad' = false

def TookR (w0 W : World) (g : Nat) (l : List Int) (bad : Bool) (n : Int) (e : Ending) (w' : World) : Prop :=
  ∃ v xs l' bad', e = .returned v ∧ Kd.R (Kd.int .u8) 5 w' w0.heap.size (fun k => W.heap.size ≤ k) v xs ∧ RQ w0 w' g l' bad' ∧ Kept W w' (fun k => k = g) ∧ TakeRel n l bad xs l' bad'
set_option maxHeartbeats 800000 in
theorem rtake_calls (w0 W : World) (g : Nat) (l : List Int) (bad : Bool) (n : Int) (h : RQ w0 W g l bad) (h0 : bad = false → 0 ≤ n) :
    Calls Try.prog 33 #[.pointer (some ⟨g, 0, none⟩), .int .i64 n] W (TookR w0 W g l bad n) := by
  have HRQ := Aside0.mk h
  obtain ⟨h1, h2, hx, hy, A, c, h3, h4, h5⟩ := h
  have c0 : W.cell? ⟨g, 0, none⟩ = some (.slice A l.length c) := (blk_cell h3 0).trans rfl
  have c1 : W.cell? ⟨g, 1, none⟩ = some (.bool bad) := (blk_cell h3 1).trans rfl
  have f0 := blk_frozen h3 0
  have f1 := blk_frozen h3 1
  cases bad with
  | true =>
    clear h0 h1 h2 hx hy h3 h4 h5
    go_enter Try.func33, Try.ntmps33
    go_wp2
    go_ret
    exact ⟨_, [], l, true, rfl, Kd.R_nil _ _ _ _ _, HRQ.out.flag true, Kept.setCell (S := fun k => k = g) (Kept.refl W _) (.inl rfl) _, by unfold TakeRel; rw [if_pos (.inl rfl)]; exact ⟨rfl, rfl, rfl⟩⟩
  | false =>
    have h0 := h0 rfl
    by_cases hn : (l.length : Int) < n
    · have hlt : decide ((l.length : Int) < n) = true := by simpa using hn
      have HN := Aside0.mk hn
      clear h0 h1 h2 hx hy h3 h4 h5 hn
      go_enter Try.func33, Try.ntmps33
      go_wp2
      go_ret
      exact ⟨_, [], l, true, rfl, Kd.R_nil _ _ _ _ _, HRQ.out.flag true, Kept.setCell (S := fun k => k = g) (Kept.refl W _) (.inl rfl) _, by unfold TakeRel; rw [if_pos (.inr HN.out)]; exact ⟨rfl, rfl, rfl⟩⟩
    · have hn' : n ≤ (l.length : Int) := by omega
      have hlt : decide ((l.length : Int) < n) = false := by simp; omega
      have d0 : decide (0 ≤ n) = true := by simpa using h0
      have d1 : decide (n ≤ (l.length : Int)) = true := by simpa using hn'
      obtain ⟨i0, hi0, _, hsz, _⟩ := info_parts info5
      obtain ⟨hcut, hA, hC⟩ := print_take_of (P := Try.prog) (Value.int .u8) 0 23 5 .i64 Try.underlying23 hi0 hsz A c l n h0 hn' h4
      obtain ⟨A', hcut2, hA', hC'⟩ := print_drop_of (P := Try.prog) (Value.int .u8) 0 23 5 .i64 Try.underlying23 hi0 hsz A c l n h0 hn' h4
      have HT := Aside0.mk (Kd.C_of_reads (h1 := fun _ => rfl) (hA _ (Kd.reads_of_C h5)))
      have HD := Aside0.mk (Kd.C_of_reads (h1 := fun _ => rfl) (hA' _ (Kd.reads_of_C h5)))
      have HC := Aside0.mk hC
      have HC' := Aside0.mk hC'
      have hl1 := Aside0.mk (show (l.take n.toNat).length = n.toNat by simp; omega)
      have HREL := Aside0.mk (show TakeRel n l false (l.take n.toNat) (l.drop n.toNat) false by unfold TakeRel; rw [if_neg (by rintro (h | h); cases h; omega)]; exact ⟨rfl, rfl, rfl⟩)
      have HW := Aside0.mk (show RQ w0 (W.setCell ⟨g, 0, none⟩ (.slice A' (l.drop n.toNat).length (c - n.toNat))) g (l.drop n.toNat) false from ⟨h1, h2.setCell h1 _, fun x hm => hx x (List.mem_of_mem_drop hm), by simp; omega, A', c - n.toNat, blk_put h3 0 _ (by simp), hC', HD.out⟩)
      have HB := Aside0.mk h2
      have HL := Aside0.mk hy
      have HG := Aside0.mk (show g < W.heap.size from blk_lt h3)
      clear h0 h1 h2 hx hy h3 h4 h5 hA hA' hC hC' hi0 hsz hn hn'
      go_enter Try.func33, Try.ntmps33
      have hq : (l.take n.toNat).length = min n.toNat l.length := List.length_take
      have hq2 : (l.drop n.toNat).length = l.length - n.toNat := List.length_drop
      rw [hq] at HT hl1 HC
      rw [hq2] at HW
      go_wp2_with (first | ((with_reducible refine gate_builtin (b := .append) (xs := #[.const (.slice none 0 0), .tmp 37]) rfl ?_); at_builtin; refine Kd.R_append_rows (Kd.int .u8) (w0 := w0) w0.heap.size rfl (.const (.slice none 0 0)) (.tmp 37) 23 5 (.int .u8 0) 1 rfl Try.underlying23 info5 rfl (by decide) (by omega) (.slice none 0 0) [] (l.take n.toNat) A (min n.toNat l.length) c (fun k => W.heap.size ≤ k) (fun _ => False) rfl rfl ?aO ?aR (fun _ _ h => h) (fun _ h => h.elim) ?aF ?aB ?aS ?aL ?_; (case aO => exact Kd.R_nil _ _ _ _ _); (case aR => exact Kd.C_below HT.out HW.out.2.1); (case aF => exact (fun k hk => by simpa using hk)); (case aB => exact HW.out.2.1); (case aS => exact HW.out.2.1.size); (case aL => have := HL.out; simp; omega); intro v2 w2 ho hb hg hat; have HO2 := Aside0.mk ho; have HRQ2 := Aside0.mk (HW.out.grown hg hb (by simp [Value.ownBlock])); have HK2 := Aside0.mk (Kept.of_grown hg (Kept.setCell (S := fun k => k = g) (p := ⟨g, 0, none⟩) (Kept.refl W _) (.inl rfl) _) (by simp [Value.ownBlock])); clear ho hb hg hat) | fail)
      go_ret
      exact ⟨_, l.take n.toNat, l.drop n.toNat, false, rfl, HO2.out, HRQ2.out, HK2.out, HREL.out⟩
end Go.Proofs.Ytedlmdnineohkaa.PU
