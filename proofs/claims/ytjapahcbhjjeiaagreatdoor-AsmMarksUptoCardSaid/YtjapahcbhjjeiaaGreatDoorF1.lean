/- Several texts in one. -/
import Derived.Test.YtjapahcbhjjeiaaGreatDoorWWords
import Derived.Test.YtjapahcbhjjeiaaGreatDoorWMore
import Derived.MapKept
import Derived.ChangeMaps4
import Derived.Maps.OwnSet
import Derived.Test.YtjapahcbhjjeiaaGreatDoorWLast
import Derived.Laws.Tables
/- A map in memory as a list of entries: laying one in, looking one up. -/
namespace Go.Proofs.YtjapahcbhjjeiaaGreatDoor.AS
open Go.RowKit Go.MapKept Go.ChangeMaps
set_option linter.unusedVariables false

variable {P : Program}

def MapAt (w : World) (b : Nat) (l : List (Value × Value)) : Prop := ∃ es clock, w.heap[b]? = some (.map es clock) ∧ es.toList.map (fun e => (e.key, e.val)) = l

theorem MapAt.new (w : World) : MapAt (w.alloc (.map #[] 0)) w.heap.size [] := ⟨#[], 0, heap_alloc_new w _, rfl⟩
theorem MapAt.lt {w : World} {b : Nat} {l : List (Value × Value)} (h : MapAt w b l) : b < w.heap.size := by
  obtain ⟨es, c, h1, _⟩ := h
  exact (Array.getElem?_eq_some_iff.1 h1).1
theorem MapAt.same {w w1 : World} {b : Nat} {l : List (Value × Value)} (h : MapAt w b l) (he : w1.heap[b]? = w.heap[b]?) : MapAt w1 b l := by
  obtain ⟨es, c, h1, h2⟩ := h
  exact ⟨es, c, he.trans h1, h2⟩
theorem MapAt.below {w w1 : World} {b : Nat} {l : List (Value × Value)} (h : MapAt w b l) (hb : Below w.heap.size w w1) : MapAt w1 b l := h.same (hb.block b h.lt)

theorem MapAt.update {d : TypeDesc} {t k e : TypeId} {w : World} {b : Nat} {l : List (Value × Value)} {key val : Value} (h : MapAt w b l) (ht : P.underlying t = some (.map k e)) (hd : P.underlying k = some d)
    (hk : IsKey d key) (hks : ∀ p ∈ l, IsKey d p.1) (hnew : ∀ p ∈ l, p.1 ≠ key) :
    ∃ w', (Instr.mapUpdate t (.map (some b)) key val).run P w = .ok () w' ∧ MapAt w' b (l ++ [(key, val)]) ∧ w.mapTurned w' b := by
  obtain ⟨es, c, hb, he⟩ := h
  have hks' : ∀ x ∈ es.toList, IsKey d x.key := fun x hx => hks (x.key, x.val) (by rw [← he]; exact List.mem_map.2 ⟨x, hx, rfl⟩)
  have hnew' : ∀ x ∈ es.toList, x.key ≠ key := fun x hx => hnew (x.key, x.val) (by rw [← he]; exact List.mem_map.2 ⟨x, hx, rfl⟩)
  rcases findNow_spec hk es.toList 0 hks' with ⟨h1, h2⟩ | ⟨j, e0, h1, h2, h3⟩
  · refine ⟨setBlock w b (.map (es.push { key, val := val, born := c }) (c + 1)), ?_, ⟨_, _, (heap_set hb).1, ?_⟩, ⟨es, c, _, _, hb, rfl⟩⟩
    · simp [Instr.mapUpdate, run_underlying ht, MapKept.run_getObj_map hb, run_checkKey hd hk, run_findKey hd h1, MapKept.run_setObj_map _ hb, Result.andThen, setBlock]
    · simp [he]
  · exact absurd h3 (hnew' e0 (List.mem_of_getElem? h2))

theorem MapAt.look {d : TypeDesc} {t k e : TypeId} {w : World} {b : Nat} {l : List (Value × Value)} {key val : Value} (h : MapAt w b l) (ht : P.underlying t = some (.map k e)) (hd : P.underlying k = some d)
    (hk : IsKey d key) (hks : ∀ p ∈ l, IsKey d p.1) (hm : (key, val) ∈ l) (hu : ∀ p ∈ l, p.1 = key → p.2 = val) (ok : Bool) :
    (Instr.lookup t (.map (some b)) key ok).run P w = .ok (if ok then .tuple #[val, .bool true] else val) w := by
  obtain ⟨es, c, hb, he⟩ := h
  have hks' : ∀ x ∈ es.toList, IsKey d x.key := fun x hx => hks (x.key, x.val) (by rw [← he]; exact List.mem_map.2 ⟨x, hx, rfl⟩)
  rcases findNow_spec hk es.toList 0 hks' with ⟨h1, h2⟩ | ⟨j, e0, h1, h2, h3⟩
  · rw [← he] at hm
    obtain ⟨x, hx, hxe⟩ := List.mem_map.1 hm
    injection hxe with hx1 hx2
    exact absurd hx1 (h2 x hx)
  · have : e0.val = val := hu (e0.key, e0.val) (by rw [← he]; exact List.mem_map.2 ⟨e0, List.mem_of_getElem? h2, rfl⟩) h3
    simp [Instr.lookup, run_underlying ht, MapKept.run_getObj_map hb, run_checkKey hd hk, run_findKey hd h1, Result.andThen, this]

theorem MapAt.miss {d : TypeDesc} {t k e : TypeId} {w : World} {b : Nat} {l : List (Value × Value)} {key z : Value} (h : MapAt w b l) (ht : P.underlying t = some (.map k e)) (hd : P.underlying k = some d) (hz : (zeroValue e).run P w = .ok z w)
    (hk : IsKey d key) (hks : ∀ p ∈ l, IsKey d p.1) (hm : ∀ p ∈ l, p.1 ≠ key) (ok : Bool) :
    (Instr.lookup t (.map (some b)) key ok).run P w = .ok (if ok then .tuple #[z, .bool false] else z) w := by
  obtain ⟨es, c, hb, he⟩ := h
  have hks' : ∀ x ∈ es.toList, IsKey d x.key := fun x hx => hks (x.key, x.val) (by rw [← he]; exact List.mem_map.2 ⟨x, hx, rfl⟩)
  have hnew' : ∀ x ∈ es.toList, x.key ≠ key := fun x hx => hm (x.key, x.val) (by rw [← he]; exact List.mem_map.2 ⟨x, hx, rfl⟩)
  rcases findNow_spec hk es.toList 0 hks' with ⟨h1, h2⟩ | ⟨j, e0, h1, h2, h3⟩
  · simp [Instr.lookup, run_underlying ht, MapKept.run_getObj_map hb, run_checkKey hd hk, run_findKey hd h1, Result.andThen, hz]
  · exact absurd h3 (hnew' e0 (List.mem_of_getElem? h2))

theorem turned_below {w0 w w' : World} {b B : Nat} (h : w.mapTurned w' b) (hb : Below B w0 w) (hB : B ≤ b) : Below B w0 w' := by
  obtain ⟨es, c, es', c', h1, rfl⟩ := h
  exact ⟨hb.os, hb.tape, hb.output, by simpa [setBlock] using hb.size, fun i hi => ((heap_set h1).2 i (by omega)).trans (hb.block i hi)⟩
theorem turned_far {w w' : World} {b g : Nat} (h : w.mapTurned w' b) (hg : g ≠ b) : w'.heap[g]? = w.heap[g]? := by
  obtain ⟨es, c, es', c', h1, rfl⟩ := h
  exact (heap_set h1).2 g hg
theorem wp_insert {W : World} {ops : Array Oper} {rest : List Oper} {o : Oper} {a : Act} {Q : Exit → Act → World → Prop} {d : TypeDesc}
    (hg : o.guard = none) (m x v : Operand) (t : TypeId) (hop : o.op = Op.insert t m x v) (k e : TypeId) (ht : P.underlying t = some (.map k e)) (hd : P.underlying k = some d) (b : Nat) (l : List (Value × Value))
    (hm : a.eval m = .map (some b)) (hM : MapAt W b l) (key val : Value) (hx : a.eval x = key) (hv : a.eval v = val) (hk : IsKey d key) (hks : ∀ p ∈ l, IsKey d p.1) (hnew : ∀ p ∈ l, p.1 ≠ key)
    (hK : ∀ w', MapAt w' b (l ++ [(key, val)]) → W.mapTurned w' b → wpList P ops Q rest (a.put o.dst undef) w') : wpList P ops Q (o :: rest) a W := by
  refine wpList_plain hg fun K' hK' => ?_
  obtain ⟨w', hrun, r1, r2⟩ := hM.update ht hd (val := val) hk hks hnew
  unfold Oper.wp
  simp [execOp, hop, hm, hx, hv, hrun, Result.andThen]
  exact hK' _ _ (hK w' r1 r2)
theorem wp_mapset {W : World} {ops : Array Oper} {rest : List Oper} {o : Oper} {a : Act} {Q : Exit → Act → World → Prop} {d : TypeDesc}
    (hg : o.guard = none) (m x v : Operand) (t : TypeId) (hop : o.op = Op.mapUpdate t m x v) (k e : TypeId) (ht : P.underlying t = some (.map k e)) (hd : P.underlying k = some d) (b : Nat) (l : List (Value × Value))
    (hm : a.eval m = .map (some b)) (hM : MapAt W b l) (key val : Value) (hx : a.eval x = key) (hv : a.eval v = val) (hk : IsKey d key) (hks : ∀ p ∈ l, IsKey d p.1) (hnew : ∀ p ∈ l, p.1 ≠ key)
    (hK : ∀ w', MapAt w' b (l ++ [(key, val)]) → W.mapTurned w' b → wpList P ops Q rest (a.put o.dst undef) w') : wpList P ops Q (o :: rest) a W := by
  refine wpList_plain hg fun K' hK' => ?_
  obtain ⟨w', hrun, r1, r2⟩ := hM.update ht hd (val := val) hk hks hnew
  unfold Oper.wp
  simp [execOp, hop, hm, hx, hv, hrun, Result.andThen]
  exact hK' _ _ (hK w' r1 r2)

end Go.Proofs.YtjapahcbhjjeiaaGreatDoor.AS

/- Events of a walk: a whole struct stored, a field stored, a map's entry looked up. -/
namespace Go.Proofs.YtjapahcbhjjeiaaGreatDoor.AS
open Go.RowKit Go.MapKept Go.Proofs.YtjapahcbhjjeiaaGreatDoorW.PrintWords Go.Proofs.YtjapahcbhjjeiaaGreatDoorW.PrintLast Go.Proofs.YtjapahcbhjjeiaaGreatDoorW.PrintMore
set_option linter.unusedVariables false

variable {P : Program} {ops : Array Oper} {rest : List Oper} {o : Oper} {a : Act} {Q : Exit → Act → World → Prop}

theorem skip_run {W w1 : World} (hgd : o.guard = none) (hrun : (execOp a.eval o).run P W = .ok .skip w1) (h : wpList P ops Q rest (a.put o.dst undef) w1) : wpList P ops Q (o :: rest) a W := by
  refine wpList_plain hgd fun K hK => ?_
  unfold Oper.wp
  rw [hrun]
  exact hK _ _ h

theorem gate_store {t : TypeId} {p x : Operand} {W : World} (_ho : o.op = Op.store t p x) (h : wpList P ops Q (o :: rest) a W) : wpList P ops Q (o :: rest) a W := h
theorem row_far (w : World) (g : Nat) (cs : Array Value) (k : Nat) (hk : k ≠ g) : (w.setRow g cs).heap[k]? = w.heap[k]? := by
  unfold World.setRow
  simp only [Array.getElem?_modify]
  rw [if_neg (fun e => hk e.symm)]
theorem row_below {B : Nat} {w0 w : World} {g : Nat} {cs : Array Value} (h : Below B w0 w) (hB : B ≤ g) : Below B w0 (w.setRow g cs) :=
  ⟨h.os, h.tape, h.output, by have := h.size; simpa [World.setRow] using this, fun i hi => (row_far w g cs i (by omega)).trans (h.block i hi)⟩

theorem run_store_row {W : World} (ty : TypeId) (x y : Operand) (ho : o.op = .store ty x y) {g : Nat} {t : TypeId} {old : Array Value} (cells : Array Value) (hbox : W.heap[g]? = some (.cells old t (0, 0))) (hx : a.eval x = .pointer (some ⟨g, 0, none⟩)) (hy : a.eval y = .agg cells)
    (hi : (P.info? ty).map (·.size) = some cells.size) (hold : old.size = cells.size) (h1 : cells.toList.all (·.oneCell') = true) : (execOp a.eval o).run P W = .ok .skip (W.setRow g cells) := by
  unfold execOp
  simp only [ho, hx, hy, Instr.storeAt, Instr.sureAddr, Sem.run_bind, Sem.run_pure, Result.andThen_ok, run_storeVar_row W g t ty old cells hbox hi hold (by simpa using h1)]

theorem store_event {W : World} (hgd : o.guard = none) (ty : TypeId) (x y : Operand) (ho : o.op = .store ty x y) {g : Nat} {t : TypeId} {old : Array Value} (cells : Array Value) (hbox : W.heap[g]? = some (.cells old t (0, 0))) (hx : a.eval x = .pointer (some ⟨g, 0, none⟩)) (hy : a.eval y = .agg cells)
    (hi : (P.info? ty).map (·.size) = some cells.size) (hold : old.size = cells.size) (h1 : cells.toList.all (·.oneCell') = true)
    (h : ∀ w1, w1.heap[g]? = some (.cells cells t (0, 0)) → (∀ k, k ≠ g → w1.heap[k]? = W.heap[k]?) → (∀ B w0, Below B w0 W → B ≤ g → Below B w0 w1) → wpList P ops Q rest (a.put o.dst undef) w1) : wpList P ops Q (o :: rest) a W :=
  skip_run hgd (run_store_row ty x y ho cells hbox hx hy hi hold h1) (h _ (setRow_heap W g old cells t (0, 0) hbox) (fun k hk => row_far W g cells k hk) (fun B w0 hb hB => row_below hb hB))

theorem run_store_cell {W : World} (ty : TypeId) (x y : Operand) (ho : o.op = .store ty x y) {g : Nat} {t : TypeId} {old : Array Value} (i : Nat) (v : Value) (hbox : W.heap[g]? = some (.cells old t (0, 0))) (hil : i < old.size) (hx : a.eval x = .pointer (some ⟨g, i, none⟩)) (hy : a.eval y = v)
    (hi : (P.info? ty).map (·.size) = some 1) (hv : v.cells = #[v]) (h1 : v.oneCell' = true) : (execOp a.eval o).run P W = .ok .skip (W.setCell ⟨g, i, none⟩ v) := by
  have hc : W.cell? ⟨g, i, none⟩ = some old[i] := by rw [blk_cell hbox i]; simp [hil]
  have hf := blk_frozen hbox i
  have ha : (⟨g, i, none⟩ : Addr).add 0 = ⟨g, i, none⟩ := by unfold Addr.add; split <;> simp_all
  have hst : (storeVar ty ⟨g, i, none⟩ v).run P W = .ok () (W.setCell ⟨g, i, none⟩ v) := by
    cases hq : P.info? ty with
    | none => simp [hq] at hi
    | some q =>
      have hs : q.size = 1 := by simpa [hq] using hi
      simp [storeVar, sizeOf, typeInfo, hq, hv, hs, storeCells, ha, run_store P W _ v _ h1, hc, hf]
  unfold execOp
  simp only [ho, hx, hy, Instr.storeAt, Instr.sureAddr, Sem.run_bind, Sem.run_pure, Result.andThen_ok, hst]

theorem set_event {W : World} (hgd : o.guard = none) (ty : TypeId) (x y : Operand) (ho : o.op = .store ty x y) {g : Nat} {t : TypeId} {cs : Array Value} (i : Nat) (v : Value) (cs' : Array Value) (hbox : W.heap[g]? = some (.cells cs t (0, 0))) (hil : i < cs.size) (hx : a.eval x = .pointer (some ⟨g, i, none⟩)) (hy : a.eval y = v)
    (hi : (P.info? ty).map (·.size) = some 1) (hv : v.cells = #[v]) (h1 : v.oneCell' = true) (he : cs.setIfInBounds i v = cs')
    (h : ∀ w1, w1.heap[g]? = some (.cells cs' t (0, 0)) → (∀ k, k ≠ g → w1.heap[k]? = W.heap[k]?) → (∀ B w0, Below B w0 W → B ≤ g → Below B w0 w1) → wpList P ops Q rest (a.put o.dst undef) w1) : wpList P ops Q (o :: rest) a W :=
  skip_run hgd (run_store_cell ty x y ho i v hbox hil hx hy hi hv h1) (h _ (blk_put hbox i v he) (fun k hk => Below.heap_setCell W _ v k hk) (fun B w0 hb hB => hb.setCell hB v))

theorem look_event {W : World} (hgd : o.guard = none) (m x : Operand) (t : TypeId) (ok : Bool) (hop : o.op = Op.lookup t m x ok) (mv key v : Value) (hm : a.eval m = mv) (hx : a.eval x = key) (hrun : (Instr.lookup t mv key ok).run P W = .ok v W)
    (h : wpList P ops Q rest (a.put o.dst v) W) : wpList P ops Q (o :: rest) a W := by
  refine wpList_plain hgd fun K hK => ?_
  unfold Oper.wp
  simp [execOp, hop, hm, hx, hrun, Result.andThen]
  exact hK _ _ h

theorem far_blk {w w1 : World} {g k : Nat} {o : Obj} (hf : ∀ k, k ≠ g → w1.heap[k]? = w.heap[k]?) (hk : k ≠ g) (h : w.heap[k]? = some o) : w1.heap[k]? = some o := (hf k hk).trans h

theorem cells8a {w : World} {g : Nat} {t : TypeId} {a0 a1 a2 a3 a4 a5 a6 a7 : Value} (H : w.heap[g]? = some (.cells #[a0, a1, a2, a3, a4, a5, a6, a7] t (0, 0))) :
    w.cell? ⟨g, 0, none⟩ = some a0 ∧ w.cell? ⟨g, 1, none⟩ = some a1 ∧ w.cell? ⟨g, 2, none⟩ = some a2 ∧ w.cell? ⟨g, 3, none⟩ = some a3 ∧ w.cell? ⟨g, 4, none⟩ = some a4 ∧ w.cell? ⟨g, 5, none⟩ = some a5 ∧ w.cell? ⟨g, 6, none⟩ = some a6 ∧ w.cell? ⟨g, 7, none⟩ = some a7 :=
  ⟨(blk_cell H 0).trans rfl, (blk_cell H 1).trans rfl, (blk_cell H 2).trans rfl, (blk_cell H 3).trans rfl, (blk_cell H 4).trans rfl, (blk_cell H 5).trans rfl, (blk_cell H 6).trans rfl, (blk_cell H 7).trans rfl⟩
theorem cells8 {w : World} {g : Nat} {t : TypeId} {a0 a1 a2 a3 a4 a5 a6 a7 : Value} (H : w.heap[g]? = some (.cells #[a0, a1, a2, a3, a4, a5, a6, a7] t (0, 0))) :
    w.cell? ⟨g, 0, none⟩ = some a0 ∧ w.cell? ⟨g, 1, none⟩ = some a1 ∧ w.cell? ⟨g, 2, none⟩ = some a2 ∧ w.cell? ⟨g, 3, none⟩ = some a3 ∧ w.cell? ⟨g, 4, none⟩ = some a4 ∧ w.cell? ⟨g, 5, none⟩ = some a5 ∧ w.cell? ⟨g, 6, none⟩ = some a6 ∧ w.cell? ⟨g, 7, none⟩ = some a7 ∧
      w.frozen? ⟨g, 0, none⟩ = false ∧ w.frozen? ⟨g, 1, none⟩ = false ∧ w.frozen? ⟨g, 2, none⟩ = false ∧ w.frozen? ⟨g, 3, none⟩ = false ∧ w.frozen? ⟨g, 4, none⟩ = false ∧ w.frozen? ⟨g, 5, none⟩ = false ∧ w.frozen? ⟨g, 6, none⟩ = false ∧ w.frozen? ⟨g, 7, none⟩ = false :=
  ⟨(blk_cell H 0).trans rfl, (blk_cell H 1).trans rfl, (blk_cell H 2).trans rfl, (blk_cell H 3).trans rfl, (blk_cell H 4).trans rfl, (blk_cell H 5).trans rfl, (blk_cell H 6).trans rfl, (blk_cell H 7).trans rfl, blk_frozen H 0, blk_frozen H 1, blk_frozen H 2, blk_frozen H 3, blk_frozen H 4, blk_frozen H 5, blk_frozen H 6, blk_frozen H 7⟩

end Go.Proofs.YtjapahcbhjjeiaaGreatDoor.AS
