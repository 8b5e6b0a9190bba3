import Derived.Test.YtdaadmjppikebaaK13
/- Parts of the walk of package sched, merged. -/
/- SchedPlays, plain: what confs may be, by the program and by the document. -/
namespace Go.Proofs.Ytdaadmjppikebaa.SC
open Go.RowKit Go.Proofs.YtdaadmjppikebaaW.PrintWords Go.Proofs.YtdaadmjppikebaaW.PrintLast
open Go.Proofs.Ytdaadmjppikebaa.PV (S94 k94 S29 k29 rd_T94 rd_T29)
set_option linter.unusedVariables false
set_option linter.unusedSimpArgs false

theorem sched_Right_f (H S P : Int) (cr : Bool) (gl : List S94) : PV.sched_Right.f (2 * gl.length + 2) H S P cr gl = some (rB H S P gl) := rfl
theorem citadelref18_Right_f (H S P : Int) (cr : Bool) (gl : List S94) : PV.citadelref18_Right.f (2 * gl.length + 2) H S P cr gl = some (rB H S P gl) := rfl
theorem rGo_ok (H P : Int) : ∀ (l : List S94) (v g : Int), rGo H P l v g = true → (∀ x ∈ l, (1 ≤ x.f0 ∧ x.f0 ≤ 64) ∧ (1 ≤ x.f2 ∧ x.f2 ≤ 1000) ∧ ¬ (x.f6 = true ∧ x.f0 > H)) ∧ v + vSum l ≤ 64 ∧ g + gSum l < P
  | [], v, g, h => by
    have h' : (if v ≤ 64 then decide (g < P) else false) = true := h
    by_cases c : v ≤ 64
    · rw [if_pos c] at h'
      refine ⟨fun x hx => by simp at hx, by simp [vSum]; exact c, by simp [gSum]; simpa using h'⟩
    · rw [if_neg c] at h'; cases h'
  | x :: r, v, g, h => by
    have h' : (if (1 ≤ x.f0 ∧ x.f0 ≤ 64) ∧ (1 ≤ x.f2 ∧ x.f2 ≤ 1000) ∧ ¬ (x.f6 = true ∧ x.f0 > H) then rGo H P r (v + x.f0) (if x.f6 = true then g + x.f2 else g) else false) = true := h
    by_cases c : (1 ≤ x.f0 ∧ x.f0 ≤ 64) ∧ (1 ≤ x.f2 ∧ x.f2 ≤ 1000) ∧ ¬ (x.f6 = true ∧ x.f0 > H)
    · rw [if_pos c] at h'
      obtain ⟨h1, h2, h3⟩ := rGo_ok H P r _ _ h'
      have e1 : vSum (x :: r) = x.f0 + vSum r := by simp [vSum]
      have e2 : gSum (x :: r) = (if x.f6 = true then x.f2 else 0) + gSum r := by simp [gSum]
      refine ⟨fun y hy => ?_, by omega, ?_⟩
      · rcases List.mem_cons.1 hy with rfl | hy
        · exact c
        · exact h1 y hy
      · rw [e2]
        split at h3
        · next h => rw [if_pos h]; omega
        · next h => rw [if_neg h]; omega
    · rw [if_neg c] at h'; cases h'
theorem rB_ok {H S P : Int} {gl : List S94} (h : rB H S P gl = true) : NOk H.toNat S P gl ∧ H = (H.toNat : Int) := by
  unfold rB at h
  by_cases c : (1 ≤ H ∧ H ≤ 8) ∧ (1 ≤ S ∧ S ≤ 1000) ∧ (1 ≤ P ∧ P ≤ 10000) ∧ 1 ≤ (gl.length : Int) ∧ (gl.length : Int) ≤ 8
  · rw [if_pos c] at h
    obtain ⟨h1, h2, h3⟩ := rGo_ok H P gl 0 0 h
    have hv := ents_sum gl (fun x hx => by have := (h1 x hx).1; omega) 0
    have ht := ticks_sum gl P
    exact ⟨{ m1 := by omega, m8 := by omega, S1 := c.2.1.1, S2 := c.2.1.2, P1 := c.2.2.1.1, P2 := c.2.2.1.2, g1 := by omega, g8 := by omega, x := fun x hx => ⟨(h1 x hx).1.1, (h1 x hx).1.2, (h1 x hx).2.1.1, (h1 x hx).2.1.2, fun h6 => by have := (h1 x hx).2.2; have h7 : ¬ x.f0 > H := fun h => this ⟨h6, h⟩; omega⟩, e := by omega, t := by omega }, by omega⟩
  · rw [if_neg c] at h; cases h
end Go.Proofs.Ytdaadmjppikebaa.SC

/- SchedPlays: the document's New. -/
namespace Go.Proofs.Ytdaadmjppikebaa.SC
open Go.RowKit Go.Proofs.YtdaadmjppikebaaW.PrintWords Go.Proofs.YtdaadmjppikebaaW.PrintLast
open Go.Proofs.Ytdaadmjppikebaa.PV (S94 k94 S29 k29 rd_T94 rd_T29)
set_option linter.unusedVariables false
set_option linter.unusedSimpArgs false

/-- An entity of the document's, newly made. -/
structure ER where
  gu : Int
  ix : Int
  hm : Int
  wt : Int
  gg : Bool
def rowER (e : ER) : List Value := [.int .i64 e.gu, .int .i64 e.ix, .int .i64 e.hm, .int .i64 e.wt, .bool e.gg, .bool false, .int .u64 0, .int .i64 0, .int .i64 0]
theorem rowER_one : ∀ a, ∀ u ∈ rowER a, u.oneCell' = true := by
  intro a u hu
  simp only [rowER, List.mem_cons, List.not_mem_nil, or_false] at hu
  rcases hu with rfl | rfl | rfl | rfl | rfl | rfl | rfl | rfl | rfl <;> rfl
def kER : Kd ER := rowKd rowER 9 (fun _ => rfl) rowER_one
def erOf (s : SS) (i : Nat) : ER := ⟨(s.ent i).gu, (s.ent i).ix, homeOf s i, (s.ent i).wt, s.gng i⟩
theorem info109 : (Try.prog.info? 109).map (fun i => (i.zero, i.size, i.bytes)) = some (some (.agg #[(.int .i64 0), (.int .i64 0), (.int .i64 0), (.int .i64 0), (.bool false), (.bool false), (.int .u64 0), (.int .i64 0), (.int .i64 0)]), 9, 64) := by kernel_rfl
theorem info23 : (Try.prog.info? 23).map (fun i => (i.zero, i.size, i.bytes)) = some (some (.int .u64 0), 1, 8) := by kernel_rfl
theorem info22 : (Try.prog.info? 22).map (fun i => (i.zero, i.size, i.bytes)) = some (some (.slice none 0 0), 1, 24) := by kernel_rfl
theorem cf5 {W : World} {g t : Nat} {a b c d e : Value} (h : Blk W g t [a, b, c, d, e]) : W.cell? ⟨g, 0, none⟩ = some a ∧ W.cell? ⟨g, 1, none⟩ = some b ∧ W.cell? ⟨g, 2, none⟩ = some c ∧ W.cell? ⟨g, 3, none⟩ = some d ∧ W.cell? ⟨g, 4, none⟩ = some e := ⟨h.cell rfl, h.cell rfl, h.cell rfl, h.cell rfl, h.cell rfl⟩
theorem Blk.al {W : World} {g t : Nat} {cs : List Value} {o : Obj} (h : Blk W g t cs) : Blk (W.alloc o) g t cs := h.below (below_alloc (Below.refl _ _) _)
theorem al4 (w : World) (a b c d : Obj) : ((((w.alloc a).alloc b).alloc c).alloc d).drew.heap[w.heap.size]? = some a ∧ ((((w.alloc a).alloc b).alloc c).alloc d).drew.heap[w.heap.size + 1]? = some b ∧ ((((w.alloc a).alloc b).alloc c).alloc d).drew.heap[w.heap.size + 1 + 1]? = some c ∧ ((((w.alloc a).alloc b).alloc c).alloc d).drew.heap[w.heap.size + 1 + 1 + 1]? = some d ∧ Below w.heap.size w ((((w.alloc a).alloc b).alloc c).alloc d).drew := by
  have h1 : (w.alloc a).heap.size = w.heap.size + 1 := by rw [World.size_alloc]
  have h2 : ((w.alloc a).alloc b).heap.size = w.heap.size + 1 + 1 := by rw [World.size_alloc, h1]
  have h3 : (((w.alloc a).alloc b).alloc c).heap.size = w.heap.size + 1 + 1 + 1 := by rw [World.size_alloc, h2]
  have o : ∀ (v : World) (x : Obj) (k : Nat), k < v.heap.size → (v.alloc x).heap[k]? = v.heap[k]? := fun v x k hk => by
    show (v.heap.push x)[k]? = _
    rw [Array.getElem?_push, if_neg (by omega)]
  have e : ∀ v : World, v.drew.heap = v.heap := fun _ => rfl
  rw [e]
  refine ⟨?_, ?_, ?_, ?_, ?_⟩
  · rw [o _ _ _ (by omega), o _ _ _ (by omega), o _ _ _ (by omega)]; exact blk_new w a
  · rw [o _ _ _ (by omega), o _ _ _ (by omega), ← h1]; exact blk_new _ b
  · rw [o _ _ _ (by omega), ← h2]; exact blk_new _ c
  · rw [← h3]; exact blk_new _ d
  · exact (below_step (two_below w a b) (two_below _ c d)).drew
/-- The four slices that New makes. -/
structure N4 (w w' : World) (n m : Nat) (s : Nat × Nat × Nat × Nat) : Prop where
  C : Blk w' s.1 23 (List.replicate n (.int .u64 0))
  Q : Blk w' s.2.1 22 (List.replicate m (.slice none 0 0))
  N : Blk w' s.2.2.1 3 (List.replicate m (.int .i64 0))
  U : Blk w' s.2.2.2 3 (List.replicate m (.int .i64 0))
  ne : s.2.2.1 ≠ s.2.2.2
  B : Below w.heap.size w w'
  ge : w.heap.size ≤ s.1 ∧ w.heap.size ≤ s.2.1 ∧ w.heap.size ≤ s.2.2.1 ∧ w.heap.size ≤ s.2.2.2
theorem blk_made {W : World} {b k e : Nat} {z : Value} (h1 : z.cells = #[z]) (h : W.heap[b]? = some (.cells (madeCells z.cells k) e (0, 0))) : Blk W b e (List.replicate k z) := by
  refine ⟨_, h, fun i v hv => ?_⟩
  rw [List.getElem?_replicate] at hv
  by_cases c : i < k
  · rw [if_pos c] at hv
    injection hv with hv
    subst hv
    simp only [madeCells]
    rw [Array.getElem?_map, Array.getElem?_range]
    rw [if_pos (by omega), h1]
    simp [Nat.mod_one]
  · rw [if_neg c] at hv; cases hv
theorem n4_of {w w' : World} {n m b1 b2 b3 b4 : Nat} (h1 : w'.heap[b1]? = some (.cells (madeCells (Value.int .u64 0).cells n) 23 (0, 0))) (h2 : w'.heap[b2]? = some (.cells (madeCells (Value.slice none 0 0).cells m) 22 (0, 0))) (h3 : w'.heap[b3]? = some (.cells (madeCells (Value.int .i64 0).cells m) 3 (0, 0))) (h4 : w'.heap[b4]? = some (.cells (madeCells (Value.int .i64 0).cells m) 3 (0, 0))) (hne : b3 ≠ b4) (hB : Below w.heap.size w w') (hg : w.heap.size ≤ b1 ∧ w.heap.size ≤ b2 ∧ w.heap.size ≤ b3 ∧ w.heap.size ≤ b4) : N4 w w' n m (b1, b2, b3, b4) :=
  { C := blk_made rfl h1, Q := blk_made rfl h2, N := blk_made rfl h3, U := blk_made rfl h4, ne := hne, B := hB, ge := hg }
structure NCR where
  b : Nat
  bc : Nat
  bq : Nat
  bn : Nat
  bu : Nat
  kb : Nat
  m : Nat
  n : Nat
  S : Int
  P : Int
  cr : Bool
  A : Option Addr
  cp : Nat
def scR (c : NCR) (ev : Value) : List Value := [.int .i64 (c.m : Int), .int .i64 c.S, .int .i64 c.P, .bool c.cr, .slice c.A c.n c.cp, ev, .int .u64 0, .int .u64 0, .slice (some ⟨c.bc, 0, none⟩) c.n c.n, .slice (some ⟨c.bq, 0, none⟩) c.m c.m, .slice (some ⟨c.bn, 0, none⟩) c.m c.m, .slice (some ⟨c.bu, 0, none⟩) c.m c.m]
def cfR (c : NCR) : List Value := [.int .i64 (c.m : Int), .int .i64 c.S, .int .i64 c.P, .bool c.cr, .slice c.A c.n c.cp]
/-- The document's scheduler, while it is being made. -/
structure NR (n0 : Nat) (W0 W : World) (c : NCR) (ev : Value) (es : List ER) : Prop where
  S : Blk W c.b 70 (scR c ev)
  K : Blk W c.kb 36 (cfR c)
  C : Blk W c.bc 23 (List.replicate c.n (.int .u64 0))
  Q : Blk W c.bq 22 (List.replicate c.m (.slice none 0 0))
  N : Blk W c.bn 3 (List.replicate c.m (.int .i64 0))
  U : Blk W c.bu 3 (List.replicate c.m (.int .i64 0))
  E : Kd.R kER 109 W n0 (fun _ => True) ev es
  B : Below n0 W0 W
  ne : c.bn ≠ c.bu
  ge : n0 ≤ c.b ∧ n0 ≤ c.bc ∧ n0 ≤ c.bq ∧ n0 ≤ c.bn ∧ n0 ≤ c.bu
section
variable {n0 : Nat} {W0 W W1 : World} {c : NCR} {ev v1 : Value} {es es1 : List ER}
theorem NR.below (h : NR n0 W0 W c ev es) (hb : Below W.heap.size W W1) : NR n0 W0 W1 c ev es :=
  ⟨h.S.below hb, h.K.below hb, h.C.below hb, h.Q.below hb, h.N.below hb, h.U.below hb, Kd.R_below h.E hb, h.B.trans (hb.mono (Nat.le_of_lt (Nat.lt_of_le_of_lt h.ge.1 h.S.lt))), h.ne, h.ge⟩
theorem NR.growE (h : NR n0 W0 W c ev es) (hg : W.grownBy W1 ev.ownBlock) (ho : Kd.R kER 109 W1 n0 (fun _ => True) v1 es1) (hb : Below n0 W0 W1) : NR n0 W0 (W1.setCell ⟨c.b, 5, none⟩ v1) c v1 es1 := by
  have hm := below_mut0 hg
  have hs := set_mut W1 ⟨c.b, 5, none⟩ v1
  have hS1 : Blk W1 c.b 70 (scR c ev) := h.S.mut hm (fun e => blk_own h.E h.S (by decide) _ e rfl)
  have hK1 := h.K.mut hm (fun e => blk_own h.E h.K (by decide) _ e rfl)
  have hC1 := h.C.mut hm (fun e => blk_own h.E h.C (by decide) _ e rfl)
  have hQ1 := h.Q.mut hm (fun e => blk_own h.E h.Q (by decide) _ e rfl)
  have hN1 := h.N.mut hm (fun e => blk_own h.E h.N (by decide) _ e rfl)
  have hU1 := h.U.mut hm (fun e => blk_own h.E h.U (by decide) _ e rfl)
  exact { S := hS1.set 5 v1, K := hK1.mut hs (fun e => hS1.ne hK1 (by decide) e.symm), C := hC1.mut hs (fun e => hS1.ne hC1 (by decide) e.symm), Q := hQ1.mut hs (fun e => hS1.ne hQ1 (by decide) e.symm), N := hN1.mut hs (fun e => hS1.ne hN1 (by decide) e.symm), U := hU1.mut hs (fun e => hS1.ne hU1 (by decide) e.symm), E := row_mut ho hs (fun k hk e => blk_own ho hS1 (by decide) k hk e), B := hb.setCell h.ge.1 _, ne := h.ne, ge := h.ge }
end
theorem nr_start {W w1 w2 : World} {m n : Nat} {S P : Int} {cr : Bool} {A : Option Addr} {cp bc bq bn bu : Nat} {o : Obj} (h1 : Below (W.alloc o).heap.size (W.alloc o) w1) (h4 : N4 w1 w2 n m (bc, bq, bn, bu)) (hK : Blk w2 W.heap.size 36 [.int .i64 (m : Int), .int .i64 S, .int .i64 P, .bool cr, .slice A n cp]) :
    NR W.heap.size W (w2.alloc (.cells (scR ⟨w2.heap.size, bc, bq, bn, bu, W.heap.size, m, n, S, P, cr, A, cp⟩ (.slice none 0 0)).toArray 70)) ⟨w2.heap.size, bc, bq, bn, bu, W.heap.size, m, n, S, P, cr, A, cp⟩ (.slice none 0 0) [] := by
  have b1 : Below W.heap.size W w1 := below_step (below_alloc (Below.refl _ _) o) h1
  have b2 : Below W.heap.size W w2 := b1.trans (h4.B.mono b1.size)
  have hz := b1.size
  obtain ⟨g1, g2, g3, g4⟩ := h4.ge
  simp only at g1 g2 g3 g4
  have ab := below_alloc (Below.refl w2.heap.size w2) (.cells (scR ⟨w2.heap.size, bc, bq, bn, bu, W.heap.size, m, n, S, P, cr, A, cp⟩ (.slice none 0 0)).toArray 70)
  exact { S := Blk.new w2 70 _, K := hK.below ab, C := h4.C.below ab, Q := h4.Q.below ab, N := h4.N.below ab, U := h4.U.below ab, E := Kd.R_nil _ _ _ _ _, B := b2.trans (ab.mono b2.size), ne := h4.ne, ge := ⟨b2.size, by simp only; omega, by simp only; omega, by simp only; omega, by simp only; omega⟩ }
theorem ents_at : ∀ (gl : List S94) (i0 i k : Nat) (x : S94), gl[i]? = some x → k < x.f0.toNat → (entsL i0 gl)[(entsL i0 (gl.take i)).length + k]? = some ⟨((i0 + i : Nat) : Int), (k : Int), x.f2, 0, 0, 0, false⟩
  | [], _, _, _, _, h, _ => by simp at h
  | y :: r, i0, 0, k, x, h, hk => by
    simp at h
    subst h
    rw [entsL, List.take_zero]
    show (entsTo i0 y y.f0.toNat ++ entsL (i0 + 1) r)[0 + k]? = _
    rw [Nat.zero_add, List.getElem?_append_left (by rw [entsTo_len]; exact hk)]
    unfold entsTo
    rw [List.getElem?_map, List.getElem?_range hk]
    rfl
  | y :: r, i0, i + 1, k, x, h, hk => by
    rw [List.getElem?_cons_succ] at h
    rw [List.take_succ_cons, entsL, entsL, List.length_append, entsTo_len, List.getElem?_append_right (by rw [entsTo_len]; omega), entsTo_len]
    have := ents_at r (i0 + 1) i k x h hk
    rw [show i0 + 1 + i = i0 + (i + 1) by omega] at this
    rw [← this]
    congr 1
    omega
theorem er_at {m : Nat} {S P : Int} {cr : Bool} {gl : List S94} {i k : Nat} {x : S94} (hx : gl[i]? = some x) (hk : k < x.f0.toNat) : (entsL 0 (gl.take i)).length + k < (entsL 0 gl).length ∧ erOf (newS0 m S P cr gl) ((entsL 0 (gl.take i)).length + k) = ⟨(i : Int), (k : Int), if x.f6 = true then (k : Int) else (((entsL 0 (gl.take i)).length + k : Nat) : Int) % (m : Int), x.f2, x.f6⟩ := by
  have h1 := ents_at gl 0 i k x hx hk
  rw [Nat.zero_add] at h1
  refine ⟨(List.getElem?_eq_some_iff.1 h1).1, ?_⟩
  generalize (entsL 0 (gl.take i)).length + k = p at h1 ⊢
  have h2 : (newS0 m S P cr gl).ent p = ⟨(i : Int), (k : Int), x.f2, 0, 0, 0, false⟩ := by
    show (entsL 0 gl).getD p e0 = _
    rw [List.getD_eq_getElem?_getD, h1]; rfl
  have h3 : (newS0 m S P cr gl).gng p = x.f6 := by
    unfold SS.gng
    rw [h2]
    simp only [Int.toNat_natCast]
    rw [new_gst hx]
  unfold erOf homeOf
  rw [h3, h2]
  rfl
theorem rows_ents {m : Nat} {S P : Int} {cr : Bool} {gl : List S94} : ((List.range (entsL 0 gl).length).map (erOf (newS0 m S P cr gl))).flatMap rowER = (List.range (entsL 0 gl).length).flatMap (entR (newS0 m S P cr gl)) := by
  rw [List.flatMap_map]
  unfold List.flatMap
  congr 1
  refine List.map_congr_left (fun i hi => ?_)
  obtain ⟨j, x, k, h1, h2, h3⟩ := new_ent (m := m) (S := S) (P := P) (cr := cr) (List.mem_range.1 hi)
  unfold entR erOf rowER
  rw [h3]
theorem nr_rs {W W' : World} {m : Nat} {S P : Int} {cr : Bool} {gl : List S94} {ev : Value} {b bc bq bn bu kb cp : Nat} {A : Option Addr} (h : NR W.heap.size W W' ⟨b, bc, bq, bn, bu, kb, m, gl.length, S, P, cr, A, cp⟩ ev ((List.range (entsL 0 gl).length).map (erOf (newS0 m S P cr gl)))) (hok : NOk m S P gl) (hC : Kd.C k94 W A gl.length gl) (hc : gl.length ≤ cp) :
    ∃ be ce, RS W' (fun k => k = b ∨ k = be ∨ k = bc ∨ k = bq ∨ k = bn ∨ k = bu) ⟨b, be, ce, bc, bq, bn, bu, A, cp, gl, List.replicate m (.slice none 0 0), List.replicate m 0⟩ (newS0 m S P cr gl) ∧ (∀ k, (k = b ∨ k = be ∨ k = bc ∨ k = bq ∨ k = bn ∨ k = bu) → W.heap.size ≤ k) := by
  have hwf := newS1_wf (cr := cr) hok
  have hlen : 0 < (entsL 0 gl).length := hwf.en
  obtain ⟨be, ce, rfl, he1, he2, _, he4⟩ := blk_of_row h.E (by simpa using hlen) (by decide)
  rw [rows_ents] at he4
  simp only [List.length_map, List.length_range] at he1
  obtain ⟨q1, q2, q3, q4, q5⟩ := h.ge
  simp only at q1 q2 q3 q4 q5
  have hS := h.S
  have hG : ∀ k, k < gl.length → ∃ ad, A = some ad ∧ W.cell? ⟨(ad.add (k * 7)).block, (ad.add (k * 7)).off + 2, none⟩ = some (.int .i64 ((newS0 m S P cr gl).gst k).w) ∧ W.cell? ⟨(ad.add (k * 7)).block, (ad.add (k * 7)).off + 6, none⟩ = some (.bool ((newS0 m S P cr gl).gst k).g) := fun k hk => by
    obtain ⟨ad, A3, c3, A4, c4, A5, c5, e0, x0, x1, x2, x3, x4, x5, x6, _⟩ := PV.at_T94 hC (k : Int) (by omega) (by omega)
    have hx : gl[k]? = some (rd_T94 gl (k : Int)) := by unfold rd_T94; simp [hk]
    rw [Int.toNat_natCast] at x2 x6
    rw [new_gst hx]
    exact ⟨ad, e0, x2, x6⟩
  have hge : ∀ k, (k = b ∨ k = be ∨ k = bc ∨ k = bq ∨ k = bn ∨ k = bu) → W.heap.size ≤ k := fun k hk => by
    rcases hk with rfl | rfl | rfl | rfl | rfl | rfl
    · exact q1
    · exact he2
    · exact q2
    · exact q3
    · exact q4
    · exact q5
  refine ⟨be, ce, ?_, hge⟩
  have ht : ∀ i, (newS0 m S P cr gl).trn i = t0 := fun i => by
    show (List.replicate m t0).getD i t0 = t0
    rw [List.getD_eq_getElem?_getD, List.getElem?_replicate]
    split <;> rfl
  exact
    { S := by
        have e : scR ⟨b, bc, bq, bn, bu, kb, m, gl.length, S, P, cr, A, cp⟩ (.slice (some ⟨be, 0, none⟩) ((List.range (entsL 0 gl).length).map (erOf (newS0 m S P cr gl))).length ce) = refC ⟨b, be, ce, bc, bq, bn, bu, A, cp, gl, List.replicate m (.slice none 0 0), List.replicate m 0⟩ (newS0 m S P cr gl) := by simp [scR, refC, newS0]
        rw [e] at hS; exact hS
      G := fun k hk => by
        have hk' : k < gl.length := by have := hk; rw [show (newS0 m S P cr gl).gs.length = gl.length from guestsL_len gl] at this; exact this
        obtain ⟨ad, e, h1, h2⟩ := hG k hk'
        exact ⟨ad, e, pw_cell_below h.B h1, pw_cell_below h.B h2⟩
      gl := rfl, gc := hc
      gn := fun ad e hl hk => by
        obtain ⟨ad2, e2, h1, _⟩ := hG 0 hl
        have e' : A = some ad := e
        rw [e'] at e2
        injection e2 with e2
        subst e2
        have h3 := World.block_lt_of_cell? W _ h1
        rw [show (⟨(ad.add (0 * 7)).block, (ad.add (0 * 7)).off + 2, none⟩ : Addr).block = ad.block from add_block _ _] at h3
        have := hge _ hk
        omega
      E := he4
      C := by
        show Blk W' bc 23 ((List.replicate gl.length (0 : Int)).map (Value.int .u64))
        rw [List.map_replicate]; exact h.C
      Qb := h.Q
      ql := by simp [newS0]
      Q := fun i q hq => by
        have hq' : (List.replicate m (Value.slice none 0 0))[i]? = some q := hq
        rw [List.getElem?_replicate] at hq'
        split at hq'
        · injection hq' with hq'
          subst hq'
          rw [ht]
          exact Kd.R_nil _ _ _ _ _
        · cases hq'
      qd := fun i j q r k _ hq _ hk => by
        have hq' : (List.replicate m (Value.slice none 0 0))[i]? = some q := hq
        rw [List.getElem?_replicate] at hq'
        split at hq'
        · injection hq' with hq'
          subst hq'
          cases hk
        · cases hq'
      N := by
        show Blk W' bn 3 ((List.replicate m t0).map fun t => Value.int .i64 t.cu)
        rw [List.map_replicate]; exact h.N
      U := by
        show Blk W' bu 3 ((List.replicate m (0 : Int)).map (Value.int .i64))
        rw [List.map_replicate]; exact h.U
      ul := by simp [newS0]
      uv := fun i hi _ => by
        rw [ht]
        show (List.replicate m (0 : Int)).getD i 0 = 0
        rw [List.getD_eq_getElem?_getD, List.getElem?_replicate]
        split <;> rfl
      nu := h.ne
      ob := ⟨.inl rfl, .inr (.inl rfl), .inr (.inr (.inl rfl)), .inr (.inr (.inr (.inl rfl))), .inr (.inr (.inr (.inr (.inl rfl)))), .inr (.inr (.inr (.inr (.inr rfl))))⟩
      cap := he1
      lt := fun k hk => by
        rcases hk with rfl | rfl | rfl | rfl | rfl | rfl
        · exact h.S.lt
        · exact he4.lt
        · exact h.C.lt
        · exact h.Q.lt
        · exact h.N.lt
        · exact h.U.lt }
/-- A hart's queue is made, and nobody is current. -/
theorem rturn_put {w2 w4 : World} {own : Nat → Prop} {m : Nat} {S P : Int} {cr : Bool} {gl : List S94} {h : Nat} {L : RLy} {v : Value} {B : Nat} (hs : RS w2 own L ((sT m S P cr gl h).modT h fun t => { t with cu := -1 })) (hlt : ∀ k, own k → k < B) (hA : ∀ ad, L.Ag = some ad → 0 < L.gl.length → ad.block < B) (hh : h < m) (hr : Kd.R (Kd.int .i64) 3 w4 B (fun _ => True) v (plainL (sT m S P cr gl h) h)) (hb : Below w2.heap.size w2 w4) :
    RS (w4.setCell ⟨L.bq, h, none⟩ v) (fun k => own k ∨ v.ownBlock = some k) { L with qs := L.qs.set h v } (sT m S P cr gl (h + 1)) := by
  have hl : h < (sT m S P cr gl h).ts.length := by show h < (turnsTo (newS0 m S P cr gl) m h).length; rw [turns_len _ _ _ (by omega)]; exact hh
  have hl1 : h < ((sT m S P cr gl h).modT h fun t => { t with cu := -1 }).ts.length := by simpa [SS.modT] using hl
  have h1 := (hs.below hb).putQ h hl1 v (plainL (sT m S P cr gl h) h) (fun t => { t with q := plainL (sT m S P cr gl h) h }) ⟨rfl, rfl, rfl⟩ hr hlt hA
  rw [modT_modT] at h1
  have ht : (sT m S P cr gl h).trn h = t0 := by
    show (turnsTo (newS0 m S P cr gl) m h).getD h t0 = t0
    unfold turnsTo
    rw [List.getD_eq_getElem?_getD, List.getElem?_append_right (by simp), List.getElem?_replicate]
    split <;> rfl
  rw [← sT_succ m S P cr gl h hh, modT_congr hl (g := fun t => { q := plainL (sT m S P cr gl h) h, cu := -1, us := t.us }) (by rw [ht]; rfl)]
  exact h1
theorem gcells {W : World} {A : Option Addr} {gl : List S94} {ad : Addr} {i : Nat} (hC : Kd.C k94 W A gl.length gl) (hi : i < gl.length) (e : A = some ad) : W.cell? ⟨(ad.add (i * 7)).block, (ad.add (i * 7)).off + 2, none⟩ = some (.int .i64 (rd_T94 gl (i : Int)).f2) ∧ W.cell? ⟨(ad.add (i * 7)).block, (ad.add (i * 7)).off + 6, none⟩ = some (.bool (rd_T94 gl (i : Int)).f6) := by
  obtain ⟨ad2, A3, c3, A4, c4, A5, c5, e0, _, _, x2, _, _, _, x6, _⟩ := PV.at_T94 hC (i : Int) (by omega) (by omega)
  rw [e] at e0
  injection e0 with e0
  subst e0
  rw [Int.toNat_natCast] at x2 x6
  exact ⟨x2, x6⟩
set_option maxRecDepth 100000 in
set_option maxHeartbeats 6400000 in
theorem rnew_calls {W : World} {m : Nat} {S P : Int} {cr : Bool} {gl : List S94} {A : Option Addr} {cp k : Nat} (hR : PV.citadelref18_Right.f k (m : Int) S P cr gl = some true) (hC : Kd.C k94 W A gl.length gl) (hc : gl.length ≤ cp) (hok : NOk m S P gl) :
    Calls Try.prog 31 #[.agg #[.int .i64 (m : Int), .int .i64 S, .int .i64 P, .bool cr, .slice A gl.length cp]] W fun x w' => ∃ L own, x = .returned (.tuple #[.pointer (some ⟨L.b, 0, none⟩), .int .i64 0]) ∧ RS w' own L (newF m S P cr gl) ∧ (∀ k, own k → W.heap.size ≤ k) ∧ L.Ag = A ∧ Below W.heap.size W w' := by
  have HR := Aside0.mk hR
  have HC := Aside0.mk hC
  have HK := Aside0.mk hok
  have h57 := make_run 57 23 _ 1 8 Try.underlying57 info23 (by decide) gl.length (by have := hok.g8; omega)
  have h68 := make_run 68 22 _ 1 24 Try.underlying68 info22 (by decide) m (by have := hok.m8; omega)
  have h22 := make_run 22 3 _ 1 8 Try.underlying22 info3 (by decide) m (by have := hok.m8; omega)
  have hg8 := hok.g8
  have hm1 := hok.m1
  have hm8 := hok.m8
  clear hR hC hok
  go_enter Try.func31, Try.ntmps31
  go_upto_region 3 with (go_at_call 50; refine (PV.citadelref18_Right.calls k _ _ _ _ _ _ gl true _ (Kd.C_alloc HC.out _) hc HR.out).mono ?_; rintro e w1 ⟨rfl, hb⟩; have HB1 := Aside0.mk hb; have HK1 := Aside0.mk (Blk.below (Blk.new W 36 [.int .i64 (m : Int), .int .i64 S, .int .i64 P, .bool cr, .slice A gl.length cp]) hb); clear hb)
  have HKd := Aside0.mk (Blk.below HK1.out (below_drew (Below.refl _ _)))
  have HA4 := Aside0.mk al4
  refine start_ (n := 17) (S := fun w' => w'.cell? ⟨W.heap.size, 0, none⟩ = some (.int .i64 (m : Int)) ∧ w'.cell? ⟨W.heap.size, 1, none⟩ = some (.int .i64 S) ∧ w'.cell? ⟨W.heap.size, 2, none⟩ = some (.int .i64 P) ∧ w'.cell? ⟨W.heap.size, 3, none⟩ = some (.bool cr) ∧ w'.cell? ⟨W.heap.size, 4, none⟩ = some (.slice A gl.length cp)) (ds := []) (bl 17 0) (by kernel_rfl) rfl rfl (cf5 HKd.out) (fun hHeld => ?_)
  refine pure_ (i := 1) (N := some 13) (v := ?_) (a' := ?_) (bl 17 2) rfl rfl (by kernel_rfl) (fun _ _ _ h => h) (Or.inl ⟨by rfl, ?_⟩) ?_ ?_
  rotate_left
  · intro w'
    go_simp
    with_reducible rfl
  rotate_left
  · simp only [Act.put, lsa, lsz, lsc, i64_w, i32_w]
    rfl
  refine pure_ (i := 5) (N := some 17) (v := ?_) (a' := ?_) (bl 17 34) rfl rfl (by kernel_rfl) (fun _ _ _ h => h) (Or.inl ⟨by rfl, ?_⟩) ?_ ?_
  rotate_left
  · intro w'
    go_simp
    with_reducible rfl
  rotate_left
  · simp only [Act.put, lsa, lsz, lsc, i64_w, i32_w]
    rfl
  refine pure_ (i := 8) (N := some 20) (v := ?_) (a' := ?_) (bl 17 290) rfl rfl (by kernel_rfl) (fun _ _ _ h => h) (Or.inl ⟨by rfl, ?_⟩) ?_ ?_
  rotate_left
  · intro w'
    go_simp
    with_reducible rfl
  rotate_left
  · simp only [Act.put, lsa, lsz, lsc, i64_w, i32_w]
    rfl
  refine pure_ (i := 11) (N := some 23) (v := ?_) (a' := ?_) (bl 17 2338) rfl rfl (by kernel_rfl) (fun _ _ _ h => h) (Or.inl ⟨by rfl, ?_⟩) ?_ ?_
  rotate_left
  · intro w'
    go_simp
    with_reducible rfl
  rotate_left
  · simp only [Act.put, lsa, lsz, lsc, i64_w, i32_w]
    rfl
  refine take_ (i := 0) (N := some 12) (v := ?_) (a' := ?_) (bl 17 2339) rfl rfl (by kernel_rfl) (fun _ _ _ h => h) (Or.inl ⟨by rfl, ?_⟩) hHeld ?_ ?_
  rotate_left
  · rintro w' ⟨s0, s1, s2, s3, s4⟩
    go_simp
    with_reducible rfl
  rotate_left
  · simp only [Act.put, lsa, lsz, lsc, i64_w, i32_w]
    rfl
  refine take_ (i := 2) (N := some 14) (v := ?_) (a' := ?_) (bl 17 2343) rfl rfl (by kernel_rfl) (fun _ _ _ h => h) (Or.inl ⟨by rfl, ?_⟩) hHeld ?_ ?_
  rotate_left
  · rintro w' ⟨s0, s1, s2, s3, s4⟩
    go_simp
    with_reducible rfl
  rotate_left
  · simp only [Act.put, lsa, lsz, lsc, i64_w, i32_w]
    rfl
  refine pure_ (i := 3) (N := some 15) (v := ?_) (a' := ?_) (bl 17 2351) rfl rfl (by kernel_rfl) (fun _ _ _ h => h) (Or.inl ⟨by rfl, ?_⟩) ?_ ?_
  rotate_left
  · intro w'
    go_simp
    with_reducible rfl
  rotate_left
  · simp only [Act.put, lsa, lsz, lsc, i64_w, i32_w]
    rfl
  refine take_ (i := 6) (N := some 18) (v := ?_) (a' := ?_) (bl 17 2415) rfl rfl (by kernel_rfl) (fun _ _ _ h => h) (Or.inl ⟨by rfl, ?_⟩) hHeld ?_ ?_
  rotate_left
  · rintro w' ⟨s0, s1, s2, s3, s4⟩
    go_simp
    with_reducible rfl
  rotate_left
  · simp only [Act.put, lsa, lsz, lsc, i64_w, i32_w]
    rfl
  refine take_ (i := 9) (N := some 21) (v := ?_) (a' := ?_) (bl 17 2927) rfl rfl (by kernel_rfl) (fun _ _ _ h => h) (Or.inl ⟨by rfl, ?_⟩) hHeld ?_ ?_
  rotate_left
  · rintro w' ⟨s0, s1, s2, s3, s4⟩
    go_simp
    with_reducible rfl
  rotate_left
  · simp only [Act.put, lsa, lsz, lsc, i64_w, i32_w]
    rfl
  refine take_ (i := 12) (N := some 24) (v := ?_) (a' := ?_) (bl 17 7023) rfl rfl (by kernel_rfl) (fun _ _ _ h => h) (Or.inl ⟨by rfl, ?_⟩) hHeld ?_ ?_
  rotate_left
  · rintro w' ⟨s0, s1, s2, s3, s4⟩
    go_simp
    with_reducible rfl
  rotate_left
  · simp only [Act.put, lsa, lsz, lsc, i64_w, i32_w]
    rfl
  refine join_ (σ := Nat × Nat × Nat × Nat) 3 (bl 17 16383) (fun s => [(16, .slice (some ⟨s.1, 0, none⟩) gl.length gl.length), (19, .slice (some ⟨s.2.1, 0, none⟩) m m), (22, .slice (some ⟨s.2.2.1, 0, none⟩) m m), (25, .slice (some ⟨s.2.2.2, 0, none⟩) m m)]) (fun s w' => Aside0 (N4 w1 w' gl.length m s)) ?_ ?_
  rotate_left
  · intro hCont
    refine four_ (i := 4) (j := 7) (k := 10) (m := 13) (Ni := some 16) (Nj := some 19) (Nk := some 22) (Nm := some 25) (bl 17 7039) (bl 17 7151) (bl 17 8047) (bl 17 15215) rfl rfl rfl rfl rfl rfl rfl rfl (by kernel_rfl) (by decide) (by decide) (by decide) (by decide) (fun K hK => ?_) (fun K hK => ?_) (fun K hK => ?_) (fun K hK => ?_)
    · skip
      refine value_ (w1 := ?_) (v := ?_) (by rfl) rfl ?_ ?_
      rotate_left 2
      · go_simp
        constructor
        · rfl
        · rfl
      refine hK.out _ _ (cf5 HKd.out.al) (fun hHeld => ?_)
      clear hK K
      refine norm_ (a' := ?_) ?_ ?_
      rotate_left
      · show Act.put _ (some 16) _ = _
        simp only [Act.put, lsa, lsz, lsc, i64_w, i32_w]
        rfl
      refine three_ (i := 7) (j := 10) (k := 13) (Ni := some 19) (Nj := some 22) (Nk := some 25) (bl 17 7167) (bl 17 8063) (bl 17 15231) rfl rfl rfl rfl rfl rfl (by kernel_rfl) (by decide) (by decide) (by decide) (fun K hK => ?_) (fun K hK => ?_) (fun K hK => ?_)
      · skip
        refine value_ (w1 := ?_) (v := ?_) (by rfl) rfl ?_ ?_
        rotate_left 2
        · go_simp
          constructor
          · rfl
          · rfl
        refine hK.out _ _ (cf5 HKd.out.al.al) (fun hHeld => ?_)
        clear hK K
        refine norm_ (a' := ?_) ?_ ?_
        rotate_left
        · show Act.put _ (some 19) _ = _
          simp only [Act.put, lsa, lsz, lsc, i64_w, i32_w]
          rfl
        refine two_ (i := 10) (j := 13) (Ni := some 22) (Nj := some 25) (bl 17 8191) (bl 17 15359) rfl rfl rfl rfl (by kernel_rfl) (by decide) (by decide) (fun K hK => ?_) (fun K hK => ?_)
        · skip
          refine value_ (w1 := ?_) (v := ?_) (by rfl) rfl ?_ ?_
          rotate_left 2
          · go_simp
            constructor
            · rfl
            · rfl
          refine hK.out _ _ (cf5 HKd.out.al.al.al) (fun hHeld => ?_)
          clear hK K
          refine norm_ (a' := ?_) ?_ ?_
          rotate_left
          · show Act.put _ (some 22) _ = _
            simp only [Act.put, lsa, lsz, lsc, i64_w, i32_w]
            rfl
          refine one_ (i := 13) (N := some 25) (bl 17 16383) rfl rfl (by kernel_rfl) (by decide) (fun K hK => ?_)
          refine value_ (w1 := ?_) (v := ?_) (by rfl) rfl ?_ ?_
          rotate_left 2
          · go_simp
            constructor
            · rfl
            · rfl
          refine hK.out _ _ (cf5 HKd.out.al.al.al.al) (fun hHeld => ?_)
          clear hK K
          refine norm_ (a' := ?_) ?_ ?_
          rotate_left
          · show Act.put _ (some 25) _ = _
            simp only [Act.put, lsa, lsz, lsc, i64_w, i32_w]
            rfl
          exact norm_ (by simp only [putAll, Act.put, List.setIfInBounds_toArray, List.set_cons_zero, List.set_cons_succ]) (hCont (w1.heap.size, w1.heap.size + 1, w1.heap.size + 1 + 1, w1.heap.size + 1 + 1 + 1) _ ⟨n4_of (w := w1) (al4 w1 _ _ _ _).1 (al4 w1 _ _ _ _).2.1 (al4 w1 _ _ _ _).2.2.1 (al4 w1 _ _ _ _).2.2.2.1 (by omega) (al4 w1 _ _ _ _).2.2.2.2 (by omega)⟩)
        · skip
          refine value_ (w1 := ?_) (v := ?_) (by rfl) rfl ?_ ?_
          rotate_left 2
          · go_simp
            constructor
            · rfl
            · rfl
          refine hK.out _ _ (cf5 HKd.out.al.al.al) (fun hHeld => ?_)
          clear hK K
          refine norm_ (a' := ?_) ?_ ?_
          rotate_left
          · show Act.put _ (some 25) _ = _
            simp only [Act.put, lsa, lsz, lsc, i64_w, i32_w]
            rfl
          refine one_ (i := 10) (N := some 22) (bl 17 16383) rfl rfl (by kernel_rfl) (by decide) (fun K hK => ?_)
          refine value_ (w1 := ?_) (v := ?_) (by rfl) rfl ?_ ?_
          rotate_left 2
          · go_simp
            constructor
            · rfl
            · rfl
          refine hK.out _ _ (cf5 HKd.out.al.al.al.al) (fun hHeld => ?_)
          clear hK K
          refine norm_ (a' := ?_) ?_ ?_
          rotate_left
          · show Act.put _ (some 22) _ = _
            simp only [Act.put, lsa, lsz, lsc, i64_w, i32_w]
            rfl
          exact norm_ (by simp only [putAll, Act.put, List.setIfInBounds_toArray, List.set_cons_zero, List.set_cons_succ]) (hCont (w1.heap.size, w1.heap.size + 1, w1.heap.size + 1 + 1 + 1, w1.heap.size + 1 + 1) _ ⟨n4_of (w := w1) (al4 w1 _ _ _ _).1 (al4 w1 _ _ _ _).2.1 (al4 w1 _ _ _ _).2.2.2.1 (al4 w1 _ _ _ _).2.2.1 (by omega) (al4 w1 _ _ _ _).2.2.2.2 (by omega)⟩)
      · skip
        refine value_ (w1 := ?_) (v := ?_) (by rfl) rfl ?_ ?_
        rotate_left 2
        · go_simp
          constructor
          · rfl
          · rfl
        refine hK.out _ _ (cf5 HKd.out.al.al) (fun hHeld => ?_)
        clear hK K
        refine norm_ (a' := ?_) ?_ ?_
        rotate_left
        · show Act.put _ (some 22) _ = _
          simp only [Act.put, lsa, lsz, lsc, i64_w, i32_w]
          rfl
        refine two_ (i := 7) (j := 13) (Ni := some 19) (Nj := some 25) (bl 17 8191) (bl 17 16255) rfl rfl rfl rfl (by kernel_rfl) (by decide) (by decide) (fun K hK => ?_) (fun K hK => ?_)
        · skip
          refine value_ (w1 := ?_) (v := ?_) (by rfl) rfl ?_ ?_
          rotate_left 2
          · go_simp
            constructor
            · rfl
            · rfl
          refine hK.out _ _ (cf5 HKd.out.al.al.al) (fun hHeld => ?_)
          clear hK K
          refine norm_ (a' := ?_) ?_ ?_
          rotate_left
          · show Act.put _ (some 19) _ = _
            simp only [Act.put, lsa, lsz, lsc, i64_w, i32_w]
            rfl
          refine one_ (i := 13) (N := some 25) (bl 17 16383) rfl rfl (by kernel_rfl) (by decide) (fun K hK => ?_)
          refine value_ (w1 := ?_) (v := ?_) (by rfl) rfl ?_ ?_
          rotate_left 2
          · go_simp
            constructor
            · rfl
            · rfl
          refine hK.out _ _ (cf5 HKd.out.al.al.al.al) (fun hHeld => ?_)
          clear hK K
          refine norm_ (a' := ?_) ?_ ?_
          rotate_left
          · show Act.put _ (some 25) _ = _
            simp only [Act.put, lsa, lsz, lsc, i64_w, i32_w]
            rfl
          exact norm_ (by simp only [putAll, Act.put, List.setIfInBounds_toArray, List.set_cons_zero, List.set_cons_succ]) (hCont (w1.heap.size, w1.heap.size + 1 + 1, w1.heap.size + 1, w1.heap.size + 1 + 1 + 1) _ ⟨n4_of (w := w1) (al4 w1 _ _ _ _).1 (al4 w1 _ _ _ _).2.2.1 (al4 w1 _ _ _ _).2.1 (al4 w1 _ _ _ _).2.2.2.1 (by omega) (al4 w1 _ _ _ _).2.2.2.2 (by omega)⟩)
        · skip
          refine value_ (w1 := ?_) (v := ?_) (by rfl) rfl ?_ ?_
          rotate_left 2
          · go_simp
            constructor
            · rfl
            · rfl
          refine hK.out _ _ (cf5 HKd.out.al.al.al) (fun hHeld => ?_)
          clear hK K
          refine norm_ (a' := ?_) ?_ ?_
          rotate_left
          · show Act.put _ (some 25) _ = _
            simp only [Act.put, lsa, lsz, lsc, i64_w, i32_w]
            rfl
          refine one_ (i := 7) (N := some 19) (bl 17 16383) rfl rfl (by kernel_rfl) (by decide) (fun K hK => ?_)
          refine value_ (w1 := ?_) (v := ?_) (by rfl) rfl ?_ ?_
          rotate_left 2
          · go_simp
            constructor
            · rfl
            · rfl
          refine hK.out _ _ (cf5 HKd.out.al.al.al.al) (fun hHeld => ?_)
          clear hK K
          refine norm_ (a' := ?_) ?_ ?_
          rotate_left
          · show Act.put _ (some 19) _ = _
            simp only [Act.put, lsa, lsz, lsc, i64_w, i32_w]
            rfl
          exact norm_ (by simp only [putAll, Act.put, List.setIfInBounds_toArray, List.set_cons_zero, List.set_cons_succ]) (hCont (w1.heap.size, w1.heap.size + 1 + 1 + 1, w1.heap.size + 1, w1.heap.size + 1 + 1) _ ⟨n4_of (w := w1) (al4 w1 _ _ _ _).1 (al4 w1 _ _ _ _).2.2.2.1 (al4 w1 _ _ _ _).2.1 (al4 w1 _ _ _ _).2.2.1 (by omega) (al4 w1 _ _ _ _).2.2.2.2 (by omega)⟩)
      · skip
        refine value_ (w1 := ?_) (v := ?_) (by rfl) rfl ?_ ?_
        rotate_left 2
        · go_simp
          constructor
          · rfl
          · rfl
        refine hK.out _ _ (cf5 HKd.out.al.al) (fun hHeld => ?_)
        clear hK K
        refine norm_ (a' := ?_) ?_ ?_
        rotate_left
        · show Act.put _ (some 25) _ = _
          simp only [Act.put, lsa, lsz, lsc, i64_w, i32_w]
          rfl
        refine two_ (i := 7) (j := 10) (Ni := some 19) (Nj := some 22) (bl 17 15359) (bl 17 16255) rfl rfl rfl rfl (by kernel_rfl) (by decide) (by decide) (fun K hK => ?_) (fun K hK => ?_)
        · skip
          refine value_ (w1 := ?_) (v := ?_) (by rfl) rfl ?_ ?_
          rotate_left 2
          · go_simp
            constructor
            · rfl
            · rfl
          refine hK.out _ _ (cf5 HKd.out.al.al.al) (fun hHeld => ?_)
          clear hK K
          refine norm_ (a' := ?_) ?_ ?_
          rotate_left
          · show Act.put _ (some 19) _ = _
            simp only [Act.put, lsa, lsz, lsc, i64_w, i32_w]
            rfl
          refine one_ (i := 10) (N := some 22) (bl 17 16383) rfl rfl (by kernel_rfl) (by decide) (fun K hK => ?_)
          refine value_ (w1 := ?_) (v := ?_) (by rfl) rfl ?_ ?_
          rotate_left 2
          · go_simp
            constructor
            · rfl
            · rfl
          refine hK.out _ _ (cf5 HKd.out.al.al.al.al) (fun hHeld => ?_)
          clear hK K
          refine norm_ (a' := ?_) ?_ ?_
          rotate_left
          · show Act.put _ (some 22) _ = _
            simp only [Act.put, lsa, lsz, lsc, i64_w, i32_w]
            rfl
          exact norm_ (by simp only [putAll, Act.put, List.setIfInBounds_toArray, List.set_cons_zero, List.set_cons_succ]) (hCont (w1.heap.size, w1.heap.size + 1 + 1, w1.heap.size + 1 + 1 + 1, w1.heap.size + 1) _ ⟨n4_of (w := w1) (al4 w1 _ _ _ _).1 (al4 w1 _ _ _ _).2.2.1 (al4 w1 _ _ _ _).2.2.2.1 (al4 w1 _ _ _ _).2.1 (by omega) (al4 w1 _ _ _ _).2.2.2.2 (by omega)⟩)
        · skip
          refine value_ (w1 := ?_) (v := ?_) (by rfl) rfl ?_ ?_
          rotate_left 2
          · go_simp
            constructor
            · rfl
            · rfl
          refine hK.out _ _ (cf5 HKd.out.al.al.al) (fun hHeld => ?_)
          clear hK K
          refine norm_ (a' := ?_) ?_ ?_
          rotate_left
          · show Act.put _ (some 22) _ = _
            simp only [Act.put, lsa, lsz, lsc, i64_w, i32_w]
            rfl
          refine one_ (i := 7) (N := some 19) (bl 17 16383) rfl rfl (by kernel_rfl) (by decide) (fun K hK => ?_)
          refine value_ (w1 := ?_) (v := ?_) (by rfl) rfl ?_ ?_
          rotate_left 2
          · go_simp
            constructor
            · rfl
            · rfl
          refine hK.out _ _ (cf5 HKd.out.al.al.al.al) (fun hHeld => ?_)
          clear hK K
          refine norm_ (a' := ?_) ?_ ?_
          rotate_left
          · show Act.put _ (some 19) _ = _
            simp only [Act.put, lsa, lsz, lsc, i64_w, i32_w]
            rfl
          exact norm_ (by simp only [putAll, Act.put, List.setIfInBounds_toArray, List.set_cons_zero, List.set_cons_succ]) (hCont (w1.heap.size, w1.heap.size + 1 + 1 + 1, w1.heap.size + 1 + 1, w1.heap.size + 1) _ ⟨n4_of (w := w1) (al4 w1 _ _ _ _).1 (al4 w1 _ _ _ _).2.2.2.1 (al4 w1 _ _ _ _).2.2.1 (al4 w1 _ _ _ _).2.1 (by omega) (al4 w1 _ _ _ _).2.2.2.2 (by omega)⟩)
    · skip
      refine value_ (w1 := ?_) (v := ?_) (by rfl) rfl ?_ ?_
      rotate_left 2
      · go_simp
        constructor
        · rfl
        · rfl
      refine hK.out _ _ (cf5 HKd.out.al) (fun hHeld => ?_)
      clear hK K
      refine norm_ (a' := ?_) ?_ ?_
      rotate_left
      · show Act.put _ (some 19) _ = _
        simp only [Act.put, lsa, lsz, lsc, i64_w, i32_w]
        rfl
      refine three_ (i := 4) (j := 10) (k := 13) (Ni := some 16) (Nj := some 22) (Nk := some 25) (bl 17 7167) (bl 17 8175) (bl 17 15343) rfl rfl rfl rfl rfl rfl (by kernel_rfl) (by decide) (by decide) (by decide) (fun K hK => ?_) (fun K hK => ?_) (fun K hK => ?_)
      · skip
        refine value_ (w1 := ?_) (v := ?_) (by rfl) rfl ?_ ?_
        rotate_left 2
        · go_simp
          constructor
          · rfl
          · rfl
        refine hK.out _ _ (cf5 HKd.out.al.al) (fun hHeld => ?_)
        clear hK K
        refine norm_ (a' := ?_) ?_ ?_
        rotate_left
        · show Act.put _ (some 16) _ = _
          simp only [Act.put, lsa, lsz, lsc, i64_w, i32_w]
          rfl
        refine two_ (i := 10) (j := 13) (Ni := some 22) (Nj := some 25) (bl 17 8191) (bl 17 15359) rfl rfl rfl rfl (by kernel_rfl) (by decide) (by decide) (fun K hK => ?_) (fun K hK => ?_)
        · skip
          refine value_ (w1 := ?_) (v := ?_) (by rfl) rfl ?_ ?_
          rotate_left 2
          · go_simp
            constructor
            · rfl
            · rfl
          refine hK.out _ _ (cf5 HKd.out.al.al.al) (fun hHeld => ?_)
          clear hK K
          refine norm_ (a' := ?_) ?_ ?_
          rotate_left
          · show Act.put _ (some 22) _ = _
            simp only [Act.put, lsa, lsz, lsc, i64_w, i32_w]
            rfl
          refine one_ (i := 13) (N := some 25) (bl 17 16383) rfl rfl (by kernel_rfl) (by decide) (fun K hK => ?_)
          refine value_ (w1 := ?_) (v := ?_) (by rfl) rfl ?_ ?_
          rotate_left 2
          · go_simp
            constructor
            · rfl
            · rfl
          refine hK.out _ _ (cf5 HKd.out.al.al.al.al) (fun hHeld => ?_)
          clear hK K
          refine norm_ (a' := ?_) ?_ ?_
          rotate_left
          · show Act.put _ (some 25) _ = _
            simp only [Act.put, lsa, lsz, lsc, i64_w, i32_w]
            rfl
          exact norm_ (by simp only [putAll, Act.put, List.setIfInBounds_toArray, List.set_cons_zero, List.set_cons_succ]) (hCont (w1.heap.size + 1, w1.heap.size, w1.heap.size + 1 + 1, w1.heap.size + 1 + 1 + 1) _ ⟨n4_of (w := w1) (al4 w1 _ _ _ _).2.1 (al4 w1 _ _ _ _).1 (al4 w1 _ _ _ _).2.2.1 (al4 w1 _ _ _ _).2.2.2.1 (by omega) (al4 w1 _ _ _ _).2.2.2.2 (by omega)⟩)
        · skip
          refine value_ (w1 := ?_) (v := ?_) (by rfl) rfl ?_ ?_
          rotate_left 2
          · go_simp
            constructor
            · rfl
            · rfl
          refine hK.out _ _ (cf5 HKd.out.al.al.al) (fun hHeld => ?_)
          clear hK K
          refine norm_ (a' := ?_) ?_ ?_
          rotate_left
          · show Act.put _ (some 25) _ = _
            simp only [Act.put, lsa, lsz, lsc, i64_w, i32_w]
            rfl
          refine one_ (i := 10) (N := some 22) (bl 17 16383) rfl rfl (by kernel_rfl) (by decide) (fun K hK => ?_)
          refine value_ (w1 := ?_) (v := ?_) (by rfl) rfl ?_ ?_
          rotate_left 2
          · go_simp
            constructor
            · rfl
            · rfl
          refine hK.out _ _ (cf5 HKd.out.al.al.al.al) (fun hHeld => ?_)
          clear hK K
          refine norm_ (a' := ?_) ?_ ?_
          rotate_left
          · show Act.put _ (some 22) _ = _
            simp only [Act.put, lsa, lsz, lsc, i64_w, i32_w]
            rfl
          exact norm_ (by simp only [putAll, Act.put, List.setIfInBounds_toArray, List.set_cons_zero, List.set_cons_succ]) (hCont (w1.heap.size + 1, w1.heap.size, w1.heap.size + 1 + 1 + 1, w1.heap.size + 1 + 1) _ ⟨n4_of (w := w1) (al4 w1 _ _ _ _).2.1 (al4 w1 _ _ _ _).1 (al4 w1 _ _ _ _).2.2.2.1 (al4 w1 _ _ _ _).2.2.1 (by omega) (al4 w1 _ _ _ _).2.2.2.2 (by omega)⟩)
      · skip
        refine value_ (w1 := ?_) (v := ?_) (by rfl) rfl ?_ ?_
        rotate_left 2
        · go_simp
          constructor
          · rfl
          · rfl
        refine hK.out _ _ (cf5 HKd.out.al.al) (fun hHeld => ?_)
        clear hK K
        refine norm_ (a' := ?_) ?_ ?_
        rotate_left
        · show Act.put _ (some 22) _ = _
          simp only [Act.put, lsa, lsz, lsc, i64_w, i32_w]
          rfl
        refine two_ (i := 4) (j := 13) (Ni := some 16) (Nj := some 25) (bl 17 8191) (bl 17 16367) rfl rfl rfl rfl (by kernel_rfl) (by decide) (by decide) (fun K hK => ?_) (fun K hK => ?_)
        · skip
          refine value_ (w1 := ?_) (v := ?_) (by rfl) rfl ?_ ?_
          rotate_left 2
          · go_simp
            constructor
            · rfl
            · rfl
          refine hK.out _ _ (cf5 HKd.out.al.al.al) (fun hHeld => ?_)
          clear hK K
          refine norm_ (a' := ?_) ?_ ?_
          rotate_left
          · show Act.put _ (some 16) _ = _
            simp only [Act.put, lsa, lsz, lsc, i64_w, i32_w]
            rfl
          refine one_ (i := 13) (N := some 25) (bl 17 16383) rfl rfl (by kernel_rfl) (by decide) (fun K hK => ?_)
          refine value_ (w1 := ?_) (v := ?_) (by rfl) rfl ?_ ?_
          rotate_left 2
          · go_simp
            constructor
            · rfl
            · rfl
          refine hK.out _ _ (cf5 HKd.out.al.al.al.al) (fun hHeld => ?_)
          clear hK K
          refine norm_ (a' := ?_) ?_ ?_
          rotate_left
          · show Act.put _ (some 25) _ = _
            simp only [Act.put, lsa, lsz, lsc, i64_w, i32_w]
            rfl
          exact norm_ (by simp only [putAll, Act.put, List.setIfInBounds_toArray, List.set_cons_zero, List.set_cons_succ]) (hCont (w1.heap.size + 1 + 1, w1.heap.size, w1.heap.size + 1, w1.heap.size + 1 + 1 + 1) _ ⟨n4_of (w := w1) (al4 w1 _ _ _ _).2.2.1 (al4 w1 _ _ _ _).1 (al4 w1 _ _ _ _).2.1 (al4 w1 _ _ _ _).2.2.2.1 (by omega) (al4 w1 _ _ _ _).2.2.2.2 (by omega)⟩)
        · skip
          refine value_ (w1 := ?_) (v := ?_) (by rfl) rfl ?_ ?_
          rotate_left 2
          · go_simp
            constructor
            · rfl
            · rfl
          refine hK.out _ _ (cf5 HKd.out.al.al.al) (fun hHeld => ?_)
          clear hK K
          refine norm_ (a' := ?_) ?_ ?_
          rotate_left
          · show Act.put _ (some 25) _ = _
            simp only [Act.put, lsa, lsz, lsc, i64_w, i32_w]
            rfl
          refine one_ (i := 4) (N := some 16) (bl 17 16383) rfl rfl (by kernel_rfl) (by decide) (fun K hK => ?_)
          refine value_ (w1 := ?_) (v := ?_) (by rfl) rfl ?_ ?_
          rotate_left 2
          · go_simp
            constructor
            · rfl
            · rfl
          refine hK.out _ _ (cf5 HKd.out.al.al.al.al) (fun hHeld => ?_)
          clear hK K
          refine norm_ (a' := ?_) ?_ ?_
          rotate_left
          · show Act.put _ (some 16) _ = _
            simp only [Act.put, lsa, lsz, lsc, i64_w, i32_w]
            rfl
          exact norm_ (by simp only [putAll, Act.put, List.setIfInBounds_toArray, List.set_cons_zero, List.set_cons_succ]) (hCont (w1.heap.size + 1 + 1 + 1, w1.heap.size, w1.heap.size + 1, w1.heap.size + 1 + 1) _ ⟨n4_of (w := w1) (al4 w1 _ _ _ _).2.2.2.1 (al4 w1 _ _ _ _).1 (al4 w1 _ _ _ _).2.1 (al4 w1 _ _ _ _).2.2.1 (by omega) (al4 w1 _ _ _ _).2.2.2.2 (by omega)⟩)
      · skip
        refine value_ (w1 := ?_) (v := ?_) (by rfl) rfl ?_ ?_
        rotate_left 2
        · go_simp
          constructor
          · rfl
          · rfl
        refine hK.out _ _ (cf5 HKd.out.al.al) (fun hHeld => ?_)
        clear hK K
        refine norm_ (a' := ?_) ?_ ?_
        rotate_left
        · show Act.put _ (some 25) _ = _
          simp only [Act.put, lsa, lsz, lsc, i64_w, i32_w]
          rfl
        refine two_ (i := 4) (j := 10) (Ni := some 16) (Nj := some 22) (bl 17 15359) (bl 17 16367) rfl rfl rfl rfl (by kernel_rfl) (by decide) (by decide) (fun K hK => ?_) (fun K hK => ?_)
        · skip
          refine value_ (w1 := ?_) (v := ?_) (by rfl) rfl ?_ ?_
          rotate_left 2
          · go_simp
            constructor
            · rfl
            · rfl
          refine hK.out _ _ (cf5 HKd.out.al.al.al) (fun hHeld => ?_)
          clear hK K
          refine norm_ (a' := ?_) ?_ ?_
          rotate_left
          · show Act.put _ (some 16) _ = _
            simp only [Act.put, lsa, lsz, lsc, i64_w, i32_w]
            rfl
          refine one_ (i := 10) (N := some 22) (bl 17 16383) rfl rfl (by kernel_rfl) (by decide) (fun K hK => ?_)
          refine value_ (w1 := ?_) (v := ?_) (by rfl) rfl ?_ ?_
          rotate_left 2
          · go_simp
            constructor
            · rfl
            · rfl
          refine hK.out _ _ (cf5 HKd.out.al.al.al.al) (fun hHeld => ?_)
          clear hK K
          refine norm_ (a' := ?_) ?_ ?_
          rotate_left
          · show Act.put _ (some 22) _ = _
            simp only [Act.put, lsa, lsz, lsc, i64_w, i32_w]
            rfl
          exact norm_ (by simp only [putAll, Act.put, List.setIfInBounds_toArray, List.set_cons_zero, List.set_cons_succ]) (hCont (w1.heap.size + 1 + 1, w1.heap.size, w1.heap.size + 1 + 1 + 1, w1.heap.size + 1) _ ⟨n4_of (w := w1) (al4 w1 _ _ _ _).2.2.1 (al4 w1 _ _ _ _).1 (al4 w1 _ _ _ _).2.2.2.1 (al4 w1 _ _ _ _).2.1 (by omega) (al4 w1 _ _ _ _).2.2.2.2 (by omega)⟩)
        · skip
          refine value_ (w1 := ?_) (v := ?_) (by rfl) rfl ?_ ?_
          rotate_left 2
          · go_simp
            constructor
            · rfl
            · rfl
          refine hK.out _ _ (cf5 HKd.out.al.al.al) (fun hHeld => ?_)
          clear hK K
          refine norm_ (a' := ?_) ?_ ?_
          rotate_left
          · show Act.put _ (some 22) _ = _
            simp only [Act.put, lsa, lsz, lsc, i64_w, i32_w]
            rfl
          refine one_ (i := 4) (N := some 16) (bl 17 16383) rfl rfl (by kernel_rfl) (by decide) (fun K hK => ?_)
          refine value_ (w1 := ?_) (v := ?_) (by rfl) rfl ?_ ?_
          rotate_left 2
          · go_simp
            constructor
            · rfl
            · rfl
          refine hK.out _ _ (cf5 HKd.out.al.al.al.al) (fun hHeld => ?_)
          clear hK K
          refine norm_ (a' := ?_) ?_ ?_
          rotate_left
          · show Act.put _ (some 16) _ = _
            simp only [Act.put, lsa, lsz, lsc, i64_w, i32_w]
            rfl
          exact norm_ (by simp only [putAll, Act.put, List.setIfInBounds_toArray, List.set_cons_zero, List.set_cons_succ]) (hCont (w1.heap.size + 1 + 1 + 1, w1.heap.size, w1.heap.size + 1 + 1, w1.heap.size + 1) _ ⟨n4_of (w := w1) (al4 w1 _ _ _ _).2.2.2.1 (al4 w1 _ _ _ _).1 (al4 w1 _ _ _ _).2.2.1 (al4 w1 _ _ _ _).2.1 (by omega) (al4 w1 _ _ _ _).2.2.2.2 (by omega)⟩)
    · skip
      refine value_ (w1 := ?_) (v := ?_) (by rfl) rfl ?_ ?_
      rotate_left 2
      · go_simp
        constructor
        · rfl
        · rfl
      refine hK.out _ _ (cf5 HKd.out.al) (fun hHeld => ?_)
      clear hK K
      refine norm_ (a' := ?_) ?_ ?_
      rotate_left
      · show Act.put _ (some 22) _ = _
        simp only [Act.put, lsa, lsz, lsc, i64_w, i32_w]
        rfl
      refine three_ (i := 4) (j := 7) (k := 13) (Ni := some 16) (Nj := some 19) (Nk := some 25) (bl 17 8063) (bl 17 8175) (bl 17 16239) rfl rfl rfl rfl rfl rfl (by kernel_rfl) (by decide) (by decide) (by decide) (fun K hK => ?_) (fun K hK => ?_) (fun K hK => ?_)
      · skip
        refine value_ (w1 := ?_) (v := ?_) (by rfl) rfl ?_ ?_
        rotate_left 2
        · go_simp
          constructor
          · rfl
          · rfl
        refine hK.out _ _ (cf5 HKd.out.al.al) (fun hHeld => ?_)
        clear hK K
        refine norm_ (a' := ?_) ?_ ?_
        rotate_left
        · show Act.put _ (some 16) _ = _
          simp only [Act.put, lsa, lsz, lsc, i64_w, i32_w]
          rfl
        refine two_ (i := 7) (j := 13) (Ni := some 19) (Nj := some 25) (bl 17 8191) (bl 17 16255) rfl rfl rfl rfl (by kernel_rfl) (by decide) (by decide) (fun K hK => ?_) (fun K hK => ?_)
        · skip
          refine value_ (w1 := ?_) (v := ?_) (by rfl) rfl ?_ ?_
          rotate_left 2
          · go_simp
            constructor
            · rfl
            · rfl
          refine hK.out _ _ (cf5 HKd.out.al.al.al) (fun hHeld => ?_)
          clear hK K
          refine norm_ (a' := ?_) ?_ ?_
          rotate_left
          · show Act.put _ (some 19) _ = _
            simp only [Act.put, lsa, lsz, lsc, i64_w, i32_w]
            rfl
          refine one_ (i := 13) (N := some 25) (bl 17 16383) rfl rfl (by kernel_rfl) (by decide) (fun K hK => ?_)
          refine value_ (w1 := ?_) (v := ?_) (by rfl) rfl ?_ ?_
          rotate_left 2
          · go_simp
            constructor
            · rfl
            · rfl
          refine hK.out _ _ (cf5 HKd.out.al.al.al.al) (fun hHeld => ?_)
          clear hK K
          refine norm_ (a' := ?_) ?_ ?_
          rotate_left
          · show Act.put _ (some 25) _ = _
            simp only [Act.put, lsa, lsz, lsc, i64_w, i32_w]
            rfl
          exact norm_ (by simp only [putAll, Act.put, List.setIfInBounds_toArray, List.set_cons_zero, List.set_cons_succ]) (hCont (w1.heap.size + 1, w1.heap.size + 1 + 1, w1.heap.size, w1.heap.size + 1 + 1 + 1) _ ⟨n4_of (w := w1) (al4 w1 _ _ _ _).2.1 (al4 w1 _ _ _ _).2.2.1 (al4 w1 _ _ _ _).1 (al4 w1 _ _ _ _).2.2.2.1 (by omega) (al4 w1 _ _ _ _).2.2.2.2 (by omega)⟩)
        · skip
          refine value_ (w1 := ?_) (v := ?_) (by rfl) rfl ?_ ?_
          rotate_left 2
          · go_simp
            constructor
            · rfl
            · rfl
          refine hK.out _ _ (cf5 HKd.out.al.al.al) (fun hHeld => ?_)
          clear hK K
          refine norm_ (a' := ?_) ?_ ?_
          rotate_left
          · show Act.put _ (some 25) _ = _
            simp only [Act.put, lsa, lsz, lsc, i64_w, i32_w]
            rfl
          refine one_ (i := 7) (N := some 19) (bl 17 16383) rfl rfl (by kernel_rfl) (by decide) (fun K hK => ?_)
          refine value_ (w1 := ?_) (v := ?_) (by rfl) rfl ?_ ?_
          rotate_left 2
          · go_simp
            constructor
            · rfl
            · rfl
          refine hK.out _ _ (cf5 HKd.out.al.al.al.al) (fun hHeld => ?_)
          clear hK K
          refine norm_ (a' := ?_) ?_ ?_
          rotate_left
          · show Act.put _ (some 19) _ = _
            simp only [Act.put, lsa, lsz, lsc, i64_w, i32_w]
            rfl
          exact norm_ (by simp only [putAll, Act.put, List.setIfInBounds_toArray, List.set_cons_zero, List.set_cons_succ]) (hCont (w1.heap.size + 1, w1.heap.size + 1 + 1 + 1, w1.heap.size, w1.heap.size + 1 + 1) _ ⟨n4_of (w := w1) (al4 w1 _ _ _ _).2.1 (al4 w1 _ _ _ _).2.2.2.1 (al4 w1 _ _ _ _).1 (al4 w1 _ _ _ _).2.2.1 (by omega) (al4 w1 _ _ _ _).2.2.2.2 (by omega)⟩)
      · skip
        refine value_ (w1 := ?_) (v := ?_) (by rfl) rfl ?_ ?_
        rotate_left 2
        · go_simp
          constructor
          · rfl
          · rfl
        refine hK.out _ _ (cf5 HKd.out.al.al) (fun hHeld => ?_)
        clear hK K
        refine norm_ (a' := ?_) ?_ ?_
        rotate_left
        · show Act.put _ (some 19) _ = _
          simp only [Act.put, lsa, lsz, lsc, i64_w, i32_w]
          rfl
        refine two_ (i := 4) (j := 13) (Ni := some 16) (Nj := some 25) (bl 17 8191) (bl 17 16367) rfl rfl rfl rfl (by kernel_rfl) (by decide) (by decide) (fun K hK => ?_) (fun K hK => ?_)
        · skip
          refine value_ (w1 := ?_) (v := ?_) (by rfl) rfl ?_ ?_
          rotate_left 2
          · go_simp
            constructor
            · rfl
            · rfl
          refine hK.out _ _ (cf5 HKd.out.al.al.al) (fun hHeld => ?_)
          clear hK K
          refine norm_ (a' := ?_) ?_ ?_
          rotate_left
          · show Act.put _ (some 16) _ = _
            simp only [Act.put, lsa, lsz, lsc, i64_w, i32_w]
            rfl
          refine one_ (i := 13) (N := some 25) (bl 17 16383) rfl rfl (by kernel_rfl) (by decide) (fun K hK => ?_)
          refine value_ (w1 := ?_) (v := ?_) (by rfl) rfl ?_ ?_
          rotate_left 2
          · go_simp
            constructor
            · rfl
            · rfl
          refine hK.out _ _ (cf5 HKd.out.al.al.al.al) (fun hHeld => ?_)
          clear hK K
          refine norm_ (a' := ?_) ?_ ?_
          rotate_left
          · show Act.put _ (some 25) _ = _
            simp only [Act.put, lsa, lsz, lsc, i64_w, i32_w]
            rfl
          exact norm_ (by simp only [putAll, Act.put, List.setIfInBounds_toArray, List.set_cons_zero, List.set_cons_succ]) (hCont (w1.heap.size + 1 + 1, w1.heap.size + 1, w1.heap.size, w1.heap.size + 1 + 1 + 1) _ ⟨n4_of (w := w1) (al4 w1 _ _ _ _).2.2.1 (al4 w1 _ _ _ _).2.1 (al4 w1 _ _ _ _).1 (al4 w1 _ _ _ _).2.2.2.1 (by omega) (al4 w1 _ _ _ _).2.2.2.2 (by omega)⟩)
        · skip
          refine value_ (w1 := ?_) (v := ?_) (by rfl) rfl ?_ ?_
          rotate_left 2
          · go_simp
            constructor
            · rfl
            · rfl
          refine hK.out _ _ (cf5 HKd.out.al.al.al) (fun hHeld => ?_)
          clear hK K
          refine norm_ (a' := ?_) ?_ ?_
          rotate_left
          · show Act.put _ (some 25) _ = _
            simp only [Act.put, lsa, lsz, lsc, i64_w, i32_w]
            rfl
          refine one_ (i := 4) (N := some 16) (bl 17 16383) rfl rfl (by kernel_rfl) (by decide) (fun K hK => ?_)
          refine value_ (w1 := ?_) (v := ?_) (by rfl) rfl ?_ ?_
          rotate_left 2
          · go_simp
            constructor
            · rfl
            · rfl
          refine hK.out _ _ (cf5 HKd.out.al.al.al.al) (fun hHeld => ?_)
          clear hK K
          refine norm_ (a' := ?_) ?_ ?_
          rotate_left
          · show Act.put _ (some 16) _ = _
            simp only [Act.put, lsa, lsz, lsc, i64_w, i32_w]
            rfl
          exact norm_ (by simp only [putAll, Act.put, List.setIfInBounds_toArray, List.set_cons_zero, List.set_cons_succ]) (hCont (w1.heap.size + 1 + 1 + 1, w1.heap.size + 1, w1.heap.size, w1.heap.size + 1 + 1) _ ⟨n4_of (w := w1) (al4 w1 _ _ _ _).2.2.2.1 (al4 w1 _ _ _ _).2.1 (al4 w1 _ _ _ _).1 (al4 w1 _ _ _ _).2.2.1 (by omega) (al4 w1 _ _ _ _).2.2.2.2 (by omega)⟩)
      · skip
        refine value_ (w1 := ?_) (v := ?_) (by rfl) rfl ?_ ?_
        rotate_left 2
        · go_simp
          constructor
          · rfl
          · rfl
        refine hK.out _ _ (cf5 HKd.out.al.al) (fun hHeld => ?_)
        clear hK K
        refine norm_ (a' := ?_) ?_ ?_
        rotate_left
        · show Act.put _ (some 25) _ = _
          simp only [Act.put, lsa, lsz, lsc, i64_w, i32_w]
          rfl
        refine two_ (i := 4) (j := 7) (Ni := some 16) (Nj := some 19) (bl 17 16255) (bl 17 16367) rfl rfl rfl rfl (by kernel_rfl) (by decide) (by decide) (fun K hK => ?_) (fun K hK => ?_)
        · skip
          refine value_ (w1 := ?_) (v := ?_) (by rfl) rfl ?_ ?_
          rotate_left 2
          · go_simp
            constructor
            · rfl
            · rfl
          refine hK.out _ _ (cf5 HKd.out.al.al.al) (fun hHeld => ?_)
          clear hK K
          refine norm_ (a' := ?_) ?_ ?_
          rotate_left
          · show Act.put _ (some 16) _ = _
            simp only [Act.put, lsa, lsz, lsc, i64_w, i32_w]
            rfl
          refine one_ (i := 7) (N := some 19) (bl 17 16383) rfl rfl (by kernel_rfl) (by decide) (fun K hK => ?_)
          refine value_ (w1 := ?_) (v := ?_) (by rfl) rfl ?_ ?_
          rotate_left 2
          · go_simp
            constructor
            · rfl
            · rfl
          refine hK.out _ _ (cf5 HKd.out.al.al.al.al) (fun hHeld => ?_)
          clear hK K
          refine norm_ (a' := ?_) ?_ ?_
          rotate_left
          · show Act.put _ (some 19) _ = _
            simp only [Act.put, lsa, lsz, lsc, i64_w, i32_w]
            rfl
          exact norm_ (by simp only [putAll, Act.put, List.setIfInBounds_toArray, List.set_cons_zero, List.set_cons_succ]) (hCont (w1.heap.size + 1 + 1, w1.heap.size + 1 + 1 + 1, w1.heap.size, w1.heap.size + 1) _ ⟨n4_of (w := w1) (al4 w1 _ _ _ _).2.2.1 (al4 w1 _ _ _ _).2.2.2.1 (al4 w1 _ _ _ _).1 (al4 w1 _ _ _ _).2.1 (by omega) (al4 w1 _ _ _ _).2.2.2.2 (by omega)⟩)
        · skip
          refine value_ (w1 := ?_) (v := ?_) (by rfl) rfl ?_ ?_
          rotate_left 2
          · go_simp
            constructor
            · rfl
            · rfl
          refine hK.out _ _ (cf5 HKd.out.al.al.al) (fun hHeld => ?_)
          clear hK K
          refine norm_ (a' := ?_) ?_ ?_
          rotate_left
          · show Act.put _ (some 19) _ = _
            simp only [Act.put, lsa, lsz, lsc, i64_w, i32_w]
            rfl
          refine one_ (i := 4) (N := some 16) (bl 17 16383) rfl rfl (by kernel_rfl) (by decide) (fun K hK => ?_)
          refine value_ (w1 := ?_) (v := ?_) (by rfl) rfl ?_ ?_
          rotate_left 2
          · go_simp
            constructor
            · rfl
            · rfl
          refine hK.out _ _ (cf5 HKd.out.al.al.al.al) (fun hHeld => ?_)
          clear hK K
          refine norm_ (a' := ?_) ?_ ?_
          rotate_left
          · show Act.put _ (some 16) _ = _
            simp only [Act.put, lsa, lsz, lsc, i64_w, i32_w]
            rfl
          exact norm_ (by simp only [putAll, Act.put, List.setIfInBounds_toArray, List.set_cons_zero, List.set_cons_succ]) (hCont (w1.heap.size + 1 + 1 + 1, w1.heap.size + 1 + 1, w1.heap.size, w1.heap.size + 1) _ ⟨n4_of (w := w1) (al4 w1 _ _ _ _).2.2.2.1 (al4 w1 _ _ _ _).2.2.1 (al4 w1 _ _ _ _).1 (al4 w1 _ _ _ _).2.1 (by omega) (al4 w1 _ _ _ _).2.2.2.2 (by omega)⟩)
    · skip
      refine value_ (w1 := ?_) (v := ?_) (by rfl) rfl ?_ ?_
      rotate_left 2
      · go_simp
        constructor
        · rfl
        · rfl
      refine hK.out _ _ (cf5 HKd.out.al) (fun hHeld => ?_)
      clear hK K
      refine norm_ (a' := ?_) ?_ ?_
      rotate_left
      · show Act.put _ (some 25) _ = _
        simp only [Act.put, lsa, lsz, lsc, i64_w, i32_w]
        rfl
      refine three_ (i := 4) (j := 7) (k := 10) (Ni := some 16) (Nj := some 19) (Nk := some 22) (bl 17 15231) (bl 17 15343) (bl 17 16239) rfl rfl rfl rfl rfl rfl (by kernel_rfl) (by decide) (by decide) (by decide) (fun K hK => ?_) (fun K hK => ?_) (fun K hK => ?_)
      · skip
        refine value_ (w1 := ?_) (v := ?_) (by rfl) rfl ?_ ?_
        rotate_left 2
        · go_simp
          constructor
          · rfl
          · rfl
        refine hK.out _ _ (cf5 HKd.out.al.al) (fun hHeld => ?_)
        clear hK K
        refine norm_ (a' := ?_) ?_ ?_
        rotate_left
        · show Act.put _ (some 16) _ = _
          simp only [Act.put, lsa, lsz, lsc, i64_w, i32_w]
          rfl
        refine two_ (i := 7) (j := 10) (Ni := some 19) (Nj := some 22) (bl 17 15359) (bl 17 16255) rfl rfl rfl rfl (by kernel_rfl) (by decide) (by decide) (fun K hK => ?_) (fun K hK => ?_)
        · skip
          refine value_ (w1 := ?_) (v := ?_) (by rfl) rfl ?_ ?_
          rotate_left 2
          · go_simp
            constructor
            · rfl
            · rfl
          refine hK.out _ _ (cf5 HKd.out.al.al.al) (fun hHeld => ?_)
          clear hK K
          refine norm_ (a' := ?_) ?_ ?_
          rotate_left
          · show Act.put _ (some 19) _ = _
            simp only [Act.put, lsa, lsz, lsc, i64_w, i32_w]
            rfl
          refine one_ (i := 10) (N := some 22) (bl 17 16383) rfl rfl (by kernel_rfl) (by decide) (fun K hK => ?_)
          refine value_ (w1 := ?_) (v := ?_) (by rfl) rfl ?_ ?_
          rotate_left 2
          · go_simp
            constructor
            · rfl
            · rfl
          refine hK.out _ _ (cf5 HKd.out.al.al.al.al) (fun hHeld => ?_)
          clear hK K
          refine norm_ (a' := ?_) ?_ ?_
          rotate_left
          · show Act.put _ (some 22) _ = _
            simp only [Act.put, lsa, lsz, lsc, i64_w, i32_w]
            rfl
          exact norm_ (by simp only [putAll, Act.put, List.setIfInBounds_toArray, List.set_cons_zero, List.set_cons_succ]) (hCont (w1.heap.size + 1, w1.heap.size + 1 + 1, w1.heap.size + 1 + 1 + 1, w1.heap.size) _ ⟨n4_of (w := w1) (al4 w1 _ _ _ _).2.1 (al4 w1 _ _ _ _).2.2.1 (al4 w1 _ _ _ _).2.2.2.1 (al4 w1 _ _ _ _).1 (by omega) (al4 w1 _ _ _ _).2.2.2.2 (by omega)⟩)
        · skip
          refine value_ (w1 := ?_) (v := ?_) (by rfl) rfl ?_ ?_
          rotate_left 2
          · go_simp
            constructor
            · rfl
            · rfl
          refine hK.out _ _ (cf5 HKd.out.al.al.al) (fun hHeld => ?_)
          clear hK K
          refine norm_ (a' := ?_) ?_ ?_
          rotate_left
          · show Act.put _ (some 22) _ = _
            simp only [Act.put, lsa, lsz, lsc, i64_w, i32_w]
            rfl
          refine one_ (i := 7) (N := some 19) (bl 17 16383) rfl rfl (by kernel_rfl) (by decide) (fun K hK => ?_)
          refine value_ (w1 := ?_) (v := ?_) (by rfl) rfl ?_ ?_
          rotate_left 2
          · go_simp
            constructor
            · rfl
            · rfl
          refine hK.out _ _ (cf5 HKd.out.al.al.al.al) (fun hHeld => ?_)
          clear hK K
          refine norm_ (a' := ?_) ?_ ?_
          rotate_left
          · show Act.put _ (some 19) _ = _
            simp only [Act.put, lsa, lsz, lsc, i64_w, i32_w]
            rfl
          exact norm_ (by simp only [putAll, Act.put, List.setIfInBounds_toArray, List.set_cons_zero, List.set_cons_succ]) (hCont (w1.heap.size + 1, w1.heap.size + 1 + 1 + 1, w1.heap.size + 1 + 1, w1.heap.size) _ ⟨n4_of (w := w1) (al4 w1 _ _ _ _).2.1 (al4 w1 _ _ _ _).2.2.2.1 (al4 w1 _ _ _ _).2.2.1 (al4 w1 _ _ _ _).1 (by omega) (al4 w1 _ _ _ _).2.2.2.2 (by omega)⟩)
      · skip
        refine value_ (w1 := ?_) (v := ?_) (by rfl) rfl ?_ ?_
        rotate_left 2
        · go_simp
          constructor
          · rfl
          · rfl
        refine hK.out _ _ (cf5 HKd.out.al.al) (fun hHeld => ?_)
        clear hK K
        refine norm_ (a' := ?_) ?_ ?_
        rotate_left
        · show Act.put _ (some 19) _ = _
          simp only [Act.put, lsa, lsz, lsc, i64_w, i32_w]
          rfl
        refine two_ (i := 4) (j := 10) (Ni := some 16) (Nj := some 22) (bl 17 15359) (bl 17 16367) rfl rfl rfl rfl (by kernel_rfl) (by decide) (by decide) (fun K hK => ?_) (fun K hK => ?_)
        · skip
          refine value_ (w1 := ?_) (v := ?_) (by rfl) rfl ?_ ?_
          rotate_left 2
          · go_simp
            constructor
            · rfl
            · rfl
          refine hK.out _ _ (cf5 HKd.out.al.al.al) (fun hHeld => ?_)
          clear hK K
          refine norm_ (a' := ?_) ?_ ?_
          rotate_left
          · show Act.put _ (some 16) _ = _
            simp only [Act.put, lsa, lsz, lsc, i64_w, i32_w]
            rfl
          refine one_ (i := 10) (N := some 22) (bl 17 16383) rfl rfl (by kernel_rfl) (by decide) (fun K hK => ?_)
          refine value_ (w1 := ?_) (v := ?_) (by rfl) rfl ?_ ?_
          rotate_left 2
          · go_simp
            constructor
            · rfl
            · rfl
          refine hK.out _ _ (cf5 HKd.out.al.al.al.al) (fun hHeld => ?_)
          clear hK K
          refine norm_ (a' := ?_) ?_ ?_
          rotate_left
          · show Act.put _ (some 22) _ = _
            simp only [Act.put, lsa, lsz, lsc, i64_w, i32_w]
            rfl
          exact norm_ (by simp only [putAll, Act.put, List.setIfInBounds_toArray, List.set_cons_zero, List.set_cons_succ]) (hCont (w1.heap.size + 1 + 1, w1.heap.size + 1, w1.heap.size + 1 + 1 + 1, w1.heap.size) _ ⟨n4_of (w := w1) (al4 w1 _ _ _ _).2.2.1 (al4 w1 _ _ _ _).2.1 (al4 w1 _ _ _ _).2.2.2.1 (al4 w1 _ _ _ _).1 (by omega) (al4 w1 _ _ _ _).2.2.2.2 (by omega)⟩)
        · skip
          refine value_ (w1 := ?_) (v := ?_) (by rfl) rfl ?_ ?_
          rotate_left 2
          · go_simp
            constructor
            · rfl
            · rfl
          refine hK.out _ _ (cf5 HKd.out.al.al.al) (fun hHeld => ?_)
          clear hK K
          refine norm_ (a' := ?_) ?_ ?_
          rotate_left
          · show Act.put _ (some 22) _ = _
            simp only [Act.put, lsa, lsz, lsc, i64_w, i32_w]
            rfl
          refine one_ (i := 4) (N := some 16) (bl 17 16383) rfl rfl (by kernel_rfl) (by decide) (fun K hK => ?_)
          refine value_ (w1 := ?_) (v := ?_) (by rfl) rfl ?_ ?_
          rotate_left 2
          · go_simp
            constructor
            · rfl
            · rfl
          refine hK.out _ _ (cf5 HKd.out.al.al.al.al) (fun hHeld => ?_)
          clear hK K
          refine norm_ (a' := ?_) ?_ ?_
          rotate_left
          · show Act.put _ (some 16) _ = _
            simp only [Act.put, lsa, lsz, lsc, i64_w, i32_w]
            rfl
          exact norm_ (by simp only [putAll, Act.put, List.setIfInBounds_toArray, List.set_cons_zero, List.set_cons_succ]) (hCont (w1.heap.size + 1 + 1 + 1, w1.heap.size + 1, w1.heap.size + 1 + 1, w1.heap.size) _ ⟨n4_of (w := w1) (al4 w1 _ _ _ _).2.2.2.1 (al4 w1 _ _ _ _).2.1 (al4 w1 _ _ _ _).2.2.1 (al4 w1 _ _ _ _).1 (by omega) (al4 w1 _ _ _ _).2.2.2.2 (by omega)⟩)
      · skip
        refine value_ (w1 := ?_) (v := ?_) (by rfl) rfl ?_ ?_
        rotate_left 2
        · go_simp
          constructor
          · rfl
          · rfl
        refine hK.out _ _ (cf5 HKd.out.al.al) (fun hHeld => ?_)
        clear hK K
        refine norm_ (a' := ?_) ?_ ?_
        rotate_left
        · show Act.put _ (some 22) _ = _
          simp only [Act.put, lsa, lsz, lsc, i64_w, i32_w]
          rfl
        refine two_ (i := 4) (j := 7) (Ni := some 16) (Nj := some 19) (bl 17 16255) (bl 17 16367) rfl rfl rfl rfl (by kernel_rfl) (by decide) (by decide) (fun K hK => ?_) (fun K hK => ?_)
        · skip
          refine value_ (w1 := ?_) (v := ?_) (by rfl) rfl ?_ ?_
          rotate_left 2
          · go_simp
            constructor
            · rfl
            · rfl
          refine hK.out _ _ (cf5 HKd.out.al.al.al) (fun hHeld => ?_)
          clear hK K
          refine norm_ (a' := ?_) ?_ ?_
          rotate_left
          · show Act.put _ (some 16) _ = _
            simp only [Act.put, lsa, lsz, lsc, i64_w, i32_w]
            rfl
          refine one_ (i := 7) (N := some 19) (bl 17 16383) rfl rfl (by kernel_rfl) (by decide) (fun K hK => ?_)
          refine value_ (w1 := ?_) (v := ?_) (by rfl) rfl ?_ ?_
          rotate_left 2
          · go_simp
            constructor
            · rfl
            · rfl
          refine hK.out _ _ (cf5 HKd.out.al.al.al.al) (fun hHeld => ?_)
          clear hK K
          refine norm_ (a' := ?_) ?_ ?_
          rotate_left
          · show Act.put _ (some 19) _ = _
            simp only [Act.put, lsa, lsz, lsc, i64_w, i32_w]
            rfl
          exact norm_ (by simp only [putAll, Act.put, List.setIfInBounds_toArray, List.set_cons_zero, List.set_cons_succ]) (hCont (w1.heap.size + 1 + 1, w1.heap.size + 1 + 1 + 1, w1.heap.size + 1, w1.heap.size) _ ⟨n4_of (w := w1) (al4 w1 _ _ _ _).2.2.1 (al4 w1 _ _ _ _).2.2.2.1 (al4 w1 _ _ _ _).2.1 (al4 w1 _ _ _ _).1 (by omega) (al4 w1 _ _ _ _).2.2.2.2 (by omega)⟩)
        · skip
          refine value_ (w1 := ?_) (v := ?_) (by rfl) rfl ?_ ?_
          rotate_left 2
          · go_simp
            constructor
            · rfl
            · rfl
          refine hK.out _ _ (cf5 HKd.out.al.al.al) (fun hHeld => ?_)
          clear hK K
          refine norm_ (a' := ?_) ?_ ?_
          rotate_left
          · show Act.put _ (some 19) _ = _
            simp only [Act.put, lsa, lsz, lsc, i64_w, i32_w]
            rfl
          refine one_ (i := 4) (N := some 16) (bl 17 16383) rfl rfl (by kernel_rfl) (by decide) (fun K hK => ?_)
          refine value_ (w1 := ?_) (v := ?_) (by rfl) rfl ?_ ?_
          rotate_left 2
          · go_simp
            constructor
            · rfl
            · rfl
          refine hK.out _ _ (cf5 HKd.out.al.al.al.al) (fun hHeld => ?_)
          clear hK K
          refine norm_ (a' := ?_) ?_ ?_
          rotate_left
          · show Act.put _ (some 16) _ = _
            simp only [Act.put, lsa, lsz, lsc, i64_w, i32_w]
            rfl
          exact norm_ (by simp only [putAll, Act.put, List.setIfInBounds_toArray, List.set_cons_zero, List.set_cons_succ]) (hCont (w1.heap.size + 1 + 1 + 1, w1.heap.size + 1 + 1, w1.heap.size + 1, w1.heap.size) _ ⟨n4_of (w := w1) (al4 w1 _ _ _ _).2.2.2.1 (al4 w1 _ _ _ _).2.2.1 (al4 w1 _ _ _ _).2.1 (al4 w1 _ _ _ _).1 (by omega) (al4 w1 _ _ _ _).2.2.2.2 (by omega)⟩)
  rintro ⟨bc, bq, bn, bu⟩ w2 N4h
  replace N4h : Aside0 (N4 w1 w2 gl.length m (bc, bq, bn, bu)) := N4h
  have BK := Aside0.mk (HK1.out.below N4h.out.B)
  have hHeld := cf5 BK.out
  refine norm_ (a' := ?_) ?_ ?_
  rotate_left
  · simp only [putAll, Act.put, List.setIfInBounds_toArray, List.set_cons_zero, List.set_cons_succ]
    rfl
  refine pure_ (i := 14) (N := some 26) (v := ?_) (a' := ?_) (bl 17 32767) rfl rfl (by kernel_rfl) (fun _ _ _ h => h) (Or.inl ⟨by rfl, ?_⟩) ?_ ?_
  rotate_left
  · intro w'
    go_simp
    with_reducible rfl
  rotate_left
  · simp only [Act.put, lsa, lsz, lsc, i64_w, i32_w]
    rfl
  refine one_ (i := 15) (N := some 27) (bl 17 65535) rfl rfl (by kernel_rfl) (by decide) (fun K hK => ?_)
  refine value_ (w1 := ?_) (v := ?_) (by rfl) rfl ?_ ?_
  rotate_left 2
  · go_simp
    constructor
    · rfl
    · rfl
  refine hK.out _ _ (cf5 BK.out.al) (fun hHeld => ?_)
  clear hK K
  refine norm_ (a' := ?_) ?_ ?_
  rotate_left
  · show Act.put _ (some 27) _ = _
    simp only [Act.put, lsa, lsz, lsc, i64_w, i32_w]
    rfl
  refine pure_ (i := 16) (N := some 4) (v := ?_) (a' := ?_) (bl 17 131071) rfl rfl (by kernel_rfl) (fun _ _ _ h => h) (Or.inl ⟨by rfl, ?_⟩) ?_ ?_
  rotate_left
  · intro w'
    go_simp
    with_reducible rfl
  rotate_left
  · simp only [Act.put, lsa, lsz, lsc, i64_w, i32_w]
    rfl
  refine done_ (by kernel_rfl) ?_
  have HN0 := Aside0.mk (nr_start (W := W) HB1.out N4h.out BK.out)
  obtain ⟨w3, hw3⟩ : ∃ w3, w3 = w2.alloc (.cells #[.int .i64 (m : Int), .int .i64 S, .int .i64 P, .bool cr, .slice A gl.length cp, .slice none 0 0, .int .u64 0, .int .u64 0, .slice (some ⟨bc, 0, none⟩) gl.length gl.length, .slice (some ⟨bq, 0, none⟩) m m, .slice (some ⟨bn, 0, none⟩) m m, .slice (some ⟨bu, 0, none⟩) m m] 70) := ⟨_, rfl⟩
  obtain ⟨b, hb⟩ : ∃ b, b = w2.heap.size := ⟨_, rfl⟩
  rw [← hb]
  replace HN0 : Aside0 (NR W.heap.size W w3 ⟨b, bc, bq, bn, bu, W.heap.size, m, gl.length, S, P, cr, A, cp⟩ (.slice none 0 0) []) := by rw [hb, hw3]; exact HN0
  rw [← hw3]
  obtain ⟨kb, hkb⟩ : ∃ kb, kb = W.heap.size := ⟨_, rfl⟩
  replace HN0 : Aside0 (NR W.heap.size W w3 ⟨b, bc, bq, bn, bu, kb, m, gl.length, S, P, cr, A, cp⟩ (.slice none 0 0) []) := by rw [hkb]; exact HN0
  rw [← hkb]
  clear hHeld HK1 HB1 HKd BK N4h hw3 hb HA4 hkb
  go_wp2
  go_loopw [5] (fun v5 w' => ∃ (i : Nat) (ev : Value), v5 = .int .i64 (i : Int) ∧ i ≤ gl.length ∧ Aside0 (NR W.heap.size W w' ⟨b, bc, bq, bn, bu, kb, m, gl.length, S, P, cr, A, cp⟩ ev ((List.range (entsL 0 (gl.take i)).length).map (erOf (newS0 m S P cr gl))))) (fun v5 _ => gl.length - (intOf v5).toNat)
  case atStart => exact ⟨0, _, rfl, by omega, HN0⟩
  case round =>
    obtain ⟨i, ev, rfl, hi, HN⟩ := hrel
    clear HN0
    have q4 : wr.cell? ⟨kb, 4, none⟩ = some (.slice A gl.length cp) := HN.out.K.cell rfl
    by_cases hlt : i < gl.length
    · obtain ⟨x, hx⟩ : ∃ x, x = PV.rd_T94 gl (i : Int) := ⟨_, rfl⟩
      have HX := Aside0.mk (show gl[i]? = some x by rw [hx]; unfold PV.rd_T94; simp [hlt])
      have hxk : x ∈ gl := List.mem_of_getElem? HX.out
      obtain ⟨fv, hfv⟩ := Int.eq_ofNat_of_zero_le (show 0 ≤ x.f0 by have := (HK.out.x x hxk).1; omega)
      have HFV := Aside0.mk hfv
      have hf64 : fv ≤ 64 := by have := (HK.out.x x hxk).2.1; omega
      have HRX := Aside0.mk hx
      have HL1 := Aside0.mk (Nat.le_trans (entsL_len gl 0 i) HK.out.e)
      clear hx hxk hfv
      go_wp2
      go_loopw [6] (fun v6 w' => ∃ (k : Nat) (ev : Value), v6 = .int .i64 (k : Int) ∧ k ≤ fv ∧ Aside0 (NR W.heap.size W w' ⟨b, bc, bq, bn, bu, kb, m, gl.length, S, P, cr, A, cp⟩ ev ((List.range ((entsL 0 (gl.take i)).length + k)).map (erOf (newS0 m S P cr gl))))) (fun v6 _ => fv - (intOf v6).toNat)
      case atStart => exact ⟨0, _, rfl, by omega, HN⟩
      case round =>
        obtain ⟨k, ev, rfl, hk, HNw⟩ := hrel
        clear HN q4
        have q4 : wr.cell? ⟨kb, 4, none⟩ = some (.slice A gl.length cp) := HNw.out.K.cell rfl
        obtain ⟨ad, A3, c3, A4, c4, A5, c5, e0, x0, _, x2, _, _, _, x6, _⟩ := PV.at_T94 (Kd.C_below HC.out HNw.out.B) (i : Int) (by omega) (by omega)
        rw [← HRX.out] at x0 x2 x6
        rw [Int.toNat_natCast] at x0 x2 x6
        rw [HFV.out] at x0
        have HAD := Aside0.mk e0
        rw [e0] at q4
        by_cases hlt2 : k < fv
        · have her := er_at (m := m) (S := S) (P := P) (cr := cr) HX.out (show k < x.f0.toNat by rw [HFV.out, Int.toNat_natCast]; exact hlt2)
          have HLN := Aside0.mk (show ((List.range ((entsL 0 (gl.take i)).length + k)).map (erOf (newS0 m S P cr gl))).length ≤ 128 by simp; have := HL1.out; omega)
          obtain ⟨p, hp⟩ : ∃ p, p = (entsL 0 (gl.take i)).length + k := ⟨_, rfl⟩
          rw [← hp] at her HNw HLN
          have hpl : p < 64 := by have h1 := her.1; have := HK.out.e; omega
          have HER := Aside0.mk her.2
          have HPE := Aside0.mk hp
          have c50 : wr.cell? ⟨b, 5, none⟩ = some ev := HNw.out.S.cell rfl
          obtain ⟨Ae, ce, ee⟩ := Kd.R_slice HNw.out.E
          rw [show ((List.range p).map (erOf (newS0 m S P cr gl))).length = p by simp] at ee
          subst ee
          have q0 : wr.cell? ⟨kb, 0, none⟩ = some (.int .i64 (m : Int)) := HNw.out.K.cell rfl
          have hmz : ¬ (m : Int) = 0 := by omega
          have et : IntKind.i64.wrap ((p : Int).tmod (m : Int)) = (p : Int) % (m : Int) := by
            rw [Int.tmod_eq_emod_of_nonneg (by omega)]
            have h1 := Int.emod_nonneg (p : Int) hmz
            have h2 := Int.emod_lt_of_pos (p : Int) (show 0 < (m : Int) by omega)
            exact IntWalk.i64_in _ (by omega)
          have et2 : wrap64 ((p : Int) % (m : Int)) = (p : Int) % (m : Int) := by
            have h1 := Int.emod_nonneg (p : Int) hmz
            have h2 := Int.emod_lt_of_pos (p : Int) (show 0 < (m : Int) by omega)
            exact wrap64_id (by omega) (by omega)
          clear her hp
          go_upto_region 10 with (fail)
          go_quiet (fail)
          obtain ⟨w7, hw7⟩ : ∃ w7, w7 = wr.drewN nq := ⟨_, rfl⟩
          have HNq := Aside0.mk (HNw.out.below (pw_below_drewN (Below.refl _ _) nq))
          have d4 : w7.cell? ⟨kb, 4, none⟩ = some (.slice (some ad) gl.length cp) := by rw [hw7]; exact q4
          have d2 : w7.cell? ⟨(ad.add (i * 7)).block, (ad.add (i * 7)).off + 2, none⟩ = some (.int .i64 x.f2) := by rw [hw7]; exact x2
          have d6 : w7.cell? ⟨(ad.add (i * 7)).block, (ad.add (i * 7)).off + 6, none⟩ = some (.bool x.f6) := by rw [hw7]; exact x6
          rw [← hw7] at HNq ⊢
          clear hw7 q4 q0 x0 x2 x6 c50 HNw
          obtain ⟨g6, hg6⟩ : ∃ g6, g6 = x.f6 := ⟨_, rfl⟩
          rw [← hg6] at d6 HER
          clear hg6
          cases g6 with
          | true =>
            rw [if_pos rfl] at HER
            go_upto_region 13 with (fail)
            have HWX := Aside0.mk (gcells HC.out hlt HAD.out)
            have HW2 := Aside0.mk (show W.cell? ⟨(ad.add (i * 7)).block, (ad.add (i * 7)).off + 2, none⟩ = some (.int .i64 x.f2) by rw [HRX.out]; exact HWX.out.1)
            have HW6 := Aside0.mk (show W.cell? ⟨(ad.add (i * 7)).block, (ad.add (i * 7)).off + 6, none⟩ = some (.bool true) by have h1 := HWX.out.2; rw [← HRX.out] at h1; have h2 := pw_cell_below HNq.out.B h1; rw [d6] at h2; rw [h1, ← h2])
            clear HWX
            have ze5 : w7.drew.cell? ⟨b, 5, none⟩ = some (.slice Ae p ce) := HNq.out.S.cell rfl
            have ze4 : w7.drew.cell? ⟨kb, 4, none⟩ = some (.slice (some ad) gl.length cp) := d4
            have ze2 : w7.drew.cell? ⟨(ad.add (i * 7)).block, (ad.add (i * 7)).off + 2, none⟩ = some (.int .i64 x.f2) := d2
            have ze6 : w7.drew.cell? ⟨(ad.add (i * 7)).block, (ad.add (i * 7)).off + 6, none⟩ = some (.bool true) := d6
            refine start_ (n := 26) (S := fun w' => w'.cell? ⟨b, 5, none⟩ = some (.slice Ae p ce) ∧ w'.cell? ⟨kb, 4, none⟩ = some (.slice (some ad) gl.length cp) ∧ w'.cell? ⟨(ad.add (i * 7)).block, (ad.add (i * 7)).off + 2, none⟩ = some (.int .i64 x.f2) ∧ w'.cell? ⟨(ad.add (i * 7)).block, (ad.add (i * 7)).off + 6, none⟩ = some (.bool true)) (ds := [25]) (bl 26 0) (by kernel_rfl) rfl rfl ⟨ze5, ze4, ze2, ze6⟩ (fun hHeld => ?_)
            refine pure_ (i := 0) (N := some 60) (v := ?_) (a' := ?_) (bl 26 1) rfl rfl (by kernel_rfl) (fun _ _ _ h => h) (Or.inl ⟨by rfl, ?_⟩) ?_ ?_
            rotate_left
            · intro w'
              go_simp
              with_reducible rfl
            rotate_left
            · simp only [Act.put, lsa, lsz, lsc, i64_w, i32_w]
              rfl
            refine pure_ (i := 1) (N := some 61) (v := ?_) (a' := ?_) (bl 26 3) rfl rfl (by kernel_rfl) (fun _ _ _ h => h) (Or.inl ⟨by rfl, ?_⟩) ?_ ?_
            rotate_left
            · intro w'
              go_simp
              with_reducible rfl
            rotate_left
            · simp only [Act.put, lsa, lsz, lsc, i64_w, i32_w]
              rfl
            refine pure_ (i := 2) (N := some 62) (v := ?_) (a' := ?_) (bl 26 7) rfl rfl (by kernel_rfl) (fun _ _ _ h => h) (Or.inl ⟨by rfl, ?_⟩) ?_ ?_
            rotate_left
            · intro w'
              go_simp
              with_reducible rfl
            rotate_left
            · simp only [Act.put, lsa, lsz, lsc, i64_w, i32_w]
              rfl
            refine pure_ (i := 3) (N := some 63) (v := ?_) (a' := ?_) (bl 26 15) rfl rfl (by kernel_rfl) (fun _ _ _ h => h) (Or.inl ⟨by rfl, ?_⟩) ?_ ?_
            rotate_left
            · intro w'
              go_simp
              with_reducible rfl
            rotate_left
            · simp only [Act.put, lsa, lsz, lsc, i64_w, i32_w]
              rfl
            refine pure_ (i := 5) (N := some 65) (v := ?_) (a' := ?_) (bl 26 47) rfl rfl (by kernel_rfl) (fun _ _ _ h => h) (Or.inl ⟨by rfl, ?_⟩) ?_ ?_
            rotate_left
            · intro w'
              go_simp
              with_reducible rfl
            rotate_left
            · simp only [Act.put, lsa, lsz, lsc, i64_w, i32_w]
              rfl
            refine pure_ (i := 6) (N := some 66) (v := ?_) (a' := ?_) (bl 26 111) rfl rfl (by kernel_rfl) (fun _ _ _ h => h) (Or.inl ⟨by rfl, ?_⟩) ?_ ?_
            rotate_left
            · intro w'
              go_simp
              with_reducible rfl
            rotate_left
            · simp only [Act.put, lsa, lsz, lsc, i64_w, i32_w]
              rfl
            refine pure_ (i := 7) (N := some 67) (v := ?_) (a' := ?_) (bl 26 239) rfl rfl (by kernel_rfl) (fun _ _ _ h => h) (Or.inl ⟨by rfl, ?_⟩) ?_ ?_
            rotate_left
            · intro w'
              go_simp
              with_reducible rfl
            rotate_left
            · simp only [Act.put, lsa, lsz, lsc, i64_w, i32_w]
              rfl
            refine pure_ (i := 8) (N := some 68) (v := ?_) (a' := ?_) (bl 26 495) rfl rfl (by kernel_rfl) (fun _ _ _ h => h) (Or.inl ⟨by rfl, ?_⟩) ?_ ?_
            rotate_left
            · intro w'
              go_simp
              with_reducible rfl
            rotate_left
            · simp only [Act.put, lsa, lsz, lsc, i64_w, i32_w]
              rfl
            refine pure_ (i := 10) (N := some 70) (v := ?_) (a' := ?_) (bl 26 1519) rfl rfl (by kernel_rfl) (fun _ _ _ h => h) (Or.inl ⟨by rfl, ?_⟩) ?_ ?_
            rotate_left
            · intro w'
              go_simp
              with_reducible rfl
            rotate_left
            · simp only [Act.put, lsa, lsz, lsc, i64_w, i32_w]
              rfl
            refine pure_ (i := 14) (N := some 74) (v := ?_) (a' := ?_) (bl 26 17903) rfl rfl (by kernel_rfl) (fun _ _ _ h => h) (Or.inl ⟨by rfl, ?_⟩) ?_ ?_
            rotate_left
            · intro w'
              go_simp
              with_reducible rfl
            rotate_left
            · simp only [Act.put, lsa, lsz, lsc, i64_w, i32_w]
              rfl
            refine pure_ (i := 16) (N := some 76) (v := ?_) (a' := ?_) (bl 26 83439) rfl rfl (by kernel_rfl) (fun _ _ _ h => h) (Or.inl ⟨by rfl, ?_⟩) ?_ ?_
            rotate_left
            · intro w'
              go_simp
              with_reducible rfl
            rotate_left
            · simp only [Act.put, lsa, lsz, lsc, i64_w, i32_w]
              rfl
            refine take_ (i := 4) (N := some 64) (v := ?_) (a' := ?_) (bl 26 83455) rfl rfl (by kernel_rfl) (fun _ _ _ h => h) (Or.inl ⟨by rfl, ?_⟩) hHeld ?_ ?_
            rotate_left
            · rintro w' ⟨s0, s1, s2, s3⟩
              go_simp
              with_reducible rfl
            rotate_left
            · simp only [Act.put, lsa, lsz, lsc, i64_w, i32_w]
              rfl
            refine take_ (i := 9) (N := some 69) (v := ?_) (a' := ?_) (bl 26 83967) rfl rfl (by kernel_rfl) (fun _ _ _ h => h) (Or.inl ⟨by rfl, ?_⟩) hHeld ?_ ?_
            rotate_left
            · rintro w' ⟨s0, s1, s2, s3⟩
              go_simp
              with_reducible rfl
            rotate_left
            · simp only [Act.put, lsa, lsz, lsc, i64_w, i32_w]
              rfl
            refine pure_ (i := 11) (N := some 71) (v := ?_) (a' := ?_) (bl 26 86015) rfl rfl (by kernel_rfl) (fun _ _ _ h => h) (Or.inl ⟨by rfl, ?_⟩) ?_ ?_
            rotate_left
            · intro w'
              go_simp
              with_reducible rfl
            rotate_left
            · simp only [Act.put, lsa, lsz, lsc, i64_w, i32_w]
              rfl
            refine pure_ (i := 12) (N := some 72) (v := ?_) (a' := ?_) (bl 26 90111) rfl rfl (by kernel_rfl) (fun _ _ _ h => h) (Or.inl ⟨by rfl, ?_⟩) ?_ ?_
            rotate_left
            · intro w'
              go_simp
              with_reducible rfl
            rotate_left
            · simp only [Act.put, lsa, lsz, lsc, i64_w, i32_w]
              rfl
            refine take_ (i := 13) (N := some 73) (v := ?_) (a' := ?_) (bl 26 98303) rfl rfl (by kernel_rfl) (fun _ _ _ h => h) (Or.inl ⟨by rfl, ?_⟩) hHeld ?_ ?_
            rotate_left
            · rintro w' ⟨s0, s1, s2, s3⟩
              go_simp
              with_reducible rfl
            rotate_left
            · simp only [Act.put, lsa, lsz, lsc, i64_w, i32_w]
              rfl
            refine take_ (i := 15) (N := some 75) (v := ?_) (a' := ?_) (bl 26 131071) rfl rfl (by kernel_rfl) (fun _ _ _ h => h) (Or.inl ⟨by rfl, ?_⟩) hHeld ?_ ?_
            rotate_left
            · rintro w' ⟨s0, s1, s2, s3⟩
              go_simp
              with_reducible rfl
            rotate_left
            · simp only [Act.put, lsa, lsz, lsc, i64_w, i32_w]
              rfl
            refine pure_ (i := 17) (N := some 77) (v := ?_) (a' := ?_) (bl 26 262143) rfl rfl (by kernel_rfl) (fun _ _ _ h => h) (Or.inl ⟨by rfl, ?_⟩) ?_ ?_
            rotate_left
            · intro w'
              go_simp
              with_reducible rfl
            rotate_left
            · simp only [Act.put, lsa, lsz, lsc, i64_w, i32_w]
              rfl
            refine pure_ (i := 18) (N := some 78) (v := ?_) (a' := ?_) (bl 26 524287) rfl rfl (by kernel_rfl) (fun _ _ _ h => h) (Or.inl ⟨by rfl, ?_⟩) ?_ ?_
            rotate_left
            · intro w'
              go_simp
              with_reducible rfl
            rotate_left
            · simp only [Act.put, lsa, lsz, lsc, i64_w, i32_w]
              rfl
            refine take_ (i := 19) (N := some 79) (v := ?_) (a' := ?_) (bl 26 1048575) rfl rfl (by kernel_rfl) (fun _ _ _ h => h) (Or.inl ⟨by rfl, ?_⟩) hHeld ?_ ?_
            rotate_left
            · rintro w' ⟨s0, s1, s2, s3⟩
              go_simp
              with_reducible rfl
            rotate_left
            · simp only [Act.put, lsa, lsz, lsc, i64_w, i32_w]
              rfl
            refine pure_ (i := 20) (N := some 80) (v := ?_) (a' := ?_) (bl 26 2097151) rfl rfl (by kernel_rfl) (fun _ _ _ h => h) (Or.inl ⟨by rfl, ?_⟩) ?_ ?_
            rotate_left
            · intro w'
              go_simp
              with_reducible rfl
            rotate_left
            · simp only [Act.put, lsa, lsz, lsc, i64_w, i32_w]
              rfl
            refine one_ (i := 21) (N := some 81) (bl 26 4194303) rfl rfl (by kernel_rfl) (by decide) (fun K hK => ?_)
            refine value_ (w1 := ?_) (v := ?_) (by rfl) rfl ?_ ?_
            rotate_left 2
            · go_simp
              constructor
              · rfl
              · rfl
            refine hK.out _ _ ⟨pw_cell_below (below_alloc (Below.refl _ _) _) ze5, pw_cell_below (below_alloc (Below.refl _ _) _) ze4, pw_cell_below (below_alloc (Below.refl _ _) _) ze2, pw_cell_below (below_alloc (Below.refl _ _) _) ze6⟩ (fun hHeld => ?_)
            clear hK K
            refine norm_ (a' := ?_) ?_ ?_
            rotate_left
            · show Act.put _ (some 81) _ = _
              simp only [Act.put, lsa, lsz, lsc, i64_w, i32_w]
              rfl
            refine one_ (i := 22) (N := some 82) (bl 26 8388607) rfl rfl (by kernel_rfl) (by decide) (fun K hK => ?_)
            rw [show (w7.alloc (.cells #[.int .i64 (i : Int), .int .i64 (k : Int), .int .i64 (k : Int), .int .i64 x.f2, .bool true, .bool false, .int .u64 0, .int .i64 0, .int .i64 0] 109)).drew = w7.drew.alloc (.cells #[.int .i64 (i : Int), .int .i64 (k : Int), .int .i64 (k : Int), .int .i64 x.f2, .bool true, .bool false, .int .u64 0, .int .i64 0, .int .i64 0] 109) from rfl]
            refine Kd.R_append_step kER (w0 := W) W.heap.size (by rfl) (.tmp 64) (.tmp 81) 67 109 (.agg #[(.int .i64 0), (.int .i64 0), (.int .i64 0), (.int .i64 0), (.bool false), (.bool false), (.int .u64 0), (.int .i64 0), (.int .i64 0)]) 64 rfl Try.underlying67 info109 rfl (by decide) (by omega) (.slice Ae p ce) ((List.range p).map (erOf (newS0 m S P cr gl))) ⟨(i : Int), (k : Int), (k : Int), x.f2, true⟩ [.int .i64 (i : Int), .int .i64 (k : Int), .int .i64 (k : Int), .int .i64 x.f2, .bool true, .bool false, .int .u64 0, .int .i64 0, .int .i64 0] (fun _ => True) (fun _ => False) rfl rfl ?aP (fun _ hk => hk.elim) ?aF ?aO ?aB ?aS ?aL ?_
            (case aP => exact rfl)
            (case aF => exact (fun _ _ => trivial))
            (case aO => exact Kd.R_drew HNq.out.E)
            (case aB => exact HNq.out.B.drew)
            (case aS => exact HNq.out.B.size)
            (case aL => have := HLN.out; simp at this ⊢; omega)
            intro v9 w9 ho hb9 hg9 hat9
            obtain ⟨A9, n9, q9, e9⟩ : ∃ (A9 : Option Addr) (n9 q9 : Nat), v9 = .slice A9 n9 q9 := (by obtain ⟨A, c, e⟩ := Kd.R_slice ho; exact ⟨_, _, _, e⟩)
            subst e9
            have HNd := Aside0.mk (HNq.out.below (below_drew (Below.refl _ _)))
            have HN9 := Aside0.mk (HNd.out.growE hg9 ho hb9)
            have zb9 : w9.cell? ⟨b, 5, none⟩ = some (.slice Ae p ce) := (HNd.out.S.mut (below_mut0 hg9) (fun e => blk_own HNd.out.E HNd.out.S (by decide) _ e rfl)).cell rfl
            have zf9 : w9.frozen? ⟨b, 5, none⟩ = false := (HNd.out.S.mut (below_mut0 hg9) (fun e => blk_own HNd.out.E HNd.out.S (by decide) _ e rfl)).frozen _
            have zk9 : w9.cell? ⟨kb, 4, none⟩ = some (.slice A gl.length cp) := (HNd.out.K.mut (below_mut0 hg9) (fun e => blk_own HNd.out.E HNd.out.K (by decide) _ e rfl)).cell rfl
            rw [HAD.out] at zk9
            have z29 := pw_cell_below hb9 HW2.out
            have z69 := pw_cell_below hb9 HW6.out
            clear ho hb9 hg9 hat9
            refine hK.out _ _ ⟨zb9, zk9, z29, z69⟩ (fun hHeld => ?_)
            clear hK K
            refine norm_ (a' := ?_) ?_ ?_
            rotate_left
            · show Act.put _ (some 82) _ = _
              simp only [Act.put, lsa, lsz, lsc, i64_w, i32_w]
              rfl
            refine pure_ (i := 23) (N := some 83) (v := ?_) (a' := ?_) (bl 26 16777215) rfl rfl (by kernel_rfl) (fun _ _ _ h => h) (Or.inl ⟨by rfl, ?_⟩) ?_ ?_
            rotate_left
            · intro w'
              go_simp
              with_reducible rfl
            rotate_left
            · simp only [Act.put, lsa, lsz, lsc, i64_w, i32_w]
              rfl
            refine pure_ (i := 24) (N := some 84) (v := ?_) (a' := ?_) (bl 26 33554431) rfl rfl (by kernel_rfl) (fun _ _ _ h => h) (Or.inl ⟨by rfl, ?_⟩) ?_ ?_
            rotate_left
            · intro w'
              go_simp
              with_reducible rfl
            rotate_left
            · simp only [Act.put, lsa, lsz, lsc, i64_w, i32_w]
              rfl
            refine last_ (i := 25) (N := none) (bl 26 67108863) rfl rfl (by kernel_rfl) (by decide) (fun K hK => ?_)
            refine skip_ (w1 := ?_) (by rfl) rfl ?_ ?_
            rotate_left
            · go_simp
              rfl
            refine hK.out _ _ ?_
            clear hK K
            refine done_ (by kernel_rfl) ?_
            have HNf := Aside0.mk (show NR W.heap.size W (w9.setCell ⟨b, 5, none⟩ (.slice A9 n9 q9)) ⟨b, bc, bq, bn, bu, kb, m, gl.length, S, P, cr, A, cp⟩ (.slice A9 n9 q9) ((List.range (p + 1)).map (erOf (newS0 m S P cr gl))) by
              rw [List.range_succ, List.map_append, List.map_cons, List.map_nil, HER.out]; exact HN9.out)
            rw [show p + 1 = (entsL 0 (gl.take i)).length + (k + 1) by rw [HPE.out]; omega] at HNf
            clear hHeld HN9 HNd HNq zb9 zf9 zk9 z29 z69 d2 d4 d6 ze5 ze4 ze2 ze6
            go_wp2
            go_roundw
            case rel => exact ⟨k + 1, .slice A9 n9 q9, by go_num, by omega, HNf⟩
            case measure => (simp [intOf] <;> omega)
          | false =>
            rw [if_neg (by decide)] at HER
            go_upto_region 13 with (fail)
            have HWX := Aside0.mk (gcells HC.out hlt HAD.out)
            have HW2 := Aside0.mk (show W.cell? ⟨(ad.add (i * 7)).block, (ad.add (i * 7)).off + 2, none⟩ = some (.int .i64 x.f2) by rw [HRX.out]; exact HWX.out.1)
            have HW6 := Aside0.mk (show W.cell? ⟨(ad.add (i * 7)).block, (ad.add (i * 7)).off + 6, none⟩ = some (.bool false) by have h1 := HWX.out.2; rw [← HRX.out] at h1; have h2 := pw_cell_below HNq.out.B h1; rw [d6] at h2; rw [h1, ← h2])
            clear HWX
            have ze5 : w7.drew.cell? ⟨b, 5, none⟩ = some (.slice Ae p ce) := HNq.out.S.cell rfl
            have ze4 : w7.drew.cell? ⟨kb, 4, none⟩ = some (.slice (some ad) gl.length cp) := d4
            have ze2 : w7.drew.cell? ⟨(ad.add (i * 7)).block, (ad.add (i * 7)).off + 2, none⟩ = some (.int .i64 x.f2) := d2
            have ze6 : w7.drew.cell? ⟨(ad.add (i * 7)).block, (ad.add (i * 7)).off + 6, none⟩ = some (.bool false) := d6
            refine start_ (n := 26) (S := fun w' => w'.cell? ⟨b, 5, none⟩ = some (.slice Ae p ce) ∧ w'.cell? ⟨kb, 4, none⟩ = some (.slice (some ad) gl.length cp) ∧ w'.cell? ⟨(ad.add (i * 7)).block, (ad.add (i * 7)).off + 2, none⟩ = some (.int .i64 x.f2) ∧ w'.cell? ⟨(ad.add (i * 7)).block, (ad.add (i * 7)).off + 6, none⟩ = some (.bool false)) (ds := [25]) (bl 26 0) (by kernel_rfl) rfl rfl ⟨ze5, ze4, ze2, ze6⟩ (fun hHeld => ?_)
            refine pure_ (i := 0) (N := some 60) (v := ?_) (a' := ?_) (bl 26 1) rfl rfl (by kernel_rfl) (fun _ _ _ h => h) (Or.inl ⟨by rfl, ?_⟩) ?_ ?_
            rotate_left
            · intro w'
              go_simp
              with_reducible rfl
            rotate_left
            · simp only [Act.put, lsa, lsz, lsc, i64_w, i32_w]
              rfl
            refine pure_ (i := 1) (N := some 61) (v := ?_) (a' := ?_) (bl 26 3) rfl rfl (by kernel_rfl) (fun _ _ _ h => h) (Or.inl ⟨by rfl, ?_⟩) ?_ ?_
            rotate_left
            · intro w'
              go_simp
              with_reducible rfl
            rotate_left
            · simp only [Act.put, lsa, lsz, lsc, i64_w, i32_w]
              rfl
            refine pure_ (i := 2) (N := some 62) (v := ?_) (a' := ?_) (bl 26 7) rfl rfl (by kernel_rfl) (fun _ _ _ h => h) (Or.inl ⟨by rfl, ?_⟩) ?_ ?_
            rotate_left
            · intro w'
              go_simp
              with_reducible rfl
            rotate_left
            · simp only [Act.put, lsa, lsz, lsc, i64_w, i32_w]
              rfl
            refine pure_ (i := 3) (N := some 63) (v := ?_) (a' := ?_) (bl 26 15) rfl rfl (by kernel_rfl) (fun _ _ _ h => h) (Or.inl ⟨by rfl, ?_⟩) ?_ ?_
            rotate_left
            · intro w'
              go_simp
              with_reducible rfl
            rotate_left
            · simp only [Act.put, lsa, lsz, lsc, i64_w, i32_w]
              rfl
            refine pure_ (i := 5) (N := some 65) (v := ?_) (a' := ?_) (bl 26 47) rfl rfl (by kernel_rfl) (fun _ _ _ h => h) (Or.inl ⟨by rfl, ?_⟩) ?_ ?_
            rotate_left
            · intro w'
              go_simp
              with_reducible rfl
            rotate_left
            · simp only [Act.put, lsa, lsz, lsc, i64_w, i32_w]
              rfl
            refine pure_ (i := 6) (N := some 66) (v := ?_) (a' := ?_) (bl 26 111) rfl rfl (by kernel_rfl) (fun _ _ _ h => h) (Or.inl ⟨by rfl, ?_⟩) ?_ ?_
            rotate_left
            · intro w'
              go_simp
              with_reducible rfl
            rotate_left
            · simp only [Act.put, lsa, lsz, lsc, i64_w, i32_w]
              rfl
            refine pure_ (i := 7) (N := some 67) (v := ?_) (a' := ?_) (bl 26 239) rfl rfl (by kernel_rfl) (fun _ _ _ h => h) (Or.inl ⟨by rfl, ?_⟩) ?_ ?_
            rotate_left
            · intro w'
              go_simp
              with_reducible rfl
            rotate_left
            · simp only [Act.put, lsa, lsz, lsc, i64_w, i32_w]
              rfl
            refine pure_ (i := 8) (N := some 68) (v := ?_) (a' := ?_) (bl 26 495) rfl rfl (by kernel_rfl) (fun _ _ _ h => h) (Or.inl ⟨by rfl, ?_⟩) ?_ ?_
            rotate_left
            · intro w'
              go_simp
              with_reducible rfl
            rotate_left
            · simp only [Act.put, lsa, lsz, lsc, i64_w, i32_w]
              rfl
            refine pure_ (i := 10) (N := some 70) (v := ?_) (a' := ?_) (bl 26 1519) rfl rfl (by kernel_rfl) (fun _ _ _ h => h) (Or.inl ⟨by rfl, ?_⟩) ?_ ?_
            rotate_left
            · intro w'
              go_simp
              with_reducible rfl
            rotate_left
            · simp only [Act.put, lsa, lsz, lsc, i64_w, i32_w]
              rfl
            refine pure_ (i := 14) (N := some 74) (v := ?_) (a' := ?_) (bl 26 17903) rfl rfl (by kernel_rfl) (fun _ _ _ h => h) (Or.inl ⟨by rfl, ?_⟩) ?_ ?_
            rotate_left
            · intro w'
              go_simp
              with_reducible rfl
            rotate_left
            · simp only [Act.put, lsa, lsz, lsc, i64_w, i32_w]
              rfl
            refine pure_ (i := 16) (N := some 76) (v := ?_) (a' := ?_) (bl 26 83439) rfl rfl (by kernel_rfl) (fun _ _ _ h => h) (Or.inl ⟨by rfl, ?_⟩) ?_ ?_
            rotate_left
            · intro w'
              go_simp
              with_reducible rfl
            rotate_left
            · simp only [Act.put, lsa, lsz, lsc, i64_w, i32_w]
              rfl
            refine take_ (i := 4) (N := some 64) (v := ?_) (a' := ?_) (bl 26 83455) rfl rfl (by kernel_rfl) (fun _ _ _ h => h) (Or.inl ⟨by rfl, ?_⟩) hHeld ?_ ?_
            rotate_left
            · rintro w' ⟨s0, s1, s2, s3⟩
              go_simp
              with_reducible rfl
            rotate_left
            · simp only [Act.put, lsa, lsz, lsc, i64_w, i32_w]
              rfl
            refine take_ (i := 9) (N := some 69) (v := ?_) (a' := ?_) (bl 26 83967) rfl rfl (by kernel_rfl) (fun _ _ _ h => h) (Or.inl ⟨by rfl, ?_⟩) hHeld ?_ ?_
            rotate_left
            · rintro w' ⟨s0, s1, s2, s3⟩
              go_simp
              with_reducible rfl
            rotate_left
            · simp only [Act.put, lsa, lsz, lsc, i64_w, i32_w]
              rfl
            refine pure_ (i := 11) (N := some 71) (v := ?_) (a' := ?_) (bl 26 86015) rfl rfl (by kernel_rfl) (fun _ _ _ h => h) (Or.inl ⟨by rfl, ?_⟩) ?_ ?_
            rotate_left
            · intro w'
              go_simp
              with_reducible rfl
            rotate_left
            · simp only [Act.put, lsa, lsz, lsc, i64_w, i32_w]
              rfl
            refine pure_ (i := 12) (N := some 72) (v := ?_) (a' := ?_) (bl 26 90111) rfl rfl (by kernel_rfl) (fun _ _ _ h => h) (Or.inl ⟨by rfl, ?_⟩) ?_ ?_
            rotate_left
            · intro w'
              go_simp
              with_reducible rfl
            rotate_left
            · simp only [Act.put, lsa, lsz, lsc, i64_w, i32_w]
              rfl
            refine take_ (i := 13) (N := some 73) (v := ?_) (a' := ?_) (bl 26 98303) rfl rfl (by kernel_rfl) (fun _ _ _ h => h) (Or.inl ⟨by rfl, ?_⟩) hHeld ?_ ?_
            rotate_left
            · rintro w' ⟨s0, s1, s2, s3⟩
              go_simp
              with_reducible rfl
            rotate_left
            · simp only [Act.put, lsa, lsz, lsc, i64_w, i32_w]
              rfl
            refine take_ (i := 15) (N := some 75) (v := ?_) (a' := ?_) (bl 26 131071) rfl rfl (by kernel_rfl) (fun _ _ _ h => h) (Or.inl ⟨by rfl, ?_⟩) hHeld ?_ ?_
            rotate_left
            · rintro w' ⟨s0, s1, s2, s3⟩
              go_simp
              with_reducible rfl
            rotate_left
            · simp only [Act.put, lsa, lsz, lsc, i64_w, i32_w]
              rfl
            refine pure_ (i := 17) (N := some 77) (v := ?_) (a' := ?_) (bl 26 262143) rfl rfl (by kernel_rfl) (fun _ _ _ h => h) (Or.inl ⟨by rfl, ?_⟩) ?_ ?_
            rotate_left
            · intro w'
              go_simp
              with_reducible rfl
            rotate_left
            · simp only [Act.put, lsa, lsz, lsc, i64_w, i32_w]
              rfl
            refine pure_ (i := 18) (N := some 78) (v := ?_) (a' := ?_) (bl 26 524287) rfl rfl (by kernel_rfl) (fun _ _ _ h => h) (Or.inl ⟨by rfl, ?_⟩) ?_ ?_
            rotate_left
            · intro w'
              go_simp
              with_reducible rfl
            rotate_left
            · simp only [Act.put, lsa, lsz, lsc, i64_w, i32_w]
              rfl
            refine take_ (i := 19) (N := some 79) (v := ?_) (a' := ?_) (bl 26 1048575) rfl rfl (by kernel_rfl) (fun _ _ _ h => h) (Or.inl ⟨by rfl, ?_⟩) hHeld ?_ ?_
            rotate_left
            · rintro w' ⟨s0, s1, s2, s3⟩
              go_simp
              with_reducible rfl
            rotate_left
            · simp only [Act.put, lsa, lsz, lsc, i64_w, i32_w]
              rfl
            refine pure_ (i := 20) (N := some 80) (v := ?_) (a' := ?_) (bl 26 2097151) rfl rfl (by kernel_rfl) (fun _ _ _ h => h) (Or.inl ⟨by rfl, ?_⟩) ?_ ?_
            rotate_left
            · intro w'
              go_simp
              with_reducible rfl
            rotate_left
            · simp only [Act.put, lsa, lsz, lsc, i64_w, i32_w]
              rfl
            refine one_ (i := 21) (N := some 81) (bl 26 4194303) rfl rfl (by kernel_rfl) (by decide) (fun K hK => ?_)
            refine value_ (w1 := ?_) (v := ?_) (by rfl) rfl ?_ ?_
            rotate_left 2
            · go_simp
              constructor
              · rfl
              · rfl
            refine hK.out _ _ ⟨pw_cell_below (below_alloc (Below.refl _ _) _) ze5, pw_cell_below (below_alloc (Below.refl _ _) _) ze4, pw_cell_below (below_alloc (Below.refl _ _) _) ze2, pw_cell_below (below_alloc (Below.refl _ _) _) ze6⟩ (fun hHeld => ?_)
            clear hK K
            refine norm_ (a' := ?_) ?_ ?_
            rotate_left
            · show Act.put _ (some 81) _ = _
              simp only [Act.put, lsa, lsz, lsc, i64_w, i32_w]
              rfl
            refine one_ (i := 22) (N := some 82) (bl 26 8388607) rfl rfl (by kernel_rfl) (by decide) (fun K hK => ?_)
            rw [show (w7.alloc (.cells #[.int .i64 (i : Int), .int .i64 (k : Int), .int .i64 ((p : Int) % (m : Int)), .int .i64 x.f2, .bool false, .bool false, .int .u64 0, .int .i64 0, .int .i64 0] 109)).drew = w7.drew.alloc (.cells #[.int .i64 (i : Int), .int .i64 (k : Int), .int .i64 ((p : Int) % (m : Int)), .int .i64 x.f2, .bool false, .bool false, .int .u64 0, .int .i64 0, .int .i64 0] 109) from rfl]
            refine Kd.R_append_step kER (w0 := W) W.heap.size (by rfl) (.tmp 64) (.tmp 81) 67 109 (.agg #[(.int .i64 0), (.int .i64 0), (.int .i64 0), (.int .i64 0), (.bool false), (.bool false), (.int .u64 0), (.int .i64 0), (.int .i64 0)]) 64 rfl Try.underlying67 info109 rfl (by decide) (by omega) (.slice Ae p ce) ((List.range p).map (erOf (newS0 m S P cr gl))) ⟨(i : Int), (k : Int), ((p : Int) % (m : Int)), x.f2, false⟩ [.int .i64 (i : Int), .int .i64 (k : Int), .int .i64 ((p : Int) % (m : Int)), .int .i64 x.f2, .bool false, .bool false, .int .u64 0, .int .i64 0, .int .i64 0] (fun _ => True) (fun _ => False) rfl rfl ?aP (fun _ hk => hk.elim) ?aF ?aO ?aB ?aS ?aL ?_
            (case aP => exact rfl)
            (case aF => exact (fun _ _ => trivial))
            (case aO => exact Kd.R_drew HNq.out.E)
            (case aB => exact HNq.out.B.drew)
            (case aS => exact HNq.out.B.size)
            (case aL => have := HLN.out; simp at this ⊢; omega)
            intro v9 w9 ho hb9 hg9 hat9
            obtain ⟨A9, n9, q9, e9⟩ : ∃ (A9 : Option Addr) (n9 q9 : Nat), v9 = .slice A9 n9 q9 := (by obtain ⟨A, c, e⟩ := Kd.R_slice ho; exact ⟨_, _, _, e⟩)
            subst e9
            have HNd := Aside0.mk (HNq.out.below (below_drew (Below.refl _ _)))
            have HN9 := Aside0.mk (HNd.out.growE hg9 ho hb9)
            have zb9 : w9.cell? ⟨b, 5, none⟩ = some (.slice Ae p ce) := (HNd.out.S.mut (below_mut0 hg9) (fun e => blk_own HNd.out.E HNd.out.S (by decide) _ e rfl)).cell rfl
            have zf9 : w9.frozen? ⟨b, 5, none⟩ = false := (HNd.out.S.mut (below_mut0 hg9) (fun e => blk_own HNd.out.E HNd.out.S (by decide) _ e rfl)).frozen _
            have zk9 : w9.cell? ⟨kb, 4, none⟩ = some (.slice A gl.length cp) := (HNd.out.K.mut (below_mut0 hg9) (fun e => blk_own HNd.out.E HNd.out.K (by decide) _ e rfl)).cell rfl
            rw [HAD.out] at zk9
            have z29 := pw_cell_below hb9 HW2.out
            have z69 := pw_cell_below hb9 HW6.out
            clear ho hb9 hg9 hat9
            refine hK.out _ _ ⟨zb9, zk9, z29, z69⟩ (fun hHeld => ?_)
            clear hK K
            refine norm_ (a' := ?_) ?_ ?_
            rotate_left
            · show Act.put _ (some 82) _ = _
              simp only [Act.put, lsa, lsz, lsc, i64_w, i32_w]
              rfl
            refine pure_ (i := 23) (N := some 83) (v := ?_) (a' := ?_) (bl 26 16777215) rfl rfl (by kernel_rfl) (fun _ _ _ h => h) (Or.inl ⟨by rfl, ?_⟩) ?_ ?_
            rotate_left
            · intro w'
              go_simp
              with_reducible rfl
            rotate_left
            · simp only [Act.put, lsa, lsz, lsc, i64_w, i32_w]
              rfl
            refine pure_ (i := 24) (N := some 84) (v := ?_) (a' := ?_) (bl 26 33554431) rfl rfl (by kernel_rfl) (fun _ _ _ h => h) (Or.inl ⟨by rfl, ?_⟩) ?_ ?_
            rotate_left
            · intro w'
              go_simp
              with_reducible rfl
            rotate_left
            · simp only [Act.put, lsa, lsz, lsc, i64_w, i32_w]
              rfl
            refine last_ (i := 25) (N := none) (bl 26 67108863) rfl rfl (by kernel_rfl) (by decide) (fun K hK => ?_)
            refine skip_ (w1 := ?_) (by rfl) rfl ?_ ?_
            rotate_left
            · go_simp
              rfl
            refine hK.out _ _ ?_
            clear hK K
            refine done_ (by kernel_rfl) ?_
            have HNf := Aside0.mk (show NR W.heap.size W (w9.setCell ⟨b, 5, none⟩ (.slice A9 n9 q9)) ⟨b, bc, bq, bn, bu, kb, m, gl.length, S, P, cr, A, cp⟩ (.slice A9 n9 q9) ((List.range (p + 1)).map (erOf (newS0 m S P cr gl))) by
              rw [List.range_succ, List.map_append, List.map_cons, List.map_nil, HER.out]; exact HN9.out)
            rw [show p + 1 = (entsL 0 (gl.take i)).length + (k + 1) by rw [HPE.out]; omega] at HNf
            clear hHeld HN9 HNd HNq zb9 zf9 zk9 z29 z69 d2 d4 d6 ze5 ze4 ze2 ze6
            go_wp2
            go_roundw
            case rel => exact ⟨k + 1, .slice A9 n9 q9, by go_num, by omega, HNf⟩
            case measure => (simp [intOf] <;> omega)
        · obtain rfl : k = fv := by omega
          have HNe := Aside0.mk (show NR W.heap.size W wr ⟨b, bc, bq, bn, bu, kb, m, gl.length, S, P, cr, A, cp⟩ ev ((List.range (entsL 0 (gl.take (i + 1))).length).map (erOf (newS0 m S P cr gl))) by
            rw [entsL_take gl 0 i x HX.out, List.length_append, entsTo_len, HFV.out, Int.toNat_natCast]; exact HNw.out)
          clear HNw
          go_wp2
          go_roundw
          case rel => exact ⟨i + 1, ev, by go_num, by omega, HNe⟩
          case measure => (simp [intOf] <;> omega)
    · obtain rfl : i = gl.length := by omega
      rw [List.take_length] at HN
      obtain ⟨be, ce, hs0, hown0⟩ := nr_rs HN.out HK.out HC.out hc
      have HP0 := Aside0.mk (show RS wr _ _ (sT m S P cr gl 0) by rw [sT_first]; exact hs0)
      have HO0 := Aside0.mk hown0
      have HB0 := Aside0.mk HN.out.B
      have q0 : wr.cell? ⟨kb, 0, none⟩ = some (.int .i64 (m : Int)) := HN.out.K.cell rfl
      have HKB := Aside0.mk (show Blk wr kb 36 [.int .i64 (m : Int), .int .i64 S, .int .i64 P, .bool cr, .slice A gl.length cp] from HN.out.K)
      have HKN := Aside0.mk (show kb ≠ b ∧ kb ≠ bq ∧ kb ≠ bn from ⟨HN.out.K.ne HN.out.S (by decide), HN.out.K.ne HN.out.Q (by decide), HN.out.K.ne HN.out.N (by decide)⟩)
      have HNQ := Aside0.mk (show bn ≠ bq from HN.out.N.ne HN.out.Q (by decide))
      have HGE := Aside0.mk HN.out.ge
      clear hs0 hown0 HN
      go_upto_region 15 with (fail)
      go_loopw [8] (fun v8 w' => ∃ (h : Nat) (qs : List Value) (own : Nat → Prop), v8 = .int .i64 (h : Int) ∧ h ≤ m ∧ Aside0 (RS w' own ⟨b, be, ce, bc, bq, bn, bu, A, cp, gl, qs, List.replicate m 0⟩ (sT m S P cr gl h)) ∧ Aside0 (Blk w' kb 36 [.int .i64 (m : Int), .int .i64 S, .int .i64 P, .bool cr, .slice A gl.length cp]) ∧ Aside0 (∀ k, own k → W.heap.size ≤ k) ∧ Aside0 (Below W.heap.size W w')) (fun v8 _ => m - (intOf v8).toNat)
      case atStart => exact ⟨0, _, _, rfl, by omega, HP0, HKB, HO0, HB0⟩
      case round =>
        obtain ⟨h, qs, own, rfl, hh, HP, HKb, HO, HB⟩ := hrel
        clear HP0 HKB HO0 HB0 q0 q4
        have q0 : wr.cell? ⟨kb, 0, none⟩ = some (.int .i64 (m : Int)) := HKb.out.cell rfl
        by_cases hlt : h < m
        · have HTL := Aside0.mk (show (sT m S P cr gl h).ts.length = m from turns_len _ _ _ hh)
          have hht : h < (sT m S P cr gl h).ts.length := by rw [HTL.out]; exact hlt
          have c10 : wr.cell? ⟨b, 10, none⟩ = some (.slice (some ⟨bn, 0, none⟩) m m) := by have := HP.out.fld 10 rfl; rw [HTL.out] at this; exact this
          have cn := HP.out.now h hht
          have fn := HP.out.N.frozen h
          have HP1 := Aside0.mk (HP.out.putCu h hht (-1) (fun t => { t with cu := -1 }) rfl rfl (fun h0 => by omega))
          go_upto_region 18 with (fail)
          obtain ⟨w4, hw4⟩ : ∃ w4, w4 = wr.setCell ⟨bn, h, none⟩ (.int .i64 (-1)) := ⟨_, rfl⟩
          replace HP1 : Aside0 (RS w4 own ⟨b, be, ce, bc, bq, bn, bu, A, cp, gl, qs, List.replicate m 0⟩ ((sT m S P cr gl h).modT h fun t => { t with cu := -1 })) := by rw [hw4]; exact HP1
          have HKb4 := Aside0.mk (show Blk w4 kb 36 [.int .i64 (m : Int), .int .i64 S, .int .i64 P, .bool cr, .slice A gl.length cp] by rw [hw4]; exact HKb.out.mut (set_mut _ _ _) HKN.out.2.2)
          have HB4 := Aside0.mk (show Below W.heap.size W w4 by rw [hw4]; exact HB.out.setCell (HGE.out.2.2.2.1) _)
          rw [← hw4]
          clear hw4 c10 cn fn HP HKb HB q0
          have HPd := Aside0.mk (HP1.out.below (below_drew (Below.refl _ _)))
          have hh4 : h < ((sT m S P cr gl h).modT h fun t => { t with cu := -1 }).ts.length := by simpa [SS.modT] using hht
          have ze9 : w4.drew.cell? ⟨b, 9, none⟩ = some (.slice (some ⟨bq, 0, none⟩) m m) := by have := HPd.out.fld 9 rfl; rw [show ((sT m S P cr gl h).modT h fun t => { t with cu := -1 }).ts.length = m by simp [SS.modT]; exact HTL.out] at this; exact this
          obtain ⟨Aq, cq, zeq, _⟩ := HPd.out.que h hh4
          have HPLC := Aside0.mk (rplain_calls HPd.out (show (sT m S P cr gl h).es.length ≤ 64 from HK.out.e) (h : Int))
          rw [show plainL ((sT m S P cr gl h).modT h fun t => { t with cu := -1 }) (h : Int) = plainL (sT m S P cr gl h) h from (St.modT _ _ _).plain _] at HPLC
          refine start_ (n := 10) (S := fun w' => w'.cell? ⟨b, 9, none⟩ = some (.slice (some ⟨bq, 0, none⟩) m m)) (ds := [9]) (bl 10 0) (by kernel_rfl) rfl rfl (ze9) (fun hHeld => ?_)
          refine pure_ (i := 0) (N := some 97) (v := ?_) (a' := ?_) (bl 10 1) rfl rfl (by kernel_rfl) (fun _ _ _ h => h) (Or.inl ⟨by rfl, ?_⟩) ?_ ?_
          rotate_left
          · intro w'
            go_simp
            with_reducible rfl
          rotate_left
          · simp only [Act.put, lsa, lsz, lsc, i64_w, i32_w]
            rfl
          refine pure_ (i := 1) (N := some 98) (v := ?_) (a' := ?_) (bl 10 3) rfl rfl (by kernel_rfl) (fun _ _ _ h => h) (Or.inl ⟨by rfl, ?_⟩) ?_ ?_
          rotate_left
          · intro w'
            go_simp
            with_reducible rfl
          rotate_left
          · simp only [Act.put, lsa, lsz, lsc, i64_w, i32_w]
            rfl
          refine pure_ (i := 2) (N := some 99) (v := ?_) (a' := ?_) (bl 10 7) rfl rfl (by kernel_rfl) (fun _ _ _ h => h) (Or.inl ⟨by rfl, ?_⟩) ?_ ?_
          rotate_left
          · intro w'
            go_simp
            with_reducible rfl
          rotate_left
          · simp only [Act.put, lsa, lsz, lsc, i64_w, i32_w]
            rfl
          refine pure_ (i := 4) (N := some 101) (v := ?_) (a' := ?_) (bl 10 23) rfl rfl (by kernel_rfl) (fun _ _ _ h => h) (Or.inl ⟨by rfl, ?_⟩) ?_ ?_
          rotate_left
          · intro w'
            go_simp
            with_reducible rfl
          rotate_left
          · simp only [Act.put, lsa, lsz, lsc, i64_w, i32_w]
            rfl
          refine pure_ (i := 5) (N := some 102) (v := ?_) (a' := ?_) (bl 10 55) rfl rfl (by kernel_rfl) (fun _ _ _ h => h) (Or.inl ⟨by rfl, ?_⟩) ?_ ?_
          rotate_left
          · intro w'
            go_simp
            with_reducible rfl
          rotate_left
          · simp only [Act.put, lsa, lsz, lsc, i64_w, i32_w]
            rfl
          refine pure_ (i := 6) (N := some 103) (v := ?_) (a' := ?_) (bl 10 119) rfl rfl (by kernel_rfl) (fun _ _ _ h => h) (Or.inl ⟨by rfl, ?_⟩) ?_ ?_
          rotate_left
          · intro w'
            go_simp
            with_reducible rfl
          rotate_left
          · simp only [Act.put, lsa, lsz, lsc, i64_w, i32_w]
            rfl
          refine take_ (i := 3) (N := some 100) (v := ?_) (a' := ?_) (bl 10 127) rfl rfl (by kernel_rfl) (fun _ _ _ h => h) (Or.inl ⟨by rfl, ?_⟩) hHeld ?_ ?_
          rotate_left
          · intro w' s0
            go_simp
            with_reducible rfl
          rotate_left
          · simp only [Act.put, lsa, lsz, lsc, i64_w, i32_w]
            rfl
          refine one_ (i := 7) (N := some 104) (bl 10 255) rfl rfl (by kernel_rfl) (by decide) (fun K hK => ?_)
          refine goes_ Try.func51 (by kernel_rfl) rfl #[.pointer (some ⟨b, 0, none⟩), .int .i64 (h : Int)] (by rfl) rfl rfl (by simp only [List.map_toArray, List.map_cons, List.map_nil]; rfl) ?_
          refine HPLC.out.mono ?_
          rintro e w5 ⟨v5, rfl, hr5, hb5⟩
          refine ⟨_, rfl, ?_⟩
          have HR1 := Aside0.mk hr5
          have HL1 := Aside0.mk hb5
          have z9 := pw_cell_below hb5 ze9
          have zq := pw_cell_below hb5 zeq
          have zfq : w5.frozen? ⟨bq, h, none⟩ = false := (HPd.out.below hb5).Qb.frozen _
          obtain ⟨A5, c5, e5⟩ := Kd.R_slice hr5
          clear hr5 hb5
          subst e5
          refine hK.out _ _ (z9) (fun hHeld => ?_)
          clear hK K
          refine norm_ (a' := ?_) ?_ ?_
          rotate_left
          · show Act.put _ (some 104) _ = _
            simp only [Act.put, lsa, lsz, lsc, i64_w, i32_w]
            rfl
          refine pure_ (i := 8) (N := some 105) (v := ?_) (a' := ?_) (bl 10 511) rfl rfl (by kernel_rfl) (fun _ _ _ h => h) (Or.inl ⟨by rfl, ?_⟩) ?_ ?_
          rotate_left
          · intro w'
            go_simp
            with_reducible rfl
          rotate_left
          · simp only [Act.put, lsa, lsz, lsc, i64_w, i32_w]
            rfl
          refine last_ (i := 9) (N := none) (bl 10 1023) rfl rfl (by kernel_rfl) (by decide) (fun K hK => ?_)
          refine skip_ (w1 := ?_) (by rfl) rfl ?_ ?_
          rotate_left
          · go_simp
            rfl
          refine hK.out _ _ ?_
          clear hK K
          refine done_ (by kernel_rfl) ?_
          have HSf := Aside0.mk (rturn_put HP1.out HP1.out.lt HP1.out.gbl hlt HR1.out (below_step (below_drew (Below.refl _ _)) HL1.out))
          have HOf := Aside0.mk (show ∀ k, (own k ∨ (Value.slice A5 (plainL (sT m S P cr gl h) (h : Int)).length c5).ownBlock = some k) → W.heap.size ≤ k from fun k hk => by
            rcases hk with hk | hk
            · exact HO.out k hk
            · exact Nat.le_trans HB4.out.size (Kd.R_base HR1.out k hk))
          have HBf := Aside0.mk (((HB4.out.trans ((below_step (below_drew (Below.refl _ _)) HL1.out).mono HB4.out.size))).setCell (p := ⟨bq, h, none⟩) HGE.out.2.2.1 (.slice A5 (plainL (sT m S P cr gl h) (h : Int)).length c5))
          have HKf := Aside0.mk ((HKb4.out.below (below_step (below_drew (Below.refl _ _)) HL1.out)).mut (set_mut _ ⟨bq, h, none⟩ (.slice A5 (plainL (sT m S P cr gl h) (h : Int)).length c5)) HKN.out.2.1)
          clear ze9 zeq z9 zq zfq hHeld HR1 HL1 HP1 HPd HO HB4 HPLC HTL HKb4
          go_wp2
          go_roundw
          case rel => exact ⟨h + 1, qs.set h (.slice A5 (plainL (sT m S P cr gl h) (h : Int)).length c5), _, by go_num, by omega, HSf, HKf, HOf, HBf⟩
          case measure => (simp [intOf] <;> omega)
        · obtain rfl : h = m := by omega
          rw [sT_last] at HP
          have hw1 := newS1_wf (cr := cr) HK.out
          cases cr with
          | false =>
            have HNE := Aside0.mk (show newF h S P false gl = newS1 h S P false gl from rfl)
            go_wp2_with (go_at_call 52; refine (rgive_none HP.out rfl).mono ?_; rintro e w9 ⟨rfl, rfl⟩)
            go_ret2
            exact ⟨_, own, rfl, by rw [HNE.out]; exact HP.out, HO.out, rfl, HB.out⟩
          | true =>
            have HNE := Aside0.mk (show newF h S P true gl = giveF (newS1 h S P true gl) from rfl)
            have hci := (newS1_cq (cr := true) HK.out).c
            go_wp2_with (go_at_call 52; refine (rgive_calls HP.out hw1 hci rfl).mono ?_; rintro e w9 ⟨rfl, hs9, hm9⟩; have HS9 := Aside0.mk hs9; have HM9 := Aside0.mk hm9; clear hs9 hm9)
            go_ret2
            exact ⟨_, own, rfl, by rw [HNE.out]; exact HS9.out, HO.out, rfl, HB.out.trans (HM9.out.to_below HB.out.size (fun k hk => HO.out k hk))⟩
end Go.Proofs.Ytdaadmjppikebaa.SC
