import Derived.Test.YtdaadmjppikebaaK11
import Derived.Test.YtdaadmjppikebaaK10
/- Parts of the walk of package sched, merged. -/
/- SchedPlays: stores into the document's scheduler. -/
namespace Go.Proofs.Ytdaadmjppikebaa.SC
open Go.RowKit Go.Proofs.YtdaadmjppikebaaW.PrintWords Go.Proofs.YtdaadmjppikebaaW.PrintLast
open Go.Proofs.Ytdaadmjppikebaa.PV (S94 k94 S29 k29 rd_T94 rd_T29)
set_option linter.unusedVariables false
set_option linter.unusedSimpArgs false

section
variable {W W' : World} {own S : Nat → Prop} {L : RLy} {s : SS}
theorem RS.dist (h : RS W own L s) : L.b ≠ L.be ∧ L.b ≠ L.bc ∧ L.b ≠ L.bq ∧ L.b ≠ L.bn ∧ L.b ≠ L.bu ∧ L.be ≠ L.bc ∧ L.be ≠ L.bq ∧ L.be ≠ L.bn ∧ L.be ≠ L.bu ∧ L.bc ≠ L.bq ∧ L.bc ≠ L.bn ∧ L.bc ≠ L.bu ∧ L.bq ≠ L.bn ∧ L.bq ≠ L.bu ∧ L.bn ≠ L.bu :=
  ⟨h.S.ne h.E (by decide), h.S.ne h.C (by decide), h.S.ne h.Qb (by decide), h.S.ne h.N (by decide), h.S.ne h.U (by decide), h.E.ne h.C (by decide), h.E.ne h.Qb (by decide), h.E.ne h.N (by decide), h.E.ne h.U (by decide), h.C.ne h.Qb (by decide), h.C.ne h.N (by decide), h.C.ne h.U (by decide), h.Qb.ne h.N (by decide), h.Qb.ne h.U (by decide), h.nu⟩
theorem RS.qne (h : RS W own L s) {i : Nat} {q : Value} (hq : L.qs[i]? = some q) {k : Nat} (hk : q.ownBlock = some k) : k ≠ L.b ∧ k ≠ L.be ∧ k ≠ L.bc ∧ k ≠ L.bq ∧ k ≠ L.bn ∧ k ≠ L.bu ∧ own k := by
  have hR := h.Q i q hq
  have hn : ∀ {g t : Nat} {cs : List Value}, Blk W g t cs → (3 : Nat) ≠ t → k ≠ g := fun hb ht e => by
    obtain ⟨c, h1, _⟩ := hb
    exact Kd.R_ne hR h1 ht (by rw [hk, e])
  have := hR.1 k hk
  exact ⟨hn h.S (by decide), hn h.E (by decide), hn h.C (by decide), hn h.Qb (by decide), this.2.1, this.2.2, this.1⟩
theorem RS.G_mut (h : RS W own L s) (hm : Mut S W W') (hn : ∀ ad, L.Ag = some ad → 0 < L.gl.length → ¬ S ad.block) : ∀ k, k < s.gs.length → ∃ ad, L.Ag = some ad ∧ W'.cell? ⟨(ad.add (k * 7)).block, (ad.add (k * 7)).off + 2, none⟩ = some (.int .i64 (s.gst k).w) ∧ W'.cell? ⟨(ad.add (k * 7)).block, (ad.add (k * 7)).off + 6, none⟩ = some (.bool (s.gst k).g) := fun k hk => by
  obtain ⟨ad, e, h1, h2⟩ := h.G k hk
  have hl : 0 < L.gl.length := by have := h.gl; rw [this] at hk; simp [guestsL] at hk; omega
  have hb : ¬ S (ad.add (k * 7)).block := by rw [add_block]; exact hn ad e hl
  exact ⟨ad, e, cell_kept h1 hm.kept hb, cell_kept h2 hm.kept hb⟩
theorem RS.mut (h : RS W own L s) (hm : Mut S W W') (hn : ∀ k, own k → ¬ S k) (hg : ∀ ad, L.Ag = some ad → 0 < L.gl.length → ¬ S ad.block) : RS W' own L s :=
  { S := h.S.mut hm (hn _ h.ob.1), G := h.G_mut hm hg, gl := h.gl, gc := h.gc, gn := h.gn, E := h.E.mut hm (hn _ h.ob.2.1), C := h.C.mut hm (hn _ h.ob.2.2.1), Qb := h.Qb.mut hm (hn _ h.ob.2.2.2.1), ql := h.ql, Q := fun i q hq => Kd.R_kept (h.Q i q hq) hm.kept (fun k hk => hn k hk.1), qd := h.qd, N := h.N.mut hm (hn _ h.ob.2.2.2.2.1), U := h.U.mut hm (hn _ h.ob.2.2.2.2.2), ul := h.ul, uv := h.uv, nu := h.nu, ob := h.ob, cap := h.cap, lt := fun k hk => Nat.lt_of_lt_of_le (h.lt k hk) hm.size }
theorem RS.wide (h : RS W own L s) {own2 : Nat → Prop} (hs : ∀ k, own k → own2 k) (hlt : ∀ k, own2 k → k < W.heap.size) (hg : ∀ ad, L.Ag = some ad → 0 < L.gl.length → ¬ own2 ad.block) : RS W own2 L s :=
  { S := h.S, G := h.G, gl := h.gl, gc := h.gc, gn := hg, E := h.E, C := h.C, Qb := h.Qb, ql := h.ql, Q := fun i q hq => Kd.R_mono (h.Q i q hq) (fun k hk => ⟨hs k hk.1, hk.2⟩), qd := h.qd, N := h.N, U := h.U, ul := h.ul, uv := h.uv, nu := h.nu, ob := ⟨hs _ h.ob.1, hs _ h.ob.2.1, hs _ h.ob.2.2.1, hs _ h.ob.2.2.2.1, hs _ h.ob.2.2.2.2.1, hs _ h.ob.2.2.2.2.2⟩, cap := h.cap, lt := hlt }
theorem RS.q_far (h : RS W own L s) (hm : Mut S W W') (hS : ∀ k, S k → k = L.b ∨ k = L.be ∨ k = L.bc ∨ k = L.bq ∨ k = L.bn ∨ k = L.bu) (i : Nat) (q : Value) (hq : L.qs[i]? = some q) : Kd.R (Kd.int .i64) 3 W' 0 (fun k => own k ∧ k ≠ L.bn ∧ k ≠ L.bu) q (s.trn i).q :=
  R_mut (h.Q i q hq) hm (fun n hn hs => by
    obtain ⟨h1, h2, h3, h4, h5, h6, _⟩ := h.qne hq hn
    rcases hS n hs with e | e | e | e | e | e <;> contradiction)
theorem RS.gset (h : RS W own L s) (p : Addr) (hp : own p.block) (u : Value) : ∀ k, k < s.gs.length → ∃ ad, L.Ag = some ad ∧ (W.setCell p u).cell? ⟨(ad.add (k * 7)).block, (ad.add (k * 7)).off + 2, none⟩ = some (.int .i64 (s.gst k).w) ∧ (W.setCell p u).cell? ⟨(ad.add (k * 7)).block, (ad.add (k * 7)).off + 6, none⟩ = some (.bool (s.gst k).g) :=
  h.G_mut (set_mut W p u) (fun ad e hl hk => h.gn ad e hl (by rw [hk]; exact hp))
theorem range_flat_set (f f' : Nat → List Value) (n : Nat) (h9 : ∀ i, (f i).length = 9) (h9' : ∀ i, (f' i).length = 9) (i j : Nat) (hj : j < 9) (v : Value) (he : f' i = (f i).set j v) (hne : ∀ k, k ≠ i → f' k = f k) (m : Nat) (u : Value) (hm : ((List.range n).flatMap f')[m]? = some u) : (((List.range n).flatMap f).set (i * 9 + j) v)[m]? = some u := by
  have hl : ∀ (g : Nat → List Value), (∀ i, (g i).length = 9) → ((List.range n).flatMap g).length = n * 9 := fun g hg => by
    clear hm
    induction n with
    | zero => simp
    | succ k ih => rw [List.range_succ, List.flatMap_append, List.length_append, ih]; simp [hg, Nat.succ_mul]
  have hlt : m < n * 9 := by
    rcases Nat.lt_or_ge m (n * 9) with c | c
    · exact c
    · rw [List.getElem?_eq_none (by rw [hl f' h9']; exact c)] at hm; cases hm
  have e : m = m / 9 * 9 + m % 9 := by omega
  have h1 := range_flat f' 9 h9' n (m / 9) (m % 9) (by omega) (by omega)
  have h2 := range_flat f 9 h9 n (m / 9) (m % 9) (by omega) (by omega)
  rw [← e] at h1 h2
  rw [List.getElem?_set, hl f h9]
  rw [h1] at hm
  by_cases c : i * 9 + j = m
  · have e1 : m / 9 = i := by omega
    have e2 : m % 9 = j := by omega
    rw [e1, e2, he, List.getElem?_set_self (by rw [h9]; exact hj)] at hm
    rw [if_pos c, if_pos (by omega)]
    exact hm
  · rw [if_neg c, h2, ← hm]
    by_cases c2 : m / 9 = i
    · rw [c2, he, List.getElem?_set_ne (by omega)]
    · rw [hne _ c2]
/-- One cell of an entity. -/
theorem RS.putE (h : RS W own L s) (i j : Nat) (hi : i < s.es.length) (hj : j < 9) (v : Value) (f : SE → SE) (hg : (f (s.ent i)).gu = (s.ent i).gu ∧ (f (s.ent i)).ix = (s.ent i).ix) (hf : [Value.int .i64 (f (s.ent i)).gu, .int .i64 (f (s.ent i)).ix, .int .i64 (homeOf s i), .int .i64 (f (s.ent i)).wt, .bool (s.gng i), .bool (f (s.ent i)).gn, .int .u64 (f (s.ent i)).rn, .int .i64 (f (s.ent i)).cd, .int .i64 (f (s.ent i)).pt] = (entR s i).set j v) :
    RS (W.setCell ⟨L.be, i * 9 + j, none⟩ v) own L (s.modE i f) := by
  have hm := set_mut W ⟨L.be, i * 9 + j, none⟩ v
  obtain ⟨d1, d2, d3, d4, d5, d6, d7, d8, d9, d10, d11, d12, d13, d14, d15⟩ := h.dist
  refine { S := ?_, G := h.gset _ h.ob.2.1 v, gl := h.gl, gc := h.gc, gn := h.gn, E := ?_, C := h.C.mut hm (by simpa using d6.symm), Qb := h.Qb.mut hm (by simpa using d7.symm), ql := h.ql, Q := fun k r hr => h.q_far hm (fun k hk => by simp at hk; simp [hk]) k r hr, qd := h.qd, N := h.N.mut hm (by simpa using d8.symm), U := h.U.mut hm (by simpa using d9.symm), ul := h.ul, uv := h.uv, nu := h.nu, ob := h.ob, cap := by simpa [SS.modE] using h.cap, lt := fun k hk => Nat.lt_of_lt_of_le (h.lt k hk) hm.size }
  · have e : refC L (s.modE i f) = refC L s := by unfold refC; simp [SS.modE]
    rw [e]; exact h.S.mut hm (by simpa using d1)
  · refine (h.E.set (i * 9 + j) v).imp (fun m u hu => ?_)
    have e : (s.modE i f).es.length = s.es.length := by simp [SS.modE]
    rw [e] at hu
    refine range_flat_set (entR s) (entR (s.modE i f)) _ (fun _ => rfl) (fun _ => rfl) i j hj v ?_ (fun k hk => ?_) m u hu
    · rw [← hf]
      unfold entR
      rw [modE_home f hi hg, modE_gng f hi hg.1, modE_ent f hi, if_pos rfl]
    · unfold entR
      rw [modE_home f hi hg, modE_gng f hi hg.1, modE_ent f hi, if_neg (fun e => hk e.symm)]
theorem RS.putC (h : RS W own L s) (i : Nat) (hi : i < s.ch.length) (n : Int) (f : Int → Int) (hf : f (s.ch.getD i 0) = n) :
    RS (W.setCell ⟨L.bc, i, none⟩ (.int .u64 n)) own L (s.modC i f) := by
  have hm := set_mut W ⟨L.bc, i, none⟩ (.int .u64 n)
  obtain ⟨d1, d2, d3, d4, d5, d6, d7, d8, d9, d10, d11, d12, d13, d14, d15⟩ := h.dist
  refine { S := ?_, G := h.gset _ h.ob.2.2.1 _, gl := h.gl, gc := h.gc, gn := h.gn, E := h.E.mut hm (by simpa using d6), C := ?_, Qb := h.Qb.mut hm (by simpa using d10.symm), ql := h.ql, Q := fun k r hr => h.q_far hm (fun k hk => by simp at hk; simp [hk]) k r hr, qd := h.qd, N := h.N.mut hm (by simpa using d11.symm), U := h.U.mut hm (by simpa using d12.symm), ul := h.ul, uv := h.uv, nu := h.nu, ob := h.ob, cap := h.cap, lt := fun k hk => Nat.lt_of_lt_of_le (h.lt k hk) hm.size }
  · have e : refC L (s.modC i f) = refC L s := by unfold refC; simp [SS.modC]
    rw [e]; exact h.S.mut hm (by simpa using d2)
  · have hg : s.ch[i]? = some (s.ch.getD i 0) := by rw [List.getD_eq_getElem?_getD, List.getElem?_eq_getElem hi]; rfl
    have e : (s.modC i f).ch = s.ch.set i n := by rw [← hf]; exact modify_set _ _ _ _ hg
    rw [e, List.map_set]
    exact h.C.set _ _
theorem RS.putN (h : RS W own L s) (n : Int) : RS (W.setCell ⟨L.b, 6, none⟩ (.int .u64 n)) own L { s with now := n } := by
  have hm := set_mut W ⟨L.b, 6, none⟩ (.int .u64 n)
  obtain ⟨d1, d2, d3, d4, d5, d6, d7, d8, d9, d10, d11, d12, d13, d14, d15⟩ := h.dist
  exact { S := h.S.set 6 _, G := h.gset _ h.ob.1 _, gl := h.gl, gc := h.gc, gn := h.gn, E := h.E.mut hm (by simpa using d1.symm), C := h.C.mut hm (by simpa using d2.symm), Qb := h.Qb.mut hm (by simpa using d3.symm), ql := h.ql, Q := fun k r hr => h.q_far hm (fun k hk => by simp at hk; simp [hk]) k r hr, qd := h.qd, N := h.N.mut hm (by simpa using d4.symm), U := h.U.mut hm (by simpa using d5.symm), ul := h.ul, uv := h.uv, nu := h.nu, ob := h.ob, cap := h.cap, lt := fun k hk => Nat.lt_of_lt_of_le (h.lt k hk) hm.size }
theorem RS.putS (h : RS W own L s) (n : Int) : RS (W.setCell ⟨L.b, 7, none⟩ (.int .u64 n)) own L { s with sh := n } := by
  have hm := set_mut W ⟨L.b, 7, none⟩ (.int .u64 n)
  obtain ⟨d1, d2, d3, d4, d5, d6, d7, d8, d9, d10, d11, d12, d13, d14, d15⟩ := h.dist
  exact { S := h.S.set 7 _, G := h.gset _ h.ob.1 _, gl := h.gl, gc := h.gc, gn := h.gn, E := h.E.mut hm (by simpa using d1.symm), C := h.C.mut hm (by simpa using d2.symm), Qb := h.Qb.mut hm (by simpa using d3.symm), ql := h.ql, Q := fun k r hr => h.q_far hm (fun k hk => by simp at hk; simp [hk]) k r hr, qd := h.qd, N := h.N.mut hm (by simpa using d4.symm), U := h.U.mut hm (by simpa using d5.symm), ul := h.ul, uv := h.uv, nu := h.nu, ob := h.ob, cap := h.cap, lt := fun k hk => Nat.lt_of_lt_of_le (h.lt k hk) hm.size }
/-- Who is current on a hart. -/
theorem RS.putCu (h : RS W own L s) (i : Nat) (hi : i < s.ts.length) (c : Int) (f : ST → ST) (hq : (f (s.trn i)).q = (s.trn i).q) (hc : (f (s.trn i)).cu = c) (hu : 0 ≤ c → L.us.getD i 0 = (f (s.trn i)).us) :
    RS (W.setCell ⟨L.bn, i, none⟩ (.int .i64 c)) own L (s.modT i f) := by
  have hm := set_mut W ⟨L.bn, i, none⟩ (.int .i64 c)
  obtain ⟨d1, d2, d3, d4, d5, d6, d7, d8, d9, d10, d11, d12, d13, d14, d15⟩ := h.dist
  have hl : (s.modT i f).ts.length = s.ts.length := by simp [SS.modT]
  refine { S := ?_, G := h.gset _ h.ob.2.2.2.2.1 _, gl := h.gl, gc := h.gc, gn := h.gn, E := h.E.mut hm (by simpa using d8), C := h.C.mut hm (by simpa using d11), Qb := h.Qb.mut hm (by simpa using d13), ql := by rw [hl]; exact h.ql, Q := fun k r hr => ?_, qd := h.qd, N := ?_, U := h.U.mut hm (by simpa using d15.symm), ul := by rw [hl]; exact h.ul, uv := fun k hk => ?_, nu := h.nu, ob := h.ob, cap := h.cap, lt := fun k hk => Nat.lt_of_lt_of_le (h.lt k hk) hm.size }
  · have e : refC L (s.modT i f) = refC L s := by unfold refC; simp [SS.modT]
    rw [e]; exact h.S.mut hm (by simpa using d4)
  · rw [modT_trn f hi]
    have hr' := h.q_far hm (fun k hk => by simp at hk; simp [hk]) k r hr
    by_cases e : i = k
    · subst e; rw [if_pos rfl, hq]; exact hr'
    · rw [if_neg e]; exact hr'
  · have e : (s.modT i f).ts = s.ts.set i (f (s.trn i)) := modify_set _ _ _ _ (trn_some hi)
    rw [e, List.map_set, hc]
    exact h.N.set _ _
  · rw [hl] at hk
    rw [modT_trn f hi]
    by_cases e : i = k
    · subst e; rw [if_pos rfl, hc]; exact hu
    · rw [if_neg e]; exact h.uv k hk
theorem getD_set_int (l : List Int) (i k : Nat) (n : Int) (hi : i < l.length) : (l.set i n).getD k 0 = if i = k then n else l.getD k 0 := by
  rw [List.getD_eq_getElem?_getD, List.getElem?_set]
  by_cases e : i = k
  · rw [if_pos e, if_pos e, if_pos hi]; rfl
  · rw [if_neg e, if_neg e, List.getD_eq_getElem?_getD]
/-- What the current one of a hart has used. -/
theorem RS.putU (h : RS W own L s) (i : Nat) (hi : i < s.ts.length) (n : Int) (f : ST → ST) (hq : (f (s.trn i)).q = (s.trn i).q) (hc : (f (s.trn i)).cu = (s.trn i).cu) (hu : 0 ≤ (s.trn i).cu → (f (s.trn i)).us = n) :
    RS (W.setCell ⟨L.bu, i, none⟩ (.int .i64 n)) own { L with us := L.us.set i n } (s.modT i f) := by
  have hm := set_mut W ⟨L.bu, i, none⟩ (.int .i64 n)
  obtain ⟨d1, d2, d3, d4, d5, d6, d7, d8, d9, d10, d11, d12, d13, d14, d15⟩ := h.dist
  have hl : (s.modT i f).ts.length = s.ts.length := by simp [SS.modT]
  have hul := h.ul
  refine { S := ?_, G := h.gset _ h.ob.2.2.2.2.2 _, gl := h.gl, gc := h.gc, gn := h.gn, E := h.E.mut hm (by simpa using d9), C := h.C.mut hm (by simpa using d12), Qb := h.Qb.mut hm (by simpa using d14), ql := by rw [hl]; exact h.ql, Q := fun k r hr => ?_, qd := h.qd, N := ?_, U := ?_, ul := by rw [hl]; simpa using h.ul, uv := fun k hk => ?_, nu := h.nu, ob := h.ob, cap := h.cap, lt := fun k hk => Nat.lt_of_lt_of_le (h.lt k hk) hm.size }
  · have e : refC { L with us := L.us.set i n } (s.modT i f) = refC L s := by unfold refC; simp [SS.modT]
    rw [e]; exact h.S.mut hm (by simpa using d5)
  · rw [modT_trn f hi]
    have hr' := h.q_far hm (fun k hk => by simp at hk; simp [hk]) k r hr
    by_cases e : i = k
    · subst e; rw [if_pos rfl, hq]; exact hr'
    · rw [if_neg e]; exact hr'
  · have e : (s.modT i f).ts = s.ts.set i (f (s.trn i)) := modify_set _ _ _ _ (trn_some hi)
    have e2 : ((s.modT i f).ts.map fun t => Value.int .i64 t.cu) = s.ts.map fun t => Value.int .i64 t.cu := by
      rw [e, List.map_set, hc]
      apply List.ext_getElem?
      intro k
      rw [List.getElem?_set]
      by_cases e : i = k
      · subst e; rw [if_pos rfl, if_pos (by simpa using hi), List.getElem?_map, trn_some hi]; rfl
      · rw [if_neg e]
    rw [e2]
    exact h.N.mut hm (by simpa using d15)
  · show Blk _ L.bu 3 ((L.us.set i n).map _)
    rw [List.map_set]
    exact h.U.set _ _
  · rw [hl] at hk
    show 0 ≤ ((s.modT i f).trn k).cu → (L.us.set i n).getD k 0 = ((s.modT i f).trn k).us
    rw [modT_trn f hi, getD_set_int _ _ _ _ (by omega)]
    by_cases e : i = k
    · subst e; rw [if_pos rfl, if_pos rfl, hc]; exact fun h0 => (hu h0).symm
    · rw [if_neg e, if_neg e]; exact h.uv k hk
/-- A hart's queue, made anew, stored; its current one stays or is none. -/
theorem RS.putQ (h : RS W own L s) (i : Nat) (hi : i < s.ts.length) (q' : Value) (xs : List Int) (f : ST → ST) (hf : (f (s.trn i)).q = xs ∧ (f (s.trn i)).cu = (s.trn i).cu ∧ (f (s.trn i)).us = (s.trn i).us)
    {B : Nat} (hR : Kd.R (Kd.int .i64) 3 W B (fun _ => True) q' xs) (hB : ∀ k, own k → k < B) (hA : ∀ ad, L.Ag = some ad → 0 < L.gl.length → ad.block < B) :
    RS (W.setCell ⟨L.bq, i, none⟩ q') (fun k => own k ∨ q'.ownBlock = some k) { L with qs := L.qs.set i q' } (s.modT i f) := by
  have hm := set_mut W ⟨L.bq, i, none⟩ q'
  obtain ⟨d1, d2, d3, d4, d5, d6, d7, d8, d9, d10, d11, d12, d13, d14, d15⟩ := h.dist
  have hl : (s.modT i f).ts.length = s.ts.length := by simp [SS.modT]
  have hlq : i < L.qs.length := by rw [h.ql]; exact hi
  have hb : ∀ k, q'.ownBlock = some k → B ≤ k ∧ k < W.heap.size := fun k hk => ⟨Kd.R_base hR k hk, Kd.R_lt hR k hk⟩
  refine { S := ?_, G := h.gset _ h.ob.2.2.2.1 _, gl := h.gl, gc := h.gc, gn := fun ad e hl hk => ?_, E := h.E.mut hm (by simpa using d7), C := h.C.mut hm (by simpa using d10), Qb := ?_, ql := by rw [hl]; simpa using h.ql, Q := fun k r hr => ?_, qd := fun a b r t k hab ha hb2 hk => ?_, N := ?_, U := h.U.mut hm (by simpa using d14.symm), ul := by rw [hl]; exact h.ul, uv := fun k hk => ?_, nu := h.nu, ob := ⟨.inl h.ob.1, .inl h.ob.2.1, .inl h.ob.2.2.1, .inl h.ob.2.2.2.1, .inl h.ob.2.2.2.2.1, .inl h.ob.2.2.2.2.2⟩, cap := h.cap, lt := fun k hk => ?_ }
  · have e : refC { L with qs := L.qs.set i q' } (s.modT i f) = refC L s := by unfold refC; simp [SS.modT]
    rw [e]; exact h.S.mut hm (by simpa using d3)
  · rcases hk with hk | hk
    · exact h.gn ad e hl hk
    · have := (hb _ hk).1; have := hA ad e hl; omega
  · exact h.Qb.set _ _
  · show Kd.R (Kd.int .i64) 3 _ 0 (fun k => (own k ∨ q'.ownBlock = some k) ∧ k ≠ L.bn ∧ k ≠ L.bu) r ((s.modT i f).trn k).q
    rw [modT_trn f hi]
    have hr2 : (L.qs.set i q')[k]? = some r := hr
    by_cases e : i = k
    · subst e
      rw [List.getElem?_set_self hlq] at hr2
      injection hr2 with hr2
      subst hr2
      rw [if_pos rfl, hf.1]
      refine R_ok (R_mut (Kd.R_lower hR (Nat.zero_le _)) hm (fun n hn e => ?_)) (fun n hn => ⟨.inr hn, fun e => ?_, fun e => ?_⟩)
      · simp only at e
        have h1 := hb n hn
        have h2 := hB _ h.ob.2.2.2.1
        omega
      · have h1 := hb n hn
        have h2 := hB _ h.ob.2.2.2.2.1
        omega
      · have h1 := hb n hn
        have h2 := hB _ h.ob.2.2.2.2.2
        omega
    · rw [List.getElem?_set_ne e] at hr2
      rw [if_neg e]
      have hk := h.Q k r hr2
      exact R_ok (R_mut hk hm (fun n hn e2 => (h.qne hr2 hn).2.2.2.1 (by simpa using e2))) (fun n hn => ⟨.inl (hk.1 n hn).1, (hk.1 n hn).2⟩)
  · have ha2 : (L.qs.set i q')[a]? = some r := ha
    have hb3 : (L.qs.set i q')[b]? = some t := hb2
    by_cases ea : i = a
    · subst ea
      rw [List.getElem?_set_self hlq] at ha2
      injection ha2 with ha2
      subst ha2
      rw [List.getElem?_set_ne hab] at hb3
      intro e
      have h1 := (h.qne hb3 e).2.2.2.2.2.2
      have h2 := (hb k hk).1
      have h3 := hB _ h1
      omega
    · rw [List.getElem?_set_ne ea] at ha2
      by_cases eb : i = b
      · subst eb
        rw [List.getElem?_set_self hlq] at hb3
        injection hb3 with hb3
        subst hb3
        intro e
        have h1 := (h.qne ha2 hk).2.2.2.2.2.2
        have h2 := (hb k e).1
        have h3 := hB _ h1
        omega
      · rw [List.getElem?_set_ne eb] at hb3
        exact h.qd a b r t k hab ha2 hb3 hk
  · have e : (s.modT i f).ts = s.ts.set i (f (s.trn i)) := modify_set _ _ _ _ (trn_some hi)
    have e2 : ((s.modT i f).ts.map fun t => Value.int .i64 t.cu) = s.ts.map fun t => Value.int .i64 t.cu := by
      rw [e, List.map_set, hf.2.1]
      apply List.ext_getElem?
      intro k
      rw [List.getElem?_set]
      by_cases e : i = k
      · subst e; rw [if_pos rfl, if_pos (by simpa using hi), List.getElem?_map, trn_some hi]; rfl
      · rw [if_neg e]
    rw [e2]
    exact h.N.mut hm (by simpa using d13.symm)
  · rw [hl] at hk
    show 0 ≤ ((s.modT i f).trn k).cu → L.us.getD k 0 = ((s.modT i f).trn k).us
    rw [modT_trn f hi]
    by_cases e : i = k
    · subst e; rw [if_pos rfl, hf.2.1, hf.2.2]; exact h.uv _ hk
    · rw [if_neg e]; exact h.uv k hk
  · rcases hk with hk | hk
    · exact Nat.lt_of_lt_of_le (h.lt k hk) hm.size
    · exact Nat.lt_of_lt_of_le (hb k hk).2 hm.size
/-- Behind a call of the document's scheduler. -/
def RPost (W : World) (own : Nat → Prop) (L : RLy) (s' : SS) (w' : World) : Prop := ∃ (own' : Nat → Prop) (qs' : List Value) (us' : List Int), RS w' own' { L with qs := qs', us := us' } s' ∧ Mut own W w' ∧ (∀ k, own k → own' k) ∧ ∀ k, own' k → own k ∨ W.heap.size ≤ k
theorem RPost.same (h : RS W own L s) (hb : Below W.heap.size W W') : RPost W own L s W' := ⟨own, L.qs, L.us, h.below hb, Mut.of_below hb own, fun _ h => h, fun _ h => .inl h⟩
end
end Go.Proofs.Ytdaadmjppikebaa.SC

/- SchedPlays: the document's pick by credit, where nobody is current. -/
namespace Go.Proofs.Ytdaadmjppikebaa.SC
open Go.RowKit Go.Proofs.YtdaadmjppikebaaW.PrintWords Go.Proofs.YtdaadmjppikebaaW.PrintLast
open Go.Proofs.Ytdaadmjppikebaa.PV (S94 k94 S29 k29 rd_T94 rd_T29)
set_option linter.unusedVariables false
set_option linter.unusedSimpArgs false

theorem findQ_step (s : SS) (rb : List Bool) (sm : Bool) {l : List Int} {k : Nat} (hk : k < l.length) : findQ s rb sm (l.drop k) = if (richF s rb (rd l k) || (!sm && readyF s rb (rd l k))) = true then rd l k else findQ s rb sm (l.drop (k + 1)) := by
  rw [drop_int hk]; rfl
theorem findQ_rich1 (s : SS) (rb : List Bool) (sm : Bool) : ∀ l : List Int, findQ s rb sm l ≠ -1 → richF s rb (findQ s rb sm l) = true ∨ sm = false
  | [], h => absurd rfl h
  | e :: r, h => by
    unfold findQ at h ⊢
    by_cases c : (richF s rb e || (!sm && readyF s rb e)) = true
    · rw [if_pos c]
      rw [Bool.or_eq_true] at c
      rcases c with c | c
      · exact .inl c
      · rw [Bool.and_eq_true] at c; exact .inr (by simpa using c.1)
    · rw [if_neg c] at h ⊢
      exact findQ_rich1 s rb sm r h
theorem credit_sel (s : SS) (rb : List Bool) (l : List Int) (hl : ∀ e ∈ l, 0 ≤ e) : findQ s rb (l.any (richF s rb)) l = if findQ s rb true l < 0 then findQ s rb false l else findQ s rb true l := by
  cases h : l.any (richF s rb) with
  | true =>
    obtain ⟨x, hx, hr⟩ := List.any_eq_true.1 h
    rw [if_neg]
    intro hn
    rcases findQ_mem s rb true l with e | ⟨hm, _⟩
    · have := findQ_none s rb true l hl e x hx
      rw [hr] at this; simp at this
    · have := hl _ hm; omega
  | false =>
    have e : findQ s rb true l = -1 := by
      rcases findQ_mem s rb true l with e | ⟨hm, _⟩
      · exact e
      · exfalso
        rcases findQ_rich1 s rb true l (by have := hl _ hm; omega) with q | q
        · have := List.any_eq_false.1 h _ hm; exact this q
        · cases q
    rw [e, if_pos (by decide)]
theorem modT_id {s : SS} {i : Nat} (hi : i < s.ts.length) (f : ST → ST) (hf : f (s.trn i) = s.trn i) : s.modT i f = s := by
  unfold SS.modT
  rw [modify_set _ _ _ _ (trn_some hi), hf]
  have : s.ts.set i (s.trn i) = s.ts := by
    apply List.ext_getElem?
    intro k
    rw [List.getElem?_set]
    by_cases e : i = k
    · subst e; rw [if_pos rfl, if_pos hi, trn_some hi]
    · rw [if_neg e]
  rw [this]
/-- A hart without a current one takes c, or none. -/
theorem RS.sit {W : World} {own : Nat → Prop} {L : RLy} {s : SS} (h : RS W own L s) (i : Nat) (hi : i < s.ts.length) (hc : (s.trn i).cu = -1) (c : Int) (h1 : -1 ≤ c) :
    RS (W.setCell ⟨L.bn, i, none⟩ (.int .i64 c)) own L (s.modT i fun t => { t with cu := c, us := if c = -1 then t.us else L.us.getD i 0 }) ∧
    RS ((W.setCell ⟨L.bn, i, none⟩ (.int .i64 c)).setCell ⟨L.bu, i, none⟩ (.int .i64 0)) own { L with us := L.us.set i 0 } (if c = -1 then s else s.modT i fun t => { t with cu := c, us := 0 }) := by
  have h2 := h.putCu i hi c (fun t => { t with cu := c, us := if c = -1 then t.us else L.us.getD i 0 }) rfl rfl (fun h0 => by simp only; rw [if_neg (by omega)])
  refine ⟨h2, ?_⟩
  have h3 := h2.putU i (by simpa [SS.modT] using hi) 0 (fun t => if c = -1 then t else { t with us := 0 }) (by split <;> rfl) (by split <;> rfl) (fun h0 => by
    rw [modT_trn _ hi, if_pos rfl] at h0
    simp only at h0
    rw [if_neg (by omega)])
  rw [modT_modT] at h3
  by_cases e : c = -1
  · rw [if_pos e]
    rw [modT_id hi] at h3
    · exact h3
    · simp only [if_pos e]; subst e; rw [← hc]
  · rw [if_neg e]
    simp only [if_neg e] at h3
    exact h3
set_option maxRecDepth 100000 in
set_option maxHeartbeats 3200000 in
theorem rcredit_none {W : World} {own : Nat → Prop} {L : RLy} {s : SS} {rb : List Bool} {A : Option Addr} {c : Nat} (h : RS W own L s) (hw : Wf s) (hr : RD W rb A c) (i : Nat) (hi : i < s.ts.length) (hcu : (s.trn i).cu = -1) :
    Calls Try.prog 57 #[.pointer (some ⟨L.b, 0, none⟩), .int .i64 (i : Int), .slice A rb.length c] W fun x w' => x = .returned (.int .i64 (creditF2 s i rb (someF s i rb)).1) ∧ RPost W own L (creditF2 s i rb (someF s i rb)).2 w' := by
  have HE := Aside0.mk (show creditF2 s i rb (someF s i rb) = (if (if findQ s rb true (s.trn i).q < 0 then findQ s rb false (s.trn i).q else findQ s rb true (s.trn i).q) = -1 then (-1, s) else ((if findQ s rb true (s.trn i).q < 0 then findQ s rb false (s.trn i).q else findQ s rb true (s.trn i).q), s.modT i fun t => { t with cu := (if findQ s rb true (s.trn i).q < 0 then findQ s rb false (s.trn i).q else findQ s rb true (s.trn i).q), us := 0 })) by
    unfold creditF2 someF
    rw [credit_sel s rb (s.trn i).q (fun e he => ((hw.tq i hi).1 e he).1)])
  have HR := Aside0.mk h
  have HRD := Aside0.mk hr
  have hH := hw.H8
  have htn := hw.tn
  have hem := hw.em
  obtain ⟨hl1, hl2, hl3, hl4, hl5, hl6, hl7, hl8⟩ := hw.tq i hi
  obtain ⟨Aq, cq, c5q, hRq⟩ := h.que i hi
  have c5 := h.fld 9 rfl
  have HCU := Aside0.mk hcu
  obtain ⟨l, hl⟩ : ∃ l, l = (s.trn i).q := ⟨_, rfl⟩
  rw [← hl] at c5q hRq hl1 hl2 hl3 hl8
  obtain ⟨Aq2, cq2, eq, hcq, hCq⟩ := Kd.R_reads hRq
  injection eq with e1 _ e3
  subst e1 e3
  have HL := Aside0.mk hl
  have HC := Aside0.mk hCq
  have HL1 := Aside0.mk hl1
  have HSN := Aside0.mk hl8
  have HND := Aside0.mk hl3
  have HW := Aside0.mk hw
  have HCU5 := Aside0.mk hl5
  clear h hw hr hl hRq hCq hl1 hl3 hl8 hcu hl4 hl5 hl6 hl7
  go_enter Try.func57, Try.ntmps57
  go_wp2_with (fail)
  clear c5 c5q
  go_loopw [8, 9, 10] (fun v8 v9 v10 w' => ∃ (k r a : Int), v10 = .int .i64 k ∧ v8 = .int .i64 r ∧ v9 = .int .i64 a ∧ -1 ≤ k ∧ k < l.length ∧ Aside0 (r = findQ s rb true (l.drop (k + 1).toNat) ∧ a = findQ s rb false (l.drop (k + 1).toNat)) ∧ Aside0 (Below W.heap.size W w')) (fun _ _ v10 _ => (intOf v10 + 1).toNat)
  case atStart => exact ⟨(l.length : Int) - 1, -1, -1, rfl, rfl, rfl, by omega, by omega, ⟨by rw [List.drop_eq_nil_of_le (by omega)]; exact ⟨rfl, rfl⟩⟩, ⟨Below.refl _ _⟩⟩
  case round =>
    obtain ⟨k, r, a, rfl, rfl, rfl, hk1, hk2, HF, HB⟩ := hrel
    have HRr := Aside0.mk (HR.out.below HB.out)
    have HRDr := Aside0.mk (HRD.out.below HB.out)
    by_cases hk : 0 ≤ k
    · obtain ⟨j, rfl⟩ := Int.eq_ofNat_of_zero_le hk
      have hj : j < l.length := by omega
      have HS1 := Aside0.mk (findQ_step s rb true hj)
      have HS2 := Aside0.mk (findQ_step s rb false hj)
      have hF1 := HF.out.1
      have hF2 := HF.out.2
      rw [show ((j : Int) + 1).toNat = j + 1 by omega] at hF1 hF2
      have HF1 := Aside0.mk hF1
      have HF2 := Aside0.mk hF2
      clear HF hF1 hF2
      obtain ⟨ad, e, hx⟩ := Kd.at_int (Kd.C_below HC.out HB.out) (j : Int) (by omega) (by omega)
      subst e
      have hm := HL1.out _ (rd_mem hj)
      obtain ⟨n, hn⟩ := Int.eq_ofNat_of_zero_le hm.1
      rw [Int.toNat_natCast, hn] at hx
      rw [hn] at hm
      have HN := Aside0.mk hn
      have hn2 : n < s.es.length := by omega
      have c5 := HRr.out.fld 5 rfl
      have y7 := HRr.out.ent n 7 hn2 (by decide) rfl
      have hcap := HR.out.cap
      obtain ⟨b, hb⟩ : ∃ b, readyF s rb (n : Int) = b := ⟨_, rfl⟩
      have HCN := Aside0.mk (rcan_is HRr.out HRDr.out (n : Int) (by omega) hb)
      obtain ⟨cd, hcd⟩ : ∃ cd, cd = (s.ent n).cd := ⟨_, rfl⟩
      have HRI := Aside0.mk (show richF s rb (n : Int) = (b && decide (0 < cd)) by unfold richF; rw [hb, hcd, Int.toNat_natCast])
      have HB0 := Aside0.mk hb
      rw [← hcd] at y7
      clear hb hcd hn hm
      cases b with
      | true =>
        by_cases hp : 0 < cd
        · have HG := Aside0.mk (show (n : Int) = findQ s rb true (l.drop j) ∧ (n : Int) = findQ s rb false (l.drop j) by rw [HS1.out, HS2.out, HN.out, HRI.out, HB0.out, decide_eq_true hp]; exact ⟨rfl, rfl⟩)
          clear HS1 HS2 HRI HB0
          go_wp2_with (first | (go_at_call 56; refine HCN.out.mono ?_; rintro e w1 ⟨rfl, rfl⟩) | fail)
          go_quiet (fail)
          go_wp2
          go_roundw
          case rel => exact ⟨(j : Int) - 1, _, _, rfl, rfl, rfl, by omega, by omega, ⟨by rw [show ((j : Int) - 1 + 1).toNat = j by omega]; exact HG.out⟩, ⟨pw_below_drewN HB.out nq⟩⟩
          case measure => (simp [intOf] <;> omega)
        · have HG := Aside0.mk (show r = findQ s rb true (l.drop j) ∧ (n : Int) = findQ s rb false (l.drop j) by rw [HS1.out, HS2.out, HN.out, HRI.out, HB0.out, decide_eq_false hp]; exact ⟨HF1.out, rfl⟩)
          clear HS1 HS2 HRI HB0
          go_wp2_with (first | (go_at_call 56; refine HCN.out.mono ?_; rintro e w1 ⟨rfl, rfl⟩) | fail)
          go_quiet (fail)
          go_wp2
          go_roundw
          case rel => exact ⟨(j : Int) - 1, _, _, rfl, rfl, rfl, by omega, by omega, ⟨by rw [show ((j : Int) - 1 + 1).toNat = j by omega]; exact HG.out⟩, ⟨pw_below_drewN HB.out nq⟩⟩
          case measure => (simp [intOf] <;> omega)
      | false =>
        have HG := Aside0.mk (show r = findQ s rb true (l.drop j) ∧ a = findQ s rb false (l.drop j) by rw [HS1.out, HS2.out, HN.out, HRI.out, HB0.out]; exact ⟨HF1.out, HF2.out⟩)
        clear HS1 HS2 HRI HB0
        go_wp2_with (first | (go_at_call 56; refine HCN.out.mono ?_; rintro e w1 ⟨rfl, rfl⟩) | fail)
        go_roundw
        case rel => exact ⟨(j : Int) - 1, _, _, rfl, rfl, rfl, by omega, by omega, ⟨by rw [show ((j : Int) - 1 + 1).toNat = j by omega]; exact HG.out⟩, HB⟩
        case measure => (simp [intOf] <;> omega)
    · obtain rfl : k = -1 := by omega
      have HF1 := Aside0.mk (show r = findQ s rb true l by have := HF.out.1; simpa using this)
      have HF2 := Aside0.mk (show a = findQ s rb false l by have := HF.out.2; simpa using this)
      clear HF
      have c6 := HRr.out.fld 10 rfl
      have c7 := HRr.out.fld 11 rfl
      have cn := HRr.out.now i hi
      have cu := HRr.out.used i hi
      have fn := HRr.out.N.frozen i
      have fu := HRr.out.U.frozen i
      rw [HCU.out] at cn
      go_wp2_with (fail)
      go_quiet (fail)
      obtain ⟨wq, hwq⟩ : ∃ wq, wq = wr.drewN nq := ⟨_, rfl⟩
      have HBq := Aside0.mk (show Below W.heap.size W wq by rw [hwq]; exact pw_below_drewN HB.out nq)
      rw [← hwq]
      have HRq := Aside0.mk (HR.out.below HBq.out)
      clear hwq HB HRr HRDr c6 c7 cn cu fn fu
      have c6 := HRq.out.fld 10 rfl
      have c7 := HRq.out.fld 11 rfl
      have cn := HRq.out.now i hi
      have fn := HRq.out.N.frozen i
      obtain ⟨rr, hrr⟩ : ∃ rr, rr = (if r < 0 then a else r) := ⟨_, rfl⟩
      have HRR := Aside0.mk hrr
      have HE2 := Aside0.mk (show creditF2 s i rb (someF s i rb) = if rr = -1 then (-1, s) else (rr, s.modT i fun t => { t with cu := rr, us := 0 }) by rw [HE.out, HRR.out, HF1.out, HF2.out, HL.out])
      have HLO := Aside0.mk (show -1 ≤ rr by
        have h1 : ∀ sm, -1 ≤ findQ s rb sm l := fun sm => by
          rcases findQ_range (s := s) (rd := rb) (sm := sm) l HL1.out with e | e
          · omega
          · have := (HL1.out _ e).1; omega
        rw [HRR.out, HF1.out, HF2.out]
        split
        · exact h1 _
        · exact h1 _)
      have HSIT := Aside0.mk (HRq.out.sit i hi HCU.out rr HLO.out)
      clear HE
      by_cases hr0 : r < 0
      · rw [if_pos hr0] at hrr
        subst hrr
        go_upto_region 29 with (fail)
        obtain ⟨w3, hw3⟩ : ∃ w3, w3 = wq.setCell ⟨L.bn, i, none⟩ (.int .i64 rr) := ⟨_, rfl⟩
        have HSI := HSIT
        rw [← hw3] at HSI ⊢
        have d7 := HSI.out.1.fld 11 rfl
        have du := HSI.out.1.used i (by simpa [SS.modT] using hi)
        have fu := HSI.out.1.U.frozen i
        have HM3 := Aside0.mk (show Mut own W w3 by rw [hw3]; exact (Mut.of_below HBq.out own).setCell (.inl HR.out.ob.2.2.2.2.1) _)
        clear hw3 c6 c7 cn fn HSIT
        go_wp2
        go_ret
        refine ⟨by rw [HE2.out]; split <;> simp_all, own, L.qs, L.us.set i 0, ?_, HM3.out.setCell (.inl HR.out.ob.2.2.2.2.2) _, fun _ h => h, fun _ h => .inl h⟩
        have h9 := HSI.out.2
        rw [HE2.out]
        split
        · next e => rw [if_pos e] at h9; exact h9
        · next e => rw [if_neg e] at h9; exact h9
      · rw [if_neg hr0] at hrr
        subst hrr
        go_upto_region 29 with (fail)
        obtain ⟨w3, hw3⟩ : ∃ w3, w3 = wq.setCell ⟨L.bn, i, none⟩ (.int .i64 rr) := ⟨_, rfl⟩
        have HSI := HSIT
        rw [← hw3] at HSI ⊢
        have d7 := HSI.out.1.fld 11 rfl
        have du := HSI.out.1.used i (by simpa [SS.modT] using hi)
        have fu := HSI.out.1.U.frozen i
        have HM3 := Aside0.mk (show Mut own W w3 by rw [hw3]; exact (Mut.of_below HBq.out own).setCell (.inl HR.out.ob.2.2.2.2.1) _)
        clear hw3 c6 c7 cn fn HSIT
        go_wp2
        go_ret
        refine ⟨by rw [HE2.out]; split <;> simp_all, own, L.qs, L.us.set i 0, ?_, HM3.out.setCell (.inl HR.out.ob.2.2.2.2.2) _, fun _ h => h, fun _ h => .inl h⟩
        have h9 := HSI.out.2
        rw [HE2.out]
        split
        · next e => rw [if_pos e] at h9; exact h9
        · next e => rw [if_neg e] at h9; exact h9
end Go.Proofs.Ytdaadmjppikebaa.SC

/- SchedPlays: the document's pick by credit. -/
namespace Go.Proofs.Ytdaadmjppikebaa.SC
open Go.RowKit Go.Proofs.YtdaadmjppikebaaW.PrintWords Go.Proofs.YtdaadmjppikebaaW.PrintLast
open Go.Proofs.Ytdaadmjppikebaa.PV (S94 k94 S29 k29 rd_T94 rd_T29)
set_option linter.unusedVariables false
set_option linter.unusedSimpArgs false

theorem back_shorter {l : List Int} {x : Int} : x ∈ l → (l.filter fun y => y != x).length + 1 ≤ l.length := by
  induction l with
  | nil => intro h; cases h
  | cons y r ih =>
    intro h
    by_cases e : y = x
    · subst e
      simp only [List.filter_cons, bne_self_eq_false, List.length_cons]
      have := List.length_filter_le (fun z => z != y) r
      simp; omega
    · have hx : x ∈ r := by rcases List.mem_cons.1 h with h | h; exact absurd h.symm e; exact h
      have := ih hx
      have hb : (y != x) = true := by simpa using e
      simp only [List.filter_cons, hb, if_true, List.length_cons]; omega
theorem take_filter (l : List Int) (k : Nat) (m : Int) (hk : k < l.length) : (l.take (k + 1)).filter (fun x => x != m) = (l.take k).filter (fun x => x != m) ++ (if (rd l k != m) = true then [rd l k] else []) := by
  have h1 : l[k]? = some (rd l k) := by
    have := drop_int hk
    have h2 : (l.drop k)[0]? = l[k]? := by simp
    rw [← h2, this]; rfl
  rw [List.take_add_one, h1, List.filter_append]
  congr 1
  simp only [Option.toList_some, List.filter_cons, List.filter_nil]
theorem some_neg (s : SS) (rb : List Bool) (l : List Int) (hl : ∀ e ∈ l, 0 ≤ e) : (!(l.any (richF s rb))) = decide (findQ s rb true l < 0) := by
  cases h : l.any (richF s rb) with
  | true =>
    rw [decide_eq_false]; rfl
    intro hn
    obtain ⟨x, hx, hr⟩ := List.any_eq_true.1 h
    rcases findQ_mem s rb true l with e | ⟨hm, _⟩
    · have := findQ_none s rb true l hl e x hx
      rw [hr] at this; simp at this
    · have := hl _ hm; omega
  | false =>
    rw [decide_eq_true]; rfl
    rcases findQ_mem s rb true l with e | ⟨hm, _⟩
    · omega
    · exfalso
      rcases findQ_rich1 s rb true l (by have := hl _ hm; omega) with q | q
      · have := List.any_eq_false.1 h _ hm; exact this q
      · cases q
theorem some_back {s : SS} (hw : Wf s) {i : Nat} (hi : i < s.ts.length) (hc : 0 ≤ (s.trn i).cu) {rb : List Bool} : someF (s.modT i backF) i rb = someF s i rb := by
  unfold someF
  rw [modT_trn _ hi, if_pos rfl]
  rw [Bool.eq_iff_iff, List.any_eq_true, List.any_eq_true]
  have hm := back_mem (hw.tq i hi).2.2.2.2.2.2.2 hc
  constructor
  · rintro ⟨x, hx, hr⟩; exact ⟨x, (hm x).1 hx, hr⟩
  · rintro ⟨x, hx, hr⟩; exact ⟨x, (hm x).2 hx, hr⟩
theorem RS.gbl {W : World} {own : Nat → Prop} {L : RLy} {s : SS} (h : RS W own L s) : ∀ ad, L.Ag = some ad → 0 < L.gl.length → ad.block < W.heap.size := fun ad e hl => by
  have hg : s.gs.length = L.gl.length := by rw [h.gl]; simp [guestsL]
  obtain ⟨ad2, e2, h1, _⟩ := h.G 0 (by omega)
  rw [e] at e2
  injection e2 with e2
  subst e2
  have := World.block_lt_of_cell? W _ h1
  rwa [add_block] at this
theorem RS.back {W w2 : World} {own : Nat → Prop} {L : RLy} {s : SS} (h : RS W own L s) (i : Nat) (hi : i < s.ts.length) (hb : Below W.heap.size W w2) {v : Value} (hR : Kd.R (Kd.int .i64) 3 w2 W.heap.size (fun _ => True) v (backF (s.trn i)).q) :
    RS (w2.setCell ⟨L.bq, i, none⟩ v) (fun k => own k ∨ v.ownBlock = some k) { L with qs := L.qs.set i v } (s.modT i fun t => { t with q := (backF t).q }) ∧
    RS ((w2.setCell ⟨L.bq, i, none⟩ v).setCell ⟨L.bn, i, none⟩ (.int .i64 (-1))) (fun k => own k ∨ v.ownBlock = some k) { L with qs := L.qs.set i v } (s.modT i backF) := by
  have h1 := (h.below hb).putQ i hi v _ (fun t => { t with q := (backF t).q }) ⟨rfl, rfl, rfl⟩ hR h.lt h.gbl
  refine ⟨h1, ?_⟩
  have h2 := h1.putCu i (by simpa [SS.modT] using hi) (-1) (fun t => { t with cu := -1 }) rfl rfl (fun h0 => by omega)
  rw [modT_modT] at h2
  exact h2
theorem RPost.next {W w1 w' : World} {own own1 : Nat → Prop} {L : RLy} {s' : SS} {qs1 : List Value} (hm : Mut own W w1) (h1 : ∀ k, own k → own1 k) (h2 : ∀ k, own1 k → own k ∨ W.heap.size ≤ k) (h : RPost w1 own1 { L with qs := qs1 } s' w') : RPost W own L s' w' := by
  obtain ⟨own', qs', us', hr, hmm, h3, h4⟩ := h
  exact ⟨own', qs', us', hr, hm.trans hmm h2, fun k hk => h3 k (h1 k hk), fun k hk => (h4 k hk).elim (h2 k) (fun h => .inr (Nat.le_trans hm.size h))⟩
set_option maxRecDepth 100000 in
set_option maxHeartbeats 6400000 in
theorem rcredit_some {W : World} {own : Nat → Prop} {L : RLy} {s : SS} {rb : List Bool} {A : Option Addr} {c : Nat} (h : RS W own L s) (hw : Wf s) (hr : RD W rb A c) (hno : ∀ ad, A = some ad → ¬ own ad.block) (i : Nat) (hi : i < s.ts.length) (hcu : 0 ≤ (s.trn i).cu) :
    Calls Try.prog 57 #[.pointer (some ⟨L.b, 0, none⟩), .int .i64 (i : Int), .slice A rb.length c] W fun x w' => x = .returned (.int .i64 (byCreditF s i rb).1) ∧ RPost W own L (byCreditF s i rb).2 w' := by
  have HR := Aside0.mk h
  have HRD := Aside0.mk hr
  have hH := hw.H8
  have htn := hw.tn
  have hem := hw.em
  obtain ⟨hl1, hl2, hl3, hl4, hl5, hl6, hl7, hl8⟩ := hw.tq i hi
  obtain ⟨Aq, cq, c5q, hRq⟩ := h.que i hi
  have c5 := h.fld 9 rfl
  have HC0 := Aside0.mk hcu
  obtain ⟨l, hl⟩ : ∃ l, l = (s.trn i).q := ⟨_, rfl⟩
  rw [← hl] at c5q hRq hl1 hl2 hl3 hl8
  obtain ⟨Aq2, cq2, eq, hcq, hCq⟩ := Kd.R_reads hRq
  injection eq with e1 _ e3
  subst e1 e3
  have HL := Aside0.mk hl
  have HC := Aside0.mk hCq
  have HL1 := Aside0.mk hl1
  have HSN := Aside0.mk hl8
  have HND := Aside0.mk hl3
  have HW := Aside0.mk hw
  have HNO := Aside0.mk hno
  have HCU5 := Aside0.mk hl5
  clear h hw hr hl hRq hCq hl1 hl3 hl8 hno hcu hl4 hl5 hl6 hl7
  go_enter Try.func57, Try.ntmps57
  go_wp2_with (fail)
  clear c5 c5q
  go_loopw [8, 9, 10] (fun v8 v9 v10 w' => ∃ (k r a : Int), v10 = .int .i64 k ∧ v8 = .int .i64 r ∧ v9 = .int .i64 a ∧ -1 ≤ k ∧ k < l.length ∧ Aside0 (r = findQ s rb true (l.drop (k + 1).toNat) ∧ a = findQ s rb false (l.drop (k + 1).toNat)) ∧ Aside0 (Below W.heap.size W w')) (fun _ _ v10 _ => (intOf v10 + 1).toNat)
  case atStart => exact ⟨(l.length : Int) - 1, -1, -1, rfl, rfl, rfl, by omega, by omega, ⟨by rw [List.drop_eq_nil_of_le (by omega)]; exact ⟨rfl, rfl⟩⟩, ⟨Below.refl _ _⟩⟩
  case round =>
    obtain ⟨k, r, a, rfl, rfl, rfl, hk1, hk2, HF, HB⟩ := hrel
    have HRr := Aside0.mk (HR.out.below HB.out)
    have HRDr := Aside0.mk (HRD.out.below HB.out)
    by_cases hk : 0 ≤ k
    · obtain ⟨j, rfl⟩ := Int.eq_ofNat_of_zero_le hk
      have hj : j < l.length := by omega
      have HS1 := Aside0.mk (findQ_step s rb true hj)
      have HS2 := Aside0.mk (findQ_step s rb false hj)
      have hF1 := HF.out.1
      have hF2 := HF.out.2
      rw [show ((j : Int) + 1).toNat = j + 1 by omega] at hF1 hF2
      have HF1 := Aside0.mk hF1
      have HF2 := Aside0.mk hF2
      clear HF hF1 hF2
      obtain ⟨ad, e, hx⟩ := Kd.at_int (Kd.C_below HC.out HB.out) (j : Int) (by omega) (by omega)
      subst e
      have hm := HL1.out _ (rd_mem hj)
      obtain ⟨n, hn⟩ := Int.eq_ofNat_of_zero_le hm.1
      rw [Int.toNat_natCast, hn] at hx
      rw [hn] at hm
      have HN := Aside0.mk hn
      have hn2 : n < s.es.length := by omega
      have c5 := HRr.out.fld 5 rfl
      have y7 := HRr.out.ent n 7 hn2 (by decide) rfl
      have hcap := HR.out.cap
      obtain ⟨b, hb⟩ : ∃ b, readyF s rb (n : Int) = b := ⟨_, rfl⟩
      have HCN := Aside0.mk (rcan_is HRr.out HRDr.out (n : Int) (by omega) hb)
      obtain ⟨cd, hcd⟩ : ∃ cd, cd = (s.ent n).cd := ⟨_, rfl⟩
      have HRI := Aside0.mk (show richF s rb (n : Int) = (b && decide (0 < cd)) by unfold richF; rw [hb, hcd, Int.toNat_natCast])
      have HB0 := Aside0.mk hb
      rw [← hcd] at y7
      clear hb hcd hn hm
      cases b with
      | true =>
        by_cases hp : 0 < cd
        · have HG := Aside0.mk (show (n : Int) = findQ s rb true (l.drop j) ∧ (n : Int) = findQ s rb false (l.drop j) by rw [HS1.out, HS2.out, HN.out, HRI.out, HB0.out, decide_eq_true hp]; exact ⟨rfl, rfl⟩)
          clear HS1 HS2 HRI HB0
          go_wp2_with (first | (go_at_call 56; refine HCN.out.mono ?_; rintro e w1 ⟨rfl, rfl⟩) | fail)
          go_quiet (fail)
          go_wp2
          go_roundw
          case rel => exact ⟨(j : Int) - 1, _, _, rfl, rfl, rfl, by omega, by omega, ⟨by rw [show ((j : Int) - 1 + 1).toNat = j by omega]; exact HG.out⟩, ⟨pw_below_drewN HB.out nq⟩⟩
          case measure => (simp [intOf] <;> omega)
        · have HG := Aside0.mk (show r = findQ s rb true (l.drop j) ∧ (n : Int) = findQ s rb false (l.drop j) by rw [HS1.out, HS2.out, HN.out, HRI.out, HB0.out, decide_eq_false hp]; exact ⟨HF1.out, rfl⟩)
          clear HS1 HS2 HRI HB0
          go_wp2_with (first | (go_at_call 56; refine HCN.out.mono ?_; rintro e w1 ⟨rfl, rfl⟩) | fail)
          go_quiet (fail)
          go_wp2
          go_roundw
          case rel => exact ⟨(j : Int) - 1, _, _, rfl, rfl, rfl, by omega, by omega, ⟨by rw [show ((j : Int) - 1 + 1).toNat = j by omega]; exact HG.out⟩, ⟨pw_below_drewN HB.out nq⟩⟩
          case measure => (simp [intOf] <;> omega)
      | false =>
        have HG := Aside0.mk (show r = findQ s rb true (l.drop j) ∧ a = findQ s rb false (l.drop j) by rw [HS1.out, HS2.out, HN.out, HRI.out, HB0.out]; exact ⟨HF1.out, HF2.out⟩)
        clear HS1 HS2 HRI HB0
        go_wp2_with (first | (go_at_call 56; refine HCN.out.mono ?_; rintro e w1 ⟨rfl, rfl⟩) | fail)
        go_roundw
        case rel => exact ⟨(j : Int) - 1, _, _, rfl, rfl, rfl, by omega, by omega, ⟨by rw [show ((j : Int) - 1 + 1).toNat = j by omega]; exact HG.out⟩, HB⟩
        case measure => (simp [intOf] <;> omega)
    · obtain rfl : k = -1 := by omega
      have HF1 := Aside0.mk (show r = findQ s rb true l by have := HF.out.1; simpa using this)
      have HF2 := Aside0.mk (show a = findQ s rb false l by have := HF.out.2; simpa using this)
      clear HF
      have c6 := HRr.out.fld 10 rfl
      have c7 := HRr.out.fld 11 rfl
      have cn := HRr.out.now i hi
      have cu := HRr.out.used i hi
      have fn := HRr.out.N.frozen i
      have fu := HRr.out.U.frozen i
      obtain ⟨m, hm⟩ := Int.eq_ofNat_of_zero_le HC0.out
      rw [hm] at cn
      have HM := Aside0.mk hm
      have hm2 : m < s.es.length := by have := HCU5.out; rw [hm] at this; omega
      have huv := HR.out.uv i hi HC0.out
      rw [huv] at cu
      have c1 := HRr.out.fld 1 rfl
      have c5 := HRr.out.fld 5 rfl
      have y7 := HRr.out.ent m 7 hm2 (by decide) rfl
      have hcap := HR.out.cap
      obtain ⟨us, hus⟩ : ∃ us, us = (s.trn i).us := ⟨_, rfl⟩
      obtain ⟨cd, hcd⟩ : ∃ cd, cd = (s.ent m).cd := ⟨_, rfl⟩
      obtain ⟨b, hb⟩ : ∃ b, readyF s rb (m : Int) = b := ⟨_, rfl⟩
      have HGO := Aside0.mk (show goesOn s i rb = (b && decide (us < s.S) && ((b && decide (0 < cd)) || decide (r < 0))) by
        unfold goesOn richF someF
        rw [hm, hb, ← hus, Int.toNat_natCast, ← hcd, HF1.out, ← HL.out, some_neg s rb l (fun e he => (HL1.out e he).1)])
      rw [← hus] at cu
      rw [← hcd] at y7
      have HBV := Aside0.mk hb
      clear hm huv hus hcd hb
      cases b with
      | false =>
        have HOFF := Aside0.mk (show goesOn s i rb = false by rw [HGO.out]; simp [*])
        clear HGO
        go_wp2_with (fail)
        go_quiet ((go_at_call 56; exact Calls.quiet_of_same (same_of (rcan_is (HRr.out.drewN _) (HRDr.out.drewN _) _ ⟨by omega, by omega⟩ HBV.out))))
        obtain ⟨wq, hwq⟩ : ∃ wq, wq = wr.drewN nq := ⟨_, rfl⟩
        have HBq := Aside0.mk (show Below W.heap.size W wq by rw [hwq]; exact pw_below_drewN HB.out nq)
        rw [← hwq]
        clear hwq HB HRr HRDr c1 c5 c6 c7 cn cu fn fu y7 HF1 HF2
        go_wp2
        go_loopw [12, 13] (fun v12 v13 w' => ∃ k : Nat, v13 = .int .i64 (k : Int) ∧ k ≤ l.length ∧ Aside0 (Kd.R (Kd.int .i64) 3 w' W.heap.size (fun _ => True) v12 ((l.take k).filter fun x => x != (m : Int))) ∧ Aside0 (Below W.heap.size W w')) (fun _ v13 _ => l.length - (intOf v13).toNat)
        case atStart => exact ⟨0, rfl, by omega, ⟨Kd.R_nil _ _ _ _ _⟩, HBq⟩
        case round =>
          clear HBq
          obtain ⟨k, rfl, hk, HO, HB⟩ := hrel
          by_cases hlt : k < l.length
          · obtain ⟨ad, e, hx⟩ := Kd.at_int (Kd.C_below HC.out HB.out) (k : Int) (by omega) (by omega)
            subst e
            rw [Int.toNat_natCast] at hx
            have HT := Aside0.mk (take_filter l k (m : Int) hlt)
            have HL := Aside0.mk (show ((l.take k).filter fun x => x != (m : Int)).length ≤ 64 by have := List.length_filter_le (fun x => x != (m : Int)) (l.take k); simp at this ⊢; omega)
            by_cases hq : rd l k = (m : Int)
            · have HPP := Aside0.mk (show (l.take (k + 1)).filter (fun x => x != (m : Int)) = (l.take k).filter (fun x => x != (m : Int)) by rw [HT.out, if_neg (by simp [hq]), List.append_nil])
              have b1 : (rd l k != (m : Int)) = false := by simp [hq]
              have b2 : (rd l k == (m : Int)) = true := by simp [hq]
              clear HT
              go_wp2
              go_roundw
              case rel => exact ⟨k + 1, by go_num, by omega, ⟨by rw [HPP.out]; exact HO.out⟩, HB⟩
              case measure => (simp [intOf] <;> omega)
            · have HPP := Aside0.mk (show (l.take (k + 1)).filter (fun x => x != (m : Int)) = (l.take k).filter (fun x => x != (m : Int)) ++ [rd l k] by rw [HT.out, if_pos (by simpa using hq)])
              have b1 : (rd l k != (m : Int)) = true := by simp [hq]
              have b2 : (rd l k == (m : Int)) = false := by simp [hq]
              clear HT
              go_wp2_with (first | ((with_reducible refine gate_builtin (b := .append) (xs := #[.tmp 115, .tmp 120]) rfl ?_); go_loud (at_builtin; refine Kd.R_append (Kd.int .i64) (w0 := W) W.heap.size rfl (.tmp 115) (.tmp 120) 22 3 (.int .i64 0) 8 rfl Try.underlying22 info3 rfl (by decide) (by omega) u12 ((l.take k).filter fun x => x != (m : Int)) (rd l k) [.int .i64 (rd l k)] (fun _ => True) (fun _ => False) rfl rfl ?aP (fun _ hk => hk.elim) ?aF ?aO ?aB ?aS ?aL ?_; (case aP => exact rfl); (case aF => exact (fun _ _ => trivial)); (case aO => exact HO.out); (case aB => exact HB.out); (case aS => exact (HB.out).size); (case aL => have := HL.out; simp; omega); intro v1 w1 ho hbb hg hat; have HO2 := Aside0.mk ho; have HB2 := Aside0.mk hbb; clear ho hbb hg hat)) | fail)
              go_roundw
              case rel => exact ⟨k + 1, by go_num, by omega, ⟨by rw [HPP.out]; exact HO2.out⟩, HB2⟩
              case measure => (simp [intOf] <;> omega)
          · obtain rfl : k = l.length := by omega
            rw [List.take_length] at HO
            have HSH := Aside0.mk (back_shorter (HSN.out HC0.out))
            rw [HM.out] at HSH
            obtain ⟨xs, hxs⟩ : ∃ xs, xs = l.filter fun x => x != (m : Int) := ⟨_, rfl⟩
            rw [← hxs] at HO HSH
            have HXS := Aside0.mk hxs
            clear hxs
            have hsh := HSH.out
            obtain ⟨A1, q1, e1, hq1, hC1⟩ := Kd.R_reads HO.out
            subst e1
            clear hC1
            go_upto_region 23 with (first | ((with_reducible refine gate_builtin (b := .append) (xs := #[.tmp 127, .tmp 129]) rfl ?_); go_loud (at_builtin; refine Kd.R_append (Kd.int .i64) (w0 := W) W.heap.size rfl (.tmp 127) (.tmp 129) 22 3 (.int .i64 0) 8 rfl Try.underlying22 info3 rfl (by decide) (by omega) (.slice A1 xs.length q1) (xs) ((m : Int)) [.int .i64 ((m : Int))] (fun _ => True) (fun _ => False) rfl rfl ?aP (fun _ hk => hk.elim) ?aF ?aO ?aB ?aS ?aL ?_; (case aP => exact rfl); (case aF => exact (fun _ _ => trivial)); (case aO => exact HO.out); (case aB => exact HB.out); (case aS => exact (HB.out).size); (case aL => have := HSH.out; simp; omega); intro v1 w1 ho hbb hg hat; have HO2 := Aside0.mk ho; have HB2 := Aside0.mk hbb; clear ho hbb hg hat)) | fail)
            obtain ⟨A2, q2, e2⟩ := Kd.R_slice HO2.out
            rw [show (xs ++ [(m : Int)]).length = xs.length + 1 by simp] at e2
            subst e2
            have HRw := Aside0.mk (HR.out.below HB2.out)
            have c6 := HRw.out.fld 10 rfl
            have c5 := HRw.out.fld 9 rfl
            obtain ⟨A9, c9, cq9, _⟩ := HRw.out.que i hi
            have fq := HRw.out.Qb.frozen i
            have HBK := Aside0.mk (show (backF (s.trn i)).q = xs ++ [(m : Int)] by unfold backF; rw [HM.out, HXS.out, HL.out])
            have HRB := Aside0.mk (HR.out.back i hi HB2.out (by rw [HBK.out]; exact HO2.out))
            go_upto_region 24 with (fail)
            obtain ⟨w3, hw3⟩ : ∃ w3, w3 = w1.setCell ⟨L.bq, i, none⟩ (.slice A2 (xs.length + 1) q2) := ⟨_, rfl⟩
            have HRC := HRB
            rw [← hw3] at HRC ⊢
            have HM3 := Aside0.mk (show Mut own W w3 by rw [hw3]; exact (Mut.of_below HB2.out own).setCell (.inl HR.out.ob.2.2.2.1) _)
            have HBA := Aside0.mk (show ∀ k, (Value.slice A2 (xs.length + 1) q2).ownBlock = some k → W.heap.size ≤ k from fun k hk => Kd.R_base HO2.out k hk)
            clear hw3 c5 c6 cq9 fq HRB HRw
            have c6 := HRC.out.1.fld 10 rfl
            have cn := HRC.out.1.now i (by simpa [SS.modT] using hi)
            have fn := HRC.out.1.N.frozen i
            go_upto_region 25 with (fail)
            obtain ⟨w4, hw4⟩ : ∃ w4, w4 = w3.setCell ⟨L.bn, i, none⟩ (.int .i64 (-1)) := ⟨_, rfl⟩
            have HRD4 := HRC
            rw [← hw4] at HRD4 ⊢
            have HM4 := Aside0.mk (show Mut own W w4 by rw [hw4]; exact HM3.out.setCell (.inl HR.out.ob.2.2.2.2.1) _)
            clear hw4 c6 cn fn HRC
            have HCALL := Aside0.mk (rcredit_none HRD4.out.2 (HW.out.modT i hi backF (TQ.back HW.out hi HC0.out)) (HRD.out.mut HM4.out (fun ad e => HNO.out ad e)) i (by simpa [SS.modT] using hi) (by rw [modT_trn _ hi, if_pos rfl]; rfl))
            go_wp2_with (first | (go_at_call 57; refine HCALL.out.mono ?_; rintro e w5 ⟨rfl, hp⟩; have HP := Aside0.mk hp; clear hp) | fail)
            go_ret
            have HE := Aside0.mk (show byCreditF s i rb = creditF2 (s.modT i backF) i rb (someF (s.modT i backF) i rb) by unfold byCreditF; rw [if_pos HC0.out, if_neg (by rw [HOFF.out]; decide), some_back HW.out hi HC0.out])
            exact ⟨by rw [HE.out]; rfl, by rw [HE.out]; exact RPost.next HM4.out (fun k hk => .inl hk) (fun k hk => hk.imp id (fun h => HBA.out k h)) HP.out⟩
      | true =>
        by_cases hu : us < s.S
        · have e1 : decide (us < s.S) = true := decide_eq_true hu
          by_cases hp : 0 < cd
          · have e2 : decide (0 < cd) = true := decide_eq_true hp
            have e2' : decide (cd > 0) = true := decide_eq_true hp
            go_wp2_with (fail)
            go_quiet ((go_at_call 56; exact Calls.quiet_of_same (same_of (rcan_is (HRr.out.drewN _) (HRDr.out.drewN _) _ ⟨by omega, by omega⟩ HBV.out))))
            go_wp2
            go_ret
            have HE := Aside0.mk (show byCreditF s i rb = ((m : Int), s) by unfold byCreditF; rw [if_pos HC0.out, if_pos (by rw [HGO.out]; simp [*]), HM.out])
            exact ⟨by rw [HE.out]; rfl, by rw [HE.out]; exact RPost.same HR.out (pw_below_drewN HB.out nq)⟩
          · have e2 : decide (0 < cd) = false := decide_eq_false hp
            have e2' : decide (cd > 0) = false := decide_eq_false hp
            by_cases hrn : r < 0
            · have e3 : decide (r < 0) = true := decide_eq_true hrn
              go_wp2_with (fail)
              go_quiet ((go_at_call 56; exact Calls.quiet_of_same (same_of (rcan_is (HRr.out.drewN _) (HRDr.out.drewN _) _ ⟨by omega, by omega⟩ HBV.out))))
              go_wp2
              go_ret
              have HE := Aside0.mk (show byCreditF s i rb = ((m : Int), s) by unfold byCreditF; rw [if_pos HC0.out, if_pos (by rw [HGO.out]; simp [*]), HM.out])
              exact ⟨by rw [HE.out]; rfl, by rw [HE.out]; exact RPost.same HR.out (pw_below_drewN HB.out nq)⟩
            · have e3 : decide (r < 0) = false := decide_eq_false hrn
              have HOFF := Aside0.mk (show goesOn s i rb = false by rw [HGO.out]; simp [*])
              clear HGO
              go_wp2_with (fail)
              go_quiet ((go_at_call 56; exact Calls.quiet_of_same (same_of (rcan_is (HRr.out.drewN _) (HRDr.out.drewN _) _ ⟨by omega, by omega⟩ HBV.out))))
              obtain ⟨wq, hwq⟩ : ∃ wq, wq = wr.drewN nq := ⟨_, rfl⟩
              have HBq := Aside0.mk (show Below W.heap.size W wq by rw [hwq]; exact pw_below_drewN HB.out nq)
              rw [← hwq]
              clear hwq HB HRr HRDr c1 c5 c6 c7 cn cu fn fu y7 HF1 HF2
              go_wp2
              go_loopw [12, 13] (fun v12 v13 w' => ∃ k : Nat, v13 = .int .i64 (k : Int) ∧ k ≤ l.length ∧ Aside0 (Kd.R (Kd.int .i64) 3 w' W.heap.size (fun _ => True) v12 ((l.take k).filter fun x => x != (m : Int))) ∧ Aside0 (Below W.heap.size W w')) (fun _ v13 _ => l.length - (intOf v13).toNat)
              case atStart => exact ⟨0, rfl, by omega, ⟨Kd.R_nil _ _ _ _ _⟩, HBq⟩
              case round =>
                clear HBq
                obtain ⟨k, rfl, hk, HO, HB⟩ := hrel
                by_cases hlt : k < l.length
                · obtain ⟨ad, e, hx⟩ := Kd.at_int (Kd.C_below HC.out HB.out) (k : Int) (by omega) (by omega)
                  subst e
                  rw [Int.toNat_natCast] at hx
                  have HT := Aside0.mk (take_filter l k (m : Int) hlt)
                  have HL := Aside0.mk (show ((l.take k).filter fun x => x != (m : Int)).length ≤ 64 by have := List.length_filter_le (fun x => x != (m : Int)) (l.take k); simp at this ⊢; omega)
                  by_cases hq : rd l k = (m : Int)
                  · have HPP := Aside0.mk (show (l.take (k + 1)).filter (fun x => x != (m : Int)) = (l.take k).filter (fun x => x != (m : Int)) by rw [HT.out, if_neg (by simp [hq]), List.append_nil])
                    have b1 : (rd l k != (m : Int)) = false := by simp [hq]
                    have b2 : (rd l k == (m : Int)) = true := by simp [hq]
                    clear HT
                    go_wp2
                    go_roundw
                    case rel => exact ⟨k + 1, by go_num, by omega, ⟨by rw [HPP.out]; exact HO.out⟩, HB⟩
                    case measure => (simp [intOf] <;> omega)
                  · have HPP := Aside0.mk (show (l.take (k + 1)).filter (fun x => x != (m : Int)) = (l.take k).filter (fun x => x != (m : Int)) ++ [rd l k] by rw [HT.out, if_pos (by simpa using hq)])
                    have b1 : (rd l k != (m : Int)) = true := by simp [hq]
                    have b2 : (rd l k == (m : Int)) = false := by simp [hq]
                    clear HT
                    go_wp2_with (first | ((with_reducible refine gate_builtin (b := .append) (xs := #[.tmp 115, .tmp 120]) rfl ?_); go_loud (at_builtin; refine Kd.R_append (Kd.int .i64) (w0 := W) W.heap.size rfl (.tmp 115) (.tmp 120) 22 3 (.int .i64 0) 8 rfl Try.underlying22 info3 rfl (by decide) (by omega) u12 ((l.take k).filter fun x => x != (m : Int)) (rd l k) [.int .i64 (rd l k)] (fun _ => True) (fun _ => False) rfl rfl ?aP (fun _ hk => hk.elim) ?aF ?aO ?aB ?aS ?aL ?_; (case aP => exact rfl); (case aF => exact (fun _ _ => trivial)); (case aO => exact HO.out); (case aB => exact HB.out); (case aS => exact (HB.out).size); (case aL => have := HL.out; simp; omega); intro v1 w1 ho hbb hg hat; have HO2 := Aside0.mk ho; have HB2 := Aside0.mk hbb; clear ho hbb hg hat)) | fail)
                    go_roundw
                    case rel => exact ⟨k + 1, by go_num, by omega, ⟨by rw [HPP.out]; exact HO2.out⟩, HB2⟩
                    case measure => (simp [intOf] <;> omega)
                · obtain rfl : k = l.length := by omega
                  rw [List.take_length] at HO
                  have HSH := Aside0.mk (back_shorter (HSN.out HC0.out))
                  rw [HM.out] at HSH
                  obtain ⟨xs, hxs⟩ : ∃ xs, xs = l.filter fun x => x != (m : Int) := ⟨_, rfl⟩
                  rw [← hxs] at HO HSH
                  have HXS := Aside0.mk hxs
                  clear hxs
                  have hsh := HSH.out
                  obtain ⟨A1, q1, e1, hq1, hC1⟩ := Kd.R_reads HO.out
                  subst e1
                  clear hC1
                  go_upto_region 23 with (first | ((with_reducible refine gate_builtin (b := .append) (xs := #[.tmp 127, .tmp 129]) rfl ?_); go_loud (at_builtin; refine Kd.R_append (Kd.int .i64) (w0 := W) W.heap.size rfl (.tmp 127) (.tmp 129) 22 3 (.int .i64 0) 8 rfl Try.underlying22 info3 rfl (by decide) (by omega) (.slice A1 xs.length q1) (xs) ((m : Int)) [.int .i64 ((m : Int))] (fun _ => True) (fun _ => False) rfl rfl ?aP (fun _ hk => hk.elim) ?aF ?aO ?aB ?aS ?aL ?_; (case aP => exact rfl); (case aF => exact (fun _ _ => trivial)); (case aO => exact HO.out); (case aB => exact HB.out); (case aS => exact (HB.out).size); (case aL => have := HSH.out; simp; omega); intro v1 w1 ho hbb hg hat; have HO2 := Aside0.mk ho; have HB2 := Aside0.mk hbb; clear ho hbb hg hat)) | fail)
                  obtain ⟨A2, q2, e2⟩ := Kd.R_slice HO2.out
                  rw [show (xs ++ [(m : Int)]).length = xs.length + 1 by simp] at e2
                  subst e2
                  have HRw := Aside0.mk (HR.out.below HB2.out)
                  have c6 := HRw.out.fld 10 rfl
                  have c5 := HRw.out.fld 9 rfl
                  obtain ⟨A9, c9, cq9, _⟩ := HRw.out.que i hi
                  have fq := HRw.out.Qb.frozen i
                  have HBK := Aside0.mk (show (backF (s.trn i)).q = xs ++ [(m : Int)] by unfold backF; rw [HM.out, HXS.out, HL.out])
                  have HRB := Aside0.mk (HR.out.back i hi HB2.out (by rw [HBK.out]; exact HO2.out))
                  go_upto_region 24 with (fail)
                  obtain ⟨w3, hw3⟩ : ∃ w3, w3 = w1.setCell ⟨L.bq, i, none⟩ (.slice A2 (xs.length + 1) q2) := ⟨_, rfl⟩
                  have HRC := HRB
                  rw [← hw3] at HRC ⊢
                  have HM3 := Aside0.mk (show Mut own W w3 by rw [hw3]; exact (Mut.of_below HB2.out own).setCell (.inl HR.out.ob.2.2.2.1) _)
                  have HBA := Aside0.mk (show ∀ k, (Value.slice A2 (xs.length + 1) q2).ownBlock = some k → W.heap.size ≤ k from fun k hk => Kd.R_base HO2.out k hk)
                  clear hw3 c5 c6 cq9 fq HRB HRw
                  have c6 := HRC.out.1.fld 10 rfl
                  have cn := HRC.out.1.now i (by simpa [SS.modT] using hi)
                  have fn := HRC.out.1.N.frozen i
                  go_upto_region 25 with (fail)
                  obtain ⟨w4, hw4⟩ : ∃ w4, w4 = w3.setCell ⟨L.bn, i, none⟩ (.int .i64 (-1)) := ⟨_, rfl⟩
                  have HRD4 := HRC
                  rw [← hw4] at HRD4 ⊢
                  have HM4 := Aside0.mk (show Mut own W w4 by rw [hw4]; exact HM3.out.setCell (.inl HR.out.ob.2.2.2.2.1) _)
                  clear hw4 c6 cn fn HRC
                  have HCALL := Aside0.mk (rcredit_none HRD4.out.2 (HW.out.modT i hi backF (TQ.back HW.out hi HC0.out)) (HRD.out.mut HM4.out (fun ad e => HNO.out ad e)) i (by simpa [SS.modT] using hi) (by rw [modT_trn _ hi, if_pos rfl]; rfl))
                  go_wp2_with (first | (go_at_call 57; refine HCALL.out.mono ?_; rintro e w5 ⟨rfl, hp⟩; have HP := Aside0.mk hp; clear hp) | fail)
                  go_ret
                  have HE := Aside0.mk (show byCreditF s i rb = creditF2 (s.modT i backF) i rb (someF (s.modT i backF) i rb) by unfold byCreditF; rw [if_pos HC0.out, if_neg (by rw [HOFF.out]; decide), some_back HW.out hi HC0.out])
                  exact ⟨by rw [HE.out]; rfl, by rw [HE.out]; exact RPost.next HM4.out (fun k hk => .inl hk) (fun k hk => hk.imp id (fun h => HBA.out k h)) HP.out⟩
        · have e1 : decide (us < s.S) = false := decide_eq_false hu
          have HOFF := Aside0.mk (show goesOn s i rb = false by rw [HGO.out]; simp [*])
          clear HGO
          go_wp2_with (fail)
          go_quiet ((go_at_call 56; exact Calls.quiet_of_same (same_of (rcan_is (HRr.out.drewN _) (HRDr.out.drewN _) _ ⟨by omega, by omega⟩ HBV.out))))
          obtain ⟨wq, hwq⟩ : ∃ wq, wq = wr.drewN nq := ⟨_, rfl⟩
          have HBq := Aside0.mk (show Below W.heap.size W wq by rw [hwq]; exact pw_below_drewN HB.out nq)
          rw [← hwq]
          clear hwq HB HRr HRDr c1 c5 c6 c7 cn cu fn fu y7 HF1 HF2
          go_wp2
          go_loopw [12, 13] (fun v12 v13 w' => ∃ k : Nat, v13 = .int .i64 (k : Int) ∧ k ≤ l.length ∧ Aside0 (Kd.R (Kd.int .i64) 3 w' W.heap.size (fun _ => True) v12 ((l.take k).filter fun x => x != (m : Int))) ∧ Aside0 (Below W.heap.size W w')) (fun _ v13 _ => l.length - (intOf v13).toNat)
          case atStart => exact ⟨0, rfl, by omega, ⟨Kd.R_nil _ _ _ _ _⟩, HBq⟩
          case round =>
            clear HBq
            obtain ⟨k, rfl, hk, HO, HB⟩ := hrel
            by_cases hlt : k < l.length
            · obtain ⟨ad, e, hx⟩ := Kd.at_int (Kd.C_below HC.out HB.out) (k : Int) (by omega) (by omega)
              subst e
              rw [Int.toNat_natCast] at hx
              have HT := Aside0.mk (take_filter l k (m : Int) hlt)
              have HL := Aside0.mk (show ((l.take k).filter fun x => x != (m : Int)).length ≤ 64 by have := List.length_filter_le (fun x => x != (m : Int)) (l.take k); simp at this ⊢; omega)
              by_cases hq : rd l k = (m : Int)
              · have HPP := Aside0.mk (show (l.take (k + 1)).filter (fun x => x != (m : Int)) = (l.take k).filter (fun x => x != (m : Int)) by rw [HT.out, if_neg (by simp [hq]), List.append_nil])
                have b1 : (rd l k != (m : Int)) = false := by simp [hq]
                have b2 : (rd l k == (m : Int)) = true := by simp [hq]
                clear HT
                go_wp2
                go_roundw
                case rel => exact ⟨k + 1, by go_num, by omega, ⟨by rw [HPP.out]; exact HO.out⟩, HB⟩
                case measure => (simp [intOf] <;> omega)
              · have HPP := Aside0.mk (show (l.take (k + 1)).filter (fun x => x != (m : Int)) = (l.take k).filter (fun x => x != (m : Int)) ++ [rd l k] by rw [HT.out, if_pos (by simpa using hq)])
                have b1 : (rd l k != (m : Int)) = true := by simp [hq]
                have b2 : (rd l k == (m : Int)) = false := by simp [hq]
                clear HT
                go_wp2_with (first | ((with_reducible refine gate_builtin (b := .append) (xs := #[.tmp 115, .tmp 120]) rfl ?_); go_loud (at_builtin; refine Kd.R_append (Kd.int .i64) (w0 := W) W.heap.size rfl (.tmp 115) (.tmp 120) 22 3 (.int .i64 0) 8 rfl Try.underlying22 info3 rfl (by decide) (by omega) u12 ((l.take k).filter fun x => x != (m : Int)) (rd l k) [.int .i64 (rd l k)] (fun _ => True) (fun _ => False) rfl rfl ?aP (fun _ hk => hk.elim) ?aF ?aO ?aB ?aS ?aL ?_; (case aP => exact rfl); (case aF => exact (fun _ _ => trivial)); (case aO => exact HO.out); (case aB => exact HB.out); (case aS => exact (HB.out).size); (case aL => have := HL.out; simp; omega); intro v1 w1 ho hbb hg hat; have HO2 := Aside0.mk ho; have HB2 := Aside0.mk hbb; clear ho hbb hg hat)) | fail)
                go_roundw
                case rel => exact ⟨k + 1, by go_num, by omega, ⟨by rw [HPP.out]; exact HO2.out⟩, HB2⟩
                case measure => (simp [intOf] <;> omega)
            · obtain rfl : k = l.length := by omega
              rw [List.take_length] at HO
              have HSH := Aside0.mk (back_shorter (HSN.out HC0.out))
              rw [HM.out] at HSH
              obtain ⟨xs, hxs⟩ : ∃ xs, xs = l.filter fun x => x != (m : Int) := ⟨_, rfl⟩
              rw [← hxs] at HO HSH
              have HXS := Aside0.mk hxs
              clear hxs
              have hsh := HSH.out
              obtain ⟨A1, q1, e1, hq1, hC1⟩ := Kd.R_reads HO.out
              subst e1
              clear hC1
              go_upto_region 23 with (first | ((with_reducible refine gate_builtin (b := .append) (xs := #[.tmp 127, .tmp 129]) rfl ?_); go_loud (at_builtin; refine Kd.R_append (Kd.int .i64) (w0 := W) W.heap.size rfl (.tmp 127) (.tmp 129) 22 3 (.int .i64 0) 8 rfl Try.underlying22 info3 rfl (by decide) (by omega) (.slice A1 xs.length q1) (xs) ((m : Int)) [.int .i64 ((m : Int))] (fun _ => True) (fun _ => False) rfl rfl ?aP (fun _ hk => hk.elim) ?aF ?aO ?aB ?aS ?aL ?_; (case aP => exact rfl); (case aF => exact (fun _ _ => trivial)); (case aO => exact HO.out); (case aB => exact HB.out); (case aS => exact (HB.out).size); (case aL => have := HSH.out; simp; omega); intro v1 w1 ho hbb hg hat; have HO2 := Aside0.mk ho; have HB2 := Aside0.mk hbb; clear ho hbb hg hat)) | fail)
              obtain ⟨A2, q2, e2⟩ := Kd.R_slice HO2.out
              rw [show (xs ++ [(m : Int)]).length = xs.length + 1 by simp] at e2
              subst e2
              have HRw := Aside0.mk (HR.out.below HB2.out)
              have c6 := HRw.out.fld 10 rfl
              have c5 := HRw.out.fld 9 rfl
              obtain ⟨A9, c9, cq9, _⟩ := HRw.out.que i hi
              have fq := HRw.out.Qb.frozen i
              have HBK := Aside0.mk (show (backF (s.trn i)).q = xs ++ [(m : Int)] by unfold backF; rw [HM.out, HXS.out, HL.out])
              have HRB := Aside0.mk (HR.out.back i hi HB2.out (by rw [HBK.out]; exact HO2.out))
              go_upto_region 24 with (fail)
              obtain ⟨w3, hw3⟩ : ∃ w3, w3 = w1.setCell ⟨L.bq, i, none⟩ (.slice A2 (xs.length + 1) q2) := ⟨_, rfl⟩
              have HRC := HRB
              rw [← hw3] at HRC ⊢
              have HM3 := Aside0.mk (show Mut own W w3 by rw [hw3]; exact (Mut.of_below HB2.out own).setCell (.inl HR.out.ob.2.2.2.1) _)
              have HBA := Aside0.mk (show ∀ k, (Value.slice A2 (xs.length + 1) q2).ownBlock = some k → W.heap.size ≤ k from fun k hk => Kd.R_base HO2.out k hk)
              clear hw3 c5 c6 cq9 fq HRB HRw
              have c6 := HRC.out.1.fld 10 rfl
              have cn := HRC.out.1.now i (by simpa [SS.modT] using hi)
              have fn := HRC.out.1.N.frozen i
              go_upto_region 25 with (fail)
              obtain ⟨w4, hw4⟩ : ∃ w4, w4 = w3.setCell ⟨L.bn, i, none⟩ (.int .i64 (-1)) := ⟨_, rfl⟩
              have HRD4 := HRC
              rw [← hw4] at HRD4 ⊢
              have HM4 := Aside0.mk (show Mut own W w4 by rw [hw4]; exact HM3.out.setCell (.inl HR.out.ob.2.2.2.2.1) _)
              clear hw4 c6 cn fn HRC
              have HCALL := Aside0.mk (rcredit_none HRD4.out.2 (HW.out.modT i hi backF (TQ.back HW.out hi HC0.out)) (HRD.out.mut HM4.out (fun ad e => HNO.out ad e)) i (by simpa [SS.modT] using hi) (by rw [modT_trn _ hi, if_pos rfl]; rfl))
              go_wp2_with (first | (go_at_call 57; refine HCALL.out.mono ?_; rintro e w5 ⟨rfl, hp⟩; have HP := Aside0.mk hp; clear hp) | fail)
              go_ret
              have HE := Aside0.mk (show byCreditF s i rb = creditF2 (s.modT i backF) i rb (someF (s.modT i backF) i rb) by unfold byCreditF; rw [if_pos HC0.out, if_neg (by rw [HOFF.out]; decide), some_back HW.out hi HC0.out])
              exact ⟨by rw [HE.out]; rfl, by rw [HE.out]; exact RPost.next HM4.out (fun k hk => .inl hk) (fun k hk => hk.imp id (fun h => HBA.out k h)) HP.out⟩
theorem rcredit_calls {W : World} {own : Nat → Prop} {L : RLy} {s : SS} {rb : List Bool} {A : Option Addr} {c : Nat} (h : RS W own L s) (hw : Wf s) (hr : RD W rb A c) (hno : ∀ ad, A = some ad → ¬ own ad.block) (i : Nat) (hi : i < s.ts.length) :
    Calls Try.prog 57 #[.pointer (some ⟨L.b, 0, none⟩), .int .i64 (i : Int), .slice A rb.length c] W fun x w' => x = .returned (.int .i64 (byCreditF s i rb).1) ∧ RPost W own L (byCreditF s i rb).2 w' := by
  by_cases hcu : 0 ≤ (s.trn i).cu
  · exact rcredit_some h hw hr hno i hi hcu
  · have e : byCreditF s i rb = creditF2 s i rb (someF s i rb) := by unfold byCreditF; rw [if_neg hcu]
    rw [e]
    exact rcredit_none h hw hr i hi (by have := (hw.tq i hi).2.2.2.1; omega)
end Go.Proofs.Ytdaadmjppikebaa.SC

/- SchedPlays: the document's pick. -/
namespace Go.Proofs.Ytdaadmjppikebaa.SC
open Go.RowKit Go.Proofs.YtdaadmjppikebaaW.PrintWords Go.Proofs.YtdaadmjppikebaaW.PrintLast
open Go.Proofs.Ytdaadmjppikebaa.PV (S94 k94 S29 k29 rd_T94 rd_T29)
set_option linter.unusedVariables false
set_option linter.unusedSimpArgs false

theorem gangGo_g : ∀ (l : List SG) (i : Nat) (a : Int), 0 ≤ gangGo l i a → i ≤ (gangGo l i a).toNat ∧ (gangGo l i a).toNat < i + l.length ∧ (l.getD ((gangGo l i a).toNat - i) g0).g = true
  | [], i, a, h => by simp [gangGo] at h
  | x :: r, i, a, h => by
    unfold gangGo at h ⊢
    by_cases hx : x.g = true
    · rw [if_pos hx] at h ⊢
      by_cases hw : a < x.w
      · rw [if_pos hw] at h ⊢
        rw [Int.toNat_natCast, Nat.sub_self]
        exact ⟨Nat.le_refl _, by simp, hx⟩
      · rw [if_neg hw] at h ⊢
        obtain ⟨h1, h2, h3⟩ := gangGo_g r (i + 1) (a - x.w) h
        refine ⟨by omega, by simp; omega, ?_⟩
        rw [show (gangGo r (i + 1) (a - x.w)).toNat - i = (gangGo r (i + 1) (a - x.w)).toNat - (i + 1) + 1 by omega, List.getD_cons_succ]
        exact h3
    · rw [if_neg hx] at h ⊢
      obtain ⟨h1, h2, h3⟩ := gangGo_g r (i + 1) a h
      refine ⟨by omega, by simp; omega, ?_⟩
      rw [show (gangGo r (i + 1) a).toNat - i = (gangGo r (i + 1) a).toNat - (i + 1) + 1 by omega, List.getD_cons_succ]
      exact h3
theorem gangF_g {s : SS} (h : 0 ≤ gangF s) : (gangF s).toNat < s.gs.length ∧ (s.gst (gangF s).toNat).g = true := by
  obtain ⟨_, h2, h3⟩ := gangGo_g s.gs 0 (s.now % s.P) h
  rw [Nat.zero_add] at h2
  rw [Nat.sub_zero] at h3
  exact ⟨h2, h3⟩
theorem RPost.before {W w1 w' : World} {own : Nat → Prop} {L : RLy} {s' : SS} (hb : Below W.heap.size W w1) (h : RPost w1 own L s' w') : RPost W own L s' w' :=
  RPost.next (qs1 := L.qs) (Mut.of_below hb own) (fun _ hk => hk) (fun _ hk => .inl hk) h
set_option maxRecDepth 100000 in
set_option maxHeartbeats 3200000 in
theorem rpick_gang {W : World} {own : Nat → Prop} {L : RLy} {s : SS} {rb : List Bool} {A : Option Addr} {c : Nat} (h : RS W own L s) (hw : Wf s) (hr : RD W rb A c) (hno : ∀ ad, A = some ad → ¬ own ad.block) (hart : Int) (h0 : ¬ hart < 0) (h1 : ¬ s.H ≤ hart) (hg0 : 0 ≤ gangF s) :
    Calls Try.prog 34 #[.pointer (some ⟨L.b, 0, none⟩), .int .i64 hart, .slice A rb.length c] W fun x w' => x = .returned (.int .i64 (pickF s hart rb).1) ∧ RPost W own L (pickF s hart rb).2 w' := by
  have HR := Aside0.mk h
  have HW := Aside0.mk hw
  have HD := Aside0.mk hr
  have HNO := Aside0.mk hno
  have HG0 := Aside0.mk (rgang_calls h hw)
  have c0 := h.fld 0 rfl
  have hH := hw.H8
  have hH1 := hw.H1
  have htn := hw.tn
  have hem := hw.em
  have hcap := h.cap
  clear h hw hr hno
  have HE := Aside0.mk (show pickF s hart rb = if 0 ≤ gangF s then (ofGangF s (gangF s) hart rb, s) else if s.cr = true then byCreditF s hart.toNat rb else (byTurnF s hart rb, s) by unfold pickF; rw [if_neg (by omega)])
  have d1 : decide (hart < 0) = false := decide_eq_false h0
  have d2 : decide (s.H ≤ hart) = false := decide_eq_false h1
  have hgr := gangF_range s
  have HGG := Aside0.mk (fun h => (gangF_g (s := s) h).2)
  obtain ⟨g, hg⟩ : ∃ g, g = gangF s := ⟨_, rfl⟩
  rw [← hg] at HG0 HE hgr HGG hg0
  clear hg
  have hgm := HW.out.gm
  rw [if_pos hg0] at HE
  have HHM := Aside0.mk (show ∀ k, (s.ent k).gu = g → homeOf s k = (s.ent k).ix from fun k hk => by
    unfold homeOf SS.gng
    rw [hk, if_pos (HGG.out hg0)])
  go_enter Try.func34, Try.ntmps34
  go_wp2_with (go_at_call 53; refine HG0.out.mono ?_; rintro e w1 ⟨rfl, hb⟩; have HB := Aside0.mk hb; have c3 := (HR.out.below hb).fld 3 rfl; clear hb)
  clear c0 c3
  go_loopw [8] (fun v8 w' => ∃ (k : Nat), v8 = .int .i64 (k : Int) ∧ k ≤ s.es.length ∧ Aside0 (firstGo (ofGangP s g hart rb) (s.es.length - k) k = ofGangF s g hart rb) ∧ Aside0 (Below W.heap.size W w')) (fun v8 _ => s.es.length - (intOf v8).toNat)
  case atStart => exact ⟨0, rfl, by omega, ⟨rfl⟩, HB⟩
  case round =>
    clear HB
    obtain ⟨k, rfl, hk, HT, HB⟩ := hrel
    have HRr := Aside0.mk (HR.out.below HB.out)
    have HDr := Aside0.mk (HD.out.below HB.out)
    have c5 := HRr.out.fld 5 rfl
    by_cases hlt : k < s.es.length
    · have HS := Aside0.mk ((firstGo_step (ofGangP s g hart rb) hlt).symm.trans HT.out)
      clear HT
      have y0 : wr.cell? ⟨L.be, k * 9, none⟩ = some (.int .i64 (s.ent k).gu) := HRr.out.ent k 0 hlt (by decide) rfl
      have y2 := HRr.out.ent k 2 hlt (by decide) rfl
      by_cases c1 : (s.ent k).gu = g
      · have b1 : ((s.ent k).gu == g) = true := by simpa using c1
        rw [HHM.out k c1] at y2
        by_cases c2 : (s.ent k).ix = hart
        · have b2 : ((s.ent k).ix == hart) = true := by simpa using c2
          cases c3 : readyF s rb (k : Int) with
          | true =>
            have HQ := Aside0.mk (show (k : Int) = ofGangF s g hart rb by have := HS.out; rw [if_pos (by unfold ofGangP; rw [b1, b2, c3]; rfl)] at this; exact this)
            have HCN := Aside0.mk (rcan_is HRr.out HDr.out (k : Int) (by omega) c3)
            clear c1 c2 c3 HS
            go_wp2_with (go_at_call 56; refine HCN.out.mono ?_; rintro e w9 ⟨rfl, rfl⟩)
            go_ret
            exact ⟨by rw [HE.out]; exact ret_int HQ.out, by rw [HE.out]; exact RPost.same HR.out HB.out⟩
          | false =>
            have HQ := Aside0.mk (show firstGo (ofGangP s g hart rb) (s.es.length - (k + 1)) (k + 1) = ofGangF s g hart rb by have := HS.out; rw [if_neg (by unfold ofGangP; rw [b1, b2, c3]; decide)] at this; exact this)
            have HCN := Aside0.mk (rcan_is HRr.out HDr.out (k : Int) (by omega) c3)
            clear c1 c2 c3 HS
            go_wp2_with (go_at_call 56; refine HCN.out.mono ?_; rintro e w9 ⟨rfl, rfl⟩)
            go_roundw
            case rel => exact ⟨k + 1, by go_num, by omega, HQ, HB⟩
            case measure => (simp [intOf] <;> omega)
        · have b2 : ((s.ent k).ix == hart) = false := by simpa using c2
          have HQ := Aside0.mk (show firstGo (ofGangP s g hart rb) (s.es.length - (k + 1)) (k + 1) = ofGangF s g hart rb by have := HS.out; rw [if_neg (by unfold ofGangP; rw [b1, b2]; simp)] at this; exact this)
          clear c1 c2 HS
          go_wp2_with (fail)
          go_roundw
          case rel => exact ⟨k + 1, by go_num, by omega, HQ, HB⟩
          case measure => (simp [intOf] <;> omega)
      · have b1 : ((s.ent k).gu == g) = false := by simpa using c1
        have HQ := Aside0.mk (show firstGo (ofGangP s g hart rb) (s.es.length - (k + 1)) (k + 1) = ofGangF s g hart rb by have := HS.out; rw [if_neg (by unfold ofGangP; rw [b1]; simp)] at this; exact this)
        clear c1 HS
        go_wp2_with (fail)
        go_roundw
        case rel => exact ⟨k + 1, by go_num, by omega, HQ, HB⟩
        case measure => (simp [intOf] <;> omega)
    · have HE2 := Aside0.mk (show -1 = ofGangF s g hart rb by have := HT.out; rw [show s.es.length - k = 0 by omega] at this; exact this)
      clear HT
      go_wp2
      go_ret
      exact ⟨by rw [HE.out]; exact ret_int HE2.out, by rw [HE.out]; exact RPost.same HR.out HB.out⟩
set_option maxRecDepth 100000 in
set_option maxHeartbeats 3200000 in
theorem rpick_credit {W : World} {own : Nat → Prop} {L : RLy} {s : SS} {rb : List Bool} {A : Option Addr} {c : Nat} (h : RS W own L s) (hw : Wf s) (hr : RD W rb A c) (hno : ∀ ad, A = some ad → ¬ own ad.block) (hart : Int) (h0 : ¬ hart < 0) (h1 : ¬ s.H ≤ hart) (hg0 : ¬ 0 ≤ gangF s) (hcr : s.cr = true) :
    Calls Try.prog 34 #[.pointer (some ⟨L.b, 0, none⟩), .int .i64 hart, .slice A rb.length c] W fun x w' => x = .returned (.int .i64 (pickF s hart rb).1) ∧ RPost W own L (pickF s hart rb).2 w' := by
  have HR := Aside0.mk h
  have HW := Aside0.mk hw
  have HD := Aside0.mk hr
  have HNO := Aside0.mk hno
  have HG0 := Aside0.mk (rgang_calls h hw)
  have c0 := h.fld 0 rfl
  have hH := hw.H8
  have hH1 := hw.H1
  have htn := hw.tn
  have hem := hw.em
  have hcap := h.cap
  clear h hw hr hno
  have HE := Aside0.mk (show pickF s hart rb = if 0 ≤ gangF s then (ofGangF s (gangF s) hart rb, s) else if s.cr = true then byCreditF s hart.toNat rb else (byTurnF s hart rb, s) by unfold pickF; rw [if_neg (by omega)])
  have d1 : decide (hart < 0) = false := decide_eq_false h0
  have d2 : decide (s.H ≤ hart) = false := decide_eq_false h1
  have hgr := gangF_range s
  have HGG := Aside0.mk (fun h => (gangF_g (s := s) h).2)
  obtain ⟨g, hg⟩ : ∃ g, g = gangF s := ⟨_, rfl⟩
  rw [← hg] at HG0 HE hgr HGG hg0
  clear hg
  have hgm := HW.out.gm
  rw [if_neg hg0, hcr, if_pos rfl] at HE
  obtain ⟨t, ht⟩ := Int.eq_ofNat_of_zero_le (show 0 ≤ hart by omega)
  have htl : t < s.ts.length := by omega
  rw [ht, Int.toNat_natCast] at HE
  subst ht
  go_enter Try.func34, Try.ntmps34
  go_upto_region 4 with (go_at_call 53; refine HG0.out.mono ?_; rintro e w1 ⟨rfl, hb⟩; have HB := Aside0.mk hb; have c3 := (HR.out.below hb).fld 3 rfl; clear hb)
  rw [hcr] at c3
  clear c0
  have HCC := Aside0.mk (rcredit_calls (HR.out.below HB.out) HW.out (HD.out.below HB.out) HNO.out t htl)
  go_wp2_with (go_at_call 57; refine HCC.out.mono ?_; rintro e w2 ⟨rfl, hp⟩; have HP := Aside0.mk hp; clear hp)
  go_ret
  exact ⟨by rw [HE.out]; rfl, by rw [HE.out]; exact RPost.before HB.out HP.out⟩
set_option maxRecDepth 100000 in
set_option maxHeartbeats 3200000 in
theorem rpick_turn {W : World} {own : Nat → Prop} {L : RLy} {s : SS} {rb : List Bool} {A : Option Addr} {c : Nat} (h : RS W own L s) (hw : Wf s) (hr : RD W rb A c) (hno : ∀ ad, A = some ad → ¬ own ad.block) (hart : Int) (h0 : ¬ hart < 0) (h1 : ¬ s.H ≤ hart) (hg0 : ¬ 0 ≤ gangF s) (hcr : s.cr = false) :
    Calls Try.prog 34 #[.pointer (some ⟨L.b, 0, none⟩), .int .i64 hart, .slice A rb.length c] W fun x w' => x = .returned (.int .i64 (pickF s hart rb).1) ∧ RPost W own L (pickF s hart rb).2 w' := by
  have HR := Aside0.mk h
  have HW := Aside0.mk hw
  have HD := Aside0.mk hr
  have HNO := Aside0.mk hno
  have HG0 := Aside0.mk (rgang_calls h hw)
  have c0 := h.fld 0 rfl
  have hH := hw.H8
  have hH1 := hw.H1
  have htn := hw.tn
  have hem := hw.em
  have hcap := h.cap
  clear h hw hr hno
  have HE := Aside0.mk (show pickF s hart rb = if 0 ≤ gangF s then (ofGangF s (gangF s) hart rb, s) else if s.cr = true then byCreditF s hart.toNat rb else (byTurnF s hart rb, s) by unfold pickF; rw [if_neg (by omega)])
  have d1 : decide (hart < 0) = false := decide_eq_false h0
  have d2 : decide (s.H ≤ hart) = false := decide_eq_false h1
  have hgr := gangF_range s
  have HGG := Aside0.mk (fun h => (gangF_g (s := s) h).2)
  obtain ⟨g, hg⟩ : ∃ g, g = gangF s := ⟨_, rfl⟩
  rw [← hg] at HG0 HE hgr HGG hg0
  clear hg
  have hgm := HW.out.gm
  rw [if_neg hg0, hcr, if_neg (by decide)] at HE
  have hwr := whoseF_range s hart
  have HBT := Aside0.mk (show byTurnF s hart rb = if 0 ≤ whoseF s hart ∧ readyF s rb (whoseF s hart) = true then whoseF s hart else -1 from rfl)
  have HTC := Aside0.mk (fun (w : World) (hb : Below W.heap.size W w) => rturn_calls (HR.out.below hb) HW.out hart)
  obtain ⟨x, hx⟩ : ∃ x, x = whoseF s hart := ⟨_, rfl⟩
  rw [← hx] at HBT hwr HTC
  clear hx
  go_enter Try.func34, Try.ntmps34
  go_upto_region 4 with (go_at_call 53; refine HG0.out.mono ?_; rintro e w1 ⟨rfl, hb⟩; have HB := Aside0.mk hb; have c3 := (HR.out.below hb).fld 3 rfl; clear hb)
  rw [hcr] at c3
  clear c0
  have HTT := Aside0.mk (HTC.out w1 HB.out)
  go_upto_region 13 with (go_at_call 54; refine HTT.out.mono ?_; rintro e w2 ⟨rfl, hb2⟩; have HB2 := Aside0.mk (below_step HB.out hb2); clear hb2)
  clear c3 HTT HTC
  rcases hwr with hx0 | ⟨m, hm, hm2, _, _⟩
  · subst hx0
    have HR1 := Aside0.mk (show byTurnF s hart rb = -1 by rw [HBT.out, if_neg (by omega)])
    go_wp2
    go_ret
    exact ⟨by rw [HE.out, HR1.out]; rfl, by rw [HE.out]; exact RPost.same HR.out HB2.out⟩
  · subst hm
    have dm : decide ((m : Int) < 0) = false := decide_eq_false (by omega)
    cases hb : readyF s rb (m : Int) with
    | true =>
      have HR1 := Aside0.mk (show byTurnF s hart rb = (m : Int) by rw [HBT.out, if_pos ⟨by omega, hb⟩])
      have HCN := Aside0.mk (rcan_is (HR.out.below HB2.out) (HD.out.below HB2.out) (m : Int) (by omega) hb)
      clear hb
      go_wp2_with (go_at_call 56; refine HCN.out.mono ?_; rintro e w9 ⟨rfl, rfl⟩)
      go_ret
      exact ⟨by rw [HE.out, HR1.out]; rfl, by rw [HE.out]; exact RPost.same HR.out HB2.out⟩
    | false =>
      have HR1 := Aside0.mk (show byTurnF s hart rb = -1 by rw [HBT.out, if_neg (by rw [hb]; simp)])
      have HCN := Aside0.mk (rcan_is (HR.out.below HB2.out) (HD.out.below HB2.out) (m : Int) (by omega) hb)
      clear hb
      go_wp2_with (go_at_call 56; refine HCN.out.mono ?_; rintro e w9 ⟨rfl, rfl⟩)
      go_ret
      exact ⟨by rw [HE.out, HR1.out]; rfl, by rw [HE.out]; exact RPost.same HR.out HB2.out⟩
set_option maxRecDepth 100000 in
set_option maxHeartbeats 3200000 in
theorem rpick_calls {W : World} {own : Nat → Prop} {L : RLy} {s : SS} {rb : List Bool} {A : Option Addr} {c : Nat} (h : RS W own L s) (hw : Wf s) (hr : RD W rb A c) (hno : ∀ ad, A = some ad → ¬ own ad.block) (hart : Int) :
    Calls Try.prog 34 #[.pointer (some ⟨L.b, 0, none⟩), .int .i64 hart, .slice A rb.length c] W fun x w' => x = .returned (.int .i64 (pickF s hart rb).1) ∧ RPost W own L (pickF s hart rb).2 w' := by
  by_cases h0 : hart < 0
  · have HE := Aside0.mk (show pickF s hart rb = (-1, s) by unfold pickF; rw [if_pos (.inl h0)])
    have HR := Aside0.mk h
    clear hw hr hno h
    go_enter Try.func34, Try.ntmps34
    go_wp2
    go_ret
    exact ⟨by rw [HE.out]; rfl, by rw [HE.out]; exact RPost.same HR.out (Below.refl _ _)⟩
  · by_cases h1 : s.H ≤ hart
    · have HE := Aside0.mk (show pickF s hart rb = (-1, s) by unfold pickF; rw [if_pos (.inr h1)])
      have d1 : decide (hart < 0) = false := decide_eq_false h0
      have c0 := h.fld 0 rfl
      have HR := Aside0.mk h
      clear hw hr hno h
      go_enter Try.func34, Try.ntmps34
      go_wp2
      go_ret
      exact ⟨by rw [HE.out]; rfl, by rw [HE.out]; exact RPost.same HR.out (Below.refl _ _)⟩
    · by_cases hg0 : 0 ≤ gangF s
      · exact rpick_gang h hw hr hno hart h0 h1 hg0
      · cases hcr : s.cr with
        | true => exact rpick_credit h hw hr hno hart h0 h1 hg0 hcr
        | false => exact rpick_turn h hw hr hno hart h0 h1 hg0 hcr
end Go.Proofs.Ytdaadmjppikebaa.SC
